/- What the functions of this seat compute, found by walking their code symbolically: each F is what the walk finds, each ok says that the Go function keeps it as a contract. Printed by a program of this repo's. -/
import Derived.Test.YtehelahnlnfofaaProg
import Derived.KernelRfl
import Derived.Test.YtehelahnlnfofaaSxFun
open Go Go.Sx
namespace Go.Proofs.Ytehelahnlnfofaa
set_option maxRecDepth 100000
set_option linter.unusedVariables false
def tt : TT := [(2, ⟨.int .i64, 1, 8, some (.int .i64 0), false⟩), (3, ⟨.int .i64, 1, 8, some (.int .i64 0), false⟩), (4, ⟨.bool, 1, 1, some (.bool false), false⟩), (5, ⟨.int .u8, 1, 1, some (.int .u8 0), false⟩), (9, ⟨.str, 1, 16, some (.string ⟨#[]⟩), false⟩), (21, ⟨.int .i32, 1, 4, some (.int .i32 0), false⟩), (22, ⟨.int .u16, 1, 2, some (.int .u16 0), false⟩), (24, ⟨.struct [(0, 4, false), (1, 5, false), (2, 5, false), (3, 5, false), (4, 22, false), (5, 22, false), (6, 22, false), (7, 5, false), (8, 5, false), (9, 5, false), (10, 4, false)], 11, 14, some (.agg #[.bool false, .int .u8 0, .int .u8 0, .int .u8 0, .int .u16 0, .int .u16 0, .int .u16 0, .int .u8 0, .int .u8 0, .int .u8 0, .bool false]), false⟩), (26, ⟨.int .u64, 1, 8, some (.int .u64 0), false⟩), (27, ⟨.slice 39, 1, 24, some (.slice none 0 0), false⟩), (28, ⟨.int .u8, 1, 1, some (.int .u8 0), false⟩), (30, ⟨.struct [(0, 5, false), (1, 26, false), (2, 26, false), (3, 9, false), (4, 27, false), (5, 28, false), (6, 5, false), (7, 2, false), (8, 5, false)], 9, 88, some (.agg #[.int .u8 0, .int .u64 0, .int .u64 0, .string ⟨#[]⟩, .slice none 0 0, .int .u8 0, .int .u8 0, .int .i64 0, .int .u8 0]), false⟩), (32, ⟨.struct [(0, 5, false), (1, 26, false), (2, 26, false)], 3, 24, some (.agg #[.int .u8 0, .int .u64 0, .int .u64 0]), false⟩), (34, ⟨.struct [(0, 4, false), (1, 30, false), (10, 32, false)], 13, 120, some (.agg #[.bool false, .int .u8 0, .int .u64 0, .int .u64 0, .string ⟨#[]⟩, .slice none 0 0, .int .u8 0, .int .u8 0, .int .i64 0, .int .u8 0, .int .u8 0, .int .u64 0, .int .u64 0]), false⟩), (39, ⟨.struct [(0, 9, false), (1, 9, false)], 2, 32, some (.agg #[.string ⟨#[]⟩, .string ⟨#[]⟩]), false⟩), (41, ⟨.slice 5, 1, 24, some (.slice none 0 0), false⟩), (44, ⟨.arr 2 34, 26, 240, some (.agg #[.bool false, .int .u8 0, .int .u64 0, .int .u64 0, .string ⟨#[]⟩, .slice none 0 0, .int .u8 0, .int .u8 0, .int .i64 0, .int .u8 0, .int .u8 0, .int .u64 0, .int .u64 0, .bool false, .int .u8 0, .int .u64 0, .int .u64 0, .string ⟨#[]⟩, .slice none 0 0, .int .u8 0, .int .u8 0, .int .i64 0, .int .u8 0, .int .u8 0, .int .u64 0, .int .u64 0]), false⟩), (45, ⟨.slice 44, 1, 24, some (.slice none 0 0), false⟩), (46, ⟨.slice 26, 1, 24, some (.slice none 0 0), false⟩), (54, ⟨.int .i64, 1, 8, some (.int .i64 0), false⟩), (59, ⟨.slice 24, 1, 24, some (.slice none 0 0), false⟩), (61, ⟨.struct [(0, 41, false)], 1, 24, some (.agg #[.slice none 0 0]), false⟩), (63, ⟨.ptr 61, 1, 8, some (.pointer none), false⟩), (65, ⟨.ptr 89, 1, 8, some (.pointer none), false⟩), (72, ⟨.slice 34, 1, 24, some (.slice none 0 0), false⟩), (75, ⟨.slice 9, 1, 24, some (.slice none 0 0), false⟩), (89, ⟨.struct [(0, 41, false), (1, 54, false)], 2, 32, some (.agg #[.slice none 0 0, .int .i64 0]), false⟩)]
theorem tt_ok : TTOK Try.prog tt := TTOK.of_rows (by kernel_rfl)
theorem mix : Try.prog.follows .mixedOrders = true := by kernel_rfl
-- watchfire/item.Gap
def sig33 : Sig := ⟨(.cons (.one (.c (.int .u8))) (.cons (.one (.c (.int .u64))) (.cons (.one (.c (.int .u64))) .nil))), (.cons (.agg (.cons .bool (.cons (.int .u8) (.cons (.int .u64) (.cons (.int .u64) (.cons .str (.cons (.ro (.cons .str (.cons .str .nil))) (.cons (.int .u8) (.cons (.int .u8) (.cons (.int .i64) (.cons (.int .u8) (.cons (.int .u8) (.cons (.int .u64) (.cons (.int .u64) .nil)))))))))))))) .nil)⟩
def F33 : Nat →
  UInt8 × UInt64 × UInt64 →
    Option
      ((Bool ×
          UInt8 ×
            UInt64 ×
              UInt64 ×
                List UInt8 × List (List UInt8 × List UInt8) × UInt8 × UInt8 × Int64 × UInt8 × UInt8 × UInt64 × UInt64) ×
        Unit) := fun (n : Nat) (x : UInt8 × UInt64 × UInt64) =>
  some
    ((true, (0 : UInt8), (0 : UInt64), (0 : UInt64), [], [], (0 : UInt8), (0 : UInt8), (0 : Int64), (0 : UInt8),
        Prod.fst x, Prod.fst (Prod.snd x), Prod.snd (Prod.snd x)),
      ())
theorem ok33 (n : Nat) : FunOK Try.prog ⟨33, sig33, F33 n⟩ :=
  fun_ok (hints := ⟨[], []⟩) (fuel := n) (c := Try.f33.body.getD .skip) (rs := Try.f33.results.toList) tt_ok mix (FsOK.nil) Try.func33 (by kernel_rfl) (by kernel_rfl) rfl (by kernel_rfl) rfl rfl (by kernel_rfl)
-- (*watchfire/pack.Writer).Byte
def sig44 : Sig := ⟨(.cons (.one (.ptr (.cons (.row (.cons (.int .u8) .nil)) .nil))) (.cons (.one (.c (.int .u8))) .nil)), .nil⟩
def F44 : Nat → Option (List UInt8) × UInt8 → Option (Unit × Option (List UInt8)) := fun (n : Nat) (x : Option (List UInt8) × UInt8) =>
  oelim (Prod.fst x) (some ((), none)) fun (x_1 : List UInt8) =>
    oite (Nat.ble (List.length x_1 + List.length [Prod.snd x]) (4294967296 : Nat))
      (some ((), some (x_1 ++ [Prod.snd x]))) none
theorem ok44 (n : Nat) : FunOK Try.prog ⟨44, sig44, F44 n⟩ :=
  fun_ok (hints := ⟨[], []⟩) (fuel := n) (c := Try.f44.body.getD .skip) (rs := Try.f44.results.toList) tt_ok mix (FsOK.nil) Try.func44 (by kernel_rfl) (by kernel_rfl) rfl (by kernel_rfl) rfl rfl (by kernel_rfl)
-- (*watchfire/pack.Writer).Bool
def sig43 : Sig := ⟨(.cons (.one (.ptr (.cons (.row (.cons (.int .u8) .nil)) .nil))) (.cons (.one (.c .bool)) .nil)), .nil⟩
def F43 : Nat → Option (List UInt8) × Bool → Option (Unit × Option (List UInt8)) := fun (n : Nat) (x : Option (List UInt8) × Bool) =>
  oite (Prod.snd x)
    (obind (F44 n (Prod.fst x, (1 : UInt8))) fun (x_1 : Unit × Option (List UInt8)) => some ((), Prod.snd x_1))
    (obind (F44 n (Prod.fst x, (0 : UInt8))) fun (x_1 : Unit × Option (List UInt8)) => some ((), Prod.snd x_1))
theorem ok43 (n : Nat) : FunOK Try.prog ⟨43, sig43, F43 n⟩ :=
  fun_ok (hints := ⟨[], []⟩) (fuel := n) (c := Try.f43.body.getD .skip) (rs := Try.f43.results.toList) tt_ok mix (FsOK.cons (ok44 n) (FsOK.nil)) Try.func43 (by kernel_rfl) (by kernel_rfl) rfl (by kernel_rfl) rfl rfl (by kernel_rfl)
-- (*watchfire/pack.Writer).Uint
def sig45 : Sig := ⟨(.cons (.one (.ptr (.cons (.row (.cons (.int .u8) .nil)) .nil))) (.cons (.one (.c (.int .u64))) .nil)), .nil⟩
def F45_L6 : Arr [PT.int IntKind.u64, PT.list (CTs.cons (CT.int IntKind.u8) CTs.nil)] (Option (Unit × Option (List UInt8))) →
  UInt64 → List UInt8 → Option (Unit × Option (List UInt8)) := fun
    (rec :
      Arr [PT.int IntKind.u64, PT.list (CTs.cons (CT.int IntKind.u8) CTs.nil)] (Option (Unit × Option (List UInt8))))
    (n_ : UInt64) (wl : List UInt8) =>
  oite (decide ((128 : UInt64) ≤ n_))
    (oite (Nat.ble (List.length wl + List.length [UInt8.ofInt ↑(UInt64.toNat n_) ||| (128 : UInt8)]) (4294967296 : Nat))
      (rec (IK.shr IntKind.u64 n_ ↑(UInt64.toNat (7 : UInt64)))
        (wl ++ [UInt8.ofInt ↑(UInt64.toNat n_) ||| (128 : UInt8)]))
      none)
    (oite (Nat.ble (List.length wl + List.length [UInt8.ofInt ↑(UInt64.toNat n_)]) (4294967296 : Nat))
      (some ((), some (wl ++ [UInt8.ofInt ↑(UInt64.toNat n_)]))) none)
def F45_R6 : Nat → PT.T (PT.int IntKind.u64) → List UInt8 → Option (Unit × Option (List UInt8)) := ofixA (6 : Nat) [PT.int IntKind.u64, PT.list (CTs.cons (CT.int IntKind.u8) CTs.nil)] F45_L6
def F45 : Nat → Option (List UInt8) × UInt64 → Option (Unit × Option (List UInt8)) := fun (n : Nat) (x : Option (List UInt8) × UInt64) =>
  oelim (Prod.fst x) (some ((), none)) fun (x_1 : List UInt8) => F45_R6 n (Prod.snd x) x_1
theorem F45_R6_s  (m_ : Nat) : F45_R6  (m_ + 1) = F45_L6  (F45_R6  m_) := rfl
theorem ok45 (n : Nat) : FunOK Try.prog ⟨45, sig45, F45 n⟩ :=
  fun_ok (hints := ⟨[], [(6, ⟨[(0, .one (.own 0)), (1, .one (.int .u64))], [(0, .cells [.own 2]), (2, .row (.cons (.int .u8) .nil))], 3⟩)]⟩) (fuel := n) (c := Try.f45.body.getD .skip) (rs := Try.f45.results.toList) tt_ok mix (FsOK.nil) Try.func45 (by kernel_rfl) (by kernel_rfl) rfl (by kernel_rfl) rfl rfl (by kernel_rfl)
-- (*watchfire/pack.Writer).Text
def sig46 : Sig := ⟨(.cons (.one (.ptr (.cons (.row (.cons (.int .u8) .nil)) .nil))) (.cons (.one (.c .str)) .nil)), .nil⟩
def F46 : Nat → Option (List UInt8) × List UInt8 → Option (Unit × Option (List UInt8)) := fun (n : Nat) (x : Option (List UInt8) × List UInt8) =>
  oelim (Prod.fst x) (some ((), none)) fun (x_1 : List UInt8) =>
    obind (F45 n (some x_1, UInt64.ofInt (Int64.toInt (Int64.ofInt ↑(List.length (Prod.snd x))))))
      fun (x_2 : Unit × Option (List UInt8)) =>
      obind (Prod.snd x_2) fun (x_3 : List UInt8) =>
        oite (Nat.ble (List.length x_3 + List.length (Prod.snd x)) (4294967296 : Nat))
          (some ((), some (x_3 ++ Prod.snd x))) none
theorem ok46 (n : Nat) : FunOK Try.prog ⟨46, sig46, F46 n⟩ :=
  fun_ok (hints := ⟨[], []⟩) (fuel := n) (c := Try.f46.body.getD .skip) (rs := Try.f46.results.toList) tt_ok mix (FsOK.cons (ok45 n) (FsOK.nil)) Try.func46 (by kernel_rfl) (by kernel_rfl) rfl (by kernel_rfl) rfl rfl (by kernel_rfl)
-- (*watchfire/pack.Writer).Int
def sig47 : Sig := ⟨(.cons (.one (.ptr (.cons (.row (.cons (.int .u8) .nil)) .nil))) (.cons (.one (.c (.int .i64))) .nil)), .nil⟩
def F47 : Nat → Option (List UInt8) × Int64 → Option (Unit × Option (List UInt8)) := fun (n : Nat) (x : Option (List UInt8) × Int64) =>
  obind
    (F45 n
      (Prod.fst x,
        IK.shl IntKind.u64 (UInt64.ofInt (Int64.toInt (Prod.snd x))) ↑(UInt64.toNat (1 : UInt64)) ^^^
          UInt64.ofInt (Int64.toInt (IK.shr IntKind.i64 (Prod.snd x) ↑(UInt64.toNat (63 : UInt64))))))
    fun (x_1 : Unit × Option (List UInt8)) => some ((), Prod.snd x_1)
theorem ok47 (n : Nat) : FunOK Try.prog ⟨47, sig47, F47 n⟩ :=
  fun_ok (hints := ⟨[], []⟩) (fuel := n) (c := Try.f47.body.getD .skip) (rs := Try.f47.results.toList) tt_ok mix (FsOK.cons (ok45 n) (FsOK.nil)) Try.func47 (by kernel_rfl) (by kernel_rfl) rfl (by kernel_rfl) rfl rfl (by kernel_rfl)
-- watchfire/item.Put
def sig25 : Sig := ⟨(.cons (.one (.ptr (.cons (.row (.cons (.int .u8) .nil)) .nil))) (.cons (.agg (.cons .bool (.cons (.int .u8) (.cons (.int .u64) (.cons (.int .u64) (.cons .str (.cons (.ro (.cons .str (.cons .str .nil))) (.cons (.int .u8) (.cons (.int .u8) (.cons (.int .i64) (.cons (.int .u8) (.cons (.int .u8) (.cons (.int .u64) (.cons (.int .u64) .nil)))))))))))))) .nil)), .nil⟩
def F25_L4093 : Nat →
  Arr
      [PT.list (CTs.cons CT.str (CTs.cons CT.str CTs.nil)), PT.int IntKind.i64, PT.int IntKind.i64,
        PT.opt (OTs.cons (OT.row (CTs.cons (CT.int IntKind.u8) CTs.nil)) OTs.nil), PT.int IntKind.u8,
        PT.int IntKind.u64, PT.int IntKind.u64, PT.bytes, PT.list (CTs.cons CT.str (CTs.cons CT.str CTs.nil)),
        PT.int IntKind.u8, PT.int IntKind.u8, PT.int IntKind.i64, PT.int IntKind.u8]
      (Option (Unit × Option (List UInt8))) →
    List (List UInt8 × List UInt8) →
      Int64 →
        Int64 →
          Option (List UInt8) →
            UInt8 →
              UInt64 →
                UInt64 →
                  List UInt8 →
                    List (List UInt8 × List UInt8) →
                      UInt8 → UInt8 → Int64 → UInt8 → Option (Unit × Option (List UInt8)) := fun (n : Nat)
    (rec :
      Arr
        [PT.list (CTs.cons CT.str (CTs.cons CT.str CTs.nil)), PT.int IntKind.i64, PT.int IntKind.i64,
          PT.opt (OTs.cons (OT.row (CTs.cons (CT.int IntKind.u8) CTs.nil)) OTs.nil), PT.int IntKind.u8,
          PT.int IntKind.u64, PT.int IntKind.u64, PT.bytes, PT.list (CTs.cons CT.str (CTs.cons CT.str CTs.nil)),
          PT.int IntKind.u8, PT.int IntKind.u8, PT.int IntKind.i64, PT.int IntKind.u8]
        (Option (Unit × Option (List UInt8))))
    (t : List (List UInt8 × List UInt8)) (t_1 t_2 : Int64) (w : Option (List UInt8)) (v0 : UInt8) (v1 v2 : UInt64)
    (v3 : List UInt8) (v4 : List (List UInt8 × List UInt8)) (v5 v6 : UInt8) (v7 : Int64) (v8 : UInt8) =>
  oite (decide (t_2 < t_1))
    (obind (at? t (Int64.toInt t_2)) fun (x_7 : List UInt8 × List UInt8) =>
      obind (F46 n (w, Prod.fst x_7)) fun (x_8 : Unit × Option (List UInt8)) =>
        obind (F46 n (Prod.snd x_8, Prod.snd x_7)) fun (x_9 : Unit × Option (List UInt8)) =>
          rec t t_1 (t_2 + (1 : Int64)) (Prod.snd x_9) v0 v1 v2 v3 v4 v5 v6 v7 v8)
    (obind (F44 n (w, v5)) fun (x_7 : Unit × Option (List UInt8)) =>
      obind (F44 n (Prod.snd x_7, v6)) fun (x_8 : Unit × Option (List UInt8)) =>
        obind (F47 n (Prod.snd x_8, v7)) fun (x_9 : Unit × Option (List UInt8)) =>
          obind (F44 n (Prod.snd x_9, v8)) fun (x_10 : Unit × Option (List UInt8)) => some ((), Prod.snd x_10))
def F25_R4093 : Nat →
  Nat →
    PT.T (PT.list (CTs.cons CT.str (CTs.cons CT.str CTs.nil))) →
      Int64 →
        Int64 →
          Option (List UInt8) →
            UInt8 →
              UInt64 →
                UInt64 →
                  List UInt8 →
                    List (List UInt8 × List UInt8) →
                      UInt8 → UInt8 → Int64 → UInt8 → Option (Unit × Option (List UInt8)) := fun (n : Nat) =>
  ofixA (4093 : Nat)
    [PT.list (CTs.cons CT.str (CTs.cons CT.str CTs.nil)), PT.int IntKind.i64, PT.int IntKind.i64,
      PT.opt (OTs.cons (OT.row (CTs.cons (CT.int IntKind.u8) CTs.nil)) OTs.nil), PT.int IntKind.u8, PT.int IntKind.u64,
      PT.int IntKind.u64, PT.bytes, PT.list (CTs.cons CT.str (CTs.cons CT.str CTs.nil)), PT.int IntKind.u8,
      PT.int IntKind.u8, PT.int IntKind.i64, PT.int IntKind.u8]
    (F25_L4093 n)
def F25 : Nat →
  Option (List UInt8) ×
      Bool ×
        UInt8 ×
          UInt64 ×
            UInt64 ×
              List UInt8 × List (List UInt8 × List UInt8) × UInt8 × UInt8 × Int64 × UInt8 × UInt8 × UInt64 × UInt64 →
    Option (Unit × Option (List UInt8)) := fun (n : Nat)
    (x :
      Option (List UInt8) ×
        Bool ×
          UInt8 ×
            UInt64 ×
              UInt64 ×
                List UInt8 ×
                  List (List UInt8 × List UInt8) × UInt8 × UInt8 × Int64 × UInt8 × UInt8 × UInt64 × UInt64) =>
  obind (F43 n (Prod.fst x, Prod.fst (Prod.snd x))) fun (x_1 : Unit × Option (List UInt8)) =>
    oite (Prod.fst (Prod.snd x))
      (obind
        (F44 n
          (Prod.snd x_1,
            Prod.fst
              (Prod.snd
                (Prod.snd
                  (Prod.snd
                    (Prod.snd (Prod.snd (Prod.snd (Prod.snd (Prod.snd (Prod.snd (Prod.snd (Prod.snd x)))))))))))))
        fun (x_2 : Unit × Option (List UInt8)) =>
        obind
          (F45 n
            (Prod.snd x_2,
              Prod.fst
                (Prod.snd
                  (Prod.snd
                    (Prod.snd
                      (Prod.snd
                        (Prod.snd (Prod.snd (Prod.snd (Prod.snd (Prod.snd (Prod.snd (Prod.snd (Prod.snd x))))))))))))))
          fun (x_3 : Unit × Option (List UInt8)) =>
          obind
            (F45 n
              (Prod.snd x_3,
                Prod.snd
                  (Prod.snd
                    (Prod.snd
                      (Prod.snd
                        (Prod.snd
                          (Prod.snd
                            (Prod.snd (Prod.snd (Prod.snd (Prod.snd (Prod.snd (Prod.snd (Prod.snd x))))))))))))))
            fun (x_4 : Unit × Option (List UInt8)) => some ((), Prod.snd x_4))
      (obind (F44 n (Prod.snd x_1, Prod.fst (Prod.snd (Prod.snd x)))) fun (x_2 : Unit × Option (List UInt8)) =>
        obind (F45 n (Prod.snd x_2, Prod.fst (Prod.snd (Prod.snd (Prod.snd x)))))
          fun (x_3 : Unit × Option (List UInt8)) =>
          obind (F45 n (Prod.snd x_3, Prod.fst (Prod.snd (Prod.snd (Prod.snd (Prod.snd x))))))
            fun (x_4 : Unit × Option (List UInt8)) =>
            obind (F46 n (Prod.snd x_4, Prod.fst (Prod.snd (Prod.snd (Prod.snd (Prod.snd (Prod.snd x)))))))
              fun (x_5 : Unit × Option (List UInt8)) =>
              obind
                (F45 n
                  (Prod.snd x_5,
                    UInt64.ofInt
                      (Int64.toInt
                        (Int64.ofInt
                          ↑(List.length
                              (Prod.fst (Prod.snd (Prod.snd (Prod.snd (Prod.snd (Prod.snd (Prod.snd x))))))))))))
                fun (x_6 : Unit × Option (List UInt8)) =>
                F25_R4093 n n (Prod.fst (Prod.snd (Prod.snd (Prod.snd (Prod.snd (Prod.snd (Prod.snd x)))))))
                  (Int64.ofInt
                    ↑(List.length (Prod.fst (Prod.snd (Prod.snd (Prod.snd (Prod.snd (Prod.snd (Prod.snd x)))))))))
                  (0 : Int64) (Prod.snd x_6) (Prod.fst (Prod.snd (Prod.snd x)))
                  (Prod.fst (Prod.snd (Prod.snd (Prod.snd x)))) (Prod.fst (Prod.snd (Prod.snd (Prod.snd (Prod.snd x)))))
                  (Prod.fst (Prod.snd (Prod.snd (Prod.snd (Prod.snd (Prod.snd x))))))
                  (Prod.fst (Prod.snd (Prod.snd (Prod.snd (Prod.snd (Prod.snd (Prod.snd x)))))))
                  (Prod.fst (Prod.snd (Prod.snd (Prod.snd (Prod.snd (Prod.snd (Prod.snd (Prod.snd x))))))))
                  (Prod.fst (Prod.snd (Prod.snd (Prod.snd (Prod.snd (Prod.snd (Prod.snd (Prod.snd (Prod.snd x)))))))))
                  (Prod.fst
                    (Prod.snd
                      (Prod.snd (Prod.snd (Prod.snd (Prod.snd (Prod.snd (Prod.snd (Prod.snd (Prod.snd x))))))))))
                  (Prod.fst
                    (Prod.snd
                      (Prod.snd
                        (Prod.snd (Prod.snd (Prod.snd (Prod.snd (Prod.snd (Prod.snd (Prod.snd (Prod.snd x))))))))))))
theorem F25_R4093_s (n : Nat) (m_ : Nat) : F25_R4093 n (m_ + 1) = F25_L4093 n (F25_R4093 n m_) := rfl
theorem ok25 (n : Nat) : FunOK Try.prog ⟨25, sig25, F25 n⟩ :=
  fun_ok (hints := ⟨[], [(4093, ⟨[(0, .one (.own 0)), (4, .one (.own 2)), (53, .one (.ro (.cons .str (.cons .str .nil)))), (54, .one (.int .i64)), (55, .one (.int .i64))], [(0, .fold (.cons (.row (.cons (.int .u8) .nil)) .nil)), (2, .cells [.int .u8, .int .u64, .int .u64, .str, .ro (.cons .str (.cons .str .nil)), .int .u8, .int .u8, .int .i64, .int .u8])], 3⟩)]⟩) (fuel := n) (c := Try.f25.body.getD .skip) (rs := Try.f25.results.toList) tt_ok mix (FsOK.cons (ok43 n) (FsOK.cons (ok44 n) (FsOK.cons (ok45 n) (FsOK.cons (ok46 n) (FsOK.cons (ok47 n) (FsOK.nil)))))) Try.func25 (by kernel_rfl) (by kernel_rfl) rfl (by kernel_rfl) rfl rfl (by kernel_rfl)
-- (*watchfire/pack.Writer).Bytes
def sig26 : Sig := ⟨(.cons (.one (.ptr (.cons (.row (.cons (.int .u8) .nil)) .nil))) .nil), (.cons (.one (.c (.ro (.cons (.int .u8) .nil)))) .nil)⟩
def F26 : Nat → Option (List UInt8) → Option (List UInt8 × Option (List UInt8)) := fun (n : Nat) (x : Option (List UInt8)) =>
  oelim x (some ([], none)) fun (x_1 : List UInt8) =>
    oite (Nat.ble ((0 : Nat) + List.length x_1) (4294967296 : Nat)) (some ([] ++ x_1, some x_1)) none
theorem ok26 (n : Nat) : FunOK Try.prog ⟨26, sig26, F26 n⟩ :=
  fun_ok (hints := ⟨[], []⟩) (fuel := n) (c := Try.f26.body.getD .skip) (rs := Try.f26.results.toList) tt_ok mix (FsOK.nil) Try.func26 (by kernel_rfl) (by kernel_rfl) rfl (by kernel_rfl) rfl rfl (by kernel_rfl)
-- watchfire/item.Encode
def sig13 : Sig := ⟨(.cons (.agg (.cons .bool (.cons (.int .u8) (.cons (.int .u64) (.cons (.int .u64) (.cons .str (.cons (.ro (.cons .str (.cons .str .nil))) (.cons (.int .u8) (.cons (.int .u8) (.cons (.int .i64) (.cons (.int .u8) (.cons (.int .u8) (.cons (.int .u64) (.cons (.int .u64) .nil)))))))))))))) .nil), (.cons (.one (.c (.ro (.cons (.int .u8) .nil)))) .nil)⟩
def F13 : Nat →
  Bool ×
      UInt8 ×
        UInt64 ×
          UInt64 ×
            List UInt8 × List (List UInt8 × List UInt8) × UInt8 × UInt8 × Int64 × UInt8 × UInt8 × UInt64 × UInt64 →
    Option (List UInt8 × Unit) := fun (n : Nat)
    (x :
      Bool ×
        UInt8 ×
          UInt64 ×
            UInt64 ×
              List UInt8 × List (List UInt8 × List UInt8) × UInt8 × UInt8 × Int64 × UInt8 × UInt8 × UInt64 × UInt64) =>
  obind
    (F25 n
      (some [], Prod.fst x, Prod.fst (Prod.snd x), Prod.fst (Prod.snd (Prod.snd x)),
        Prod.fst (Prod.snd (Prod.snd (Prod.snd x))), Prod.fst (Prod.snd (Prod.snd (Prod.snd (Prod.snd x)))),
        Prod.fst (Prod.snd (Prod.snd (Prod.snd (Prod.snd (Prod.snd x))))),
        Prod.fst (Prod.snd (Prod.snd (Prod.snd (Prod.snd (Prod.snd (Prod.snd x)))))),
        Prod.fst (Prod.snd (Prod.snd (Prod.snd (Prod.snd (Prod.snd (Prod.snd (Prod.snd x))))))),
        Prod.fst (Prod.snd (Prod.snd (Prod.snd (Prod.snd (Prod.snd (Prod.snd (Prod.snd (Prod.snd x)))))))),
        Prod.fst (Prod.snd (Prod.snd (Prod.snd (Prod.snd (Prod.snd (Prod.snd (Prod.snd (Prod.snd (Prod.snd x))))))))),
        Prod.fst
          (Prod.snd
            (Prod.snd (Prod.snd (Prod.snd (Prod.snd (Prod.snd (Prod.snd (Prod.snd (Prod.snd (Prod.snd x)))))))))),
        Prod.fst
          (Prod.snd
            (Prod.snd
              (Prod.snd (Prod.snd (Prod.snd (Prod.snd (Prod.snd (Prod.snd (Prod.snd (Prod.snd (Prod.snd x))))))))))),
        Prod.snd
          (Prod.snd
            (Prod.snd
              (Prod.snd (Prod.snd (Prod.snd (Prod.snd (Prod.snd (Prod.snd (Prod.snd (Prod.snd (Prod.snd x)))))))))))))
    fun (x_1 : Unit × Option (List UInt8)) =>
    obind (F26 n (Prod.snd x_1)) fun (x_2 : List UInt8 × Option (List UInt8)) => some (Prod.fst x_2, ())
theorem ok13 (n : Nat) : FunOK Try.prog ⟨13, sig13, F13 n⟩ :=
  fun_ok (hints := ⟨[], []⟩) (fuel := n) (c := Try.f13.body.getD .skip) (rs := Try.f13.results.toList) tt_ok mix (FsOK.cons (ok25 n) (FsOK.cons (ok26 n) (FsOK.nil))) Try.func13 (by kernel_rfl) (by kernel_rfl) rfl (by kernel_rfl) rfl rfl (by kernel_rfl)
-- watchfire/watchfirelaw04.Awake
def sig8 : Sig := ⟨.nil, (.cons (.one (.c .bool)) .nil)⟩
def F8 : Nat → Unit → Option (Bool × Unit) := fun (n : Nat) (x : Unit) =>
  obind (F33 n ((3 : UInt8), (1 : UInt64), (200 : UInt64)))
    fun
      (x_1 :
        (Bool ×
            UInt8 ×
              UInt64 ×
                UInt64 ×
                  List UInt8 ×
                    List (List UInt8 × List UInt8) × UInt8 × UInt8 × Int64 × UInt8 × UInt8 × UInt64 × UInt64) ×
          Unit) =>
    obind
      (F13 n
        (Prod.fst (Prod.fst x_1), Prod.fst (Prod.snd (Prod.fst x_1)), Prod.fst (Prod.snd (Prod.snd (Prod.fst x_1))),
          Prod.fst (Prod.snd (Prod.snd (Prod.snd (Prod.fst x_1)))),
          Prod.fst (Prod.snd (Prod.snd (Prod.snd (Prod.snd (Prod.fst x_1))))),
          Prod.fst (Prod.snd (Prod.snd (Prod.snd (Prod.snd (Prod.snd (Prod.fst x_1)))))),
          Prod.fst (Prod.snd (Prod.snd (Prod.snd (Prod.snd (Prod.snd (Prod.snd (Prod.fst x_1))))))),
          Prod.fst (Prod.snd (Prod.snd (Prod.snd (Prod.snd (Prod.snd (Prod.snd (Prod.snd (Prod.fst x_1)))))))),
          Prod.fst
            (Prod.snd (Prod.snd (Prod.snd (Prod.snd (Prod.snd (Prod.snd (Prod.snd (Prod.snd (Prod.fst x_1))))))))),
          Prod.fst
            (Prod.snd
              (Prod.snd (Prod.snd (Prod.snd (Prod.snd (Prod.snd (Prod.snd (Prod.snd (Prod.snd (Prod.fst x_1)))))))))),
          Prod.fst
            (Prod.snd
              (Prod.snd
                (Prod.snd
                  (Prod.snd (Prod.snd (Prod.snd (Prod.snd (Prod.snd (Prod.snd (Prod.snd (Prod.fst x_1))))))))))),
          Prod.fst
            (Prod.snd
              (Prod.snd
                (Prod.snd
                  (Prod.snd
                    (Prod.snd (Prod.snd (Prod.snd (Prod.snd (Prod.snd (Prod.snd (Prod.snd (Prod.fst x_1)))))))))))),
          Prod.snd
            (Prod.snd
              (Prod.snd
                (Prod.snd
                  (Prod.snd
                    (Prod.snd (Prod.snd (Prod.snd (Prod.snd (Prod.snd (Prod.snd (Prod.snd (Prod.fst x_1))))))))))))))
      fun (x_2 : List UInt8 × Unit) =>
      some (Prod.fst x_2 == [(1 : UInt8), (3 : UInt8), (1 : UInt8), (200 : UInt8), (1 : UInt8)], ())
theorem ok8 (n : Nat) : FunOK Try.prog ⟨8, sig8, F8 n⟩ :=
  fun_ok (hints := ⟨[], []⟩) (fuel := n) (c := Try.f8.body.getD .skip) (rs := Try.f8.results.toList) tt_ok mix (FsOK.cons (ok33 n) (FsOK.cons (ok13 n) (FsOK.nil))) Try.func8 (by kernel_rfl) (by kernel_rfl) rfl (by kernel_rfl) rfl rfl (by kernel_rfl)
-- watchfire/item.Of
def sig34 : Sig := ⟨(.cons (.agg (.cons (.int .u8) (.cons (.int .u64) (.cons (.int .u64) (.cons .str (.cons (.ro (.cons .str (.cons .str .nil))) (.cons (.int .u8) (.cons (.int .u8) (.cons (.int .i64) (.cons (.int .u8) .nil)))))))))) .nil), (.cons (.agg (.cons .bool (.cons (.int .u8) (.cons (.int .u64) (.cons (.int .u64) (.cons .str (.cons (.ro (.cons .str (.cons .str .nil))) (.cons (.int .u8) (.cons (.int .u8) (.cons (.int .i64) (.cons (.int .u8) (.cons (.int .u8) (.cons (.int .u64) (.cons (.int .u64) .nil)))))))))))))) .nil)⟩
def F34 : Nat →
  UInt8 × UInt64 × UInt64 × List UInt8 × List (List UInt8 × List UInt8) × UInt8 × UInt8 × Int64 × UInt8 →
    Option
      ((Bool ×
          UInt8 ×
            UInt64 ×
              UInt64 ×
                List UInt8 × List (List UInt8 × List UInt8) × UInt8 × UInt8 × Int64 × UInt8 × UInt8 × UInt64 × UInt64) ×
        Unit) := fun (n : Nat)
    (x : UInt8 × UInt64 × UInt64 × List UInt8 × List (List UInt8 × List UInt8) × UInt8 × UInt8 × Int64 × UInt8) =>
  some
    ((false, Prod.fst x, Prod.fst (Prod.snd x), Prod.fst (Prod.snd (Prod.snd x)),
        Prod.fst (Prod.snd (Prod.snd (Prod.snd x))), Prod.fst (Prod.snd (Prod.snd (Prod.snd (Prod.snd x)))),
        Prod.fst (Prod.snd (Prod.snd (Prod.snd (Prod.snd (Prod.snd x))))),
        Prod.fst (Prod.snd (Prod.snd (Prod.snd (Prod.snd (Prod.snd (Prod.snd x)))))),
        Prod.fst (Prod.snd (Prod.snd (Prod.snd (Prod.snd (Prod.snd (Prod.snd (Prod.snd x))))))),
        Prod.snd (Prod.snd (Prod.snd (Prod.snd (Prod.snd (Prod.snd (Prod.snd (Prod.snd x))))))), (0 : UInt8),
        (0 : UInt64), (0 : UInt64)),
      ())
theorem ok34 (n : Nat) : FunOK Try.prog ⟨34, sig34, F34 n⟩ :=
  fun_ok (hints := ⟨[], []⟩) (fuel := n) (c := Try.f34.body.getD .skip) (rs := Try.f34.results.toList) tt_ok mix (FsOK.nil) Try.func34 (by kernel_rfl) (by kernel_rfl) rfl (by kernel_rfl) rfl rfl (by kernel_rfl)
-- (watchfire/watchfirelaw04.Small).Item
def sig9 : Sig := ⟨(.cons (.agg (.cons .bool (.cons (.int .u8) (.cons (.int .u8) (.cons (.int .u8) (.cons (.int .u16) (.cons (.int .u16) (.cons (.int .u16) (.cons (.int .u8) (.cons (.int .u8) (.cons (.int .u8) (.cons .bool .nil)))))))))))) .nil), (.cons (.agg (.cons .bool (.cons (.int .u8) (.cons (.int .u64) (.cons (.int .u64) (.cons .str (.cons (.ro (.cons .str (.cons .str .nil))) (.cons (.int .u8) (.cons (.int .u8) (.cons (.int .i64) (.cons (.int .u8) (.cons (.int .u8) (.cons (.int .u64) (.cons (.int .u64) .nil)))))))))))))) .nil)⟩
def F9_L1021 : Nat →
  Arr
      [PT.int IntKind.u8, PT.int IntKind.u8, PT.bool, PT.int IntKind.u8, PT.int IntKind.u8, PT.int IntKind.u8,
        PT.int IntKind.u16, PT.int IntKind.u16, PT.int IntKind.u16, PT.int IntKind.u8, PT.int IntKind.u8,
        PT.int IntKind.u8, PT.bool, PT.bool, PT.int IntKind.u8, PT.int IntKind.u64, PT.int IntKind.u64, PT.bytes,
        PT.int IntKind.u8, PT.int IntKind.u8, PT.int IntKind.i64, PT.int IntKind.u8, PT.int IntKind.u8,
        PT.int IntKind.u64, PT.int IntKind.u64, PT.int IntKind.u8, PT.int IntKind.u64, PT.int IntKind.u64, PT.bytes,
        PT.int IntKind.u8, PT.int IntKind.u8, PT.int IntKind.i64, PT.int IntKind.u8,
        PT.list (CTs.cons CT.str (CTs.cons CT.str CTs.nil))]
      (Option
        ((Bool ×
            UInt8 ×
              UInt64 ×
                UInt64 ×
                  List UInt8 ×
                    List (List UInt8 × List UInt8) × UInt8 × UInt8 × Int64 × UInt8 × UInt8 × UInt64 × UInt64) ×
          Unit)) →
    UInt8 →
      UInt8 →
        Bool →
          UInt8 →
            UInt8 →
              UInt8 →
                UInt16 →
                  UInt16 →
                    UInt16 →
                      UInt8 →
                        UInt8 →
                          UInt8 →
                            Bool →
                              Bool →
                                UInt8 →
                                  UInt64 →
                                    UInt64 →
                                      List UInt8 →
                                        UInt8 →
                                          UInt8 →
                                            Int64 →
                                              UInt8 →
                                                UInt8 →
                                                  UInt64 →
                                                    UInt64 →
                                                      UInt8 →
                                                        UInt64 →
                                                          UInt64 →
                                                            List UInt8 →
                                                              UInt8 →
                                                                UInt8 →
                                                                  Int64 →
                                                                    UInt8 →
                                                                      List (List UInt8 × List UInt8) →
                                                                        Option
                                                                          ((Bool ×
                                                                              UInt8 ×
                                                                                UInt64 ×
                                                                                  UInt64 ×
                                                                                    List UInt8 ×
                                                                                      List (List UInt8 × List UInt8) ×
                                                                                        UInt8 ×
                                                                                          UInt8 ×
                                                                                            Int64 ×
                                                                                              UInt8 ×
                                                                                                UInt8 ×
                                                                                                  UInt64 × UInt64) ×
                                                                            Unit) := fun (n : Nat)
    (rec :
      Arr
        [PT.int IntKind.u8, PT.int IntKind.u8, PT.bool, PT.int IntKind.u8, PT.int IntKind.u8, PT.int IntKind.u8,
          PT.int IntKind.u16, PT.int IntKind.u16, PT.int IntKind.u16, PT.int IntKind.u8, PT.int IntKind.u8,
          PT.int IntKind.u8, PT.bool, PT.bool, PT.int IntKind.u8, PT.int IntKind.u64, PT.int IntKind.u64, PT.bytes,
          PT.int IntKind.u8, PT.int IntKind.u8, PT.int IntKind.i64, PT.int IntKind.u8, PT.int IntKind.u8,
          PT.int IntKind.u64, PT.int IntKind.u64, PT.int IntKind.u8, PT.int IntKind.u64, PT.int IntKind.u64, PT.bytes,
          PT.int IntKind.u8, PT.int IntKind.u8, PT.int IntKind.i64, PT.int IntKind.u8,
          PT.list (CTs.cons CT.str (CTs.cons CT.str CTs.nil))]
        (Option
          ((Bool ×
              UInt8 ×
                UInt64 ×
                  UInt64 ×
                    List UInt8 ×
                      List (List UInt8 × List UInt8) × UInt8 × UInt8 × Int64 × UInt8 × UInt8 × UInt64 × UInt64) ×
            Unit)))
    (t t_1 : UInt8) (s0_2 : Bool) (s1_2 s2_2 s3_2 : UInt8) (s4_2 s5_2 s6_2 : UInt16) (s7_2 s8_2 s9_2 : UInt8)
    (s10_2 t0_2 : Bool) (t1_2 : UInt8) (t2_2 t3_2 : UInt64) (t4_2 : List UInt8) (t6_2 t7_2 : UInt8) (t8_2 : Int64)
    (t9_2 t10_2 : UInt8) (t11_2 t12_2 : UInt64) (v0_2 : UInt8) (v1_2 v2_2 : UInt64) (v3_2 : List UInt8)
    (v5_2 v6_2 : UInt8) (v7_2 : Int64) (v8_2 : UInt8) (vl : List (List UInt8 × List UInt8)) =>
  oite (decide (t_1 < t))
    (oite
      (Nat.ble
        (List.length vl + List.length [([(97 : UInt8) + t_1], [(48 : UInt8) + s8_2 / (4 : UInt8) % (10 : UInt8)])])
        (4294967296 : Nat))
      (rec t (t_1 + (1 : UInt8)) s0_2 s1_2 s2_2 s3_2 s4_2 s5_2 s6_2 s7_2 s8_2 s9_2 s10_2 t0_2 t1_2 t2_2 t3_2 t4_2 t6_2
        t7_2 t8_2 t9_2 t10_2 t11_2 t12_2 v0_2 v1_2 v2_2 v3_2 v5_2 v6_2 v7_2 v8_2
        (vl ++ [([(97 : UInt8) + t_1], [(48 : UInt8) + s8_2 / (4 : UInt8) % (10 : UInt8)])]))
      none)
    (obind (F34 n (v0_2, v1_2, v2_2, v3_2, vl, v5_2, v6_2, v7_2, v8_2))
      fun
        (x_2 :
          (Bool ×
              UInt8 ×
                UInt64 ×
                  UInt64 ×
                    List UInt8 ×
                      List (List UInt8 × List UInt8) × UInt8 × UInt8 × Int64 × UInt8 × UInt8 × UInt64 × UInt64) ×
            Unit) =>
      some
        ((Prod.fst (Prod.fst x_2), Prod.fst (Prod.snd (Prod.fst x_2)), Prod.fst (Prod.snd (Prod.snd (Prod.fst x_2))),
            Prod.fst (Prod.snd (Prod.snd (Prod.snd (Prod.fst x_2)))),
            Prod.fst (Prod.snd (Prod.snd (Prod.snd (Prod.snd (Prod.fst x_2))))),
            Prod.fst (Prod.snd (Prod.snd (Prod.snd (Prod.snd (Prod.snd (Prod.fst x_2)))))),
            Prod.fst (Prod.snd (Prod.snd (Prod.snd (Prod.snd (Prod.snd (Prod.snd (Prod.fst x_2))))))),
            Prod.fst (Prod.snd (Prod.snd (Prod.snd (Prod.snd (Prod.snd (Prod.snd (Prod.snd (Prod.fst x_2)))))))),
            Prod.fst
              (Prod.snd (Prod.snd (Prod.snd (Prod.snd (Prod.snd (Prod.snd (Prod.snd (Prod.snd (Prod.fst x_2))))))))),
            Prod.fst
              (Prod.snd
                (Prod.snd (Prod.snd (Prod.snd (Prod.snd (Prod.snd (Prod.snd (Prod.snd (Prod.snd (Prod.fst x_2)))))))))),
            Prod.fst
              (Prod.snd
                (Prod.snd
                  (Prod.snd
                    (Prod.snd (Prod.snd (Prod.snd (Prod.snd (Prod.snd (Prod.snd (Prod.snd (Prod.fst x_2))))))))))),
            Prod.fst
              (Prod.snd
                (Prod.snd
                  (Prod.snd
                    (Prod.snd
                      (Prod.snd (Prod.snd (Prod.snd (Prod.snd (Prod.snd (Prod.snd (Prod.snd (Prod.fst x_2)))))))))))),
            Prod.snd
              (Prod.snd
                (Prod.snd
                  (Prod.snd
                    (Prod.snd
                      (Prod.snd (Prod.snd (Prod.snd (Prod.snd (Prod.snd (Prod.snd (Prod.snd (Prod.fst x_2))))))))))))),
          ()))
def F9_R1021 : Nat →
  Nat →
    PT.T (PT.int IntKind.u8) →
      UInt8 →
        Bool →
          UInt8 →
            UInt8 →
              UInt8 →
                UInt16 →
                  UInt16 →
                    UInt16 →
                      UInt8 →
                        UInt8 →
                          UInt8 →
                            Bool →
                              Bool →
                                UInt8 →
                                  UInt64 →
                                    UInt64 →
                                      List UInt8 →
                                        UInt8 →
                                          UInt8 →
                                            Int64 →
                                              UInt8 →
                                                UInt8 →
                                                  UInt64 →
                                                    UInt64 →
                                                      UInt8 →
                                                        UInt64 →
                                                          UInt64 →
                                                            List UInt8 →
                                                              UInt8 →
                                                                UInt8 →
                                                                  Int64 →
                                                                    UInt8 →
                                                                      List (List UInt8 × List UInt8) →
                                                                        Option
                                                                          ((Bool ×
                                                                              UInt8 ×
                                                                                UInt64 ×
                                                                                  UInt64 ×
                                                                                    List UInt8 ×
                                                                                      List (List UInt8 × List UInt8) ×
                                                                                        UInt8 ×
                                                                                          UInt8 ×
                                                                                            Int64 ×
                                                                                              UInt8 ×
                                                                                                UInt8 ×
                                                                                                  UInt64 × UInt64) ×
                                                                            Unit) := fun (n : Nat) =>
  ofixA (1021 : Nat)
    [PT.int IntKind.u8, PT.int IntKind.u8, PT.bool, PT.int IntKind.u8, PT.int IntKind.u8, PT.int IntKind.u8,
      PT.int IntKind.u16, PT.int IntKind.u16, PT.int IntKind.u16, PT.int IntKind.u8, PT.int IntKind.u8,
      PT.int IntKind.u8, PT.bool, PT.bool, PT.int IntKind.u8, PT.int IntKind.u64, PT.int IntKind.u64, PT.bytes,
      PT.int IntKind.u8, PT.int IntKind.u8, PT.int IntKind.i64, PT.int IntKind.u8, PT.int IntKind.u8,
      PT.int IntKind.u64, PT.int IntKind.u64, PT.int IntKind.u8, PT.int IntKind.u64, PT.int IntKind.u64, PT.bytes,
      PT.int IntKind.u8, PT.int IntKind.u8, PT.int IntKind.i64, PT.int IntKind.u8,
      PT.list (CTs.cons CT.str (CTs.cons CT.str CTs.nil))]
    (F9_L1021 n)
def F9_J127 : Nat →
  Bool →
    UInt8 →
      UInt8 →
        UInt8 →
          UInt16 →
            UInt16 →
              UInt16 →
                UInt8 →
                  UInt8 →
                    UInt8 →
                      Bool →
                        Bool →
                          UInt8 →
                            UInt64 →
                              UInt64 →
                                List UInt8 →
                                  UInt8 →
                                    UInt8 →
                                      Int64 →
                                        UInt8 →
                                          UInt8 →
                                            UInt64 →
                                              UInt64 →
                                                UInt8 →
                                                  UInt64 →
                                                    UInt64 →
                                                      List UInt8 →
                                                        UInt8 →
                                                          UInt8 →
                                                            Int64 →
                                                              UInt8 →
                                                                Option
                                                                  ((Bool ×
                                                                      UInt8 ×
                                                                        UInt64 ×
                                                                          UInt64 ×
                                                                            List UInt8 ×
                                                                              List (List UInt8 × List UInt8) ×
                                                                                UInt8 ×
                                                                                  UInt8 ×
                                                                                    Int64 ×
                                                                                      UInt8 × UInt8 × UInt64 × UInt64) ×
                                                                    Unit) := fun (n : Nat) (s0_1 : Bool) (s1_1 s2_1 s3_1 : UInt8) (s4_1 s5_1 s6_1 : UInt16) (s7_1 s8_1 s9_1 : UInt8)
    (s10_1 t0_1 : Bool) (t1_1 : UInt8) (t2_1 t3_1 : UInt64) (t4_1 : List UInt8) (t6_1 t7_1 : UInt8) (t8_1 : Int64)
    (t9_1 t10_1 : UInt8) (t11_1 t12_1 : UInt64) (v0_1 : UInt8) (v1_1 v2_1 : UInt64) (v3_1 : List UInt8)
    (v5_1 v6_1 : UInt8) (v7_1 : Int64) (v8_1 : UInt8) =>
  F9_R1021 n n (s8_1 % (4 : UInt8)) (0 : UInt8) s0_1 s1_1 s2_1 s3_1 s4_1 s5_1 s6_1 s7_1 s8_1 s9_1 s10_1 t0_1 t1_1 t2_1
    t3_1 t4_1 t6_1 t7_1 t8_1 t9_1 t10_1 t11_1 t12_1 v0_1 v1_1 v2_1 v3_1 v5_1 v6_1 v7_1 v8_1 []
def F9_J63 : Nat →
  Bool →
    UInt8 →
      UInt8 →
        UInt8 →
          UInt16 →
            UInt16 →
              UInt16 →
                UInt8 →
                  UInt8 →
                    UInt8 →
                      Bool →
                        Bool →
                          UInt8 →
                            UInt64 →
                              UInt64 →
                                List UInt8 →
                                  UInt8 →
                                    UInt8 →
                                      Int64 →
                                        UInt8 →
                                          UInt8 →
                                            UInt64 →
                                              UInt64 →
                                                UInt8 →
                                                  UInt64 →
                                                    UInt64 →
                                                      List UInt8 →
                                                        UInt8 →
                                                          UInt8 →
                                                            Int64 →
                                                              UInt8 →
                                                                Option
                                                                  ((Bool ×
                                                                      UInt8 ×
                                                                        UInt64 ×
                                                                          UInt64 ×
                                                                            List UInt8 ×
                                                                              List (List UInt8 × List UInt8) ×
                                                                                UInt8 ×
                                                                                  UInt8 ×
                                                                                    Int64 ×
                                                                                      UInt8 × UInt8 × UInt64 × UInt64) ×
                                                                    Unit) := fun (n : Nat) (s0 : Bool) (s1 s2 s3 : UInt8) (s4 s5 s6 : UInt16) (s7 s8 s9 : UInt8) (s10 t0 : Bool) (t1 : UInt8)
    (t2 t3 : UInt64) (t4 : List UInt8) (t6 t7 : UInt8) (t8 : Int64) (t9 t10 : UInt8) (t11 t12 : UInt64) (v0 : UInt8)
    (v1 v2 : UInt64) (v3 : List UInt8) (v5 v6 : UInt8) (v7 : Int64) (v8 : UInt8) =>
  ojoinA (127 : Nat)
    [PT.bool, PT.int IntKind.u8, PT.int IntKind.u8, PT.int IntKind.u8, PT.int IntKind.u16, PT.int IntKind.u16,
      PT.int IntKind.u16, PT.int IntKind.u8, PT.int IntKind.u8, PT.int IntKind.u8, PT.bool, PT.bool, PT.int IntKind.u8,
      PT.int IntKind.u64, PT.int IntKind.u64, PT.bytes, PT.int IntKind.u8, PT.int IntKind.u8, PT.int IntKind.i64,
      PT.int IntKind.u8, PT.int IntKind.u8, PT.int IntKind.u64, PT.int IntKind.u64, PT.int IntKind.u8,
      PT.int IntKind.u64, PT.int IntKind.u64, PT.bytes, PT.int IntKind.u8, PT.int IntKind.u8, PT.int IntKind.i64,
      PT.int IntKind.u8]
    (fun
        (J :
          Arr
            [PT.bool, PT.int IntKind.u8, PT.int IntKind.u8, PT.int IntKind.u8, PT.int IntKind.u16, PT.int IntKind.u16,
              PT.int IntKind.u16, PT.int IntKind.u8, PT.int IntKind.u8, PT.int IntKind.u8, PT.bool, PT.bool,
              PT.int IntKind.u8, PT.int IntKind.u64, PT.int IntKind.u64, PT.bytes, PT.int IntKind.u8, PT.int IntKind.u8,
              PT.int IntKind.i64, PT.int IntKind.u8, PT.int IntKind.u8, PT.int IntKind.u64, PT.int IntKind.u64,
              PT.int IntKind.u8, PT.int IntKind.u64, PT.int IntKind.u64, PT.bytes, PT.int IntKind.u8, PT.int IntKind.u8,
              PT.int IntKind.i64, PT.int IntKind.u8]
            (Option
              ((Bool ×
                  UInt8 ×
                    UInt64 ×
                      UInt64 ×
                        List UInt8 ×
                          List (List UInt8 × List UInt8) × UInt8 × UInt8 × Int64 × UInt8 × UInt8 × UInt64 × UInt64) ×
                Unit))) =>
      oite (decide (s3 % (8 : UInt8) = (7 : UInt8)))
        (J s0 s1 s2 s3 s4 s5 s6 s7 s8 s9 s10 t0 t1 t2 t3 t4 t6 t7 t8 t9 t10 t11 t12 v0 v1 v2
          [(111 : UInt8), (119 : UInt8), (110 : UInt8), (46 : UInt8), (120 : UInt8)] v5 v6 v7
          ((1 : UInt8) + s3 / (8 : UInt8) % (2 : UInt8)))
        (J s0 s1 s2 s3 s4 s5 s6 s7 s8 s9 s10 t0 t1 t2 t3 t4 t6 t7 t8 t9 t10 t11 t12 v0 v1 v2 v3 v5 v6 v7 v8))
    (F9_J127 n)
def F9 : Nat →
  Bool × UInt8 × UInt8 × UInt8 × UInt16 × UInt16 × UInt16 × UInt8 × UInt8 × UInt8 × Bool →
    Option
      ((Bool ×
          UInt8 ×
            UInt64 ×
              UInt64 ×
                List UInt8 × List (List UInt8 × List UInt8) × UInt8 × UInt8 × Int64 × UInt8 × UInt8 × UInt64 × UInt64) ×
        Unit) := fun (n : Nat) (x : Bool × UInt8 × UInt8 × UInt8 × UInt16 × UInt16 × UInt16 × UInt8 × UInt8 × UInt8 × Bool) =>
  oite (Prod.fst x)
    (obind
      (F33 n
        (Prod.fst (Prod.snd x) % (32 : UInt8),
          (1 : UInt64) + UInt64.ofInt ↑(UInt16.toNat (Prod.fst (Prod.snd (Prod.snd (Prod.snd (Prod.snd x)))))),
          (1 : UInt64) + UInt64.ofInt ↑(UInt16.toNat (Prod.fst (Prod.snd (Prod.snd (Prod.snd (Prod.snd x)))))) +
            UInt64.ofInt ↑(UInt16.toNat (Prod.fst (Prod.snd (Prod.snd (Prod.snd (Prod.snd (Prod.snd x)))))))))
      fun
        (x_1 :
          (Bool ×
              UInt8 ×
                UInt64 ×
                  UInt64 ×
                    List UInt8 ×
                      List (List UInt8 × List UInt8) × UInt8 × UInt8 × Int64 × UInt8 × UInt8 × UInt64 × UInt64) ×
            Unit) =>
      some
        ((Prod.fst (Prod.fst x_1), Prod.fst (Prod.snd (Prod.fst x_1)), Prod.fst (Prod.snd (Prod.snd (Prod.fst x_1))),
            Prod.fst (Prod.snd (Prod.snd (Prod.snd (Prod.fst x_1)))),
            Prod.fst (Prod.snd (Prod.snd (Prod.snd (Prod.snd (Prod.fst x_1))))),
            Prod.fst (Prod.snd (Prod.snd (Prod.snd (Prod.snd (Prod.snd (Prod.fst x_1)))))),
            Prod.fst (Prod.snd (Prod.snd (Prod.snd (Prod.snd (Prod.snd (Prod.snd (Prod.fst x_1))))))),
            Prod.fst (Prod.snd (Prod.snd (Prod.snd (Prod.snd (Prod.snd (Prod.snd (Prod.snd (Prod.fst x_1)))))))),
            Prod.fst
              (Prod.snd (Prod.snd (Prod.snd (Prod.snd (Prod.snd (Prod.snd (Prod.snd (Prod.snd (Prod.fst x_1))))))))),
            Prod.fst
              (Prod.snd
                (Prod.snd (Prod.snd (Prod.snd (Prod.snd (Prod.snd (Prod.snd (Prod.snd (Prod.snd (Prod.fst x_1)))))))))),
            Prod.fst
              (Prod.snd
                (Prod.snd
                  (Prod.snd
                    (Prod.snd (Prod.snd (Prod.snd (Prod.snd (Prod.snd (Prod.snd (Prod.snd (Prod.fst x_1))))))))))),
            Prod.fst
              (Prod.snd
                (Prod.snd
                  (Prod.snd
                    (Prod.snd
                      (Prod.snd (Prod.snd (Prod.snd (Prod.snd (Prod.snd (Prod.snd (Prod.snd (Prod.fst x_1)))))))))))),
            Prod.snd
              (Prod.snd
                (Prod.snd
                  (Prod.snd
                    (Prod.snd
                      (Prod.snd (Prod.snd (Prod.snd (Prod.snd (Prod.snd (Prod.snd (Prod.snd (Prod.fst x_1))))))))))))),
          ()))
    (oite
      (decide
          ((0 : Int) ≤
            ↑(UInt8.toNat
                (Prod.fst (Prod.snd (Prod.snd (Prod.snd (Prod.snd (Prod.snd (Prod.snd (Prod.snd x))))))) %
                  (4 : UInt8)))) &&
        Nat.blt
          (Int.toNat
            ↑(UInt8.toNat
                (Prod.fst (Prod.snd (Prod.snd (Prod.snd (Prod.snd (Prod.snd (Prod.snd (Prod.snd x))))))) %
                  (4 : UInt8))))
          (List.length
            [[(104 : UInt8), (111 : UInt8), (116 : UInt8)], [(99 : UInt8), (111 : UInt8), (108 : UInt8), (100 : UInt8)],
              [(100 : UInt8), (105 : UInt8), (115 : UInt8), (107 : UInt8), (46 : UInt8), (102 : UInt8), (117 : UInt8),
                (108 : UInt8), (108 : UInt8)],
              [(120 : UInt8)]]))
      (obind
        [[(104 : UInt8), (111 : UInt8), (116 : UInt8)], [(99 : UInt8), (111 : UInt8), (108 : UInt8), (100 : UInt8)],
            [(100 : UInt8), (105 : UInt8), (115 : UInt8), (107 : UInt8), (46 : UInt8), (102 : UInt8), (117 : UInt8),
              (108 : UInt8), (108 : UInt8)],
            [(120 :
                UInt8)]][Int.toNat
            ↑(UInt8.toNat
                (Prod.fst (Prod.snd (Prod.snd (Prod.snd (Prod.snd (Prod.snd (Prod.snd (Prod.snd x))))))) %
                  (4 : UInt8)))]?
        fun (x_1 : List UInt8) =>
        ojoinA (63 : Nat)
          [PT.bool, PT.int IntKind.u8, PT.int IntKind.u8, PT.int IntKind.u8, PT.int IntKind.u16, PT.int IntKind.u16,
            PT.int IntKind.u16, PT.int IntKind.u8, PT.int IntKind.u8, PT.int IntKind.u8, PT.bool, PT.bool,
            PT.int IntKind.u8, PT.int IntKind.u64, PT.int IntKind.u64, PT.bytes, PT.int IntKind.u8, PT.int IntKind.u8,
            PT.int IntKind.i64, PT.int IntKind.u8, PT.int IntKind.u8, PT.int IntKind.u64, PT.int IntKind.u64,
            PT.int IntKind.u8, PT.int IntKind.u64, PT.int IntKind.u64, PT.bytes, PT.int IntKind.u8, PT.int IntKind.u8,
            PT.int IntKind.i64, PT.int IntKind.u8]
          (fun
              (J :
                Arr
                  [PT.bool, PT.int IntKind.u8, PT.int IntKind.u8, PT.int IntKind.u8, PT.int IntKind.u16,
                    PT.int IntKind.u16, PT.int IntKind.u16, PT.int IntKind.u8, PT.int IntKind.u8, PT.int IntKind.u8,
                    PT.bool, PT.bool, PT.int IntKind.u8, PT.int IntKind.u64, PT.int IntKind.u64, PT.bytes,
                    PT.int IntKind.u8, PT.int IntKind.u8, PT.int IntKind.i64, PT.int IntKind.u8, PT.int IntKind.u8,
                    PT.int IntKind.u64, PT.int IntKind.u64, PT.int IntKind.u8, PT.int IntKind.u64, PT.int IntKind.u64,
                    PT.bytes, PT.int IntKind.u8, PT.int IntKind.u8, PT.int IntKind.i64, PT.int IntKind.u8]
                  (Option
                    ((Bool ×
                        UInt8 ×
                          UInt64 ×
                            UInt64 ×
                              List UInt8 ×
                                List (List UInt8 × List UInt8) ×
                                  UInt8 × UInt8 × Int64 × UInt8 × UInt8 × UInt64 × UInt64) ×
                      Unit))) =>
            oite
              (Prod.snd
                (Prod.snd (Prod.snd (Prod.snd (Prod.snd (Prod.snd (Prod.snd (Prod.snd (Prod.snd (Prod.snd x))))))))))
              (J (Prod.fst x) (Prod.fst (Prod.snd x)) (Prod.fst (Prod.snd (Prod.snd x)))
                (Prod.fst (Prod.snd (Prod.snd (Prod.snd x)))) (Prod.fst (Prod.snd (Prod.snd (Prod.snd (Prod.snd x)))))
                (Prod.fst (Prod.snd (Prod.snd (Prod.snd (Prod.snd (Prod.snd x))))))
                (Prod.fst (Prod.snd (Prod.snd (Prod.snd (Prod.snd (Prod.snd (Prod.snd x)))))))
                (Prod.fst (Prod.snd (Prod.snd (Prod.snd (Prod.snd (Prod.snd (Prod.snd (Prod.snd x))))))))
                (Prod.fst (Prod.snd (Prod.snd (Prod.snd (Prod.snd (Prod.snd (Prod.snd (Prod.snd (Prod.snd x)))))))))
                (Prod.fst
                  (Prod.snd (Prod.snd (Prod.snd (Prod.snd (Prod.snd (Prod.snd (Prod.snd (Prod.snd (Prod.snd x))))))))))
                (Prod.snd
                  (Prod.snd (Prod.snd (Prod.snd (Prod.snd (Prod.snd (Prod.snd (Prod.snd (Prod.snd (Prod.snd x))))))))))
                false (0 : UInt8) (0 : UInt64) (0 : UInt64) [] (0 : UInt8) (0 : UInt8) (0 : Int64) (0 : UInt8)
                (0 : UInt8) (0 : UInt64) (0 : UInt64) (Prod.fst (Prod.snd x) % (32 : UInt8))
                ((1 : UInt64) + UInt64.ofInt ↑(UInt16.toNat (Prod.fst (Prod.snd (Prod.snd (Prod.snd (Prod.snd x)))))))
                (UInt64.ofInt
                  ↑(UInt16.toNat (Prod.fst (Prod.snd (Prod.snd (Prod.snd (Prod.snd (Prod.snd (Prod.snd x)))))))))
                x_1 (2 : UInt8) (Prod.fst (Prod.snd (Prod.snd x)) % (8 : UInt8))
                (Int64.ofInt
                    ↑(UInt8.toNat
                        (Prod.fst
                          (Prod.snd
                            (Prod.snd
                              (Prod.snd (Prod.snd (Prod.snd (Prod.snd (Prod.snd (Prod.snd (Prod.snd x))))))))))) -
                  (100 : Int64))
                (0 : UInt8))
              (J (Prod.fst x) (Prod.fst (Prod.snd x)) (Prod.fst (Prod.snd (Prod.snd x)))
                (Prod.fst (Prod.snd (Prod.snd (Prod.snd x)))) (Prod.fst (Prod.snd (Prod.snd (Prod.snd (Prod.snd x)))))
                (Prod.fst (Prod.snd (Prod.snd (Prod.snd (Prod.snd (Prod.snd x))))))
                (Prod.fst (Prod.snd (Prod.snd (Prod.snd (Prod.snd (Prod.snd (Prod.snd x)))))))
                (Prod.fst (Prod.snd (Prod.snd (Prod.snd (Prod.snd (Prod.snd (Prod.snd (Prod.snd x))))))))
                (Prod.fst (Prod.snd (Prod.snd (Prod.snd (Prod.snd (Prod.snd (Prod.snd (Prod.snd (Prod.snd x)))))))))
                (Prod.fst
                  (Prod.snd (Prod.snd (Prod.snd (Prod.snd (Prod.snd (Prod.snd (Prod.snd (Prod.snd (Prod.snd x))))))))))
                (Prod.snd
                  (Prod.snd (Prod.snd (Prod.snd (Prod.snd (Prod.snd (Prod.snd (Prod.snd (Prod.snd (Prod.snd x))))))))))
                false (0 : UInt8) (0 : UInt64) (0 : UInt64) [] (0 : UInt8) (0 : UInt8) (0 : Int64) (0 : UInt8)
                (0 : UInt8) (0 : UInt64) (0 : UInt64) (Prod.fst (Prod.snd x) % (32 : UInt8))
                ((1 : UInt64) + UInt64.ofInt ↑(UInt16.toNat (Prod.fst (Prod.snd (Prod.snd (Prod.snd (Prod.snd x)))))))
                (UInt64.ofInt
                  ↑(UInt16.toNat (Prod.fst (Prod.snd (Prod.snd (Prod.snd (Prod.snd (Prod.snd (Prod.snd x)))))))))
                x_1 (0 : UInt8) (Prod.fst (Prod.snd (Prod.snd x)) % (8 : UInt8))
                (Int64.ofInt
                    ↑(UInt8.toNat
                        (Prod.fst
                          (Prod.snd
                            (Prod.snd
                              (Prod.snd (Prod.snd (Prod.snd (Prod.snd (Prod.snd (Prod.snd (Prod.snd x))))))))))) -
                  (100 : Int64))
                (0 : UInt8)))
          (F9_J63 n))
      none)
theorem F9_R1021_s (n : Nat) (m_ : Nat) : F9_R1021 n (m_ + 1) = F9_L1021 n (F9_R1021 n m_) := rfl
theorem ok9 (n : Nat) : FunOK Try.prog ⟨9, sig9, F9 n⟩ :=
  fun_ok (hints := ⟨[(63, ⟨[(1, .one (.own 1)), (2, .one (.own 2)), (5, .one (.own 3))], [(1, .cells [.bool, .int .u8, .int .u8, .int .u8, .int .u16, .int .u16, .int .u16, .int .u8, .int .u8, .int .u8, .bool]), (2, .cells [.bool, .int .u8, .int .u64, .int .u64, .str, .nils, .int .u8, .int .u8, .int .i64, .int .u8, .int .u8, .int .u64, .int .u64]), (3, .cells [.int .u8, .int .u64, .int .u64, .str, .nils, .int .u8, .int .u8, .int .i64, .int .u8])], 4⟩), (127, ⟨[(1, .one (.own 1)), (2, .one (.own 2)), (5, .one (.own 3))], [(1, .cells [.bool, .int .u8, .int .u8, .int .u8, .int .u16, .int .u16, .int .u16, .int .u8, .int .u8, .int .u8, .bool]), (2, .cells [.bool, .int .u8, .int .u64, .int .u64, .str, .nils, .int .u8, .int .u8, .int .i64, .int .u8, .int .u8, .int .u64, .int .u64]), (3, .cells [.int .u8, .int .u64, .int .u64, .str, .nils, .int .u8, .int .u8, .int .i64, .int .u8])], 4⟩)], [(1021, ⟨[(1, .one (.own 1)), (2, .one (.own 2)), (5, .one (.own 3)), (59, .one (.int .u8)), (60, .one (.int .u8))], [(1, .cells [.bool, .int .u8, .int .u8, .int .u8, .int .u16, .int .u16, .int .u16, .int .u8, .int .u8, .int .u8, .bool]), (2, .cells [.bool, .int .u8, .int .u64, .int .u64, .str, .nils, .int .u8, .int .u8, .int .i64, .int .u8, .int .u8, .int .u64, .int .u64]), (3, .cells [.int .u8, .int .u64, .int .u64, .str, .own 4, .int .u8, .int .u8, .int .i64, .int .u8]), (4, .row (.cons .str (.cons .str .nil)))], 5⟩)]⟩) (fuel := n) (c := Try.f9.body.getD .skip) (rs := Try.f9.results.toList) tt_ok mix (FsOK.cons (ok33 n) (FsOK.cons (ok34 n) (FsOK.nil))) Try.func9 (by kernel_rfl) (by kernel_rfl) rfl (by kernel_rfl) rfl rfl (by kernel_rfl)
-- watchfire/watchfireref01.Same
def sig36 : Sig := ⟨(.cons (.one (.c (.ro (.cons .str (.cons .str .nil))))) (.cons (.one (.c (.ro (.cons .str (.cons .str .nil))))) .nil)), (.cons (.one (.c .bool)) .nil)⟩
def F36_L29 : Arr
    [PT.list (CTs.cons CT.str (CTs.cons CT.str CTs.nil)), PT.list (CTs.cons CT.str (CTs.cons CT.str CTs.nil)),
      PT.int IntKind.i64]
    (Option (Bool × Unit)) →
  List (List UInt8 × List UInt8) → List (List UInt8 × List UInt8) → Int64 → Option (Bool × Unit) := fun
    (rec :
      Arr
        [PT.list (CTs.cons CT.str (CTs.cons CT.str CTs.nil)), PT.list (CTs.cons CT.str (CTs.cons CT.str CTs.nil)),
          PT.int IntKind.i64]
        (Option (Bool × Unit)))
    (a b : List (List UInt8 × List UInt8)) (i : Int64) =>
  oite (decide (i < Int64.ofInt ↑(List.length a)))
    (obind (at? a (Int64.toInt i)) fun (x_1 : List UInt8 × List UInt8) =>
      obind (at? b (Int64.toInt i)) fun (x_2 : List UInt8 × List UInt8) =>
        oite (!(Prod.fst x_1 == Prod.fst x_2 && (Prod.snd x_1 == Prod.snd x_2 && true))) (some (false, ()))
          (rec a b (i + (1 : Int64))))
    (some (true, ()))
def F36_R29 : Nat →
  PT.T (PT.list (CTs.cons CT.str (CTs.cons CT.str CTs.nil))) →
    List (List UInt8 × List UInt8) → Int64 → Option (Bool × Unit) := ofixA (29 : Nat)
  [PT.list (CTs.cons CT.str (CTs.cons CT.str CTs.nil)), PT.list (CTs.cons CT.str (CTs.cons CT.str CTs.nil)),
    PT.int IntKind.i64]
  F36_L29
def F36 : Nat → List (List UInt8 × List UInt8) × List (List UInt8 × List UInt8) → Option (Bool × Unit) := fun (n : Nat) (x : List (List UInt8 × List UInt8) × List (List UInt8 × List UInt8)) =>
  oite (!decide (Int64.ofInt ↑(List.length (Prod.fst x)) = Int64.ofInt ↑(List.length (Prod.snd x))))
    (some (false, ())) (F36_R29 n (Prod.fst x) (Prod.snd x) (0 : Int64))
theorem F36_R29_s  (m_ : Nat) : F36_R29  (m_ + 1) = F36_L29  (F36_R29  m_) := rfl
theorem ok36 (n : Nat) : FunOK Try.prog ⟨36, sig36, F36 n⟩ :=
  fun_ok (hints := ⟨[], [(29, ⟨[(0, .one (.ro (.cons .str (.cons .str .nil)))), (1, .one (.ro (.cons .str (.cons .str .nil)))), (5, .one (.int .i64))], [], 2⟩)]⟩) (fuel := n) (c := Try.f36.body.getD .skip) (rs := Try.f36.results.toList) tt_ok mix (FsOK.nil) Try.func36 (by kernel_rfl) (by kernel_rfl) rfl (by kernel_rfl) rfl rfl (by kernel_rfl)
-- watchfire/watchfireref01.SameItem
def sig16 : Sig := ⟨(.cons (.agg (.cons .bool (.cons (.int .u8) (.cons (.int .u64) (.cons (.int .u64) (.cons .str (.cons (.ro (.cons .str (.cons .str .nil))) (.cons (.int .u8) (.cons (.int .u8) (.cons (.int .i64) (.cons (.int .u8) (.cons (.int .u8) (.cons (.int .u64) (.cons (.int .u64) .nil)))))))))))))) (.cons (.agg (.cons .bool (.cons (.int .u8) (.cons (.int .u64) (.cons (.int .u64) (.cons .str (.cons (.ro (.cons .str (.cons .str .nil))) (.cons (.int .u8) (.cons (.int .u8) (.cons (.int .i64) (.cons (.int .u8) (.cons (.int .u8) (.cons (.int .u64) (.cons (.int .u64) .nil)))))))))))))) .nil)), (.cons (.one (.c .bool)) .nil)⟩
def F16 : Nat →
  (Bool ×
        UInt8 ×
          UInt64 ×
            UInt64 ×
              List UInt8 × List (List UInt8 × List UInt8) × UInt8 × UInt8 × Int64 × UInt8 × UInt8 × UInt64 × UInt64) ×
      Bool ×
        UInt8 ×
          UInt64 ×
            UInt64 ×
              List UInt8 × List (List UInt8 × List UInt8) × UInt8 × UInt8 × Int64 × UInt8 × UInt8 × UInt64 × UInt64 →
    Option (Bool × Unit) := fun (n : Nat)
    (x :
      (Bool ×
          UInt8 ×
            UInt64 ×
              UInt64 ×
                List UInt8 × List (List UInt8 × List UInt8) × UInt8 × UInt8 × Int64 × UInt8 × UInt8 × UInt64 × UInt64) ×
        Bool ×
          UInt8 ×
            UInt64 ×
              UInt64 ×
                List UInt8 ×
                  List (List UInt8 × List UInt8) × UInt8 × UInt8 × Int64 × UInt8 × UInt8 × UInt64 × UInt64) =>
  oite (!Prod.fst (Prod.fst x) == Prod.fst (Prod.snd x)) (some (false, ()))
    (oite (Prod.fst (Prod.fst x))
      (some
        (decide
              (Prod.fst
                  (Prod.snd
                    (Prod.snd
                      (Prod.snd
                        (Prod.snd (Prod.snd (Prod.snd (Prod.snd (Prod.snd (Prod.snd (Prod.snd (Prod.fst x))))))))))) =
                Prod.fst
                  (Prod.snd
                    (Prod.snd
                      (Prod.snd
                        (Prod.snd (Prod.snd (Prod.snd (Prod.snd (Prod.snd (Prod.snd (Prod.snd (Prod.snd x)))))))))))) &&
            (decide
                (Prod.fst
                    (Prod.snd
                      (Prod.snd
                        (Prod.snd
                          (Prod.snd
                            (Prod.snd
                              (Prod.snd (Prod.snd (Prod.snd (Prod.snd (Prod.snd (Prod.snd (Prod.fst x)))))))))))) =
                  Prod.fst
                    (Prod.snd
                      (Prod.snd
                        (Prod.snd
                          (Prod.snd
                            (Prod.snd
                              (Prod.snd (Prod.snd (Prod.snd (Prod.snd (Prod.snd (Prod.snd (Prod.snd x))))))))))))) &&
              (decide
                  (Prod.snd
                      (Prod.snd
                        (Prod.snd
                          (Prod.snd
                            (Prod.snd
                              (Prod.snd
                                (Prod.snd (Prod.snd (Prod.snd (Prod.snd (Prod.snd (Prod.snd (Prod.fst x)))))))))))) =
                    Prod.snd
                      (Prod.snd
                        (Prod.snd
                          (Prod.snd
                            (Prod.snd
                              (Prod.snd
                                (Prod.snd (Prod.snd (Prod.snd (Prod.snd (Prod.snd (Prod.snd (Prod.snd x))))))))))))) &&
                true)),
          ()))
      (oite (decide (Prod.fst (Prod.snd (Prod.fst x)) = Prod.fst (Prod.snd (Prod.snd x))))
        (oite (decide (Prod.fst (Prod.snd (Prod.snd (Prod.fst x))) = Prod.fst (Prod.snd (Prod.snd (Prod.snd x)))))
          (oite
            (decide
              (Prod.fst (Prod.snd (Prod.snd (Prod.snd (Prod.fst x)))) =
                Prod.fst (Prod.snd (Prod.snd (Prod.snd (Prod.snd x))))))
            (oite
              (Prod.fst (Prod.snd (Prod.snd (Prod.snd (Prod.snd (Prod.fst x))))) ==
                Prod.fst (Prod.snd (Prod.snd (Prod.snd (Prod.snd (Prod.snd x))))))
              (oite
                (decide
                  (Prod.fst (Prod.snd (Prod.snd (Prod.snd (Prod.snd (Prod.snd (Prod.snd (Prod.fst x))))))) =
                    Prod.fst (Prod.snd (Prod.snd (Prod.snd (Prod.snd (Prod.snd (Prod.snd (Prod.snd x)))))))))
                (oite
                  (decide
                    (Prod.fst
                        (Prod.snd (Prod.snd (Prod.snd (Prod.snd (Prod.snd (Prod.snd (Prod.snd (Prod.fst x)))))))) =
                      Prod.fst
                        (Prod.snd (Prod.snd (Prod.snd (Prod.snd (Prod.snd (Prod.snd (Prod.snd (Prod.snd x))))))))))
                  (oite
                    (decide
                      (Prod.fst
                          (Prod.snd
                            (Prod.snd (Prod.snd (Prod.snd (Prod.snd (Prod.snd (Prod.snd (Prod.snd (Prod.fst x))))))))) =
                        Prod.fst
                          (Prod.snd
                            (Prod.snd (Prod.snd (Prod.snd (Prod.snd (Prod.snd (Prod.snd (Prod.snd (Prod.snd x)))))))))))
                    (oite
                      (decide
                        (Prod.fst
                            (Prod.snd
                              (Prod.snd
                                (Prod.snd
                                  (Prod.snd (Prod.snd (Prod.snd (Prod.snd (Prod.snd (Prod.snd (Prod.fst x)))))))))) =
                          Prod.fst
                            (Prod.snd
                              (Prod.snd
                                (Prod.snd
                                  (Prod.snd (Prod.snd (Prod.snd (Prod.snd (Prod.snd (Prod.snd (Prod.snd x))))))))))))
                      (obind
                        (F36 n
                          (Prod.fst (Prod.snd (Prod.snd (Prod.snd (Prod.snd (Prod.snd (Prod.fst x)))))),
                            Prod.fst (Prod.snd (Prod.snd (Prod.snd (Prod.snd (Prod.snd (Prod.snd x))))))))
                        fun (x_1 : Bool × Unit) => some (Prod.fst x_1, ()))
                      (some (false, ())))
                    (some (false, ())))
                  (some (false, ())))
                (some (false, ())))
              (some (false, ())))
            (some (false, ())))
          (some (false, ())))
        (some (false, ()))))
theorem ok16 (n : Nat) : FunOK Try.prog ⟨16, sig16, F16 n⟩ :=
  fun_ok (hints := ⟨[], []⟩) (fuel := n) (c := Try.f16.body.getD .skip) (rs := Try.f16.results.toList) tt_ok mix (FsOK.cons (ok36 n) (FsOK.nil)) Try.func16 (by kernel_rfl) (by kernel_rfl) rfl (by kernel_rfl) rfl rfl (by kernel_rfl)
-- watchfire/item.number
def sig59 : Sig := ⟨(.cons (.one (.c (.int .u64))) .nil), (.cons (.one (.c .bool)) .nil)⟩
def F59 : Nat → UInt64 → Option (Bool × Unit) := fun (n : Nat) (x : UInt64) => some (decide (x ≤ (1099511627776 : UInt64)), ())
theorem ok59 (n : Nat) : FunOK Try.prog ⟨59, sig59, F59 n⟩ :=
  fun_ok (hints := ⟨[], []⟩) (fuel := n) (c := Try.f59.body.getD .skip) (rs := Try.f59.results.toList) tt_ok mix (FsOK.nil) Try.func59 (by kernel_rfl) (by kernel_rfl) rfl (by kernel_rfl) rfl rfl (by kernel_rfl)
-- watchfire/item.gap
def sig37 : Sig := ⟨(.cons (.agg (.cons (.int .u8) (.cons (.int .u64) (.cons (.int .u64) .nil)))) .nil), (.cons (.one (.c (.int .i64))) .nil)⟩
def F37 : Nat → UInt8 × UInt64 × UInt64 → Option (Int64 × Unit) := fun (n : Nat) (x : UInt8 × UInt64 × UInt64) =>
  oite (decide ((32 : UInt8) ≤ Prod.fst x)) (some ((6 : Int64), ()))
    (oite (decide (Prod.fst (Prod.snd x) < (1 : UInt64))) (some ((6 : Int64), ()))
      (oite (decide (Prod.snd (Prod.snd x) < Prod.fst (Prod.snd x))) (some ((6 : Int64), ()))
        (obind (F59 n (Prod.snd (Prod.snd x))) fun (x_1 : Bool × Unit) =>
          oite (!Prod.fst x_1) (some ((6 : Int64), ())) (some ((0 : Int64), ())))))
theorem ok37 (n : Nat) : FunOK Try.prog ⟨37, sig37, F37 n⟩ :=
  fun_ok (hints := ⟨[], []⟩) (fuel := n) (c := Try.f37.body.getD .skip) (rs := Try.f37.results.toList) tt_ok mix (FsOK.cons (ok59 n) (FsOK.nil)) Try.func37 (by kernel_rfl) (by kernel_rfl) rfl (by kernel_rfl) rfl rfl (by kernel_rfl)
-- watchfire/lab.word
def sig70 : Sig := ⟨(.cons (.one (.c .str)) (.cons (.one (.c (.int .i64))) (.cons (.one (.c .bool)) .nil))), (.cons (.one (.c .bool)) .nil)⟩
def F70_J471 : Arr [PT.bool, PT.bytes, PT.nat] (Option (Bool × Unit)) → Bool → Int32 → Bool → List UInt8 → Nat → Option (Bool × Unit) := fun (rec : Arr [PT.bool, PT.bytes, PT.nat] (Option (Bool × Unit))) (also_1 : Bool) (c : Int32) (t_1 : Bool)
    (t_1_1 : List UInt8) (x_2 : Nat) =>
  oite t_1 (rec also_1 t_1_1 x_2)
    (oite also_1
      (oite (decide ((48 : Int32) ≤ c))
        (oite (decide (c ≤ (57 : Int32))) (rec also_1 t_1_1 x_2)
          (oite (decide (c = (46 : Int32))) (rec also_1 t_1_1 x_2)
            (oite (decide (c = (95 : Int32))) (rec also_1 t_1_1 x_2)
              (oite (decide (c = (45 : Int32))) (rec also_1 t_1_1 x_2) (some (false, ()))))))
        (oite (decide (c = (46 : Int32))) (rec also_1 t_1_1 x_2)
          (oite (decide (c = (95 : Int32))) (rec also_1 t_1_1 x_2)
            (oite (decide (c = (45 : Int32))) (rec also_1 t_1_1 x_2) (some (false, ()))))))
      (some (false, ())))
def F70_L29 : Arr [PT.bool, PT.bytes, PT.nat] (Option (Bool × Unit)) → Bool → List UInt8 → Nat → Option (Bool × Unit) := fun (rec : Arr [PT.bool, PT.bytes, PT.nat] (Option (Bool × Unit))) (also : Bool) (t : List UInt8) (x_1 : Nat) =>
  oite (Nat.blt x_1 (List.length t))
    (ojoinA (471 : Nat) [PT.bool, PT.int IntKind.i32, PT.bool, PT.bytes, PT.nat]
      (fun (J : Arr [PT.bool, PT.int IntKind.i32, PT.bool, PT.bytes, PT.nat] (Option (Bool × Unit))) =>
        oite (decide ((97 : Int32) ≤ Int32.ofInt ↑(runeAt t x_1)))
          (J also (Int32.ofInt ↑(runeAt t x_1)) (decide (Int32.ofInt ↑(runeAt t x_1) ≤ (122 : Int32))) t
            (x_1 + runeLen t x_1))
          (J also (Int32.ofInt ↑(runeAt t x_1)) false t (x_1 + runeLen t x_1)))
      (F70_J471 rec))
    (some (true, ()))
def F70_R29 : Nat → PT.T PT.bool → List UInt8 → Nat → Option (Bool × Unit) := ofixA (29 : Nat) [PT.bool, PT.bytes, PT.nat] F70_L29
def F70 : Nat → List UInt8 × Int64 × Bool → Option (Bool × Unit) := fun (n : Nat) (x : List UInt8 × Int64 × Bool) =>
  oite (decide (Int64.ofInt ↑(List.length (Prod.fst x)) < (1 : Int64))) (some (false, ()))
    (oite (decide (Prod.fst (Prod.snd x) < Int64.ofInt ↑(List.length (Prod.fst x)))) (some (false, ()))
      (F70_R29 n (Prod.snd (Prod.snd x)) (Prod.fst x) (0 : Nat)))
theorem F70_R29_s  (m_ : Nat) : F70_R29  (m_ + 1) = F70_L29  (F70_R29  m_) := rfl
theorem ok70 (n : Nat) : FunOK Try.prog ⟨70, sig70, F70 n⟩ :=
  fun_ok (hints := ⟨[(471, ⟨[(2, .one (.bool)), (8, .one (.int .i32)), (19, .one (.own 3)), (23, .one (.bool))], [(3, .iter)], 4⟩)], [(29, ⟨[(2, .one (.bool)), (19, .one (.own 3))], [(3, .iter)], 4⟩)]⟩) (fuel := n) (c := Try.f70.body.getD .skip) (rs := Try.f70.results.toList) tt_ok mix (FsOK.nil) Try.func70 (by kernel_rfl) (by kernel_rfl) rfl (by kernel_rfl) rfl rfl (by kernel_rfl)
-- watchfire/lab.Name
def sig60 : Sig := ⟨(.cons (.one (.c .str)) .nil), (.cons (.one (.c .bool)) .nil)⟩
def F60 : Nat → List UInt8 → Option (Bool × Unit) := fun (n : Nat) (x : List UInt8) =>
  obind (F70 n (x, (12 : Int64), true)) fun (x_1 : Bool × Unit) =>
    oite (Prod.fst x_1)
      (obind (at? x (Int64.toInt (0 : Int64))) fun (x_2 : UInt8) =>
        oite (decide ((97 : UInt8) ≤ x_2))
          (obind (at? x (Int64.toInt (0 : Int64))) fun (x_3 : UInt8) => some (decide (x_3 ≤ (122 : UInt8)), ()))
          (some (false, ())))
      (some (false, ()))
theorem ok60 (n : Nat) : FunOK Try.prog ⟨60, sig60, F60 n⟩ :=
  fun_ok (hints := ⟨[], []⟩) (fuel := n) (c := Try.f60.body.getD .skip) (rs := Try.f60.results.toList) tt_ok mix (FsOK.cons (ok70 n) (FsOK.nil)) Try.func60 (by kernel_rfl) (by kernel_rfl) rfl (by kernel_rfl) rfl rfl (by kernel_rfl)
-- internal/stringslite.HasPrefix
def sig65 : Sig := ⟨(.cons (.one (.c .str)) (.cons (.one (.c .str)) .nil)), (.cons (.one (.c .bool)) .nil)⟩
def F65 : Nat → List UInt8 × List UInt8 → Option (Bool × Unit) := fun (n : Nat) (x : List UInt8 × List UInt8) =>
  oite (decide (Int64.ofInt ↑(List.length (Prod.snd x)) ≤ Int64.ofInt ↑(List.length (Prod.fst x))))
    (oite
      (decide ((0 : Int) ≤ Int64.toInt (Int64.ofInt ↑(List.length (Prod.snd x)))) &&
          Nat.ble (Int.toNat (Int64.toInt (Int64.ofInt ↑(List.length (Prod.snd x))))) (List.length (Prod.fst x)) &&
        true)
      (some
        (List.drop (0 : Nat)
              (List.take (Int.toNat (Int64.toInt (Int64.ofInt ↑(List.length (Prod.snd x))))) (Prod.fst x)) ==
            Prod.snd x,
          ()))
      none)
    (some (false, ()))
theorem ok65 (n : Nat) : FunOK Try.prog ⟨65, sig65, F65 n⟩ :=
  fun_ok (hints := ⟨[], []⟩) (fuel := n) (c := Try.f65.body.getD .skip) (rs := Try.f65.results.toList) tt_ok mix (FsOK.nil) Try.func65 (by kernel_rfl) (by kernel_rfl) rfl (by kernel_rfl) rfl rfl (by kernel_rfl)
-- strings.HasPrefix
def sig42 : Sig := ⟨(.cons (.one (.c .str)) (.cons (.one (.c .str)) .nil)), (.cons (.one (.c .bool)) .nil)⟩
def F42 : Nat → List UInt8 × List UInt8 → Option (Bool × Unit) := fun (n : Nat) (x : List UInt8 × List UInt8) =>
  obind (F65 n (Prod.fst x, Prod.snd x)) fun (x_1 : Bool × Unit) => some (Prod.fst x_1, ())
theorem ok42 (n : Nat) : FunOK Try.prog ⟨42, sig42, F42 n⟩ :=
  fun_ok (hints := ⟨[], []⟩) (fuel := n) (c := Try.f42.body.getD .skip) (rs := Try.f42.results.toList) tt_ok mix (FsOK.cons (ok65 n) (FsOK.nil)) Try.func42 (by kernel_rfl) (by kernel_rfl) rfl (by kernel_rfl) rfl rfl (by kernel_rfl)
-- watchfire/item.Own
def sig23 : Sig := ⟨(.cons (.one (.c .str)) .nil), (.cons (.one (.c .bool)) .nil)⟩
def F23 : Nat → List UInt8 → Option (Bool × Unit) := fun (n : Nat) (x : List UInt8) =>
  obind (F42 n (x, [(111 : UInt8), (119 : UInt8), (110 : UInt8), (46 : UInt8)])) fun (x_1 : Bool × Unit) =>
    some (Prod.fst x_1, ())
theorem ok23 (n : Nat) : FunOK Try.prog ⟨23, sig23, F23 n⟩ :=
  fun_ok (hints := ⟨[], []⟩) (fuel := n) (c := Try.f23.body.getD .skip) (rs := Try.f23.results.toList) tt_ok mix (FsOK.cons (ok42 n) (FsOK.nil)) Try.func23 (by kernel_rfl) (by kernel_rfl) rfl (by kernel_rfl) rfl rfl (by kernel_rfl)
-- watchfire/lab.Key
def sig71 : Sig := ⟨(.cons (.one (.c .str)) .nil), (.cons (.one (.c .bool)) .nil)⟩
def F71 : Nat → List UInt8 → Option (Bool × Unit) := fun (n : Nat) (x : List UInt8) =>
  obind (F70 n (x, (8 : Int64), false)) fun (x_1 : Bool × Unit) => some (Prod.fst x_1, ())
theorem ok71 (n : Nat) : FunOK Try.prog ⟨71, sig71, F71 n⟩ :=
  fun_ok (hints := ⟨[], []⟩) (fuel := n) (c := Try.f71.body.getD .skip) (rs := Try.f71.results.toList) tt_ok mix (FsOK.cons (ok70 n) (FsOK.nil)) Try.func71 (by kernel_rfl) (by kernel_rfl) rfl (by kernel_rfl) rfl rfl (by kernel_rfl)
-- watchfire/lab.Value
def sig72 : Sig := ⟨(.cons (.one (.c .str)) .nil), (.cons (.one (.c .bool)) .nil)⟩
def F72 : Nat → List UInt8 → Option (Bool × Unit) := fun (n : Nat) (x : List UInt8) =>
  obind (F70 n (x, (16 : Int64), true)) fun (x_1 : Bool × Unit) => some (Prod.fst x_1, ())
theorem ok72 (n : Nat) : FunOK Try.prog ⟨72, sig72, F72 n⟩ :=
  fun_ok (hints := ⟨[], []⟩) (fuel := n) (c := Try.f72.body.getD .skip) (rs := Try.f72.results.toList) tt_ok mix (FsOK.cons (ok70 n) (FsOK.nil)) Try.func72 (by kernel_rfl) (by kernel_rfl) rfl (by kernel_rfl) rfl rfl (by kernel_rfl)
-- watchfire/lab.Check
def sig61 : Sig := ⟨(.cons (.one (.c (.ro (.cons .str (.cons .str .nil))))) .nil), (.cons (.one (.c (.int .i64))) .nil)⟩
def F61_J3767 : Arr
    [PT.list (CTs.cons CT.str (CTs.cons CT.str CTs.nil)), PT.list (CTs.cons CT.str (CTs.cons CT.str CTs.nil)),
      PT.int IntKind.i64, PT.int IntKind.i64]
    (Option (Int64 × Unit)) →
  List (List UInt8 × List UInt8) →
    Int64 → List (List UInt8 × List UInt8) → Int64 → Int64 → Bool → List UInt8 → List UInt8 → Option (Int64 × Unit) := fun
    (rec :
      Arr
        [PT.list (CTs.cons CT.str (CTs.cons CT.str CTs.nil)), PT.list (CTs.cons CT.str (CTs.cons CT.str CTs.nil)),
          PT.int IntKind.i64, PT.int IntKind.i64]
        (Option (Int64 × Unit)))
    (l_1 : List (List UInt8 × List UInt8)) (i : Int64) (t_3 : List (List UInt8 × List UInt8)) (t_1_1 t_2_1 : Int64)
    (t_3_1 : Bool) (p0 p1 : List UInt8) =>
  oite t_3_1 (some ((7 : Int64), ()))
    (oite (decide ((0 : Int64) < i))
      (obind (at? l_1 (Int64.toInt (i - (1 : Int64)))) fun (x_4 : List UInt8 × List UInt8) =>
        oite (!(bytesLt (Prod.fst x_4) p0 || Prod.fst x_4 == p0)) (some ((9 : Int64), ()))
          (rec l_1 t_3 t_1_1 (t_2_1 + (1 : Int64))))
      (rec l_1 t_3 t_1_1 (t_2_1 + (1 : Int64))))
def F61_L29 : Nat →
  Arr
      [PT.list (CTs.cons CT.str (CTs.cons CT.str CTs.nil)), PT.list (CTs.cons CT.str (CTs.cons CT.str CTs.nil)),
        PT.int IntKind.i64, PT.int IntKind.i64]
      (Option (Int64 × Unit)) →
    List (List UInt8 × List UInt8) → List (List UInt8 × List UInt8) → Int64 → Int64 → Option (Int64 × Unit) := fun (n : Nat)
    (rec :
      Arr
        [PT.list (CTs.cons CT.str (CTs.cons CT.str CTs.nil)), PT.list (CTs.cons CT.str (CTs.cons CT.str CTs.nil)),
          PT.int IntKind.i64, PT.int IntKind.i64]
        (Option (Int64 × Unit)))
    (l t : List (List UInt8 × List UInt8)) (t_1 t_2 : Int64) =>
  oite (decide (t_2 < t_1))
    (obind (at? t (Int64.toInt t_2)) fun (x_1 : List UInt8 × List UInt8) =>
      obind (F71 n (Prod.fst x_1)) fun (x_2 : Bool × Unit) =>
        oite (!Prod.fst x_2) (some ((8 : Int64), ()))
          (obind (F72 n (Prod.snd x_1)) fun (x_3 : Bool × Unit) =>
            oite (!Prod.fst x_3) (some ((8 : Int64), ()))
              (ojoinA (3767 : Nat)
                [PT.list (CTs.cons CT.str (CTs.cons CT.str CTs.nil)), PT.int IntKind.i64,
                  PT.list (CTs.cons CT.str (CTs.cons CT.str CTs.nil)), PT.int IntKind.i64, PT.int IntKind.i64, PT.bool,
                  PT.bytes, PT.bytes]
                (fun
                    (J :
                      Arr
                        [PT.list (CTs.cons CT.str (CTs.cons CT.str CTs.nil)), PT.int IntKind.i64,
                          PT.list (CTs.cons CT.str (CTs.cons CT.str CTs.nil)), PT.int IntKind.i64, PT.int IntKind.i64,
                          PT.bool, PT.bytes, PT.bytes]
                        (Option (Int64 × Unit))) =>
                  oite (decide ((0 : Int64) < t_2))
                    (obind (at? l (Int64.toInt (t_2 - (1 : Int64)))) fun (x_4 : List UInt8 × List UInt8) =>
                      J l t_2 t t_1 t_2 (Prod.fst x_4 == Prod.fst x_1) (Prod.fst x_1) (Prod.snd x_1))
                    (J l t_2 t t_1 t_2 false (Prod.fst x_1) (Prod.snd x_1)))
                (F61_J3767 rec))))
    (some ((0 : Int64), ()))
def F61_R29 : Nat →
  Nat →
    PT.T (PT.list (CTs.cons CT.str (CTs.cons CT.str CTs.nil))) →
      List (List UInt8 × List UInt8) → Int64 → Int64 → Option (Int64 × Unit) := fun (n : Nat) =>
  ofixA (29 : Nat)
    [PT.list (CTs.cons CT.str (CTs.cons CT.str CTs.nil)), PT.list (CTs.cons CT.str (CTs.cons CT.str CTs.nil)),
      PT.int IntKind.i64, PT.int IntKind.i64]
    (F61_L29 n)
def F61 : Nat → List (List UInt8 × List UInt8) → Option (Int64 × Unit) := fun (n : Nat) (x : List (List UInt8 × List UInt8)) =>
  oite (decide ((8 : Int64) < Int64.ofInt ↑(List.length x))) (some ((5 : Int64), ()))
    (F61_R29 n n x x (Int64.ofInt ↑(List.length x)) (0 : Int64))
theorem F61_R29_s (n : Nat) (m_ : Nat) : F61_R29 n (m_ + 1) = F61_L29 n (F61_R29 n m_) := rfl
theorem ok61 (n : Nat) : FunOK Try.prog ⟨61, sig61, F61 n⟩ :=
  fun_ok (hints := ⟨[(3767, ⟨[(0, .one (.ro (.cons .str (.cons .str .nil)))), (3, .one (.int .i64)), (4, .one (.own 1)), (8, .one (.ro (.cons .str (.cons .str .nil)))), (9, .one (.int .i64)), (10, .one (.int .i64)), (26, .one (.bool))], [(1, .cells [.str, .str])], 2⟩)], [(29, ⟨[(0, .one (.ro (.cons .str (.cons .str .nil)))), (8, .one (.ro (.cons .str (.cons .str .nil)))), (9, .one (.int .i64)), (10, .one (.int .i64))], [], 1⟩)]⟩) (fuel := n) (c := Try.f61.body.getD .skip) (rs := Try.f61.results.toList) tt_ok mix (FsOK.cons (ok71 n) (FsOK.cons (ok72 n) (FsOK.nil))) Try.func61 (by kernel_rfl) (by kernel_rfl) rfl (by kernel_rfl) rfl rfl (by kernel_rfl)
-- watchfire/item.event
def sig38 : Sig := ⟨(.cons (.agg (.cons (.int .u8) (.cons (.int .u64) (.cons (.int .u64) (.cons .str (.cons (.ro (.cons .str (.cons .str .nil))) (.cons (.int .u8) (.cons (.int .u8) (.cons (.int .i64) (.cons (.int .u8) .nil)))))))))) .nil), (.cons (.one (.c (.int .i64))) .nil)⟩
def F38_J111 : Nat →
  Bool →
    UInt8 →
      UInt64 →
        UInt64 → List UInt8 → List (List UInt8 × List UInt8) → UInt8 → UInt8 → Int64 → UInt8 → Option (Int64 × Unit) := fun (n : Nat) (t : Bool) (v0 : UInt8) (v1 v2 : UInt64) (v3 : List UInt8) (v4 : List (List UInt8 × List UInt8))
    (v5 v6 : UInt8) (v7 : Int64) (v8 : UInt8) =>
  oite t (some ((12 : Int64), ()))
    (obind (F23 n v3) fun (x_4 : Bool × Unit) =>
      oite (!(!decide (v8 = (0 : UInt8))) == Prod.fst x_4) (some ((27 : Int64), ()))
        (obind (F61 n v4) fun (x_5 : Int64 × Unit) => some (Prod.fst x_5, ())))
def F38 : Nat →
  UInt8 × UInt64 × UInt64 × List UInt8 × List (List UInt8 × List UInt8) × UInt8 × UInt8 × Int64 × UInt8 →
    Option (Int64 × Unit) := fun (n : Nat)
    (x : UInt8 × UInt64 × UInt64 × List UInt8 × List (List UInt8 × List UInt8) × UInt8 × UInt8 × Int64 × UInt8) =>
  oite (decide ((32 : UInt8) ≤ Prod.fst x)) (some ((6 : Int64), ()))
    (oite (decide (Prod.fst (Prod.snd x) < (1 : UInt64))) (some ((6 : Int64), ()))
      (obind (F59 n (Prod.fst (Prod.snd x))) fun (x_1 : Bool × Unit) =>
        oite (!Prod.fst x_1) (some ((6 : Int64), ()))
          (obind (F59 n (Prod.fst (Prod.snd (Prod.snd x)))) fun (x_2 : Bool × Unit) =>
            oite (!Prod.fst x_2) (some ((6 : Int64), ()))
              (oite
                (decide ((7 : UInt8) < Prod.fst (Prod.snd (Prod.snd (Prod.snd (Prod.snd (Prod.snd (Prod.snd x))))))))
                (some ((6 : Int64), ()))
                (obind (F60 n (Prod.fst (Prod.snd (Prod.snd (Prod.snd x))))) fun (x_3 : Bool × Unit) =>
                  oite (!Prod.fst x_3) (some ((8 : Int64), ()))
                    (ojoinA (111 : Nat)
                      [PT.bool, PT.int IntKind.u8, PT.int IntKind.u64, PT.int IntKind.u64, PT.bytes,
                        PT.list (CTs.cons CT.str (CTs.cons CT.str CTs.nil)), PT.int IntKind.u8, PT.int IntKind.u8,
                        PT.int IntKind.i64, PT.int IntKind.u8]
                      (fun
                          (J :
                            Arr
                              [PT.bool, PT.int IntKind.u8, PT.int IntKind.u64, PT.int IntKind.u64, PT.bytes,
                                PT.list (CTs.cons CT.str (CTs.cons CT.str CTs.nil)), PT.int IntKind.u8,
                                PT.int IntKind.u8, PT.int IntKind.i64, PT.int IntKind.u8]
                              (Option (Int64 × Unit))) =>
                        oite (!decide (Prod.fst (Prod.snd (Prod.snd (Prod.snd (Prod.snd (Prod.snd x))))) = (0 : UInt8)))
                          (oite
                            (!decide (Prod.fst (Prod.snd (Prod.snd (Prod.snd (Prod.snd (Prod.snd x))))) = (2 : UInt8)))
                            (J true (Prod.fst x) (Prod.fst (Prod.snd x)) (Prod.fst (Prod.snd (Prod.snd x)))
                              (Prod.fst (Prod.snd (Prod.snd (Prod.snd x))))
                              (Prod.fst (Prod.snd (Prod.snd (Prod.snd (Prod.snd x)))))
                              (Prod.fst (Prod.snd (Prod.snd (Prod.snd (Prod.snd (Prod.snd x))))))
                              (Prod.fst (Prod.snd (Prod.snd (Prod.snd (Prod.snd (Prod.snd (Prod.snd x)))))))
                              (Prod.fst (Prod.snd (Prod.snd (Prod.snd (Prod.snd (Prod.snd (Prod.snd (Prod.snd x))))))))
                              (Prod.snd (Prod.snd (Prod.snd (Prod.snd (Prod.snd (Prod.snd (Prod.snd (Prod.snd x)))))))))
                            (J
                              (decide
                                ((2 : UInt8) <
                                  Prod.snd
                                    (Prod.snd (Prod.snd (Prod.snd (Prod.snd (Prod.snd (Prod.snd (Prod.snd x)))))))))
                              (Prod.fst x) (Prod.fst (Prod.snd x)) (Prod.fst (Prod.snd (Prod.snd x)))
                              (Prod.fst (Prod.snd (Prod.snd (Prod.snd x))))
                              (Prod.fst (Prod.snd (Prod.snd (Prod.snd (Prod.snd x)))))
                              (Prod.fst (Prod.snd (Prod.snd (Prod.snd (Prod.snd (Prod.snd x))))))
                              (Prod.fst (Prod.snd (Prod.snd (Prod.snd (Prod.snd (Prod.snd (Prod.snd x)))))))
                              (Prod.fst (Prod.snd (Prod.snd (Prod.snd (Prod.snd (Prod.snd (Prod.snd (Prod.snd x))))))))
                              (Prod.snd
                                (Prod.snd (Prod.snd (Prod.snd (Prod.snd (Prod.snd (Prod.snd (Prod.snd x))))))))))
                          (J
                            (decide
                              ((2 : UInt8) <
                                Prod.snd
                                  (Prod.snd (Prod.snd (Prod.snd (Prod.snd (Prod.snd (Prod.snd (Prod.snd x)))))))))
                            (Prod.fst x) (Prod.fst (Prod.snd x)) (Prod.fst (Prod.snd (Prod.snd x)))
                            (Prod.fst (Prod.snd (Prod.snd (Prod.snd x))))
                            (Prod.fst (Prod.snd (Prod.snd (Prod.snd (Prod.snd x)))))
                            (Prod.fst (Prod.snd (Prod.snd (Prod.snd (Prod.snd (Prod.snd x))))))
                            (Prod.fst (Prod.snd (Prod.snd (Prod.snd (Prod.snd (Prod.snd (Prod.snd x)))))))
                            (Prod.fst (Prod.snd (Prod.snd (Prod.snd (Prod.snd (Prod.snd (Prod.snd (Prod.snd x))))))))
                            (Prod.snd (Prod.snd (Prod.snd (Prod.snd (Prod.snd (Prod.snd (Prod.snd (Prod.snd x))))))))))
                      (F38_J111 n)))))))
theorem ok38 (n : Nat) : FunOK Try.prog ⟨38, sig38, F38 n⟩ :=
  fun_ok (hints := ⟨[(111, ⟨[(1, .one (.own 1)), (34, .one (.bool))], [(1, .cells [.int .u8, .int .u64, .int .u64, .str, .ro (.cons .str (.cons .str .nil)), .int .u8, .int .u8, .int .i64, .int .u8])], 2⟩)], []⟩) (fuel := n) (c := Try.f38.body.getD .skip) (rs := Try.f38.results.toList) tt_ok mix (FsOK.cons (ok59 n) (FsOK.cons (ok60 n) (FsOK.cons (ok23 n) (FsOK.cons (ok61 n) (FsOK.nil))))) Try.func38 (by kernel_rfl) (by kernel_rfl) rfl (by kernel_rfl) rfl rfl (by kernel_rfl)
-- watchfire/item.Check
def sig21 : Sig := ⟨(.cons (.agg (.cons .bool (.cons (.int .u8) (.cons (.int .u64) (.cons (.int .u64) (.cons .str (.cons (.ro (.cons .str (.cons .str .nil))) (.cons (.int .u8) (.cons (.int .u8) (.cons (.int .i64) (.cons (.int .u8) (.cons (.int .u8) (.cons (.int .u64) (.cons (.int .u64) .nil)))))))))))))) .nil), (.cons (.one (.c (.int .i64))) .nil)⟩
def F21 : Nat →
  Bool ×
      UInt8 ×
        UInt64 ×
          UInt64 ×
            List UInt8 × List (List UInt8 × List UInt8) × UInt8 × UInt8 × Int64 × UInt8 × UInt8 × UInt64 × UInt64 →
    Option (Int64 × Unit) := fun (n : Nat)
    (x :
      Bool ×
        UInt8 ×
          UInt64 ×
            UInt64 ×
              List UInt8 × List (List UInt8 × List UInt8) × UInt8 × UInt8 × Int64 × UInt8 × UInt8 × UInt64 × UInt64) =>
  oite (Prod.fst x)
    (obind
      (F37 n
        (Prod.fst
            (Prod.snd
              (Prod.snd (Prod.snd (Prod.snd (Prod.snd (Prod.snd (Prod.snd (Prod.snd (Prod.snd (Prod.snd x)))))))))),
          Prod.fst
            (Prod.snd
              (Prod.snd
                (Prod.snd (Prod.snd (Prod.snd (Prod.snd (Prod.snd (Prod.snd (Prod.snd (Prod.snd (Prod.snd x))))))))))),
          Prod.snd
            (Prod.snd
              (Prod.snd
                (Prod.snd (Prod.snd (Prod.snd (Prod.snd (Prod.snd (Prod.snd (Prod.snd (Prod.snd (Prod.snd x)))))))))))))
      fun (x_1 : Int64 × Unit) => some (Prod.fst x_1, ()))
    (obind
      (F38 n
        (Prod.fst (Prod.snd x), Prod.fst (Prod.snd (Prod.snd x)), Prod.fst (Prod.snd (Prod.snd (Prod.snd x))),
          Prod.fst (Prod.snd (Prod.snd (Prod.snd (Prod.snd x)))),
          Prod.fst (Prod.snd (Prod.snd (Prod.snd (Prod.snd (Prod.snd x))))),
          Prod.fst (Prod.snd (Prod.snd (Prod.snd (Prod.snd (Prod.snd (Prod.snd x)))))),
          Prod.fst (Prod.snd (Prod.snd (Prod.snd (Prod.snd (Prod.snd (Prod.snd (Prod.snd x))))))),
          Prod.fst (Prod.snd (Prod.snd (Prod.snd (Prod.snd (Prod.snd (Prod.snd (Prod.snd (Prod.snd x)))))))),
          Prod.fst
            (Prod.snd (Prod.snd (Prod.snd (Prod.snd (Prod.snd (Prod.snd (Prod.snd (Prod.snd (Prod.snd x)))))))))))
      fun (x_1 : Int64 × Unit) => some (Prod.fst x_1, ()))
theorem ok21 (n : Nat) : FunOK Try.prog ⟨21, sig21, F21 n⟩ :=
  fun_ok (hints := ⟨[], []⟩) (fuel := n) (c := Try.f21.body.getD .skip) (rs := Try.f21.results.toList) tt_ok mix (FsOK.cons (ok37 n) (FsOK.cons (ok38 n) (FsOK.nil))) Try.func21 (by kernel_rfl) (by kernel_rfl) rfl (by kernel_rfl) rfl rfl (by kernel_rfl)
-- watchfire/watchfireref01.number
def sig39 : Sig := ⟨(.cons (.one (.c (.int .u64))) .nil), (.cons (.one (.c .bool)) .nil)⟩
def F39 : Nat → UInt64 → Option (Bool × Unit) := fun (n : Nat) (x : UInt64) => some (decide (x ≤ (1099511627776 : UInt64)), ())
theorem ok39 (n : Nat) : FunOK Try.prog ⟨39, sig39, F39 n⟩ :=
  fun_ok (hints := ⟨[], []⟩) (fuel := n) (c := Try.f39.body.getD .skip) (rs := Try.f39.results.toList) tt_ok mix (FsOK.nil) Try.func39 (by kernel_rfl) (by kernel_rfl) rfl (by kernel_rfl) rfl rfl (by kernel_rfl)
-- watchfire/watchfireref01.small
def sig63 : Sig := ⟨(.cons (.one (.c (.int .u8))) .nil), (.cons (.one (.c .bool)) .nil)⟩
def F63 : Nat → UInt8 → Option (Bool × Unit) := fun (n : Nat) (x : UInt8) =>
  oite (decide ((97 : UInt8) ≤ x)) (some (decide (x ≤ (122 : UInt8)), ())) (some (false, ()))
theorem ok63 (n : Nat) : FunOK Try.prog ⟨63, sig63, F63 n⟩ :=
  fun_ok (hints := ⟨[], []⟩) (fuel := n) (c := Try.f63.body.getD .skip) (rs := Try.f63.results.toList) tt_ok mix (FsOK.nil) Try.func63 (by kernel_rfl) (by kernel_rfl) rfl (by kernel_rfl) rfl rfl (by kernel_rfl)
-- watchfire/watchfireref01.Value
def sig62 : Sig := ⟨(.cons (.one (.c .str)) .nil), (.cons (.one (.c .bool)) .nil)⟩
def F62_J53 : Arr [PT.bytes, PT.int IntKind.i64] (Option (Bool × Unit)) → List UInt8 → Int64 → Option (Bool × Unit) := fun (rec : Arr [PT.bytes, PT.int IntKind.i64] (Option (Bool × Unit))) (s_1 : List UInt8) (i_1 : Int64) =>
  rec s_1 (i_1 + (1 : Int64))
def F62_L13 : Nat → Arr [PT.bytes, PT.int IntKind.i64] (Option (Bool × Unit)) → List UInt8 → Int64 → Option (Bool × Unit) := fun (n : Nat) (rec : Arr [PT.bytes, PT.int IntKind.i64] (Option (Bool × Unit))) (s : List UInt8) (i : Int64) =>
  oite (decide (i < Int64.ofInt ↑(List.length s)))
    (ojoinA (53 : Nat) [PT.bytes, PT.int IntKind.i64]
      (fun (J : Arr [PT.bytes, PT.int IntKind.i64] (Option (Bool × Unit))) =>
        obind (at? s (Int64.toInt i)) fun (x_1 : UInt8) =>
          obind (F63 n x_1) fun (x_2 : Bool × Unit) =>
            oite (!Prod.fst x_2)
              (oite (decide ((48 : UInt8) ≤ x_1))
                (oite (!decide (x_1 ≤ (57 : UInt8)))
                  (oite (!decide (x_1 = (46 : UInt8)))
                    (oite (!decide (x_1 = (95 : UInt8)))
                      (oite (!decide (x_1 = (45 : UInt8))) (some (false, ())) (J s i)) (J s i))
                    (J s i))
                  (J s i))
                (oite (!decide (x_1 = (46 : UInt8)))
                  (oite (!decide (x_1 = (95 : UInt8)))
                    (oite (!decide (x_1 = (45 : UInt8))) (some (false, ())) (J s i)) (J s i))
                  (J s i)))
              (J s i))
      (F62_J53 rec))
    (oite (decide ((1 : Int64) ≤ Int64.ofInt ↑(List.length s)))
      (some (decide (Int64.ofInt ↑(List.length s) ≤ (16 : Int64)), ())) (some (false, ())))
def F62_R13 : Nat → Nat → PT.T PT.bytes → Int64 → Option (Bool × Unit) := fun (n : Nat) => ofixA (13 : Nat) [PT.bytes, PT.int IntKind.i64] (F62_L13 n)
def F62 : Nat → List UInt8 → Option (Bool × Unit) := fun (n : Nat) (x : List UInt8) => F62_R13 n n x (0 : Int64)
theorem F62_R13_s (n : Nat) (m_ : Nat) : F62_R13 n (m_ + 1) = F62_L13 n (F62_R13 n m_) := rfl
theorem ok62 (n : Nat) : FunOK Try.prog ⟨62, sig62, F62 n⟩ :=
  fun_ok (hints := ⟨[(53, ⟨[(0, .one (.str)), (3, .one (.int .i64))], [], 1⟩)], [(13, ⟨[(0, .one (.str)), (3, .one (.int .i64))], [], 1⟩)]⟩) (fuel := n) (c := Try.f62.body.getD .skip) (rs := Try.f62.results.toList) tt_ok mix (FsOK.cons (ok63 n) (FsOK.nil)) Try.func62 (by kernel_rfl) (by kernel_rfl) rfl (by kernel_rfl) rfl rfl (by kernel_rfl)
-- watchfire/watchfireref01.Name
def sig40 : Sig := ⟨(.cons (.one (.c .str)) .nil), (.cons (.one (.c .bool)) .nil)⟩
def F40 : Nat → List UInt8 → Option (Bool × Unit) := fun (n : Nat) (x : List UInt8) =>
  obind (F62 n x) fun (x_1 : Bool × Unit) =>
    oite (Prod.fst x_1)
      (oite (decide (Int64.ofInt ↑(List.length x) ≤ (12 : Int64)))
        (obind (at? x (Int64.toInt (0 : Int64))) fun (x_2 : UInt8) =>
          obind (F63 n x_2) fun (x_3 : Bool × Unit) => some (Prod.fst x_3, ()))
        (some (false, ())))
      (some (false, ()))
theorem ok40 (n : Nat) : FunOK Try.prog ⟨40, sig40, F40 n⟩ :=
  fun_ok (hints := ⟨[], []⟩) (fuel := n) (c := Try.f40.body.getD .skip) (rs := Try.f40.results.toList) tt_ok mix (FsOK.cons (ok62 n) (FsOK.cons (ok63 n) (FsOK.nil))) Try.func40 (by kernel_rfl) (by kernel_rfl) rfl (by kernel_rfl) rfl rfl (by kernel_rfl)
-- watchfire/watchfireref01.Own
def sig24 : Sig := ⟨(.cons (.one (.c .str)) .nil), (.cons (.one (.c .bool)) .nil)⟩
def F24 : Nat → List UInt8 → Option (Bool × Unit) := fun (n : Nat) (x : List UInt8) =>
  oite (decide ((4 : Int64) ≤ Int64.ofInt ↑(List.length x)))
    (oite (Nat.ble (Int.toNat (Int64.toInt (4 : Int64))) (List.length x) && true)
      (some
        (List.drop (0 : Nat) (List.take (Int.toNat (Int64.toInt (4 : Int64))) x) ==
            [(111 : UInt8), (119 : UInt8), (110 : UInt8), (46 : UInt8)],
          ()))
      none)
    (some (false, ()))
theorem ok24 (n : Nat) : FunOK Try.prog ⟨24, sig24, F24 n⟩ :=
  fun_ok (hints := ⟨[], []⟩) (fuel := n) (c := Try.f24.body.getD .skip) (rs := Try.f24.results.toList) tt_ok mix (FsOK.nil) Try.func24 (by kernel_rfl) (by kernel_rfl) rfl (by kernel_rfl) rfl rfl (by kernel_rfl)
-- watchfire/watchfireref01.Key
def sig64 : Sig := ⟨(.cons (.one (.c .str)) .nil), (.cons (.one (.c .bool)) .nil)⟩
def F64_L13 : Nat → Arr [PT.bytes, PT.int IntKind.i64] (Option (Bool × Unit)) → List UInt8 → Int64 → Option (Bool × Unit) := fun (n : Nat) (rec : Arr [PT.bytes, PT.int IntKind.i64] (Option (Bool × Unit))) (s : List UInt8) (i : Int64) =>
  oite (decide (i < Int64.ofInt ↑(List.length s)))
    (obind (at? s (Int64.toInt i)) fun (x_1 : UInt8) =>
      obind (F63 n x_1) fun (x_2 : Bool × Unit) =>
        oite (!Prod.fst x_2) (some (false, ())) (rec s (i + (1 : Int64))))
    (oite (decide ((1 : Int64) ≤ Int64.ofInt ↑(List.length s)))
      (some (decide (Int64.ofInt ↑(List.length s) ≤ (8 : Int64)), ())) (some (false, ())))
def F64_R13 : Nat → Nat → PT.T PT.bytes → Int64 → Option (Bool × Unit) := fun (n : Nat) => ofixA (13 : Nat) [PT.bytes, PT.int IntKind.i64] (F64_L13 n)
def F64 : Nat → List UInt8 → Option (Bool × Unit) := fun (n : Nat) (x : List UInt8) => F64_R13 n n x (0 : Int64)
theorem F64_R13_s (n : Nat) (m_ : Nat) : F64_R13 n (m_ + 1) = F64_L13 n (F64_R13 n m_) := rfl
theorem ok64 (n : Nat) : FunOK Try.prog ⟨64, sig64, F64 n⟩ :=
  fun_ok (hints := ⟨[], [(13, ⟨[(0, .one (.str)), (3, .one (.int .i64))], [], 1⟩)]⟩) (fuel := n) (c := Try.f64.body.getD .skip) (rs := Try.f64.results.toList) tt_ok mix (FsOK.cons (ok63 n) (FsOK.nil)) Try.func64 (by kernel_rfl) (by kernel_rfl) rfl (by kernel_rfl) rfl rfl (by kernel_rfl)
-- watchfire/watchfireref01.Check
def sig41 : Sig := ⟨(.cons (.one (.c (.ro (.cons .str (.cons .str .nil))))) .nil), (.cons (.one (.c (.int .i64))) .nil)⟩
def F41_J469 : Arr [PT.list (CTs.cons CT.str (CTs.cons CT.str CTs.nil)), PT.int IntKind.i64] (Option (Int64 × Unit)) →
  List (List UInt8 × List UInt8) → Int64 → Option (Int64 × Unit) := fun (rec : Arr [PT.list (CTs.cons CT.str (CTs.cons CT.str CTs.nil)), PT.int IntKind.i64] (Option (Int64 × Unit)))
    (l_1 : List (List UInt8 × List UInt8)) (i_1 : Int64) =>
  oite (decide ((0 : Int64) < i_1))
    (obind (at? l_1 (Int64.toInt (i_1 - (1 : Int64)))) fun (x_5 : List UInt8 × List UInt8) =>
      obind (at? l_1 (Int64.toInt i_1)) fun (x_6 : List UInt8 × List UInt8) =>
        oite (!(bytesLt (Prod.fst x_5) (Prod.fst x_6) || Prod.fst x_5 == Prod.fst x_6)) (some ((9 : Int64), ()))
          (rec l_1 (i_1 + (1 : Int64))))
    (rec l_1 (i_1 + (1 : Int64)))
def F41_L29 : Nat →
  Arr [PT.list (CTs.cons CT.str (CTs.cons CT.str CTs.nil)), PT.int IntKind.i64] (Option (Int64 × Unit)) →
    List (List UInt8 × List UInt8) → Int64 → Option (Int64 × Unit) := fun (n : Nat)
    (rec : Arr [PT.list (CTs.cons CT.str (CTs.cons CT.str CTs.nil)), PT.int IntKind.i64] (Option (Int64 × Unit)))
    (l : List (List UInt8 × List UInt8)) (i : Int64) =>
  oite (decide (i < Int64.ofInt ↑(List.length l)))
    (obind (at? l (Int64.toInt i)) fun (x_1 : List UInt8 × List UInt8) =>
      obind (F64 n (Prod.fst x_1)) fun (x_2 : Bool × Unit) =>
        oite (!Prod.fst x_2) (some ((8 : Int64), ()))
          (obind (at? l (Int64.toInt i)) fun (x_3 : List UInt8 × List UInt8) =>
            obind (F62 n (Prod.snd x_3)) fun (x_4 : Bool × Unit) =>
              oite (!Prod.fst x_4) (some ((8 : Int64), ()))
                (ojoinA (469 : Nat) [PT.list (CTs.cons CT.str (CTs.cons CT.str CTs.nil)), PT.int IntKind.i64]
                  (fun
                      (J :
                        Arr [PT.list (CTs.cons CT.str (CTs.cons CT.str CTs.nil)), PT.int IntKind.i64]
                          (Option (Int64 × Unit))) =>
                    oite (decide ((0 : Int64) < i))
                      (obind (at? l (Int64.toInt (i - (1 : Int64)))) fun (x_5 : List UInt8 × List UInt8) =>
                        obind (at? l (Int64.toInt i)) fun (x_6 : List UInt8 × List UInt8) =>
                          oite (Prod.fst x_5 == Prod.fst x_6) (some ((7 : Int64), ())) (J l i))
                      (J l i))
                  (F41_J469 rec))))
    (some ((0 : Int64), ()))
def F41_R29 : Nat → Nat → PT.T (PT.list (CTs.cons CT.str (CTs.cons CT.str CTs.nil))) → Int64 → Option (Int64 × Unit) := fun (n : Nat) => ofixA (29 : Nat) [PT.list (CTs.cons CT.str (CTs.cons CT.str CTs.nil)), PT.int IntKind.i64] (F41_L29 n)
def F41 : Nat → List (List UInt8 × List UInt8) → Option (Int64 × Unit) := fun (n : Nat) (x : List (List UInt8 × List UInt8)) =>
  oite (decide ((8 : Int64) < Int64.ofInt ↑(List.length x))) (some ((5 : Int64), ()))
    (F41_R29 n n x (0 : Int64))
theorem F41_R29_s (n : Nat) (m_ : Nat) : F41_R29 n (m_ + 1) = F41_L29 n (F41_R29 n m_) := rfl
theorem ok41 (n : Nat) : FunOK Try.prog ⟨41, sig41, F41 n⟩ :=
  fun_ok (hints := ⟨[(469, ⟨[(0, .one (.ro (.cons .str (.cons .str .nil)))), (3, .one (.int .i64))], [], 1⟩)], [(29, ⟨[(0, .one (.ro (.cons .str (.cons .str .nil)))), (3, .one (.int .i64))], [], 1⟩)]⟩) (fuel := n) (c := Try.f41.body.getD .skip) (rs := Try.f41.results.toList) tt_ok mix (FsOK.cons (ok64 n) (FsOK.cons (ok62 n) (FsOK.nil))) Try.func41 (by kernel_rfl) (by kernel_rfl) rfl (by kernel_rfl) rfl rfl (by kernel_rfl)
-- watchfire/watchfireref01.Item
def sig22 : Sig := ⟨(.cons (.agg (.cons .bool (.cons (.int .u8) (.cons (.int .u64) (.cons (.int .u64) (.cons .str (.cons (.ro (.cons .str (.cons .str .nil))) (.cons (.int .u8) (.cons (.int .u8) (.cons (.int .i64) (.cons (.int .u8) (.cons (.int .u8) (.cons (.int .u64) (.cons (.int .u64) .nil)))))))))))))) .nil), (.cons (.one (.c (.int .i64))) .nil)⟩
def F22_J127 : Nat →
  UInt8 →
    UInt64 →
      UInt64 → List UInt8 → List (List UInt8 × List UInt8) → UInt8 → UInt8 → Int64 → UInt8 → Option (Int64 × Unit) := fun (n : Nat) (v0 : UInt8) (v1 v2 : UInt64) (v3 : List UInt8) (v4 : List (List UInt8 × List UInt8)) (v5 v6 : UInt8)
    (v7 : Int64) (v8 : UInt8) =>
  obind (F24 n v3) fun (x_4 : Bool × Unit) =>
    oite (!decide ((0 : UInt8) < v8) == Prod.fst x_4) (some ((27 : Int64), ()))
      (obind (F41 n v4) fun (x_5 : Int64 × Unit) => some (Prod.fst x_5, ()))
def F22 : Nat →
  Bool ×
      UInt8 ×
        UInt64 ×
          UInt64 ×
            List UInt8 × List (List UInt8 × List UInt8) × UInt8 × UInt8 × Int64 × UInt8 × UInt8 × UInt64 × UInt64 →
    Option (Int64 × Unit) := fun (n : Nat)
    (x :
      Bool ×
        UInt8 ×
          UInt64 ×
            UInt64 ×
              List UInt8 × List (List UInt8 × List UInt8) × UInt8 × UInt8 × Int64 × UInt8 × UInt8 × UInt64 × UInt64) =>
  oite (Prod.fst x)
    (oite
      (decide
        ((31 : UInt8) <
          Prod.fst
            (Prod.snd
              (Prod.snd (Prod.snd (Prod.snd (Prod.snd (Prod.snd (Prod.snd (Prod.snd (Prod.snd (Prod.snd x))))))))))))
      (some ((6 : Int64), ()))
      (oite
        (decide
          (Prod.fst
              (Prod.snd
                (Prod.snd
                  (Prod.snd
                    (Prod.snd (Prod.snd (Prod.snd (Prod.snd (Prod.snd (Prod.snd (Prod.snd (Prod.snd x))))))))))) =
            (0 : UInt64)))
        (some ((6 : Int64), ()))
        (oite
          (decide
            (Prod.snd
                (Prod.snd
                  (Prod.snd
                    (Prod.snd
                      (Prod.snd (Prod.snd (Prod.snd (Prod.snd (Prod.snd (Prod.snd (Prod.snd (Prod.snd x))))))))))) <
              Prod.fst
                (Prod.snd
                  (Prod.snd
                    (Prod.snd
                      (Prod.snd (Prod.snd (Prod.snd (Prod.snd (Prod.snd (Prod.snd (Prod.snd (Prod.snd x)))))))))))))
          (some ((6 : Int64), ()))
          (obind
            (F39 n
              (Prod.snd
                (Prod.snd
                  (Prod.snd
                    (Prod.snd
                      (Prod.snd (Prod.snd (Prod.snd (Prod.snd (Prod.snd (Prod.snd (Prod.snd (Prod.snd x)))))))))))))
            fun (x_1 : Bool × Unit) =>
            oite (!Prod.fst x_1) (some ((6 : Int64), ())) (some ((0 : Int64), ()))))))
    (oite (decide ((31 : UInt8) < Prod.fst (Prod.snd x))) (some ((6 : Int64), ()))
      (oite (decide (Prod.fst (Prod.snd (Prod.snd x)) = (0 : UInt64))) (some ((6 : Int64), ()))
        (obind (F39 n (Prod.fst (Prod.snd (Prod.snd x)))) fun (x_1 : Bool × Unit) =>
          oite (!Prod.fst x_1) (some ((6 : Int64), ()))
            (obind (F39 n (Prod.fst (Prod.snd (Prod.snd (Prod.snd x))))) fun (x_2 : Bool × Unit) =>
              oite (!Prod.fst x_2) (some ((6 : Int64), ()))
                (oite
                  (decide
                    ((7 : UInt8) <
                      Prod.fst (Prod.snd (Prod.snd (Prod.snd (Prod.snd (Prod.snd (Prod.snd (Prod.snd x)))))))))
                  (some ((6 : Int64), ()))
                  (obind (F40 n (Prod.fst (Prod.snd (Prod.snd (Prod.snd (Prod.snd x)))))) fun (x_3 : Bool × Unit) =>
                    oite (!Prod.fst x_3) (some ((8 : Int64), ()))
                      (ojoinA (127 : Nat)
                        [PT.int IntKind.u8, PT.int IntKind.u64, PT.int IntKind.u64, PT.bytes,
                          PT.list (CTs.cons CT.str (CTs.cons CT.str CTs.nil)), PT.int IntKind.u8, PT.int IntKind.u8,
                          PT.int IntKind.i64, PT.int IntKind.u8]
                        (fun
                            (J :
                              Arr
                                [PT.int IntKind.u8, PT.int IntKind.u64, PT.int IntKind.u64, PT.bytes,
                                  PT.list (CTs.cons CT.str (CTs.cons CT.str CTs.nil)), PT.int IntKind.u8,
                                  PT.int IntKind.u8, PT.int IntKind.i64, PT.int IntKind.u8]
                                (Option (Int64 × Unit))) =>
                          oite
                            (!decide
                                (Prod.fst (Prod.snd (Prod.snd (Prod.snd (Prod.snd (Prod.snd (Prod.snd x)))))) =
                                  (0 : UInt8)))
                            (oite
                              (!decide
                                  (Prod.fst (Prod.snd (Prod.snd (Prod.snd (Prod.snd (Prod.snd (Prod.snd x)))))) =
                                    (2 : UInt8)))
                              (some ((12 : Int64), ()))
                              (oite
                                (decide
                                  ((2 : UInt8) <
                                    Prod.fst
                                      (Prod.snd
                                        (Prod.snd
                                          (Prod.snd
                                            (Prod.snd (Prod.snd (Prod.snd (Prod.snd (Prod.snd (Prod.snd x)))))))))))
                                (some ((12 : Int64), ()))
                                (J (Prod.fst (Prod.snd x)) (Prod.fst (Prod.snd (Prod.snd x)))
                                  (Prod.fst (Prod.snd (Prod.snd (Prod.snd x))))
                                  (Prod.fst (Prod.snd (Prod.snd (Prod.snd (Prod.snd x)))))
                                  (Prod.fst (Prod.snd (Prod.snd (Prod.snd (Prod.snd (Prod.snd x))))))
                                  (Prod.fst (Prod.snd (Prod.snd (Prod.snd (Prod.snd (Prod.snd (Prod.snd x)))))))
                                  (Prod.fst
                                    (Prod.snd (Prod.snd (Prod.snd (Prod.snd (Prod.snd (Prod.snd (Prod.snd x))))))))
                                  (Prod.fst
                                    (Prod.snd
                                      (Prod.snd (Prod.snd (Prod.snd (Prod.snd (Prod.snd (Prod.snd (Prod.snd x)))))))))
                                  (Prod.fst
                                    (Prod.snd
                                      (Prod.snd
                                        (Prod.snd
                                          (Prod.snd (Prod.snd (Prod.snd (Prod.snd (Prod.snd (Prod.snd x)))))))))))))
                            (oite
                              (decide
                                ((2 : UInt8) <
                                  Prod.fst
                                    (Prod.snd
                                      (Prod.snd
                                        (Prod.snd
                                          (Prod.snd (Prod.snd (Prod.snd (Prod.snd (Prod.snd (Prod.snd x)))))))))))
                              (some ((12 : Int64), ()))
                              (J (Prod.fst (Prod.snd x)) (Prod.fst (Prod.snd (Prod.snd x)))
                                (Prod.fst (Prod.snd (Prod.snd (Prod.snd x))))
                                (Prod.fst (Prod.snd (Prod.snd (Prod.snd (Prod.snd x)))))
                                (Prod.fst (Prod.snd (Prod.snd (Prod.snd (Prod.snd (Prod.snd x))))))
                                (Prod.fst (Prod.snd (Prod.snd (Prod.snd (Prod.snd (Prod.snd (Prod.snd x)))))))
                                (Prod.fst
                                  (Prod.snd (Prod.snd (Prod.snd (Prod.snd (Prod.snd (Prod.snd (Prod.snd x))))))))
                                (Prod.fst
                                  (Prod.snd
                                    (Prod.snd (Prod.snd (Prod.snd (Prod.snd (Prod.snd (Prod.snd (Prod.snd x)))))))))
                                (Prod.fst
                                  (Prod.snd
                                    (Prod.snd
                                      (Prod.snd
                                        (Prod.snd (Prod.snd (Prod.snd (Prod.snd (Prod.snd (Prod.snd x)))))))))))))
                        (F22_J127 n))))))))
theorem ok22 (n : Nat) : FunOK Try.prog ⟨22, sig22, F22 n⟩ :=
  fun_ok (hints := ⟨[(127, ⟨[(5, .one (.own 1))], [(1, .cells [.int .u8, .int .u64, .int .u64, .str, .ro (.cons .str (.cons .str .nil)), .int .u8, .int .u8, .int .i64, .int .u8])], 2⟩)], []⟩) (fuel := n) (c := Try.f22.body.getD .skip) (rs := Try.f22.results.toList) tt_ok mix (FsOK.cons (ok39 n) (FsOK.cons (ok40 n) (FsOK.cons (ok24 n) (FsOK.cons (ok41 n) (FsOK.nil))))) Try.func22 (by kernel_rfl) (by kernel_rfl) rfl (by kernel_rfl) rfl rfl (by kernel_rfl)
-- watchfire/watchfirelaw04.ItemChecks
def sig5 : Sig := ⟨(.cons (.agg (.cons .bool (.cons (.int .u8) (.cons (.int .u64) (.cons (.int .u64) (.cons .str (.cons (.ro (.cons .str (.cons .str .nil))) (.cons (.int .u8) (.cons (.int .u8) (.cons (.int .i64) (.cons (.int .u8) (.cons (.int .u8) (.cons (.int .u64) (.cons (.int .u64) .nil)))))))))))))) (.cons (.agg (.cons .bool (.cons (.int .u8) (.cons (.int .u8) (.cons (.int .u8) (.cons (.int .u16) (.cons (.int .u16) (.cons (.int .u16) (.cons (.int .u8) (.cons (.int .u8) (.cons (.int .u8) (.cons .bool .nil)))))))))))) .nil)), (.cons (.one (.c .bool)) .nil)⟩
def F5 : Nat →
  (Bool ×
        UInt8 ×
          UInt64 ×
            UInt64 ×
              List UInt8 × List (List UInt8 × List UInt8) × UInt8 × UInt8 × Int64 × UInt8 × UInt8 × UInt64 × UInt64) ×
      Bool × UInt8 × UInt8 × UInt8 × UInt16 × UInt16 × UInt16 × UInt8 × UInt8 × UInt8 × Bool →
    Option (Bool × Unit) := fun (n : Nat)
    (x :
      (Bool ×
          UInt8 ×
            UInt64 ×
              UInt64 ×
                List UInt8 × List (List UInt8 × List UInt8) × UInt8 × UInt8 × Int64 × UInt8 × UInt8 × UInt64 × UInt64) ×
        Bool × UInt8 × UInt8 × UInt8 × UInt16 × UInt16 × UInt16 × UInt8 × UInt8 × UInt8 × Bool) =>
  obind (F8 n ()) fun (x_1 : Bool × Unit) =>
    oite (!Prod.fst x_1) (some (false, ()))
      (oite
        (decide
          ((20 : Int64) <
            Int64.ofInt ↑(List.length (Prod.fst (Prod.snd (Prod.snd (Prod.snd (Prod.snd (Prod.snd (Prod.fst x))))))))))
        (some (true, ()))
        (obind
          (F21 n
            (Prod.fst (Prod.fst x), Prod.fst (Prod.snd (Prod.fst x)), Prod.fst (Prod.snd (Prod.snd (Prod.fst x))),
              Prod.fst (Prod.snd (Prod.snd (Prod.snd (Prod.fst x)))),
              Prod.fst (Prod.snd (Prod.snd (Prod.snd (Prod.snd (Prod.fst x))))),
              Prod.fst (Prod.snd (Prod.snd (Prod.snd (Prod.snd (Prod.snd (Prod.fst x)))))),
              Prod.fst (Prod.snd (Prod.snd (Prod.snd (Prod.snd (Prod.snd (Prod.snd (Prod.fst x))))))),
              Prod.fst (Prod.snd (Prod.snd (Prod.snd (Prod.snd (Prod.snd (Prod.snd (Prod.snd (Prod.fst x)))))))),
              Prod.fst
                (Prod.snd (Prod.snd (Prod.snd (Prod.snd (Prod.snd (Prod.snd (Prod.snd (Prod.snd (Prod.fst x))))))))),
              Prod.fst
                (Prod.snd
                  (Prod.snd (Prod.snd (Prod.snd (Prod.snd (Prod.snd (Prod.snd (Prod.snd (Prod.snd (Prod.fst x)))))))))),
              Prod.fst
                (Prod.snd
                  (Prod.snd
                    (Prod.snd
                      (Prod.snd (Prod.snd (Prod.snd (Prod.snd (Prod.snd (Prod.snd (Prod.snd (Prod.fst x))))))))))),
              Prod.fst
                (Prod.snd
                  (Prod.snd
                    (Prod.snd
                      (Prod.snd
                        (Prod.snd (Prod.snd (Prod.snd (Prod.snd (Prod.snd (Prod.snd (Prod.snd (Prod.fst x)))))))))))),
              Prod.snd
                (Prod.snd
                  (Prod.snd
                    (Prod.snd
                      (Prod.snd
                        (Prod.snd (Prod.snd (Prod.snd (Prod.snd (Prod.snd (Prod.snd (Prod.snd (Prod.fst x))))))))))))))
          fun (x_2 : Int64 × Unit) =>
          obind
            (F22 n
              (Prod.fst (Prod.fst x), Prod.fst (Prod.snd (Prod.fst x)), Prod.fst (Prod.snd (Prod.snd (Prod.fst x))),
                Prod.fst (Prod.snd (Prod.snd (Prod.snd (Prod.fst x)))),
                Prod.fst (Prod.snd (Prod.snd (Prod.snd (Prod.snd (Prod.fst x))))),
                Prod.fst (Prod.snd (Prod.snd (Prod.snd (Prod.snd (Prod.snd (Prod.fst x)))))),
                Prod.fst (Prod.snd (Prod.snd (Prod.snd (Prod.snd (Prod.snd (Prod.snd (Prod.fst x))))))),
                Prod.fst (Prod.snd (Prod.snd (Prod.snd (Prod.snd (Prod.snd (Prod.snd (Prod.snd (Prod.fst x)))))))),
                Prod.fst
                  (Prod.snd (Prod.snd (Prod.snd (Prod.snd (Prod.snd (Prod.snd (Prod.snd (Prod.snd (Prod.fst x))))))))),
                Prod.fst
                  (Prod.snd
                    (Prod.snd
                      (Prod.snd (Prod.snd (Prod.snd (Prod.snd (Prod.snd (Prod.snd (Prod.snd (Prod.fst x)))))))))),
                Prod.fst
                  (Prod.snd
                    (Prod.snd
                      (Prod.snd
                        (Prod.snd (Prod.snd (Prod.snd (Prod.snd (Prod.snd (Prod.snd (Prod.snd (Prod.fst x))))))))))),
                Prod.fst
                  (Prod.snd
                    (Prod.snd
                      (Prod.snd
                        (Prod.snd
                          (Prod.snd (Prod.snd (Prod.snd (Prod.snd (Prod.snd (Prod.snd (Prod.snd (Prod.fst x)))))))))))),
                Prod.snd
                  (Prod.snd
                    (Prod.snd
                      (Prod.snd
                        (Prod.snd
                          (Prod.snd
                            (Prod.snd (Prod.snd (Prod.snd (Prod.snd (Prod.snd (Prod.snd (Prod.fst x))))))))))))))
            fun (x_3 : Int64 × Unit) =>
            oite (decide (Prod.fst x_2 = Prod.fst x_3))
              (obind
                (F9 n
                  (Prod.fst (Prod.snd x), Prod.fst (Prod.snd (Prod.snd x)), Prod.fst (Prod.snd (Prod.snd (Prod.snd x))),
                    Prod.fst (Prod.snd (Prod.snd (Prod.snd (Prod.snd x)))),
                    Prod.fst (Prod.snd (Prod.snd (Prod.snd (Prod.snd (Prod.snd x))))),
                    Prod.fst (Prod.snd (Prod.snd (Prod.snd (Prod.snd (Prod.snd (Prod.snd x)))))),
                    Prod.fst (Prod.snd (Prod.snd (Prod.snd (Prod.snd (Prod.snd (Prod.snd (Prod.snd x))))))),
                    Prod.fst (Prod.snd (Prod.snd (Prod.snd (Prod.snd (Prod.snd (Prod.snd (Prod.snd (Prod.snd x)))))))),
                    Prod.fst
                      (Prod.snd
                        (Prod.snd (Prod.snd (Prod.snd (Prod.snd (Prod.snd (Prod.snd (Prod.snd (Prod.snd x))))))))),
                    Prod.fst
                      (Prod.snd
                        (Prod.snd
                          (Prod.snd (Prod.snd (Prod.snd (Prod.snd (Prod.snd (Prod.snd (Prod.snd (Prod.snd x)))))))))),
                    Prod.snd
                      (Prod.snd
                        (Prod.snd
                          (Prod.snd (Prod.snd (Prod.snd (Prod.snd (Prod.snd (Prod.snd (Prod.snd (Prod.snd x))))))))))))
                fun
                  (x_4 :
                    (Bool ×
                        UInt8 ×
                          UInt64 ×
                            UInt64 ×
                              List UInt8 ×
                                List (List UInt8 × List UInt8) ×
                                  UInt8 × UInt8 × Int64 × UInt8 × UInt8 × UInt64 × UInt64) ×
                      Unit) =>
                obind
                  (F21 n
                    (Prod.fst (Prod.fst x_4), Prod.fst (Prod.snd (Prod.fst x_4)),
                      Prod.fst (Prod.snd (Prod.snd (Prod.fst x_4))),
                      Prod.fst (Prod.snd (Prod.snd (Prod.snd (Prod.fst x_4)))),
                      Prod.fst (Prod.snd (Prod.snd (Prod.snd (Prod.snd (Prod.fst x_4))))),
                      Prod.fst (Prod.snd (Prod.snd (Prod.snd (Prod.snd (Prod.snd (Prod.fst x_4)))))),
                      Prod.fst (Prod.snd (Prod.snd (Prod.snd (Prod.snd (Prod.snd (Prod.snd (Prod.fst x_4))))))),
                      Prod.fst
                        (Prod.snd (Prod.snd (Prod.snd (Prod.snd (Prod.snd (Prod.snd (Prod.snd (Prod.fst x_4)))))))),
                      Prod.fst
                        (Prod.snd
                          (Prod.snd (Prod.snd (Prod.snd (Prod.snd (Prod.snd (Prod.snd (Prod.snd (Prod.fst x_4))))))))),
                      Prod.fst
                        (Prod.snd
                          (Prod.snd
                            (Prod.snd
                              (Prod.snd (Prod.snd (Prod.snd (Prod.snd (Prod.snd (Prod.snd (Prod.fst x_4)))))))))),
                      Prod.fst
                        (Prod.snd
                          (Prod.snd
                            (Prod.snd
                              (Prod.snd
                                (Prod.snd (Prod.snd (Prod.snd (Prod.snd (Prod.snd (Prod.snd (Prod.fst x_4))))))))))),
                      Prod.fst
                        (Prod.snd
                          (Prod.snd
                            (Prod.snd
                              (Prod.snd
                                (Prod.snd
                                  (Prod.snd (Prod.snd (Prod.snd (Prod.snd (Prod.snd (Prod.snd (Prod.fst x_4)))))))))))),
                      Prod.snd
                        (Prod.snd
                          (Prod.snd
                            (Prod.snd
                              (Prod.snd
                                (Prod.snd
                                  (Prod.snd
                                    (Prod.snd (Prod.snd (Prod.snd (Prod.snd (Prod.snd (Prod.fst x_4))))))))))))))
                  fun (x_5 : Int64 × Unit) =>
                  oite (decide (Prod.fst x_5 = (0 : Int64)))
                    (obind (F23 n (Prod.fst (Prod.snd (Prod.snd (Prod.snd (Prod.snd (Prod.fst x)))))))
                      fun (x_6 : Bool × Unit) =>
                      obind (F24 n (Prod.fst (Prod.snd (Prod.snd (Prod.snd (Prod.snd (Prod.fst x)))))))
                        fun (x_7 : Bool × Unit) => some (Prod.fst x_6 == Prod.fst x_7, ()))
                    (some (false, ())))
              (some (false, ()))))
theorem ok5 (n : Nat) : FunOK Try.prog ⟨5, sig5, F5 n⟩ :=
  fun_ok (hints := ⟨[], []⟩) (fuel := n) (c := Try.f5.body.getD .skip) (rs := Try.f5.results.toList) tt_ok mix (FsOK.cons (ok8 n) (FsOK.cons (ok21 n) (FsOK.cons (ok22 n) (FsOK.cons (ok9 n) (FsOK.cons (ok23 n) (FsOK.cons (ok24 n) (FsOK.nil))))))) Try.func5 (by kernel_rfl) (by kernel_rfl) rfl (by kernel_rfl) rfl rfl (by kernel_rfl)
-- watchfire/pack.Read
def sig27 : Sig := ⟨(.cons (.one (.c (.ro (.cons (.int .u8) .nil)))) .nil), (.cons (.one (.ptr (.cons (.c (.ro (.cons (.int .u8) .nil))) (.cons (.c (.int .i64)) .nil)))) .nil)⟩
def F27 : Nat → List UInt8 → Option (Option (List UInt8 × Int64) × Unit) := fun (n : Nat) (x : List UInt8) => some (some (x, (0 : Int64)), ())
theorem ok27 (n : Nat) : FunOK Try.prog ⟨27, sig27, F27 n⟩ :=
  fun_ok (hints := ⟨[], []⟩) (fuel := n) (c := Try.f27.body.getD .skip) (rs := Try.f27.results.toList) tt_ok mix (FsOK.nil) Try.func27 (by kernel_rfl) (by kernel_rfl) rfl (by kernel_rfl) rfl rfl (by kernel_rfl)
-- (*watchfire/pack.Reader).ok
def sig66 : Sig := ⟨(.cons (.one (.ptr (.cons (.c (.ro (.cons (.int .u8) .nil))) (.cons (.c (.int .i64)) .nil)))) .nil), (.cons (.one (.c .bool)) .nil)⟩
def F66 : Nat → Option (List UInt8 × Int64) → Option (Bool × Option (List UInt8 × Int64)) := fun (n : Nat) (x : Option (List UInt8 × Int64)) =>
  oelim x (some (false, none)) fun (x_1 : List UInt8 × Int64) =>
    some (decide (Prod.snd x_1 = (0 : Int64)), some (Prod.fst x_1, Prod.snd x_1))
theorem ok66 (n : Nat) : FunOK Try.prog ⟨66, sig66, F66 n⟩ :=
  fun_ok (hints := ⟨[], []⟩) (fuel := n) (c := Try.f66.body.getD .skip) (rs := Try.f66.results.toList) tt_ok mix (FsOK.nil) Try.func66 (by kernel_rfl) (by kernel_rfl) rfl (by kernel_rfl) rfl rfl (by kernel_rfl)
-- (*watchfire/pack.Reader).Fail
def sig53 : Sig := ⟨(.cons (.one (.ptr (.cons (.c (.ro (.cons (.int .u8) .nil))) (.cons (.c (.int .i64)) .nil)))) (.cons (.one (.c (.int .i64))) .nil)), .nil⟩
def F53 : Nat → Option (List UInt8 × Int64) × Int64 → Option (Unit × Option (List UInt8 × Int64)) := fun (n : Nat) (x : Option (List UInt8 × Int64) × Int64) =>
  oelim (Prod.fst x) (some ((), none)) fun (x_1 : List UInt8 × Int64) =>
    oite (decide (Prod.snd x_1 = (0 : Int64))) (some ((), some (Prod.fst x_1, Prod.snd x)))
      (some ((), some (Prod.fst x_1, Prod.snd x_1)))
theorem ok53 (n : Nat) : FunOK Try.prog ⟨53, sig53, F53 n⟩ :=
  fun_ok (hints := ⟨[], []⟩) (fuel := n) (c := Try.f53.body.getD .skip) (rs := Try.f53.results.toList) tt_ok mix (FsOK.nil) Try.func53 (by kernel_rfl) (by kernel_rfl) rfl (by kernel_rfl) rfl rfl (by kernel_rfl)
-- (*watchfire/pack.Reader).Byte
def sig49 : Sig := ⟨(.cons (.one (.ptr (.cons (.c (.ro (.cons (.int .u8) .nil))) (.cons (.c (.int .i64)) .nil)))) .nil), (.cons (.one (.c (.int .u8))) .nil)⟩
def F49 : Nat → Option (List UInt8 × Int64) → Option (UInt8 × Option (List UInt8 × Int64)) := fun (n : Nat) (x : Option (List UInt8 × Int64)) =>
  obind (F66 n x) fun (x_1 : Bool × Option (List UInt8 × Int64)) =>
    oite (!Prod.fst x_1) (some ((0 : UInt8), Prod.snd x_1))
      (obind (Prod.snd x_1) fun (x_2 : List UInt8 × Int64) =>
        oite (decide (Int64.ofInt ↑(List.length (Prod.fst x_2)) = (0 : Int64)))
          (obind (F53 n (some (Prod.fst x_2, Prod.snd x_2), (3 : Int64)))
            fun (x_3 : Unit × Option (List UInt8 × Int64)) => some ((0 : UInt8), Prod.snd x_3))
          (obind (at? (Prod.fst x_2) (Int64.toInt (0 : Int64))) fun (x_3 : UInt8) =>
            oite (Nat.ble (Int.toNat (Int64.toInt (1 : Int64))) (List.length (Prod.fst x_2)))
              (some
                (x_3,
                  some
                    (List.drop (Int.toNat (Int64.toInt (1 : Int64)))
                        (List.take (List.length (Prod.fst x_2)) (Prod.fst x_2)),
                      Prod.snd x_2)))
              none))
theorem ok49 (n : Nat) : FunOK Try.prog ⟨49, sig49, F49 n⟩ :=
  fun_ok (hints := ⟨[], []⟩) (fuel := n) (c := Try.f49.body.getD .skip) (rs := Try.f49.results.toList) tt_ok mix (FsOK.cons (ok66 n) (FsOK.cons (ok53 n) (FsOK.nil))) Try.func49 (by kernel_rfl) (by kernel_rfl) rfl (by kernel_rfl) rfl rfl (by kernel_rfl)
-- (*watchfire/pack.Reader).Bool
def sig48 : Sig := ⟨(.cons (.one (.ptr (.cons (.c (.ro (.cons (.int .u8) .nil))) (.cons (.c (.int .i64)) .nil)))) .nil), (.cons (.one (.c .bool)) .nil)⟩
def F48 : Nat → Option (List UInt8 × Int64) → Option (Bool × Option (List UInt8 × Int64)) := fun (n : Nat) (x : Option (List UInt8 × Int64)) =>
  obind (F49 n x) fun (x_1 : UInt8 × Option (List UInt8 × Int64)) =>
    oite (decide ((1 : UInt8) < Prod.fst x_1))
      (obind (F53 n (Prod.snd x_1, (2 : Int64))) fun (x_2 : Unit × Option (List UInt8 × Int64)) =>
        some (decide (Prod.fst x_1 = (1 : UInt8)), Prod.snd x_2))
      (some (decide (Prod.fst x_1 = (1 : UInt8)), Prod.snd x_1))
theorem ok48 (n : Nat) : FunOK Try.prog ⟨48, sig48, F48 n⟩ :=
  fun_ok (hints := ⟨[], []⟩) (fuel := n) (c := Try.f48.body.getD .skip) (rs := Try.f48.results.toList) tt_ok mix (FsOK.cons (ok49 n) (FsOK.cons (ok53 n) (FsOK.nil))) Try.func48 (by kernel_rfl) (by kernel_rfl) rfl (by kernel_rfl) rfl rfl (by kernel_rfl)
-- (*watchfire/pack.Reader).Uint
def sig50 : Sig := ⟨(.cons (.one (.ptr (.cons (.c (.ro (.cons (.int .u8) .nil))) (.cons (.c (.int .i64)) .nil)))) .nil), (.cons (.one (.c (.int .u64))) .nil)⟩
def F50_J121 : Nat →
  Arr
      [PT.int IntKind.u64, PT.int IntKind.i64,
        PT.opt
          (OTs.cons (OT.c (CT.ro (CTs.cons (CT.int IntKind.u8) CTs.nil)))
            (OTs.cons (OT.c (CT.int IntKind.i64)) OTs.nil))]
      (Option (UInt64 × Option (List UInt8 × Int64))) →
    UInt64 → Int64 → UInt8 → Option (List UInt8 × Int64) → Option (UInt64 × Option (List UInt8 × Int64)) := fun (n : Nat)
    (rec :
      Arr
        [PT.int IntKind.u64, PT.int IntKind.i64,
          PT.opt
            (OTs.cons (OT.c (CT.ro (CTs.cons (CT.int IntKind.u8) CTs.nil)))
              (OTs.cons (OT.c (CT.int IntKind.i64)) OTs.nil))]
        (Option (UInt64 × Option (List UInt8 × Int64))))
    (n__1 : UInt64) (shift_1 : Int64) (c : UInt8) (r_1 : Option (List UInt8 × Int64)) =>
  oite (decide ((0 : Int) ≤ Int64.toInt shift_1))
    (oite (decide (c < (128 : UInt8)))
      (oite (decide (c = (0 : UInt8)))
        (oite (decide ((0 : Int64) < shift_1))
          (obind (F53 n (r_1, (2 : Int64))) fun (x_2 : Unit × Option (List UInt8 × Int64)) =>
            some ((0 : UInt64), Prod.snd x_2))
          (some
            (n__1 ||| IK.shl IntKind.u64 (UInt64.ofInt ↑(UInt8.toNat (c &&& (127 : UInt8)))) (Int64.toInt shift_1),
              r_1)))
        (some
          (n__1 ||| IK.shl IntKind.u64 (UInt64.ofInt ↑(UInt8.toNat (c &&& (127 : UInt8)))) (Int64.toInt shift_1), r_1)))
      (rec (n__1 ||| IK.shl IntKind.u64 (UInt64.ofInt ↑(UInt8.toNat (c &&& (127 : UInt8)))) (Int64.toInt shift_1))
        (shift_1 + (7 : Int64)) r_1))
    none
def F50_L15 : Nat →
  Arr
      [PT.int IntKind.u64, PT.int IntKind.i64,
        PT.opt
          (OTs.cons (OT.c (CT.ro (CTs.cons (CT.int IntKind.u8) CTs.nil)))
            (OTs.cons (OT.c (CT.int IntKind.i64)) OTs.nil))]
      (Option (UInt64 × Option (List UInt8 × Int64))) →
    UInt64 → Int64 → Option (List UInt8 × Int64) → Option (UInt64 × Option (List UInt8 × Int64)) := fun (n : Nat)
    (rec :
      Arr
        [PT.int IntKind.u64, PT.int IntKind.i64,
          PT.opt
            (OTs.cons (OT.c (CT.ro (CTs.cons (CT.int IntKind.u8) CTs.nil)))
              (OTs.cons (OT.c (CT.int IntKind.i64)) OTs.nil))]
        (Option (UInt64 × Option (List UInt8 × Int64))))
    (n_ : UInt64) (shift : Int64) (r : Option (List UInt8 × Int64)) =>
  obind (F49 n r) fun (x_1 : UInt8 × Option (List UInt8 × Int64)) =>
    ojoinA (121 : Nat)
      [PT.int IntKind.u64, PT.int IntKind.i64, PT.int IntKind.u8,
        PT.opt
          (OTs.cons (OT.c (CT.ro (CTs.cons (CT.int IntKind.u8) CTs.nil)))
            (OTs.cons (OT.c (CT.int IntKind.i64)) OTs.nil))]
      (fun
          (J :
            Arr
              [PT.int IntKind.u64, PT.int IntKind.i64, PT.int IntKind.u8,
                PT.opt
                  (OTs.cons (OT.c (CT.ro (CTs.cons (CT.int IntKind.u8) CTs.nil)))
                    (OTs.cons (OT.c (CT.int IntKind.i64)) OTs.nil))]
              (Option (UInt64 × Option (List UInt8 × Int64)))) =>
        obind (F66 n (Prod.snd x_1)) fun (x_2 : Bool × Option (List UInt8 × Int64)) =>
          oite (!Prod.fst x_2) (some ((0 : UInt64), Prod.snd x_2))
            (oite (decide (shift = (63 : Int64)))
              (oite (decide ((1 : UInt8) < Prod.fst x_1))
                (obind (F53 n (Prod.snd x_2, (6 : Int64))) fun (x_3 : Unit × Option (List UInt8 × Int64)) =>
                  some ((0 : UInt64), Prod.snd x_3))
                (J n_ shift (Prod.fst x_1) (Prod.snd x_2)))
              (J n_ shift (Prod.fst x_1) (Prod.snd x_2))))
      (F50_J121 n rec)
def F50_R15 : Nat →
  Nat → PT.T (PT.int IntKind.u64) → Int64 → Option (List UInt8 × Int64) → Option (UInt64 × Option (List UInt8 × Int64)) := fun (n : Nat) =>
  ofixA (15 : Nat)
    [PT.int IntKind.u64, PT.int IntKind.i64,
      PT.opt
        (OTs.cons (OT.c (CT.ro (CTs.cons (CT.int IntKind.u8) CTs.nil))) (OTs.cons (OT.c (CT.int IntKind.i64)) OTs.nil))]
    (F50_L15 n)
def F50 : Nat → Option (List UInt8 × Int64) → Option (UInt64 × Option (List UInt8 × Int64)) := fun (n : Nat) (x : Option (List UInt8 × Int64)) => F50_R15 n n (0 : UInt64) (0 : Int64) x
theorem F50_R15_s (n : Nat) (m_ : Nat) : F50_R15 n (m_ + 1) = F50_L15 n (F50_R15 n m_) := rfl
theorem ok50 (n : Nat) : FunOK Try.prog ⟨50, sig50, F50 n⟩ :=
  fun_ok (hints := ⟨[(121, ⟨[(0, .one (.own 0)), (3, .one (.int .u64)), (4, .one (.int .i64)), (5, .one (.int .u8))], [(0, .fold (.cons (.c (.ro (.cons (.int .u8) .nil))) (.cons (.c (.int .i64)) .nil)))], 1⟩)], [(15, ⟨[(0, .one (.own 0)), (3, .one (.int .u64)), (4, .one (.int .i64))], [(0, .fold (.cons (.c (.ro (.cons (.int .u8) .nil))) (.cons (.c (.int .i64)) .nil)))], 1⟩)]⟩) (fuel := n) (c := Try.f50.body.getD .skip) (rs := Try.f50.results.toList) tt_ok mix (FsOK.cons (ok49 n) (FsOK.cons (ok66 n) (FsOK.cons (ok53 n) (FsOK.nil)))) Try.func50 (by kernel_rfl) (by kernel_rfl) rfl (by kernel_rfl) rfl rfl (by kernel_rfl)
-- (*watchfire/pack.Reader).Text
def sig67 : Sig := ⟨(.cons (.one (.ptr (.cons (.c (.ro (.cons (.int .u8) .nil))) (.cons (.c (.int .i64)) .nil)))) (.cons (.one (.c (.int .i64))) .nil)), (.cons (.one (.c .str)) .nil)⟩
def F67 : Nat → Option (List UInt8 × Int64) × Int64 → Option (List UInt8 × Option (List UInt8 × Int64)) := fun (n : Nat) (x : Option (List UInt8 × Int64) × Int64) =>
  obind (F50 n (Prod.fst x)) fun (x_1 : UInt64 × Option (List UInt8 × Int64)) =>
    obind (F66 n (Prod.snd x_1)) fun (x_2 : Bool × Option (List UInt8 × Int64)) =>
      oite (!Prod.fst x_2) (some ([], Prod.snd x_2))
        (oite (decide (UInt64.ofInt (Int64.toInt (IK.maxI IntKind.i64 (Prod.snd x) (0 : Int64))) < Prod.fst x_1))
          (obind (F53 n (Prod.snd x_2, (4 : Int64))) fun (x_3 : Unit × Option (List UInt8 × Int64)) =>
            some ([], Prod.snd x_3))
          (obind (Prod.snd x_2) fun (x_3 : List UInt8 × Int64) =>
            oite (decide (UInt64.ofInt (Int64.toInt (Int64.ofInt ↑(List.length (Prod.fst x_3)))) < Prod.fst x_1))
              (obind (F53 n (some (Prod.fst x_3, Prod.snd x_3), (3 : Int64)))
                fun (x_4 : Unit × Option (List UInt8 × Int64)) => some ([], Prod.snd x_4))
              (oite
                (decide ((0 : Int) ≤ ↑(UInt64.toNat (Prod.fst x_1))) &&
                    Nat.ble (Int.toNat ↑(UInt64.toNat (Prod.fst x_1))) (List.length (Prod.fst x_3)) &&
                  true)
                (oite
                  (decide ((0 : Int) ≤ ↑(UInt64.toNat (Prod.fst x_1))) &&
                    Nat.ble (Int.toNat ↑(UInt64.toNat (Prod.fst x_1))) (List.length (Prod.fst x_3)))
                  (some
                    (List.drop (0 : Nat) (List.take (Int.toNat ↑(UInt64.toNat (Prod.fst x_1))) (Prod.fst x_3)),
                      some
                        (List.drop (Int.toNat ↑(UInt64.toNat (Prod.fst x_1)))
                            (List.take (List.length (Prod.fst x_3)) (Prod.fst x_3)),
                          Prod.snd x_3)))
                  none)
                none)))
theorem ok67 (n : Nat) : FunOK Try.prog ⟨67, sig67, F67 n⟩ :=
  fun_ok (hints := ⟨[], []⟩) (fuel := n) (c := Try.f67.body.getD .skip) (rs := Try.f67.results.toList) tt_ok mix (FsOK.cons (ok50 n) (FsOK.cons (ok66 n) (FsOK.cons (ok53 n) (FsOK.nil)))) Try.func67 (by kernel_rfl) (by kernel_rfl) rfl (by kernel_rfl) rfl rfl (by kernel_rfl)
-- (*watchfire/pack.Reader).Count
def sig68 : Sig := ⟨(.cons (.one (.ptr (.cons (.c (.ro (.cons (.int .u8) .nil))) (.cons (.c (.int .i64)) .nil)))) (.cons (.one (.c (.int .u64))) .nil)), (.cons (.one (.c (.int .u64))) .nil)⟩
def F68 : Nat → Option (List UInt8 × Int64) × UInt64 → Option (UInt64 × Option (List UInt8 × Int64)) := fun (n : Nat) (x : Option (List UInt8 × Int64) × UInt64) =>
  obind (F50 n (Prod.fst x)) fun (x_1 : UInt64 × Option (List UInt8 × Int64)) =>
    oite (decide (Prod.snd x < Prod.fst x_1))
      (obind (F53 n (Prod.snd x_1, (6 : Int64))) fun (x_2 : Unit × Option (List UInt8 × Int64)) =>
        some ((0 : UInt64), Prod.snd x_2))
      (some (Prod.fst x_1, Prod.snd x_1))
theorem ok68 (n : Nat) : FunOK Try.prog ⟨68, sig68, F68 n⟩ :=
  fun_ok (hints := ⟨[], []⟩) (fuel := n) (c := Try.f68.body.getD .skip) (rs := Try.f68.results.toList) tt_ok mix (FsOK.cons (ok50 n) (FsOK.cons (ok53 n) (FsOK.nil))) Try.func68 (by kernel_rfl) (by kernel_rfl) rfl (by kernel_rfl) rfl rfl (by kernel_rfl)
-- (*watchfire/pack.Reader).Int
def sig69 : Sig := ⟨(.cons (.one (.ptr (.cons (.c (.ro (.cons (.int .u8) .nil))) (.cons (.c (.int .i64)) .nil)))) .nil), (.cons (.one (.c (.int .i64))) .nil)⟩
def F69 : Nat → Option (List UInt8 × Int64) → Option (Int64 × Option (List UInt8 × Int64)) := fun (n : Nat) (x : Option (List UInt8 × Int64)) =>
  obind (F50 n x) fun (x_1 : UInt64 × Option (List UInt8 × Int64)) =>
    some
      (Int64.ofInt ↑(UInt64.toNat (IK.shr IntKind.u64 (Prod.fst x_1) ↑(UInt64.toNat (1 : UInt64)))) ^^^
          (0 : Int64) - Int64.ofInt ↑(UInt64.toNat (Prod.fst x_1 &&& (1 : UInt64))),
        Prod.snd x_1)
theorem ok69 (n : Nat) : FunOK Try.prog ⟨69, sig69, F69 n⟩ :=
  fun_ok (hints := ⟨[], []⟩) (fuel := n) (c := Try.f69.body.getD .skip) (rs := Try.f69.results.toList) tt_ok mix (FsOK.cons (ok50 n) (FsOK.nil)) Try.func69 (by kernel_rfl) (by kernel_rfl) rfl (by kernel_rfl) rfl rfl (by kernel_rfl)
-- watchfire/item.take
def sig51 : Sig := ⟨(.cons (.one (.ptr (.cons (.c (.ro (.cons (.int .u8) .nil))) (.cons (.c (.int .i64)) .nil)))) .nil), (.cons (.agg (.cons (.int .u8) (.cons (.int .u64) (.cons (.int .u64) (.cons .str (.cons (.ro (.cons .str (.cons .str .nil))) (.cons (.int .u8) (.cons (.int .u8) (.cons (.int .i64) (.cons (.int .u8) .nil)))))))))) .nil)⟩
def F51_L1021 : Nat →
  Arr
      [PT.int IntKind.u64, PT.int IntKind.u64,
        PT.opt
          (OTs.cons (OT.c (CT.ro (CTs.cons (CT.int IntKind.u8) CTs.nil)))
            (OTs.cons (OT.c (CT.int IntKind.i64)) OTs.nil)),
        PT.int IntKind.u8, PT.int IntKind.u64, PT.int IntKind.u64, PT.bytes, PT.int IntKind.u8, PT.int IntKind.u8,
        PT.int IntKind.i64, PT.int IntKind.u8, PT.int IntKind.u8, PT.int IntKind.u64, PT.int IntKind.u64, PT.bytes,
        PT.int IntKind.u8, PT.int IntKind.u8, PT.int IntKind.i64, PT.int IntKind.u8,
        PT.list (CTs.cons CT.str (CTs.cons CT.str CTs.nil))]
      (Option
        ((UInt8 × UInt64 × UInt64 × List UInt8 × List (List UInt8 × List UInt8) × UInt8 × UInt8 × Int64 × UInt8) ×
          Option (List UInt8 × Int64))) →
    UInt64 →
      UInt64 →
        Option (List UInt8 × Int64) →
          UInt8 →
            UInt64 →
              UInt64 →
                List UInt8 →
                  UInt8 →
                    UInt8 →
                      Int64 →
                        UInt8 →
                          UInt8 →
                            UInt64 →
                              UInt64 →
                                List UInt8 →
                                  UInt8 →
                                    UInt8 →
                                      Int64 →
                                        UInt8 →
                                          List (List UInt8 × List UInt8) →
                                            Option
                                              ((UInt8 ×
                                                  UInt64 ×
                                                    UInt64 ×
                                                      List UInt8 ×
                                                        List (List UInt8 × List UInt8) ×
                                                          UInt8 × UInt8 × Int64 × UInt8) ×
                                                Option (List UInt8 × Int64)) := fun (n : Nat)
    (rec :
      Arr
        [PT.int IntKind.u64, PT.int IntKind.u64,
          PT.opt
            (OTs.cons (OT.c (CT.ro (CTs.cons (CT.int IntKind.u8) CTs.nil)))
              (OTs.cons (OT.c (CT.int IntKind.i64)) OTs.nil)),
          PT.int IntKind.u8, PT.int IntKind.u64, PT.int IntKind.u64, PT.bytes, PT.int IntKind.u8, PT.int IntKind.u8,
          PT.int IntKind.i64, PT.int IntKind.u8, PT.int IntKind.u8, PT.int IntKind.u64, PT.int IntKind.u64, PT.bytes,
          PT.int IntKind.u8, PT.int IntKind.u8, PT.int IntKind.i64, PT.int IntKind.u8,
          PT.list (CTs.cons CT.str (CTs.cons CT.str CTs.nil))]
        (Option
          ((UInt8 × UInt64 × UInt64 × List UInt8 × List (List UInt8 × List UInt8) × UInt8 × UInt8 × Int64 × UInt8) ×
            Option (List UInt8 × Int64))))
    (t t_1 : UInt64) (r : Option (List UInt8 × Int64)) (t0 : UInt8) (t1 t2 : UInt64) (t3 : List UInt8) (t5 t6 : UInt8)
    (t7 : Int64) (t8 v0 : UInt8) (v1 v2 : UInt64) (v3 : List UInt8) (v5 v6 : UInt8) (v7 : Int64) (v8 : UInt8)
    (vl : List (List UInt8 × List UInt8)) =>
  oite (decide (t_1 < t))
    (obind (F67 n (r, (8 : Int64))) fun (x_6 : List UInt8 × Option (List UInt8 × Int64)) =>
      obind (F67 n (Prod.snd x_6, (16 : Int64))) fun (x_7 : List UInt8 × Option (List UInt8 × Int64)) =>
        oite (Nat.ble (List.length vl + List.length [(Prod.fst x_6, Prod.fst x_7)]) (4294967296 : Nat))
          (rec t (t_1 + (1 : UInt64)) (Prod.snd x_7) t0 t1 t2 t3 t5 t6 t7 t8 v0 v1 v2 v3 v5 v6 v7 v8
            (vl ++ [(Prod.fst x_6, Prod.fst x_7)]))
          none)
    (obind (F49 n r) fun (x_6 : UInt8 × Option (List UInt8 × Int64)) =>
      obind (F49 n (Prod.snd x_6)) fun (x_7 : UInt8 × Option (List UInt8 × Int64)) =>
        obind (F69 n (Prod.snd x_7)) fun (x_8 : Int64 × Option (List UInt8 × Int64)) =>
          obind (F49 n (Prod.snd x_8)) fun (x_9 : UInt8 × Option (List UInt8 × Int64)) =>
            some ((v0, v1, v2, v3, vl, Prod.fst x_6, Prod.fst x_7, Prod.fst x_8, Prod.fst x_9), Prod.snd x_9))
def F51_R1021 : Nat →
  Nat →
    PT.T (PT.int IntKind.u64) →
      UInt64 →
        Option (List UInt8 × Int64) →
          UInt8 →
            UInt64 →
              UInt64 →
                List UInt8 →
                  UInt8 →
                    UInt8 →
                      Int64 →
                        UInt8 →
                          UInt8 →
                            UInt64 →
                              UInt64 →
                                List UInt8 →
                                  UInt8 →
                                    UInt8 →
                                      Int64 →
                                        UInt8 →
                                          List (List UInt8 × List UInt8) →
                                            Option
                                              ((UInt8 ×
                                                  UInt64 ×
                                                    UInt64 ×
                                                      List UInt8 ×
                                                        List (List UInt8 × List UInt8) ×
                                                          UInt8 × UInt8 × Int64 × UInt8) ×
                                                Option (List UInt8 × Int64)) := fun (n : Nat) =>
  ofixA (1021 : Nat)
    [PT.int IntKind.u64, PT.int IntKind.u64,
      PT.opt
        (OTs.cons (OT.c (CT.ro (CTs.cons (CT.int IntKind.u8) CTs.nil))) (OTs.cons (OT.c (CT.int IntKind.i64)) OTs.nil)),
      PT.int IntKind.u8, PT.int IntKind.u64, PT.int IntKind.u64, PT.bytes, PT.int IntKind.u8, PT.int IntKind.u8,
      PT.int IntKind.i64, PT.int IntKind.u8, PT.int IntKind.u8, PT.int IntKind.u64, PT.int IntKind.u64, PT.bytes,
      PT.int IntKind.u8, PT.int IntKind.u8, PT.int IntKind.i64, PT.int IntKind.u8,
      PT.list (CTs.cons CT.str (CTs.cons CT.str CTs.nil))]
    (F51_L1021 n)
def F51 : Nat →
  Option (List UInt8 × Int64) →
    Option
      ((UInt8 × UInt64 × UInt64 × List UInt8 × List (List UInt8 × List UInt8) × UInt8 × UInt8 × Int64 × UInt8) ×
        Option (List UInt8 × Int64)) := fun (n : Nat) (x : Option (List UInt8 × Int64)) =>
  obind (F49 n x) fun (x_1 : UInt8 × Option (List UInt8 × Int64)) =>
    obind (F50 n (Prod.snd x_1)) fun (x_2 : UInt64 × Option (List UInt8 × Int64)) =>
      obind (F50 n (Prod.snd x_2)) fun (x_3 : UInt64 × Option (List UInt8 × Int64)) =>
        obind (F67 n (Prod.snd x_3, (12 : Int64))) fun (x_4 : List UInt8 × Option (List UInt8 × Int64)) =>
          obind (F68 n (Prod.snd x_4, (8 : UInt64))) fun (x_5 : UInt64 × Option (List UInt8 × Int64)) =>
            F51_R1021 n n (Prod.fst x_5) (0 : UInt64) (Prod.snd x_5) (0 : UInt8) (0 : UInt64) (0 : UInt64) []
              (0 : UInt8) (0 : UInt8) (0 : Int64) (0 : UInt8) (Prod.fst x_1) (Prod.fst x_2) (Prod.fst x_3)
              (Prod.fst x_4) (0 : UInt8) (0 : UInt8) (0 : Int64) (0 : UInt8) []
theorem F51_R1021_s (n : Nat) (m_ : Nat) : F51_R1021 n (m_ + 1) = F51_L1021 n (F51_R1021 n m_) := rfl
theorem ok51 (n : Nat) : FunOK Try.prog ⟨51, sig51, F51 n⟩ :=
  fun_ok (hints := ⟨[], [(1021, ⟨[(0, .one (.own 0)), (2, .one (.own 1)), (3, .one (.own 2)), (20, .one (.int .u64)), (21, .one (.int .u64))], [(0, .fold (.cons (.c (.ro (.cons (.int .u8) .nil))) (.cons (.c (.int .i64)) .nil))), (1, .cells [.int .u8, .int .u64, .int .u64, .str, .nils, .int .u8, .int .u8, .int .i64, .int .u8]), (2, .cells [.int .u8, .int .u64, .int .u64, .str, .own 3, .int .u8, .int .u8, .int .i64, .int .u8]), (3, .row (.cons .str (.cons .str .nil)))], 4⟩)]⟩) (fuel := n) (c := Try.f51.body.getD .skip) (rs := Try.f51.results.toList) tt_ok mix (FsOK.cons (ok49 n) (FsOK.cons (ok50 n) (FsOK.cons (ok67 n) (FsOK.cons (ok68 n) (FsOK.cons (ok69 n) (FsOK.nil)))))) Try.func51 (by kernel_rfl) (by kernel_rfl) rfl (by kernel_rfl) rfl rfl (by kernel_rfl)
-- (*watchfire/pack.Reader).Err
def sig52 : Sig := ⟨(.cons (.one (.ptr (.cons (.c (.ro (.cons (.int .u8) .nil))) (.cons (.c (.int .i64)) .nil)))) .nil), (.cons (.one (.c (.int .i64))) .nil)⟩
def F52 : Nat → Option (List UInt8 × Int64) → Option (Int64 × Option (List UInt8 × Int64)) := fun (n : Nat) (x : Option (List UInt8 × Int64)) =>
  oelim x (some ((1 : Int64), none)) fun (x_1 : List UInt8 × Int64) =>
    some (Prod.snd x_1, some (Prod.fst x_1, Prod.snd x_1))
theorem ok52 (n : Nat) : FunOK Try.prog ⟨52, sig52, F52 n⟩ :=
  fun_ok (hints := ⟨[], []⟩) (fuel := n) (c := Try.f52.body.getD .skip) (rs := Try.f52.results.toList) tt_ok mix (FsOK.nil) Try.func52 (by kernel_rfl) (by kernel_rfl) rfl (by kernel_rfl) rfl rfl (by kernel_rfl)
-- watchfire/item.Take
def sig28 : Sig := ⟨(.cons (.one (.ptr (.cons (.c (.ro (.cons (.int .u8) .nil))) (.cons (.c (.int .i64)) .nil)))) .nil), (.cons (.agg (.cons .bool (.cons (.int .u8) (.cons (.int .u64) (.cons (.int .u64) (.cons .str (.cons (.ro (.cons .str (.cons .str .nil))) (.cons (.int .u8) (.cons (.int .u8) (.cons (.int .i64) (.cons (.int .u8) (.cons (.int .u8) (.cons (.int .u64) (.cons (.int .u64) .nil)))))))))))))) .nil)⟩
def F28_J15 : Nat →
  Option (List UInt8 × Int64) →
    Bool →
      UInt8 →
        UInt64 →
          UInt64 →
            List UInt8 →
              UInt8 →
                UInt8 →
                  Int64 →
                    UInt8 →
                      UInt8 →
                        UInt64 →
                          UInt64 →
                            Bool →
                              UInt8 →
                                UInt64 →
                                  UInt64 →
                                    List UInt8 →
                                      List (List UInt8 × List UInt8) →
                                        UInt8 →
                                          UInt8 →
                                            Int64 →
                                              UInt8 →
                                                UInt8 →
                                                  UInt64 →
                                                    UInt64 →
                                                      Option
                                                        ((Bool ×
                                                            UInt8 ×
                                                              UInt64 ×
                                                                UInt64 ×
                                                                  List UInt8 ×
                                                                    List (List UInt8 × List UInt8) ×
                                                                      UInt8 ×
                                                                        UInt8 ×
                                                                          Int64 × UInt8 × UInt8 × UInt64 × UInt64) ×
                                                          Option (List UInt8 × Int64)) := fun (n : Nat) (r_1 : Option (List UInt8 × Int64)) (t0_1 : Bool) (t1_1 : UInt8) (t2_1 t3_1 : UInt64) (t4_1 : List UInt8)
    (t6_1 t7_1 : UInt8) (t8_1 : Int64) (t9_1 t10_1 : UInt8) (t11_1 t12_1 : UInt64) (x0_1 : Bool) (x1_1 : UInt8)
    (x2_1 x3_1 : UInt64) (x4_1 : List UInt8) (x5_1 : List (List UInt8 × List UInt8)) (x6_1 x7_1 : UInt8) (x8_1 : Int64)
    (x9_1 x10_1 : UInt8) (x11_1 x12_1 : UInt64) =>
  obind (F52 n r_1) fun (x_2 : Int64 × Option (List UInt8 × Int64)) =>
    oite (!decide (Prod.fst x_2 = (0 : Int64)))
      (some
        ((false, (0 : UInt8), (0 : UInt64), (0 : UInt64), [], [], (0 : UInt8), (0 : UInt8), (0 : Int64), (0 : UInt8),
            (0 : UInt8), (0 : UInt64), (0 : UInt64)),
          Prod.snd x_2))
      (some ((x0_1, x1_1, x2_1, x3_1, x4_1, x5_1, x6_1, x7_1, x8_1, x9_1, x10_1, x11_1, x12_1), Prod.snd x_2))
def F28_J7 : Nat →
  Option (List UInt8 × Int64) →
    Bool →
      UInt8 →
        UInt64 →
          UInt64 →
            List UInt8 →
              UInt8 →
                UInt8 →
                  Int64 →
                    UInt8 →
                      UInt8 →
                        UInt64 →
                          UInt64 →
                            Bool →
                              UInt8 →
                                UInt64 →
                                  UInt64 →
                                    List UInt8 →
                                      List (List UInt8 × List UInt8) →
                                        UInt8 →
                                          UInt8 →
                                            Int64 →
                                              UInt8 →
                                                UInt8 →
                                                  UInt64 →
                                                    UInt64 →
                                                      Option
                                                        ((Bool ×
                                                            UInt8 ×
                                                              UInt64 ×
                                                                UInt64 ×
                                                                  List UInt8 ×
                                                                    List (List UInt8 × List UInt8) ×
                                                                      UInt8 ×
                                                                        UInt8 ×
                                                                          Int64 × UInt8 × UInt8 × UInt64 × UInt64) ×
                                                          Option (List UInt8 × Int64)) := fun (n : Nat) (r : Option (List UInt8 × Int64)) (t0 : Bool) (t1 : UInt8) (t2 t3 : UInt64) (t4 : List UInt8)
    (t6 t7 : UInt8) (t8 : Int64) (t9 t10 : UInt8) (t11 t12 : UInt64) (x0 : Bool) (x1 : UInt8) (x2 x3 : UInt64)
    (x4 : List UInt8) (x5 : List (List UInt8 × List UInt8)) (x6 x7 : UInt8) (x8 : Int64) (x9 x10 : UInt8)
    (x11 x12 : UInt64) =>
  ojoinA (15 : Nat)
    [PT.opt
        (OTs.cons (OT.c (CT.ro (CTs.cons (CT.int IntKind.u8) CTs.nil))) (OTs.cons (OT.c (CT.int IntKind.i64)) OTs.nil)),
      PT.bool, PT.int IntKind.u8, PT.int IntKind.u64, PT.int IntKind.u64, PT.bytes, PT.int IntKind.u8,
      PT.int IntKind.u8, PT.int IntKind.i64, PT.int IntKind.u8, PT.int IntKind.u8, PT.int IntKind.u64,
      PT.int IntKind.u64, PT.bool, PT.int IntKind.u8, PT.int IntKind.u64, PT.int IntKind.u64, PT.bytes,
      PT.list (CTs.cons CT.str (CTs.cons CT.str CTs.nil)), PT.int IntKind.u8, PT.int IntKind.u8, PT.int IntKind.i64,
      PT.int IntKind.u8, PT.int IntKind.u8, PT.int IntKind.u64, PT.int IntKind.u64]
    (fun
        (J :
          Arr
            [PT.opt
                (OTs.cons (OT.c (CT.ro (CTs.cons (CT.int IntKind.u8) CTs.nil)))
                  (OTs.cons (OT.c (CT.int IntKind.i64)) OTs.nil)),
              PT.bool, PT.int IntKind.u8, PT.int IntKind.u64, PT.int IntKind.u64, PT.bytes, PT.int IntKind.u8,
              PT.int IntKind.u8, PT.int IntKind.i64, PT.int IntKind.u8, PT.int IntKind.u8, PT.int IntKind.u64,
              PT.int IntKind.u64, PT.bool, PT.int IntKind.u8, PT.int IntKind.u64, PT.int IntKind.u64, PT.bytes,
              PT.list (CTs.cons CT.str (CTs.cons CT.str CTs.nil)), PT.int IntKind.u8, PT.int IntKind.u8,
              PT.int IntKind.i64, PT.int IntKind.u8, PT.int IntKind.u8, PT.int IntKind.u64, PT.int IntKind.u64]
            (Option
              ((Bool ×
                  UInt8 ×
                    UInt64 ×
                      UInt64 ×
                        List UInt8 ×
                          List (List UInt8 × List UInt8) × UInt8 × UInt8 × Int64 × UInt8 × UInt8 × UInt64 × UInt64) ×
                Option (List UInt8 × Int64)))) =>
      obind (F52 n r) fun (x_2 : Int64 × Option (List UInt8 × Int64)) =>
        oite (decide (Prod.fst x_2 = (0 : Int64)))
          (obind (F21 n (x0, x1, x2, x3, x4, x5, x6, x7, x8, x9, x10, x11, x12)) fun (x_3 : Int64 × Unit) =>
            oite (!decide (Prod.fst x_3 = (0 : Int64)))
              (obind (F53 n (Prod.snd x_2, Prod.fst x_3)) fun (x_4 : Unit × Option (List UInt8 × Int64)) =>
                J (Prod.snd x_4) t0 t1 t2 t3 t4 t6 t7 t8 t9 t10 t11 t12 x0 x1 x2 x3 x4 x5 x6 x7 x8 x9 x10 x11 x12)
              (J (Prod.snd x_2) t0 t1 t2 t3 t4 t6 t7 t8 t9 t10 t11 t12 x0 x1 x2 x3 x4 x5 x6 x7 x8 x9 x10 x11 x12))
          (J (Prod.snd x_2) t0 t1 t2 t3 t4 t6 t7 t8 t9 t10 t11 t12 x0 x1 x2 x3 x4 x5 x6 x7 x8 x9 x10 x11 x12))
    (F28_J15 n)
def F28 : Nat →
  Option (List UInt8 × Int64) →
    Option
      ((Bool ×
          UInt8 ×
            UInt64 ×
              UInt64 ×
                List UInt8 × List (List UInt8 × List UInt8) × UInt8 × UInt8 × Int64 × UInt8 × UInt8 × UInt64 × UInt64) ×
        Option (List UInt8 × Int64)) := fun (n : Nat) (x : Option (List UInt8 × Int64)) =>
  obind (F48 n x) fun (x_1 : Bool × Option (List UInt8 × Int64)) =>
    ojoinA (7 : Nat)
      [PT.opt
          (OTs.cons (OT.c (CT.ro (CTs.cons (CT.int IntKind.u8) CTs.nil)))
            (OTs.cons (OT.c (CT.int IntKind.i64)) OTs.nil)),
        PT.bool, PT.int IntKind.u8, PT.int IntKind.u64, PT.int IntKind.u64, PT.bytes, PT.int IntKind.u8,
        PT.int IntKind.u8, PT.int IntKind.i64, PT.int IntKind.u8, PT.int IntKind.u8, PT.int IntKind.u64,
        PT.int IntKind.u64, PT.bool, PT.int IntKind.u8, PT.int IntKind.u64, PT.int IntKind.u64, PT.bytes,
        PT.list (CTs.cons CT.str (CTs.cons CT.str CTs.nil)), PT.int IntKind.u8, PT.int IntKind.u8, PT.int IntKind.i64,
        PT.int IntKind.u8, PT.int IntKind.u8, PT.int IntKind.u64, PT.int IntKind.u64]
      (fun
          (J :
            Arr
              [PT.opt
                  (OTs.cons (OT.c (CT.ro (CTs.cons (CT.int IntKind.u8) CTs.nil)))
                    (OTs.cons (OT.c (CT.int IntKind.i64)) OTs.nil)),
                PT.bool, PT.int IntKind.u8, PT.int IntKind.u64, PT.int IntKind.u64, PT.bytes, PT.int IntKind.u8,
                PT.int IntKind.u8, PT.int IntKind.i64, PT.int IntKind.u8, PT.int IntKind.u8, PT.int IntKind.u64,
                PT.int IntKind.u64, PT.bool, PT.int IntKind.u8, PT.int IntKind.u64, PT.int IntKind.u64, PT.bytes,
                PT.list (CTs.cons CT.str (CTs.cons CT.str CTs.nil)), PT.int IntKind.u8, PT.int IntKind.u8,
                PT.int IntKind.i64, PT.int IntKind.u8, PT.int IntKind.u8, PT.int IntKind.u64, PT.int IntKind.u64]
              (Option
                ((Bool ×
                    UInt8 ×
                      UInt64 ×
                        UInt64 ×
                          List UInt8 ×
                            List (List UInt8 × List UInt8) × UInt8 × UInt8 × Int64 × UInt8 × UInt8 × UInt64 × UInt64) ×
                  Option (List UInt8 × Int64)))) =>
        oite (Prod.fst x_1)
          (obind (F49 n (Prod.snd x_1)) fun (x_2 : UInt8 × Option (List UInt8 × Int64)) =>
            obind (F50 n (Prod.snd x_2)) fun (x_3 : UInt64 × Option (List UInt8 × Int64)) =>
              obind (F50 n (Prod.snd x_3)) fun (x_4 : UInt64 × Option (List UInt8 × Int64)) =>
                J (Prod.snd x_4) false (0 : UInt8) (0 : UInt64) (0 : UInt64) [] (0 : UInt8) (0 : UInt8) (0 : Int64)
                  (0 : UInt8) (0 : UInt8) (0 : UInt64) (0 : UInt64) (Prod.fst x_1) (0 : UInt8) (0 : UInt64) (0 : UInt64)
                  [] [] (0 : UInt8) (0 : UInt8) (0 : Int64) (0 : UInt8) (Prod.fst x_2) (Prod.fst x_3) (Prod.fst x_4))
          (obind (F51 n (Prod.snd x_1))
            fun
              (x_2 :
                (UInt8 ×
                    UInt64 × UInt64 × List UInt8 × List (List UInt8 × List UInt8) × UInt8 × UInt8 × Int64 × UInt8) ×
                  Option (List UInt8 × Int64)) =>
            J (Prod.snd x_2) false (0 : UInt8) (0 : UInt64) (0 : UInt64) [] (0 : UInt8) (0 : UInt8) (0 : Int64)
              (0 : UInt8) (0 : UInt8) (0 : UInt64) (0 : UInt64) (Prod.fst x_1) (Prod.fst (Prod.fst x_2))
              (Prod.fst (Prod.snd (Prod.fst x_2))) (Prod.fst (Prod.snd (Prod.snd (Prod.fst x_2))))
              (Prod.fst (Prod.snd (Prod.snd (Prod.snd (Prod.fst x_2)))))
              (Prod.fst (Prod.snd (Prod.snd (Prod.snd (Prod.snd (Prod.fst x_2))))))
              (Prod.fst (Prod.snd (Prod.snd (Prod.snd (Prod.snd (Prod.snd (Prod.fst x_2)))))))
              (Prod.fst (Prod.snd (Prod.snd (Prod.snd (Prod.snd (Prod.snd (Prod.snd (Prod.fst x_2))))))))
              (Prod.fst (Prod.snd (Prod.snd (Prod.snd (Prod.snd (Prod.snd (Prod.snd (Prod.snd (Prod.fst x_2)))))))))
              (Prod.snd (Prod.snd (Prod.snd (Prod.snd (Prod.snd (Prod.snd (Prod.snd (Prod.snd (Prod.fst x_2)))))))))
              (0 : UInt8) (0 : UInt64) (0 : UInt64)))
      (F28_J7 n)
theorem ok28 (n : Nat) : FunOK Try.prog ⟨28, sig28, F28 n⟩ :=
  fun_ok (hints := ⟨[(7, ⟨[(0, .one (.own 0)), (2, .one (.own 1)), (3, .one (.own 2))], [(0, .fold (.cons (.c (.ro (.cons (.int .u8) .nil))) (.cons (.c (.int .i64)) .nil))), (1, .cells [.bool, .int .u8, .int .u64, .int .u64, .str, .nils, .int .u8, .int .u8, .int .i64, .int .u8, .int .u8, .int .u64, .int .u64]), (2, .cells [.bool, .int .u8, .int .u64, .int .u64, .str, .ro (.cons .str (.cons .str .nil)), .int .u8, .int .u8, .int .i64, .int .u8, .int .u8, .int .u64, .int .u64])], 3⟩), (15, ⟨[(0, .one (.own 0)), (2, .one (.own 1)), (3, .one (.own 2))], [(0, .fold (.cons (.c (.ro (.cons (.int .u8) .nil))) (.cons (.c (.int .i64)) .nil))), (1, .cells [.bool, .int .u8, .int .u64, .int .u64, .str, .nils, .int .u8, .int .u8, .int .i64, .int .u8, .int .u8, .int .u64, .int .u64]), (2, .cells [.bool, .int .u8, .int .u64, .int .u64, .str, .ro (.cons .str (.cons .str .nil)), .int .u8, .int .u8, .int .i64, .int .u8, .int .u8, .int .u64, .int .u64])], 3⟩)], []⟩) (fuel := n) (c := Try.f28.body.getD .skip) (rs := Try.f28.results.toList) tt_ok mix (FsOK.cons (ok48 n) (FsOK.cons (ok49 n) (FsOK.cons (ok50 n) (FsOK.cons (ok51 n) (FsOK.cons (ok52 n) (FsOK.cons (ok21 n) (FsOK.cons (ok53 n) (FsOK.nil)))))))) Try.func28 (by kernel_rfl) (by kernel_rfl) rfl (by kernel_rfl) rfl rfl (by kernel_rfl)
-- (*watchfire/pack.Reader).Left
def sig54 : Sig := ⟨(.cons (.one (.ptr (.cons (.c (.ro (.cons (.int .u8) .nil))) (.cons (.c (.int .i64)) .nil)))) .nil), (.cons (.one (.c (.int .i64))) .nil)⟩
def F54 : Nat → Option (List UInt8 × Int64) → Option (Int64 × Option (List UInt8 × Int64)) := fun (n : Nat) (x : Option (List UInt8 × Int64)) =>
  obind (F66 n x) fun (x_1 : Bool × Option (List UInt8 × Int64)) =>
    oite (!Prod.fst x_1) (some ((0 : Int64), Prod.snd x_1))
      (obind (Prod.snd x_1) fun (x_2 : List UInt8 × Int64) =>
        some (Int64.ofInt ↑(List.length (Prod.fst x_2)), some (Prod.fst x_2, Prod.snd x_2)))
theorem ok54 (n : Nat) : FunOK Try.prog ⟨54, sig54, F54 n⟩ :=
  fun_ok (hints := ⟨[], []⟩) (fuel := n) (c := Try.f54.body.getD .skip) (rs := Try.f54.results.toList) tt_ok mix (FsOK.cons (ok66 n) (FsOK.nil)) Try.func54 (by kernel_rfl) (by kernel_rfl) rfl (by kernel_rfl) rfl rfl (by kernel_rfl)
-- (*watchfire/pack.Reader).Done
def sig29 : Sig := ⟨(.cons (.one (.ptr (.cons (.c (.ro (.cons (.int .u8) .nil))) (.cons (.c (.int .i64)) .nil)))) .nil), (.cons (.one (.c (.int .i64))) .nil)⟩
def F29 : Nat → Option (List UInt8 × Int64) → Option (Int64 × Option (List UInt8 × Int64)) := fun (n : Nat) (x : Option (List UInt8 × Int64)) =>
  obind (F54 n x) fun (x_1 : Int64 × Option (List UInt8 × Int64)) =>
    oite (decide ((0 : Int64) < Prod.fst x_1))
      (obind (F53 n (Prod.snd x_1, (25 : Int64))) fun (x_2 : Unit × Option (List UInt8 × Int64)) =>
        obind (F52 n (Prod.snd x_2)) fun (x_3 : Int64 × Option (List UInt8 × Int64)) =>
          some (Prod.fst x_3, Prod.snd x_3))
      (obind (F52 n (Prod.snd x_1)) fun (x_2 : Int64 × Option (List UInt8 × Int64)) =>
        some (Prod.fst x_2, Prod.snd x_2))
theorem ok29 (n : Nat) : FunOK Try.prog ⟨29, sig29, F29 n⟩ :=
  fun_ok (hints := ⟨[], []⟩) (fuel := n) (c := Try.f29.body.getD .skip) (rs := Try.f29.results.toList) tt_ok mix (FsOK.cons (ok54 n) (FsOK.cons (ok53 n) (FsOK.cons (ok52 n) (FsOK.nil)))) Try.func29 (by kernel_rfl) (by kernel_rfl) rfl (by kernel_rfl) rfl rfl (by kernel_rfl)
-- watchfire/item.Decode
def sig30 : Sig := ⟨(.cons (.one (.c (.ro (.cons (.int .u8) .nil)))) .nil), (.cons (.agg (.cons .bool (.cons (.int .u8) (.cons (.int .u64) (.cons (.int .u64) (.cons .str (.cons (.ro (.cons .str (.cons .str .nil))) (.cons (.int .u8) (.cons (.int .u8) (.cons (.int .i64) (.cons (.int .u8) (.cons (.int .u8) (.cons (.int .u64) (.cons (.int .u64) .nil)))))))))))))) (.cons (.one (.c (.int .i64))) .nil))⟩
def F30 : Nat →
  List UInt8 →
    Option
      (((Bool ×
            UInt8 ×
              UInt64 ×
                UInt64 ×
                  List UInt8 ×
                    List (List UInt8 × List UInt8) × UInt8 × UInt8 × Int64 × UInt8 × UInt8 × UInt64 × UInt64) ×
          Int64) ×
        Unit) := fun (n : Nat) (x : List UInt8) =>
  obind (F27 n x) fun (x_1 : Option (List UInt8 × Int64) × Unit) =>
    obind (F28 n (Prod.fst x_1))
      fun
        (x_2 :
          (Bool ×
              UInt8 ×
                UInt64 ×
                  UInt64 ×
                    List UInt8 ×
                      List (List UInt8 × List UInt8) × UInt8 × UInt8 × Int64 × UInt8 × UInt8 × UInt64 × UInt64) ×
            Option (List UInt8 × Int64)) =>
      obind (F29 n (Prod.snd x_2)) fun (x_3 : Int64 × Option (List UInt8 × Int64)) =>
        oite (!decide (Prod.fst x_3 = (0 : Int64)))
          (some
            (((false, (0 : UInt8), (0 : UInt64), (0 : UInt64), [], [], (0 : UInt8), (0 : UInt8), (0 : Int64),
                  (0 : UInt8), (0 : UInt8), (0 : UInt64), (0 : UInt64)),
                Prod.fst x_3),
              ()))
          (some
            (((Prod.fst (Prod.fst x_2), Prod.fst (Prod.snd (Prod.fst x_2)),
                  Prod.fst (Prod.snd (Prod.snd (Prod.fst x_2))),
                  Prod.fst (Prod.snd (Prod.snd (Prod.snd (Prod.fst x_2)))),
                  Prod.fst (Prod.snd (Prod.snd (Prod.snd (Prod.snd (Prod.fst x_2))))),
                  Prod.fst (Prod.snd (Prod.snd (Prod.snd (Prod.snd (Prod.snd (Prod.fst x_2)))))),
                  Prod.fst (Prod.snd (Prod.snd (Prod.snd (Prod.snd (Prod.snd (Prod.snd (Prod.fst x_2))))))),
                  Prod.fst (Prod.snd (Prod.snd (Prod.snd (Prod.snd (Prod.snd (Prod.snd (Prod.snd (Prod.fst x_2)))))))),
                  Prod.fst
                    (Prod.snd
                      (Prod.snd (Prod.snd (Prod.snd (Prod.snd (Prod.snd (Prod.snd (Prod.snd (Prod.fst x_2))))))))),
                  Prod.fst
                    (Prod.snd
                      (Prod.snd
                        (Prod.snd (Prod.snd (Prod.snd (Prod.snd (Prod.snd (Prod.snd (Prod.snd (Prod.fst x_2)))))))))),
                  Prod.fst
                    (Prod.snd
                      (Prod.snd
                        (Prod.snd
                          (Prod.snd
                            (Prod.snd (Prod.snd (Prod.snd (Prod.snd (Prod.snd (Prod.snd (Prod.fst x_2))))))))))),
                  Prod.fst
                    (Prod.snd
                      (Prod.snd
                        (Prod.snd
                          (Prod.snd
                            (Prod.snd
                              (Prod.snd (Prod.snd (Prod.snd (Prod.snd (Prod.snd (Prod.snd (Prod.fst x_2)))))))))))),
                  Prod.snd
                    (Prod.snd
                      (Prod.snd
                        (Prod.snd
                          (Prod.snd
                            (Prod.snd
                              (Prod.snd (Prod.snd (Prod.snd (Prod.snd (Prod.snd (Prod.snd (Prod.fst x_2))))))))))))),
                (0 : Int64)),
              ()))
theorem ok30 (n : Nat) : FunOK Try.prog ⟨30, sig30, F30 n⟩ :=
  fun_ok (hints := ⟨[], []⟩) (fuel := n) (c := Try.f30.body.getD .skip) (rs := Try.f30.results.toList) tt_ok mix (FsOK.cons (ok27 n) (FsOK.cons (ok28 n) (FsOK.cons (ok29 n) (FsOK.nil)))) Try.func30 (by kernel_rfl) (by kernel_rfl) rfl (by kernel_rfl) rfl rfl (by kernel_rfl)
-- watchfire/watchfirelaw04.ItemStreams
def sig6 : Sig := ⟨(.cons (.one (.c (.ro (.cons .bool (.cons (.int .u8) (.cons (.int .u8) (.cons (.int .u8) (.cons (.int .u16) (.cons (.int .u16) (.cons (.int .u16) (.cons (.int .u8) (.cons (.int .u8) (.cons (.int .u8) (.cons .bool .nil)))))))))))))) (.cons (.one (.c (.int .u16))) .nil)), (.cons (.one (.c .bool)) .nil)⟩
def F6_L1021 : Nat →
  Arr
      [PT.list
          (CTs.cons CT.bool
            (CTs.cons (CT.int IntKind.u8)
              (CTs.cons (CT.int IntKind.u8)
                (CTs.cons (CT.int IntKind.u8)
                  (CTs.cons (CT.int IntKind.u16)
                    (CTs.cons (CT.int IntKind.u16)
                      (CTs.cons (CT.int IntKind.u16)
                        (CTs.cons (CT.int IntKind.u8)
                          (CTs.cons (CT.int IntKind.u8)
                            (CTs.cons (CT.int IntKind.u8) (CTs.cons CT.bool CTs.nil))))))))))),
        PT.int IntKind.u16,
        PT.list
          (CTs.cons CT.bool
            (CTs.cons (CT.int IntKind.u8)
              (CTs.cons (CT.int IntKind.u8)
                (CTs.cons (CT.int IntKind.u8)
                  (CTs.cons (CT.int IntKind.u16)
                    (CTs.cons (CT.int IntKind.u16)
                      (CTs.cons (CT.int IntKind.u16)
                        (CTs.cons (CT.int IntKind.u8)
                          (CTs.cons (CT.int IntKind.u8)
                            (CTs.cons (CT.int IntKind.u8) (CTs.cons CT.bool CTs.nil))))))))))),
        PT.int IntKind.i64, PT.int IntKind.i64,
        PT.opt
          (OTs.cons (OT.c (CT.ro (CTs.cons (CT.int IntKind.u8) CTs.nil)))
            (OTs.cons (OT.c (CT.int IntKind.i64)) OTs.nil))]
      (Option (Bool × Unit)) →
    List (Bool × UInt8 × UInt8 × UInt8 × UInt16 × UInt16 × UInt16 × UInt8 × UInt8 × UInt8 × Bool) →
      UInt16 →
        List (Bool × UInt8 × UInt8 × UInt8 × UInt16 × UInt16 × UInt16 × UInt8 × UInt8 × UInt8 × Bool) →
          Int64 → Int64 → Option (List UInt8 × Int64) → Option (Bool × Unit) := fun (n : Nat)
    (rec_1 :
      Arr
        [PT.list
            (CTs.cons CT.bool
              (CTs.cons (CT.int IntKind.u8)
                (CTs.cons (CT.int IntKind.u8)
                  (CTs.cons (CT.int IntKind.u8)
                    (CTs.cons (CT.int IntKind.u16)
                      (CTs.cons (CT.int IntKind.u16)
                        (CTs.cons (CT.int IntKind.u16)
                          (CTs.cons (CT.int IntKind.u8)
                            (CTs.cons (CT.int IntKind.u8)
                              (CTs.cons (CT.int IntKind.u8) (CTs.cons CT.bool CTs.nil))))))))))),
          PT.int IntKind.u16,
          PT.list
            (CTs.cons CT.bool
              (CTs.cons (CT.int IntKind.u8)
                (CTs.cons (CT.int IntKind.u8)
                  (CTs.cons (CT.int IntKind.u8)
                    (CTs.cons (CT.int IntKind.u16)
                      (CTs.cons (CT.int IntKind.u16)
                        (CTs.cons (CT.int IntKind.u16)
                          (CTs.cons (CT.int IntKind.u8)
                            (CTs.cons (CT.int IntKind.u8)
                              (CTs.cons (CT.int IntKind.u8) (CTs.cons CT.bool CTs.nil))))))))))),
          PT.int IntKind.i64, PT.int IntKind.i64,
          PT.opt
            (OTs.cons (OT.c (CT.ro (CTs.cons (CT.int IntKind.u8) CTs.nil)))
              (OTs.cons (OT.c (CT.int IntKind.i64)) OTs.nil))]
        (Option (Bool × Unit)))
    (l_1 : List (Bool × UInt8 × UInt8 × UInt8 × UInt16 × UInt16 × UInt16 × UInt8 × UInt8 × UInt8 × Bool))
    (cut_1 : UInt16)
    (t_3 : List (Bool × UInt8 × UInt8 × UInt8 × UInt16 × UInt16 × UInt16 × UInt8 × UInt8 × UInt8 × Bool))
    (t_1_1 t_2_1 : Int64) (r : Option (List UInt8 × Int64)) =>
  oite (decide (t_2_1 < t_1_1))
    (obind (at? t_3 (Int64.toInt t_2_1))
      fun (x_4 : Bool × UInt8 × UInt8 × UInt8 × UInt16 × UInt16 × UInt16 × UInt8 × UInt8 × UInt8 × Bool) =>
      obind (F28 n r)
        fun
          (x_5 :
            (Bool ×
                UInt8 ×
                  UInt64 ×
                    UInt64 ×
                      List UInt8 ×
                        List (List UInt8 × List UInt8) × UInt8 × UInt8 × Int64 × UInt8 × UInt8 × UInt64 × UInt64) ×
              Option (List UInt8 × Int64)) =>
        obind
          (F9 n
            (Prod.fst x_4, Prod.fst (Prod.snd x_4), Prod.fst (Prod.snd (Prod.snd x_4)),
              Prod.fst (Prod.snd (Prod.snd (Prod.snd x_4))), Prod.fst (Prod.snd (Prod.snd (Prod.snd (Prod.snd x_4)))),
              Prod.fst (Prod.snd (Prod.snd (Prod.snd (Prod.snd (Prod.snd x_4))))),
              Prod.fst (Prod.snd (Prod.snd (Prod.snd (Prod.snd (Prod.snd (Prod.snd x_4)))))),
              Prod.fst (Prod.snd (Prod.snd (Prod.snd (Prod.snd (Prod.snd (Prod.snd (Prod.snd x_4))))))),
              Prod.fst (Prod.snd (Prod.snd (Prod.snd (Prod.snd (Prod.snd (Prod.snd (Prod.snd (Prod.snd x_4)))))))),
              Prod.fst
                (Prod.snd (Prod.snd (Prod.snd (Prod.snd (Prod.snd (Prod.snd (Prod.snd (Prod.snd (Prod.snd x_4))))))))),
              Prod.snd
                (Prod.snd (Prod.snd (Prod.snd (Prod.snd (Prod.snd (Prod.snd (Prod.snd (Prod.snd (Prod.snd x_4)))))))))))
          fun
            (x_6 :
              (Bool ×
                  UInt8 ×
                    UInt64 ×
                      UInt64 ×
                        List UInt8 ×
                          List (List UInt8 × List UInt8) × UInt8 × UInt8 × Int64 × UInt8 × UInt8 × UInt64 × UInt64) ×
                Unit) =>
          obind
            (F16 n
              ((Prod.fst (Prod.fst x_5), Prod.fst (Prod.snd (Prod.fst x_5)),
                  Prod.fst (Prod.snd (Prod.snd (Prod.fst x_5))),
                  Prod.fst (Prod.snd (Prod.snd (Prod.snd (Prod.fst x_5)))),
                  Prod.fst (Prod.snd (Prod.snd (Prod.snd (Prod.snd (Prod.fst x_5))))),
                  Prod.fst (Prod.snd (Prod.snd (Prod.snd (Prod.snd (Prod.snd (Prod.fst x_5)))))),
                  Prod.fst (Prod.snd (Prod.snd (Prod.snd (Prod.snd (Prod.snd (Prod.snd (Prod.fst x_5))))))),
                  Prod.fst (Prod.snd (Prod.snd (Prod.snd (Prod.snd (Prod.snd (Prod.snd (Prod.snd (Prod.fst x_5)))))))),
                  Prod.fst
                    (Prod.snd
                      (Prod.snd (Prod.snd (Prod.snd (Prod.snd (Prod.snd (Prod.snd (Prod.snd (Prod.fst x_5))))))))),
                  Prod.fst
                    (Prod.snd
                      (Prod.snd
                        (Prod.snd (Prod.snd (Prod.snd (Prod.snd (Prod.snd (Prod.snd (Prod.snd (Prod.fst x_5)))))))))),
                  Prod.fst
                    (Prod.snd
                      (Prod.snd
                        (Prod.snd
                          (Prod.snd
                            (Prod.snd (Prod.snd (Prod.snd (Prod.snd (Prod.snd (Prod.snd (Prod.fst x_5))))))))))),
                  Prod.fst
                    (Prod.snd
                      (Prod.snd
                        (Prod.snd
                          (Prod.snd
                            (Prod.snd
                              (Prod.snd (Prod.snd (Prod.snd (Prod.snd (Prod.snd (Prod.snd (Prod.fst x_5)))))))))))),
                  Prod.snd
                    (Prod.snd
                      (Prod.snd
                        (Prod.snd
                          (Prod.snd
                            (Prod.snd
                              (Prod.snd (Prod.snd (Prod.snd (Prod.snd (Prod.snd (Prod.snd (Prod.fst x_5))))))))))))),
                Prod.fst (Prod.fst x_6), Prod.fst (Prod.snd (Prod.fst x_6)),
                Prod.fst (Prod.snd (Prod.snd (Prod.fst x_6))), Prod.fst (Prod.snd (Prod.snd (Prod.snd (Prod.fst x_6)))),
                Prod.fst (Prod.snd (Prod.snd (Prod.snd (Prod.snd (Prod.fst x_6))))),
                Prod.fst (Prod.snd (Prod.snd (Prod.snd (Prod.snd (Prod.snd (Prod.fst x_6)))))),
                Prod.fst (Prod.snd (Prod.snd (Prod.snd (Prod.snd (Prod.snd (Prod.snd (Prod.fst x_6))))))),
                Prod.fst (Prod.snd (Prod.snd (Prod.snd (Prod.snd (Prod.snd (Prod.snd (Prod.snd (Prod.fst x_6)))))))),
                Prod.fst
                  (Prod.snd
                    (Prod.snd (Prod.snd (Prod.snd (Prod.snd (Prod.snd (Prod.snd (Prod.snd (Prod.fst x_6))))))))),
                Prod.fst
                  (Prod.snd
                    (Prod.snd
                      (Prod.snd (Prod.snd (Prod.snd (Prod.snd (Prod.snd (Prod.snd (Prod.snd (Prod.fst x_6)))))))))),
                Prod.fst
                  (Prod.snd
                    (Prod.snd
                      (Prod.snd
                        (Prod.snd (Prod.snd (Prod.snd (Prod.snd (Prod.snd (Prod.snd (Prod.snd (Prod.fst x_6))))))))))),
                Prod.fst
                  (Prod.snd
                    (Prod.snd
                      (Prod.snd
                        (Prod.snd
                          (Prod.snd
                            (Prod.snd (Prod.snd (Prod.snd (Prod.snd (Prod.snd (Prod.snd (Prod.fst x_6)))))))))))),
                Prod.snd
                  (Prod.snd
                    (Prod.snd
                      (Prod.snd
                        (Prod.snd
                          (Prod.snd
                            (Prod.snd (Prod.snd (Prod.snd (Prod.snd (Prod.snd (Prod.snd (Prod.fst x_6))))))))))))))
            fun (x_7 : Bool × Unit) =>
            oite (!Prod.fst x_7) (some (false, ()))
              (rec_1 l_1 cut_1 t_3 t_1_1 (t_2_1 + (1 : Int64)) (Prod.snd x_5)))
    (obind (F29 n r) fun (x_4 : Int64 × Option (List UInt8 × Int64)) =>
      oite (!decide (Prod.fst x_4 = (0 : Int64)))
        (some (decide (Int64.ofInt ↑(List.length l_1) = (0 : Int64)), ()))
        (oite (decide (Int64.ofInt ↑(List.length l_1) = (0 : Int64)))
          (some (decide (Int64.ofInt ↑(List.length l_1) = (0 : Int64)), ()))
          (obind (at? l_1 (Int64.toInt (0 : Int64)))
            fun (x_5 : Bool × UInt8 × UInt8 × UInt8 × UInt16 × UInt16 × UInt16 × UInt8 × UInt8 × UInt8 × Bool) =>
            obind
              (F9 n
                (Prod.fst x_5, Prod.fst (Prod.snd x_5), Prod.fst (Prod.snd (Prod.snd x_5)),
                  Prod.fst (Prod.snd (Prod.snd (Prod.snd x_5))),
                  Prod.fst (Prod.snd (Prod.snd (Prod.snd (Prod.snd x_5)))),
                  Prod.fst (Prod.snd (Prod.snd (Prod.snd (Prod.snd (Prod.snd x_5))))),
                  Prod.fst (Prod.snd (Prod.snd (Prod.snd (Prod.snd (Prod.snd (Prod.snd x_5)))))),
                  Prod.fst (Prod.snd (Prod.snd (Prod.snd (Prod.snd (Prod.snd (Prod.snd (Prod.snd x_5))))))),
                  Prod.fst (Prod.snd (Prod.snd (Prod.snd (Prod.snd (Prod.snd (Prod.snd (Prod.snd (Prod.snd x_5)))))))),
                  Prod.fst
                    (Prod.snd
                      (Prod.snd (Prod.snd (Prod.snd (Prod.snd (Prod.snd (Prod.snd (Prod.snd (Prod.snd x_5))))))))),
                  Prod.snd
                    (Prod.snd
                      (Prod.snd (Prod.snd (Prod.snd (Prod.snd (Prod.snd (Prod.snd (Prod.snd (Prod.snd x_5)))))))))))
              fun
                (x_6 :
                  (Bool ×
                      UInt8 ×
                        UInt64 ×
                          UInt64 ×
                            List UInt8 ×
                              List (List UInt8 × List UInt8) ×
                                UInt8 × UInt8 × Int64 × UInt8 × UInt8 × UInt64 × UInt64) ×
                    Unit) =>
              obind
                (F13 n
                  (Prod.fst (Prod.fst x_6), Prod.fst (Prod.snd (Prod.fst x_6)),
                    Prod.fst (Prod.snd (Prod.snd (Prod.fst x_6))),
                    Prod.fst (Prod.snd (Prod.snd (Prod.snd (Prod.fst x_6)))),
                    Prod.fst (Prod.snd (Prod.snd (Prod.snd (Prod.snd (Prod.fst x_6))))),
                    Prod.fst (Prod.snd (Prod.snd (Prod.snd (Prod.snd (Prod.snd (Prod.fst x_6)))))),
                    Prod.fst (Prod.snd (Prod.snd (Prod.snd (Prod.snd (Prod.snd (Prod.snd (Prod.fst x_6))))))),
                    Prod.fst
                      (Prod.snd (Prod.snd (Prod.snd (Prod.snd (Prod.snd (Prod.snd (Prod.snd (Prod.fst x_6)))))))),
                    Prod.fst
                      (Prod.snd
                        (Prod.snd (Prod.snd (Prod.snd (Prod.snd (Prod.snd (Prod.snd (Prod.snd (Prod.fst x_6))))))))),
                    Prod.fst
                      (Prod.snd
                        (Prod.snd
                          (Prod.snd (Prod.snd (Prod.snd (Prod.snd (Prod.snd (Prod.snd (Prod.snd (Prod.fst x_6)))))))))),
                    Prod.fst
                      (Prod.snd
                        (Prod.snd
                          (Prod.snd
                            (Prod.snd
                              (Prod.snd (Prod.snd (Prod.snd (Prod.snd (Prod.snd (Prod.snd (Prod.fst x_6))))))))))),
                    Prod.fst
                      (Prod.snd
                        (Prod.snd
                          (Prod.snd
                            (Prod.snd
                              (Prod.snd
                                (Prod.snd (Prod.snd (Prod.snd (Prod.snd (Prod.snd (Prod.snd (Prod.fst x_6)))))))))))),
                    Prod.snd
                      (Prod.snd
                        (Prod.snd
                          (Prod.snd
                            (Prod.snd
                              (Prod.snd
                                (Prod.snd (Prod.snd (Prod.snd (Prod.snd (Prod.snd (Prod.snd (Prod.fst x_6))))))))))))))
                fun (x_7 : List UInt8 × Unit) =>
                oite (decide (Int64.ofInt ↑(List.length (Prod.fst x_7)) = (0 : Int64))) none
                  (oite
                    (decide
                          ((0 : Int) ≤
                            Int64.toInt
                              (Int64.ofInt ↑(UInt16.toNat cut_1) % Int64.ofInt ↑(List.length (Prod.fst x_7)))) &&
                        Nat.ble
                          (Int.toNat
                            (Int64.toInt
                              (Int64.ofInt ↑(UInt16.toNat cut_1) % Int64.ofInt ↑(List.length (Prod.fst x_7)))))
                          (List.length (Prod.fst x_7)) &&
                      true)
                    (obind
                      (F30 n
                        (List.drop (0 : Nat)
                          (List.take
                            (Int.toNat
                              (Int64.toInt
                                (Int64.ofInt ↑(UInt16.toNat cut_1) % Int64.ofInt ↑(List.length (Prod.fst x_7)))))
                            (Prod.fst x_7))))
                      fun
                        (x_8 :
                          ((Bool ×
                                UInt8 ×
                                  UInt64 ×
                                    UInt64 ×
                                      List UInt8 ×
                                        List (List UInt8 × List UInt8) ×
                                          UInt8 × UInt8 × Int64 × UInt8 × UInt8 × UInt64 × UInt64) ×
                              Int64) ×
                            Unit) =>
                      oite (Nat.ble ((0 : Nat) + List.length (Prod.fst x_7)) (4294967296 : Nat))
                        (oite
                          (Nat.ble (List.length ([] ++ Prod.fst x_7) + List.length [(0 : UInt8)]) (4294967296 : Nat))
                          (obind (F30 n ([] ++ Prod.fst x_7 ++ [(0 : UInt8)]))
                            fun
                              (x_9 :
                                ((Bool ×
                                      UInt8 ×
                                        UInt64 ×
                                          UInt64 ×
                                            List UInt8 ×
                                              List (List UInt8 × List UInt8) ×
                                                UInt8 × UInt8 × Int64 × UInt8 × UInt8 × UInt64 × UInt64) ×
                                    Int64) ×
                                  Unit) =>
                            oite (decide (Prod.snd (Prod.fst x_8) = (3 : Int64)))
                              (some (decide (Prod.snd (Prod.fst x_9) = (25 : Int64)), ()))
                              (some (false, ())))
                          none)
                        none)
                    none))))
def F6_R1021 : Nat →
  Nat →
    PT.T
        (PT.list
          (CTs.cons CT.bool
            (CTs.cons (CT.int IntKind.u8)
              (CTs.cons (CT.int IntKind.u8)
                (CTs.cons (CT.int IntKind.u8)
                  (CTs.cons (CT.int IntKind.u16)
                    (CTs.cons (CT.int IntKind.u16)
                      (CTs.cons (CT.int IntKind.u16)
                        (CTs.cons (CT.int IntKind.u8)
                          (CTs.cons (CT.int IntKind.u8)
                            (CTs.cons (CT.int IntKind.u8) (CTs.cons CT.bool CTs.nil)))))))))))) →
      UInt16 →
        List (Bool × UInt8 × UInt8 × UInt8 × UInt16 × UInt16 × UInt16 × UInt8 × UInt8 × UInt8 × Bool) →
          Int64 → Int64 → Option (List UInt8 × Int64) → Option (Bool × Unit) := fun (n : Nat) =>
  ofixA (1021 : Nat)
    [PT.list
        (CTs.cons CT.bool
          (CTs.cons (CT.int IntKind.u8)
            (CTs.cons (CT.int IntKind.u8)
              (CTs.cons (CT.int IntKind.u8)
                (CTs.cons (CT.int IntKind.u16)
                  (CTs.cons (CT.int IntKind.u16)
                    (CTs.cons (CT.int IntKind.u16)
                      (CTs.cons (CT.int IntKind.u8)
                        (CTs.cons (CT.int IntKind.u8)
                          (CTs.cons (CT.int IntKind.u8) (CTs.cons CT.bool CTs.nil))))))))))),
      PT.int IntKind.u16,
      PT.list
        (CTs.cons CT.bool
          (CTs.cons (CT.int IntKind.u8)
            (CTs.cons (CT.int IntKind.u8)
              (CTs.cons (CT.int IntKind.u8)
                (CTs.cons (CT.int IntKind.u16)
                  (CTs.cons (CT.int IntKind.u16)
                    (CTs.cons (CT.int IntKind.u16)
                      (CTs.cons (CT.int IntKind.u8)
                        (CTs.cons (CT.int IntKind.u8)
                          (CTs.cons (CT.int IntKind.u8) (CTs.cons CT.bool CTs.nil))))))))))),
      PT.int IntKind.i64, PT.int IntKind.i64,
      PT.opt
        (OTs.cons (OT.c (CT.ro (CTs.cons (CT.int IntKind.u8) CTs.nil))) (OTs.cons (OT.c (CT.int IntKind.i64)) OTs.nil))]
    (F6_L1021 n)
def F6_L125 : Nat →
  Arr
      [PT.list
          (CTs.cons CT.bool
            (CTs.cons (CT.int IntKind.u8)
              (CTs.cons (CT.int IntKind.u8)
                (CTs.cons (CT.int IntKind.u8)
                  (CTs.cons (CT.int IntKind.u16)
                    (CTs.cons (CT.int IntKind.u16)
                      (CTs.cons (CT.int IntKind.u16)
                        (CTs.cons (CT.int IntKind.u8)
                          (CTs.cons (CT.int IntKind.u8)
                            (CTs.cons (CT.int IntKind.u8) (CTs.cons CT.bool CTs.nil))))))))))),
        PT.int IntKind.u16,
        PT.list
          (CTs.cons CT.bool
            (CTs.cons (CT.int IntKind.u8)
              (CTs.cons (CT.int IntKind.u8)
                (CTs.cons (CT.int IntKind.u8)
                  (CTs.cons (CT.int IntKind.u16)
                    (CTs.cons (CT.int IntKind.u16)
                      (CTs.cons (CT.int IntKind.u16)
                        (CTs.cons (CT.int IntKind.u8)
                          (CTs.cons (CT.int IntKind.u8)
                            (CTs.cons (CT.int IntKind.u8) (CTs.cons CT.bool CTs.nil))))))))))),
        PT.int IntKind.i64, PT.int IntKind.i64,
        PT.opt (OTs.cons (OT.row (CTs.cons (CT.int IntKind.u8) CTs.nil)) OTs.nil)]
      (Option (Bool × Unit)) →
    List (Bool × UInt8 × UInt8 × UInt8 × UInt16 × UInt16 × UInt16 × UInt8 × UInt8 × UInt8 × Bool) →
      UInt16 →
        List (Bool × UInt8 × UInt8 × UInt8 × UInt16 × UInt16 × UInt16 × UInt8 × UInt8 × UInt8 × Bool) →
          Int64 → Int64 → Option (List UInt8) → Option (Bool × Unit) := fun (n : Nat)
    (rec :
      Arr
        [PT.list
            (CTs.cons CT.bool
              (CTs.cons (CT.int IntKind.u8)
                (CTs.cons (CT.int IntKind.u8)
                  (CTs.cons (CT.int IntKind.u8)
                    (CTs.cons (CT.int IntKind.u16)
                      (CTs.cons (CT.int IntKind.u16)
                        (CTs.cons (CT.int IntKind.u16)
                          (CTs.cons (CT.int IntKind.u8)
                            (CTs.cons (CT.int IntKind.u8)
                              (CTs.cons (CT.int IntKind.u8) (CTs.cons CT.bool CTs.nil))))))))))),
          PT.int IntKind.u16,
          PT.list
            (CTs.cons CT.bool
              (CTs.cons (CT.int IntKind.u8)
                (CTs.cons (CT.int IntKind.u8)
                  (CTs.cons (CT.int IntKind.u8)
                    (CTs.cons (CT.int IntKind.u16)
                      (CTs.cons (CT.int IntKind.u16)
                        (CTs.cons (CT.int IntKind.u16)
                          (CTs.cons (CT.int IntKind.u8)
                            (CTs.cons (CT.int IntKind.u8)
                              (CTs.cons (CT.int IntKind.u8) (CTs.cons CT.bool CTs.nil))))))))))),
          PT.int IntKind.i64, PT.int IntKind.i64,
          PT.opt (OTs.cons (OT.row (CTs.cons (CT.int IntKind.u8) CTs.nil)) OTs.nil)]
        (Option (Bool × Unit)))
    (l : List (Bool × UInt8 × UInt8 × UInt8 × UInt16 × UInt16 × UInt16 × UInt8 × UInt8 × UInt8 × Bool)) (cut : UInt16)
    (t : List (Bool × UInt8 × UInt8 × UInt8 × UInt16 × UInt16 × UInt16 × UInt8 × UInt8 × UInt8 × Bool))
    (t_1 t_2 : Int64) (w : Option (List UInt8)) =>
  oite (decide (t_2 < t_1))
    (obind (at? t (Int64.toInt t_2))
      fun (x_2 : Bool × UInt8 × UInt8 × UInt8 × UInt16 × UInt16 × UInt16 × UInt8 × UInt8 × UInt8 × Bool) =>
      obind
        (F9 n
          (Prod.fst x_2, Prod.fst (Prod.snd x_2), Prod.fst (Prod.snd (Prod.snd x_2)),
            Prod.fst (Prod.snd (Prod.snd (Prod.snd x_2))), Prod.fst (Prod.snd (Prod.snd (Prod.snd (Prod.snd x_2)))),
            Prod.fst (Prod.snd (Prod.snd (Prod.snd (Prod.snd (Prod.snd x_2))))),
            Prod.fst (Prod.snd (Prod.snd (Prod.snd (Prod.snd (Prod.snd (Prod.snd x_2)))))),
            Prod.fst (Prod.snd (Prod.snd (Prod.snd (Prod.snd (Prod.snd (Prod.snd (Prod.snd x_2))))))),
            Prod.fst (Prod.snd (Prod.snd (Prod.snd (Prod.snd (Prod.snd (Prod.snd (Prod.snd (Prod.snd x_2)))))))),
            Prod.fst
              (Prod.snd (Prod.snd (Prod.snd (Prod.snd (Prod.snd (Prod.snd (Prod.snd (Prod.snd (Prod.snd x_2))))))))),
            Prod.snd
              (Prod.snd (Prod.snd (Prod.snd (Prod.snd (Prod.snd (Prod.snd (Prod.snd (Prod.snd (Prod.snd x_2)))))))))))
        fun
          (x_3 :
            (Bool ×
                UInt8 ×
                  UInt64 ×
                    UInt64 ×
                      List UInt8 ×
                        List (List UInt8 × List UInt8) × UInt8 × UInt8 × Int64 × UInt8 × UInt8 × UInt64 × UInt64) ×
              Unit) =>
        obind
          (F25 n
            (w, Prod.fst (Prod.fst x_3), Prod.fst (Prod.snd (Prod.fst x_3)),
              Prod.fst (Prod.snd (Prod.snd (Prod.fst x_3))), Prod.fst (Prod.snd (Prod.snd (Prod.snd (Prod.fst x_3)))),
              Prod.fst (Prod.snd (Prod.snd (Prod.snd (Prod.snd (Prod.fst x_3))))),
              Prod.fst (Prod.snd (Prod.snd (Prod.snd (Prod.snd (Prod.snd (Prod.fst x_3)))))),
              Prod.fst (Prod.snd (Prod.snd (Prod.snd (Prod.snd (Prod.snd (Prod.snd (Prod.fst x_3))))))),
              Prod.fst (Prod.snd (Prod.snd (Prod.snd (Prod.snd (Prod.snd (Prod.snd (Prod.snd (Prod.fst x_3)))))))),
              Prod.fst
                (Prod.snd (Prod.snd (Prod.snd (Prod.snd (Prod.snd (Prod.snd (Prod.snd (Prod.snd (Prod.fst x_3))))))))),
              Prod.fst
                (Prod.snd
                  (Prod.snd
                    (Prod.snd (Prod.snd (Prod.snd (Prod.snd (Prod.snd (Prod.snd (Prod.snd (Prod.fst x_3)))))))))),
              Prod.fst
                (Prod.snd
                  (Prod.snd
                    (Prod.snd
                      (Prod.snd (Prod.snd (Prod.snd (Prod.snd (Prod.snd (Prod.snd (Prod.snd (Prod.fst x_3))))))))))),
              Prod.fst
                (Prod.snd
                  (Prod.snd
                    (Prod.snd
                      (Prod.snd
                        (Prod.snd (Prod.snd (Prod.snd (Prod.snd (Prod.snd (Prod.snd (Prod.snd (Prod.fst x_3)))))))))))),
              Prod.snd
                (Prod.snd
                  (Prod.snd
                    (Prod.snd
                      (Prod.snd
                        (Prod.snd
                          (Prod.snd (Prod.snd (Prod.snd (Prod.snd (Prod.snd (Prod.snd (Prod.fst x_3))))))))))))))
          fun (x_4 : Unit × Option (List UInt8)) => rec l cut t t_1 (t_2 + (1 : Int64)) (Prod.snd x_4))
    (obind (F26 n w) fun (x_2 : List UInt8 × Option (List UInt8)) =>
      obind (F27 n (Prod.fst x_2)) fun (x_3 : Option (List UInt8 × Int64) × Unit) =>
        F6_R1021 n n l cut l (Int64.ofInt ↑(List.length l)) (0 : Int64) (Prod.fst x_3))
def F6_R125 : Nat →
  Nat →
    PT.T
        (PT.list
          (CTs.cons CT.bool
            (CTs.cons (CT.int IntKind.u8)
              (CTs.cons (CT.int IntKind.u8)
                (CTs.cons (CT.int IntKind.u8)
                  (CTs.cons (CT.int IntKind.u16)
                    (CTs.cons (CT.int IntKind.u16)
                      (CTs.cons (CT.int IntKind.u16)
                        (CTs.cons (CT.int IntKind.u8)
                          (CTs.cons (CT.int IntKind.u8)
                            (CTs.cons (CT.int IntKind.u8) (CTs.cons CT.bool CTs.nil)))))))))))) →
      UInt16 →
        List (Bool × UInt8 × UInt8 × UInt8 × UInt16 × UInt16 × UInt16 × UInt8 × UInt8 × UInt8 × Bool) →
          Int64 → Int64 → Option (List UInt8) → Option (Bool × Unit) := fun (n : Nat) =>
  ofixA (125 : Nat)
    [PT.list
        (CTs.cons CT.bool
          (CTs.cons (CT.int IntKind.u8)
            (CTs.cons (CT.int IntKind.u8)
              (CTs.cons (CT.int IntKind.u8)
                (CTs.cons (CT.int IntKind.u16)
                  (CTs.cons (CT.int IntKind.u16)
                    (CTs.cons (CT.int IntKind.u16)
                      (CTs.cons (CT.int IntKind.u8)
                        (CTs.cons (CT.int IntKind.u8)
                          (CTs.cons (CT.int IntKind.u8) (CTs.cons CT.bool CTs.nil))))))))))),
      PT.int IntKind.u16,
      PT.list
        (CTs.cons CT.bool
          (CTs.cons (CT.int IntKind.u8)
            (CTs.cons (CT.int IntKind.u8)
              (CTs.cons (CT.int IntKind.u8)
                (CTs.cons (CT.int IntKind.u16)
                  (CTs.cons (CT.int IntKind.u16)
                    (CTs.cons (CT.int IntKind.u16)
                      (CTs.cons (CT.int IntKind.u8)
                        (CTs.cons (CT.int IntKind.u8)
                          (CTs.cons (CT.int IntKind.u8) (CTs.cons CT.bool CTs.nil))))))))))),
      PT.int IntKind.i64, PT.int IntKind.i64, PT.opt (OTs.cons (OT.row (CTs.cons (CT.int IntKind.u8) CTs.nil)) OTs.nil)]
    (F6_L125 n)
def F6 : Nat →
  List (Bool × UInt8 × UInt8 × UInt8 × UInt16 × UInt16 × UInt16 × UInt8 × UInt8 × UInt8 × Bool) × UInt16 →
    Option (Bool × Unit) := fun (n : Nat)
    (x : List (Bool × UInt8 × UInt8 × UInt8 × UInt16 × UInt16 × UInt16 × UInt8 × UInt8 × UInt8 × Bool) × UInt16) =>
  obind (F8 n ()) fun (x_1 : Bool × Unit) =>
    oite (!Prod.fst x_1) (some (false, ()))
      (oite (decide ((20 : Int64) < Int64.ofInt ↑(List.length (Prod.fst x)))) (some (true, ()))
        (F6_R125 n n (Prod.fst x) (Prod.snd x) (Prod.fst x) (Int64.ofInt ↑(List.length (Prod.fst x))) (0 : Int64)
          (some [])))
theorem F6_R1021_s (n : Nat) (m_ : Nat) : F6_R1021 n (m_ + 1) = F6_L1021 n (F6_R1021 n m_) := rfl
theorem F6_R125_s (n : Nat) (m_ : Nat) : F6_R125 n (m_ + 1) = F6_L125 n (F6_R125 n m_) := rfl
theorem ok6 (n : Nat) : FunOK Try.prog ⟨6, sig6, F6 n⟩ :=
  fun_ok (hints := ⟨[], [(125, ⟨[(0, .one (.ro (.cons .bool (.cons (.int .u8) (.cons (.int .u8) (.cons (.int .u8) (.cons (.int .u16) (.cons (.int .u16) (.cons (.int .u16) (.cons (.int .u8) (.cons (.int .u8) (.cons (.int .u8) (.cons .bool .nil))))))))))))), (1, .one (.int .u16)), (5, .one (.own 2)), (22, .one (.ro (.cons .bool (.cons (.int .u8) (.cons (.int .u8) (.cons (.int .u8) (.cons (.int .u16) (.cons (.int .u16) (.cons (.int .u16) (.cons (.int .u8) (.cons (.int .u8) (.cons (.int .u8) (.cons .bool .nil))))))))))))), (23, .one (.int .i64)), (24, .one (.int .i64))], [(2, .fold (.cons (.row (.cons (.int .u8) .nil)) .nil))], 3⟩), (1021, ⟨[(0, .one (.ro (.cons .bool (.cons (.int .u8) (.cons (.int .u8) (.cons (.int .u8) (.cons (.int .u16) (.cons (.int .u16) (.cons (.int .u16) (.cons (.int .u8) (.cons (.int .u8) (.cons (.int .u8) (.cons .bool .nil))))))))))))), (1, .one (.int .u16)), (9, .one (.own 2)), (35, .one (.ro (.cons .bool (.cons (.int .u8) (.cons (.int .u8) (.cons (.int .u8) (.cons (.int .u16) (.cons (.int .u16) (.cons (.int .u16) (.cons (.int .u8) (.cons (.int .u8) (.cons (.int .u8) (.cons .bool .nil))))))))))))), (36, .one (.int .i64)), (37, .one (.int .i64))], [(2, .fold (.cons (.c (.ro (.cons (.int .u8) .nil))) (.cons (.c (.int .i64)) .nil)))], 3⟩)]⟩) (fuel := n) (c := Try.f6.body.getD .skip) (rs := Try.f6.results.toList) tt_ok mix (FsOK.cons (ok8 n) (FsOK.cons (ok9 n) (FsOK.cons (ok25 n) (FsOK.cons (ok26 n) (FsOK.cons (ok27 n) (FsOK.cons (ok28 n) (FsOK.cons (ok16 n) (FsOK.cons (ok29 n) (FsOK.cons (ok13 n) (FsOK.cons (ok30 n) (FsOK.nil))))))))))) Try.func6 (by kernel_rfl) (by kernel_rfl) rfl (by kernel_rfl) rfl rfl (by kernel_rfl)
-- watchfire/watchfireref01.Uint
def sig55 : Sig := ⟨(.cons (.one (.c (.int .u64))) .nil), (.cons (.one (.row (.cons (.int .u8) .nil))) .nil)⟩
def F55_L14 : Arr [PT.int IntKind.u64, PT.list (CTs.cons (CT.int IntKind.u8) CTs.nil)] (Option (List UInt8 × Unit)) →
  UInt64 → List UInt8 → Option (List UInt8 × Unit) := fun (rec : Arr [PT.int IntKind.u64, PT.list (CTs.cons (CT.int IntKind.u8) CTs.nil)] (Option (List UInt8 × Unit)))
    (n_ : UInt64) (out : List UInt8) =>
  oite (decide ((128 : UInt64) ≤ n_))
    (oite
      (Nat.ble (List.length out + List.length [UInt8.ofInt ↑(UInt64.toNat (n_ % (128 : UInt64) + (128 : UInt64)))])
        (4294967296 : Nat))
      (rec (n_ / (128 : UInt64)) (out ++ [UInt8.ofInt ↑(UInt64.toNat (n_ % (128 : UInt64) + (128 : UInt64)))])) none)
    (oite (Nat.ble (List.length out + List.length [UInt8.ofInt ↑(UInt64.toNat n_)]) (4294967296 : Nat))
      (some (out ++ [UInt8.ofInt ↑(UInt64.toNat n_)], ())) none)
def F55_R14 : Nat → PT.T (PT.int IntKind.u64) → List UInt8 → Option (List UInt8 × Unit) := ofixA (14 : Nat) [PT.int IntKind.u64, PT.list (CTs.cons (CT.int IntKind.u8) CTs.nil)] F55_L14
def F55 : Nat → UInt64 → Option (List UInt8 × Unit) := fun (n : Nat) (x : UInt64) => F55_R14 n x []
theorem F55_R14_s  (m_ : Nat) : F55_R14  (m_ + 1) = F55_L14  (F55_R14  m_) := rfl
theorem ok55 (n : Nat) : FunOK Try.prog ⟨55, sig55, F55 n⟩ :=
  fun_ok (hints := ⟨[], [(14, ⟨[(0, .one (.int .u64)), (3, .one (.own 1))], [(1, .row (.cons (.int .u8) .nil))], 2⟩)]⟩) (fuel := n) (c := Try.f55.body.getD .skip) (rs := Try.f55.results.toList) tt_ok mix (FsOK.nil) Try.func55 (by kernel_rfl) (by kernel_rfl) rfl (by kernel_rfl) rfl rfl (by kernel_rfl)
-- watchfire/watchfireref01.Long
def sig56 : Sig := ⟨(.cons (.one (.c .str)) .nil), (.cons (.one (.c (.ro (.cons (.int .u8) .nil)))) .nil)⟩
def F56 : Nat → List UInt8 → Option (List UInt8 × Unit) := fun (n : Nat) (x : List UInt8) =>
  obind (F55 n (UInt64.ofInt (Int64.toInt (Int64.ofInt ↑(List.length x))))) fun (x_1 : List UInt8 × Unit) =>
    oite (Nat.ble (List.length (Prod.fst x_1) + List.length x) (4294967296 : Nat))
      (some (Prod.fst x_1 ++ x, ())) none
theorem ok56 (n : Nat) : FunOK Try.prog ⟨56, sig56, F56 n⟩ :=
  fun_ok (hints := ⟨[], []⟩) (fuel := n) (c := Try.f56.body.getD .skip) (rs := Try.f56.results.toList) tt_ok mix (FsOK.cons (ok55 n) (FsOK.nil)) Try.func56 (by kernel_rfl) (by kernel_rfl) rfl (by kernel_rfl) rfl rfl (by kernel_rfl)
-- watchfire/watchfireref01.Int
def sig57 : Sig := ⟨(.cons (.one (.c (.int .i64))) .nil), (.cons (.one (.c (.ro (.cons (.int .u8) .nil)))) .nil)⟩
def F57 : Nat → Int64 → Option (List UInt8 × Unit) := fun (n : Nat) (x : Int64) =>
  oite (decide (x < (0 : Int64)))
    (obind (F55 n ((2 : UInt64) * UInt64.ofInt (Int64.toInt ((0 : Int64) - (x + (1 : Int64)))) + (1 : UInt64)))
      fun (x_1 : List UInt8 × Unit) => some (Prod.fst x_1, ()))
    (obind (F55 n ((2 : UInt64) * UInt64.ofInt (Int64.toInt x))) fun (x_1 : List UInt8 × Unit) =>
      some (Prod.fst x_1, ()))
theorem ok57 (n : Nat) : FunOK Try.prog ⟨57, sig57, F57 n⟩ :=
  fun_ok (hints := ⟨[], []⟩) (fuel := n) (c := Try.f57.body.getD .skip) (rs := Try.f57.results.toList) tt_ok mix (FsOK.cons (ok55 n) (FsOK.nil)) Try.func57 (by kernel_rfl) (by kernel_rfl) rfl (by kernel_rfl) rfl rfl (by kernel_rfl)
end Go.Proofs.Ytehelahnlnfofaa
