/- What the functions of this seat compute, found by walking their code symbolically: each F is what the walk finds, each ok says that the Go function keeps it as a contract. Printed by a program of this repo's. -/
import Derived.Test.YtbogfhocjpicjaaProg
import Derived.KernelRfl
import Derived.Test.YtbogfhocjpicjaaSxFun
open Go Go.Sx
namespace Go.Proofs.Ytbogfhocjpicjaa
set_option maxRecDepth 100000
set_option linter.unusedVariables false
def tt : TT := [(2, ⟨.int .i64, 1, 8, some (.int .i64 0), false⟩), (3, ⟨.int .i64, 1, 8, some (.int .i64 0), false⟩), (4, ⟨.bool, 1, 1, some (.bool false), false⟩), (5, ⟨.int .u8, 1, 1, some (.int .u8 0), false⟩), (9, ⟨.str, 1, 16, some (.string ⟨#[]⟩), false⟩), (22, ⟨.slice 36, 1, 24, some (.slice none 0 0), false⟩), (23, ⟨.int .u8, 1, 1, some (.int .u8 0), false⟩), (24, ⟨.int .u64, 1, 8, some (.int .u64 0), false⟩), (26, ⟨.struct [(0, 23, false), (1, 2, false), (2, 24, false)], 3, 24, some (.agg #[.int .u8 0, .int .i64 0, .int .u64 0]), false⟩), (27, ⟨.int .i16, 1, 2, some (.int .i16 0), false⟩), (29, ⟨.struct [(0, 5, false), (1, 27, false), (2, 5, false)], 3, 6, some (.agg #[.int .u8 0, .int .i16 0, .int .u8 0]), false⟩), (31, ⟨.slice 42, 1, 24, some (.slice none 0 0), false⟩), (33, ⟨.struct [(0, 31, false)], 1, 24, some (.agg #[.slice none 0 0]), false⟩), (34, ⟨.slice 40, 1, 24, some (.slice none 0 0), false⟩), (36, ⟨.struct [(0, 5, false), (1, 2, false)], 2, 16, some (.agg #[.int .u8 0, .int .i64 0]), false⟩), (37, ⟨.int .i64, 1, 8, some (.int .i64 0), false⟩), (40, ⟨.struct [(0, 24, false), (1, 2, false)], 2, 16, some (.agg #[.int .u64 0, .int .i64 0]), false⟩), (42, ⟨.struct [(0, 24, false), (1, 2, false)], 2, 16, some (.agg #[.int .u64 0, .int .i64 0]), false⟩), (46, ⟨.slice 26, 1, 24, some (.slice none 0 0), false⟩), (48, ⟨.struct [(0, 3, false), (1, 2, false), (2, 24, false)], 3, 24, some (.agg #[.int .i64 0, .int .i64 0, .int .u64 0]), false⟩), (51, ⟨.slice 24, 1, 24, some (.slice none 0 0), false⟩), (54, ⟨.ptr 33, 1, 8, some (.pointer none), false⟩), (63, ⟨.slice 9, 1, 24, some (.slice none 0 0), false⟩), (77, ⟨.slice 5, 1, 24, some (.slice none 0 0), false⟩)]
theorem tt_ok : TTOK Try.prog tt := TTOK.of_rows (by kernel_rfl)
theorem mix : Try.prog.follows .mixedOrders = true := by kernel_rfl
-- (*watchfire/cond.Series).Add
def sig8 : Sig := ⟨(.cons (.one (.ptr (.cons (.row (.cons (.int .u64) (.cons (.int .i64) .nil))) .nil))) (.cons (.one (.c (.int .u64))) (.cons (.one (.c (.int .i64))) .nil))), (.cons (.one (.c (.int .i64))) .nil)⟩
def F8_J3 : UInt64 → Int64 → List (UInt64 × Int64) → Option (Int64 × Option (List (UInt64 × Int64))) := fun (now : UInt64) (value : Int64) (sl : List (UInt64 × Int64)) =>
  oite (Nat.ble (List.length sl + List.length [(now, value)]) (4294967296 : Nat))
    (oite (decide ((0 : Int64) < Int64.ofInt ↑(List.length (sl ++ [(now, value)])) - (32 : Int64)))
      (oite
        (decide ((0 : Int) ≤ Int64.toInt (Int64.ofInt ↑(List.length (sl ++ [(now, value)])) - (32 : Int64))) &&
          Nat.ble (Int.toNat (Int64.toInt (Int64.ofInt ↑(List.length (sl ++ [(now, value)])) - (32 : Int64))))
            (List.length (sl ++ [(now, value)])))
        (oite
          (Nat.ble
            ((0 : Nat) +
              List.length
                (List.take
                  (List.length (sl ++ [(now, value)]) -
                    Int.toNat (Int64.toInt (Int64.ofInt ↑(List.length (sl ++ [(now, value)])) - (32 : Int64))))
                  (List.drop
                    (Int.toNat (Int64.toInt (Int64.ofInt ↑(List.length (sl ++ [(now, value)])) - (32 : Int64))))
                    (sl ++ [(now, value)]))))
            (4294967296 : Nat))
          (some
            ((0 : Int64),
              some
                ([] ++
                  List.take
                    (List.length (sl ++ [(now, value)]) -
                      Int.toNat (Int64.toInt (Int64.ofInt ↑(List.length (sl ++ [(now, value)])) - (32 : Int64))))
                    (List.drop
                      (Int.toNat (Int64.toInt (Int64.ofInt ↑(List.length (sl ++ [(now, value)])) - (32 : Int64))))
                      (sl ++ [(now, value)])))))
          none)
        none)
      (some ((0 : Int64), some (sl ++ [(now, value)]))))
    none
def F8 : Nat → Option (List (UInt64 × Int64)) × UInt64 × Int64 → Option (Int64 × Option (List (UInt64 × Int64))) := fun (n : Nat) (x : Option (List (UInt64 × Int64)) × UInt64 × Int64) =>
  ojoinA (3 : Nat)
    [PT.int IntKind.u64, PT.int IntKind.i64,
      PT.list (CTs.cons (CT.int IntKind.u64) (CTs.cons (CT.int IntKind.i64) CTs.nil))]
    (fun
        (J :
          Arr
            [PT.int IntKind.u64, PT.int IntKind.i64,
              PT.list (CTs.cons (CT.int IntKind.u64) (CTs.cons (CT.int IntKind.i64) CTs.nil))]
            (Option (Int64 × Option (List (UInt64 × Int64))))) =>
      oelim (Prod.fst x) (some ((1 : Int64), none)) fun (x_1 : List (UInt64 × Int64)) =>
        oite (decide ((1099511627776 : UInt64) < Prod.fst (Prod.snd x))) (some ((6 : Int64), some x_1))
          (oite (decide ((0 : Int64) < Int64.ofInt ↑(List.length x_1)))
            (oite
              (decide ((0 : Int) ≤ Int64.toInt (Int64.ofInt ↑(List.length x_1) - (1 : Int64))) &&
                Nat.blt (Int.toNat (Int64.toInt (Int64.ofInt ↑(List.length x_1) - (1 : Int64)))) (List.length x_1))
              (obind x_1[Int.toNat (Int64.toInt (Int64.ofInt ↑(List.length x_1) - (1 : Int64)))]?
                fun (x_2 : UInt64 × Int64) =>
                oite (decide (Prod.fst (Prod.snd x) < Prod.fst x_2)) (some ((9 : Int64), some x_1))
                  (J (Prod.fst (Prod.snd x)) (Prod.snd (Prod.snd x)) x_1))
              none)
            (J (Prod.fst (Prod.snd x)) (Prod.snd (Prod.snd x)) x_1)))
    F8_J3
theorem ok8 (n : Nat) : FunOK Try.prog ⟨8, sig8, F8 n⟩ :=
  fun_ok (hints := ⟨[(3, ⟨[(0, .one (.own 0)), (1, .one (.int .u64)), (2, .one (.int .i64))], [(0, .cells [.own 3]), (3, .row (.cons (.int .u64) (.cons (.int .i64) .nil)))], 4⟩)], []⟩) (fuel := n) (c := Try.f8.body.getD .skip) (rs := Try.f8.results.toList) tt_ok mix (FsOK.nil) Try.func8 (by kernel_rfl) (by kernel_rfl) rfl (by kernel_rfl) rfl rfl (by kernel_rfl)
-- (*watchfire/cond.Series).Last
def sig10 : Sig := ⟨(.cons (.one (.ptr (.cons (.row (.cons (.int .u64) (.cons (.int .i64) .nil))) .nil))) .nil), (.cons (.agg (.cons (.int .u64) (.cons (.int .i64) .nil))) (.cons (.one (.c .bool)) .nil))⟩
def F10 : Nat → Option (List (UInt64 × Int64)) → Option (((UInt64 × Int64) × Bool) × Option (List (UInt64 × Int64))) := fun (n : Nat) (x : Option (List (UInt64 × Int64))) =>
  oelim x (some ((((0 : UInt64), (0 : Int64)), false), none)) fun (x_1 : List (UInt64 × Int64)) =>
    oite (decide (Int64.ofInt ↑(List.length x_1) = (0 : Int64))) (some ((((0 : UInt64), (0 : Int64)), false), some x_1))
      (oite
        (decide ((0 : Int) ≤ Int64.toInt (Int64.ofInt ↑(List.length x_1) - (1 : Int64))) &&
          Nat.blt (Int.toNat (Int64.toInt (Int64.ofInt ↑(List.length x_1) - (1 : Int64)))) (List.length x_1))
        (obind x_1[Int.toNat (Int64.toInt (Int64.ofInt ↑(List.length x_1) - (1 : Int64)))]?
          fun (x_2 : UInt64 × Int64) => some (((Prod.fst x_2, Prod.snd x_2), true), some x_1))
        none)
theorem ok10 (n : Nat) : FunOK Try.prog ⟨10, sig10, F10 n⟩ :=
  fun_ok (hints := ⟨[], []⟩) (fuel := n) (c := Try.f10.body.getD .skip) (rs := Try.f10.results.toList) tt_ok mix (FsOK.nil) Try.func10 (by kernel_rfl) (by kernel_rfl) rfl (by kernel_rfl) rfl rfl (by kernel_rfl)
-- watchfire/cond.far
def sig25 : Sig := ⟨(.cons (.one (.c (.int .i64))) (.cons (.one (.c (.int .i64))) .nil)), (.cons (.one (.c (.int .u64))) (.cons (.one (.c .bool)) .nil))⟩
def F25 : Nat → Int64 × Int64 → Option ((UInt64 × Bool) × Unit) := fun (n : Nat) (x : Int64 × Int64) =>
  oite (decide (Prod.fst x ≤ Prod.snd x)) (some (((0 : UInt64), false), ()))
    (some ((UInt64.ofInt (Int64.toInt (Prod.fst x)) - UInt64.ofInt (Int64.toInt (Prod.snd x)), true), ()))
theorem ok25 (n : Nat) : FunOK Try.prog ⟨25, sig25, F25 n⟩ :=
  fun_ok (hints := ⟨[], []⟩) (fuel := n) (c := Try.f25.body.getD .skip) (rs := Try.f25.results.toList) tt_ok mix (FsOK.nil) Try.func25 (by kernel_rfl) (by kernel_rfl) rfl (by kernel_rfl) rfl rfl (by kernel_rfl)
-- (watchfire/cond.Cond).Holds
def sig14 : Sig := ⟨(.cons (.agg (.cons (.int .u8) (.cons (.int .i64) (.cons (.int .u64) .nil)))) (.cons (.one (.ptr (.cons (.row (.cons (.int .u64) (.cons (.int .i64) .nil))) .nil))) (.cons (.one (.c (.int .u64))) .nil))), (.cons (.one (.c .bool)) (.cons (.one (.c (.int .i64))) .nil))⟩
def F14_J4062903 : Nat →
  Arr
      [PT.int IntKind.u64, PT.int IntKind.i64, PT.int IntKind.i64, PT.int IntKind.u8, PT.int IntKind.i64,
        PT.int IntKind.u64, PT.int IntKind.u64, PT.int IntKind.i64,
        PT.list (CTs.cons (CT.int IntKind.u64) (CTs.cons (CT.int IntKind.i64) CTs.nil))]
      (Option ((Bool × Int64) × Option (List (UInt64 × Int64)))) →
    UInt64 →
      Int64 →
        Int64 →
          Int64 →
            Int64 →
              UInt8 →
                Int64 →
                  UInt64 →
                    UInt64 → Int64 → List (UInt64 × Int64) → Option ((Bool × Int64) × Option (List (UInt64 × Int64))) := fun (n : Nat)
    (rec :
      Arr
        [PT.int IntKind.u64, PT.int IntKind.i64, PT.int IntKind.i64, PT.int IntKind.u8, PT.int IntKind.i64,
          PT.int IntKind.u64, PT.int IntKind.u64, PT.int IntKind.i64,
          PT.list (CTs.cons (CT.int IntKind.u64) (CTs.cons (CT.int IntKind.i64) CTs.nil))]
        (Option ((Bool × Int64) × Option (List (UInt64 × Int64)))))
    (now_3 : UInt64) (a b t_4 t_1_3 : Int64) (c0_3 : UInt8) (c1_3 : Int64) (c2_3 last0_3 : UInt64) (last1_3 : Int64)
    (t_2_2 : List (UInt64 × Int64)) =>
  obind (F25 n (a, b)) fun (x_4 : (UInt64 × Bool) × Unit) =>
    oite (Prod.snd (Prod.fst x_4))
      (oite (decide (UInt64.ofInt (Int64.toInt c1_3) < Prod.fst (Prod.fst x_4))) (some ((true, last1_3), some t_2_2))
        (rec now_3 t_4 (t_1_3 + (1 : Int64)) c0_3 c1_3 c2_3 last0_3 last1_3 t_2_2))
      (rec now_3 t_4 (t_1_3 + (1 : Int64)) c0_3 c1_3 c2_3 last0_3 last1_3 t_2_2)
def F14_J1015725 : Nat →
  Arr
      [PT.int IntKind.u64, PT.int IntKind.i64, PT.int IntKind.i64, PT.int IntKind.u8, PT.int IntKind.i64,
        PT.int IntKind.u64, PT.int IntKind.u64, PT.int IntKind.i64,
        PT.list (CTs.cons (CT.int IntKind.u64) (CTs.cons (CT.int IntKind.i64) CTs.nil))]
      (Option ((Bool × Int64) × Option (List (UInt64 × Int64)))) →
    UInt64 →
      Int64 →
        Int64 →
          UInt8 →
            Int64 →
              UInt64 →
                UInt64 →
                  Int64 →
                    UInt64 → Int64 → List (UInt64 × Int64) → Option ((Bool × Int64) × Option (List (UInt64 × Int64))) := fun (n : Nat)
    (rec :
      Arr
        [PT.int IntKind.u64, PT.int IntKind.i64, PT.int IntKind.i64, PT.int IntKind.u8, PT.int IntKind.i64,
          PT.int IntKind.u64, PT.int IntKind.u64, PT.int IntKind.i64,
          PT.list (CTs.cons (CT.int IntKind.u64) (CTs.cons (CT.int IntKind.i64) CTs.nil))]
        (Option ((Bool × Int64) × Option (List (UInt64 × Int64)))))
    (now_2 : UInt64) (t_3 t_1_2 : Int64) (c0_2 : UInt8) (c1_2 : Int64) (c2_2 last0_2 : UInt64) (last1_2 : Int64)
    (p0 : UInt64) (p1 : Int64) (t_2_1 : List (UInt64 × Int64)) =>
  ojoinA (4062903 : Nat)
    [PT.int IntKind.u64, PT.int IntKind.i64, PT.int IntKind.i64, PT.int IntKind.i64, PT.int IntKind.i64,
      PT.int IntKind.u8, PT.int IntKind.i64, PT.int IntKind.u64, PT.int IntKind.u64, PT.int IntKind.i64,
      PT.list (CTs.cons (CT.int IntKind.u64) (CTs.cons (CT.int IntKind.i64) CTs.nil))]
    (fun
        (J :
          Arr
            [PT.int IntKind.u64, PT.int IntKind.i64, PT.int IntKind.i64, PT.int IntKind.i64, PT.int IntKind.i64,
              PT.int IntKind.u8, PT.int IntKind.i64, PT.int IntKind.u64, PT.int IntKind.u64, PT.int IntKind.i64,
              PT.list (CTs.cons (CT.int IntKind.u64) (CTs.cons (CT.int IntKind.i64) CTs.nil))]
            (Option ((Bool × Int64) × Option (List (UInt64 × Int64))))) =>
      oite (decide (c0_2 = (5 : UInt8))) (J now_2 p1 last1_2 t_3 t_1_2 c0_2 c1_2 c2_2 last0_2 last1_2 t_2_1)
        (J now_2 last1_2 p1 t_3 t_1_2 c0_2 c1_2 c2_2 last0_2 last1_2 t_2_1))
    (F14_J4062903 n rec)
def F14_L31741 : Nat →
  Arr
      [PT.int IntKind.u64, PT.int IntKind.i64, PT.int IntKind.i64, PT.int IntKind.u8, PT.int IntKind.i64,
        PT.int IntKind.u64, PT.int IntKind.u64, PT.int IntKind.i64,
        PT.list (CTs.cons (CT.int IntKind.u64) (CTs.cons (CT.int IntKind.i64) CTs.nil))]
      (Option ((Bool × Int64) × Option (List (UInt64 × Int64)))) →
    UInt64 →
      Int64 →
        Int64 →
          UInt8 →
            Int64 →
              UInt64 → UInt64 → Int64 → List (UInt64 × Int64) → Option ((Bool × Int64) × Option (List (UInt64 × Int64))) := fun (n : Nat)
    (rec :
      Arr
        [PT.int IntKind.u64, PT.int IntKind.i64, PT.int IntKind.i64, PT.int IntKind.u8, PT.int IntKind.i64,
          PT.int IntKind.u64, PT.int IntKind.u64, PT.int IntKind.i64,
          PT.list (CTs.cons (CT.int IntKind.u64) (CTs.cons (CT.int IntKind.i64) CTs.nil))]
        (Option ((Bool × Int64) × Option (List (UInt64 × Int64)))))
    (now_1 : UInt64) (t_1 t_1_1 : Int64) (c0_1 : UInt8) (c1_1 : Int64) (c2_1 last0_1 : UInt64) (last1_1 : Int64)
    (t_2 : List (UInt64 × Int64)) =>
  oite (decide (t_1_1 < t_1))
    (oite (decide ((0 : Int) ≤ Int64.toInt t_1_1) && Nat.blt (Int.toNat (Int64.toInt t_1_1)) (List.length t_2))
      (obind t_2[Int.toNat (Int64.toInt t_1_1)]? fun (x_3 : UInt64 × Int64) =>
        ojoinA (1015725 : Nat)
          [PT.int IntKind.u64, PT.int IntKind.i64, PT.int IntKind.i64, PT.int IntKind.u8, PT.int IntKind.i64,
            PT.int IntKind.u64, PT.int IntKind.u64, PT.int IntKind.i64, PT.int IntKind.u64, PT.int IntKind.i64,
            PT.list (CTs.cons (CT.int IntKind.u64) (CTs.cons (CT.int IntKind.i64) CTs.nil))]
          (fun
              (J :
                Arr
                  [PT.int IntKind.u64, PT.int IntKind.i64, PT.int IntKind.i64, PT.int IntKind.u8, PT.int IntKind.i64,
                    PT.int IntKind.u64, PT.int IntKind.u64, PT.int IntKind.i64, PT.int IntKind.u64, PT.int IntKind.i64,
                    PT.list (CTs.cons (CT.int IntKind.u64) (CTs.cons (CT.int IntKind.i64) CTs.nil))]
                  (Option ((Bool × Int64) × Option (List (UInt64 × Int64))))) =>
            oite (decide (Prod.fst x_3 < now_1))
              (oite (decide (c2_1 < now_1 - Prod.fst x_3))
                (rec now_1 t_1 (t_1_1 + (1 : Int64)) c0_1 c1_1 c2_1 last0_1 last1_1 t_2)
                (J now_1 t_1 t_1_1 c0_1 c1_1 c2_1 last0_1 last1_1 (Prod.fst x_3) (Prod.snd x_3) t_2))
              (J now_1 t_1 t_1_1 c0_1 c1_1 c2_1 last0_1 last1_1 (Prod.fst x_3) (Prod.snd x_3) t_2))
          (F14_J1015725 n rec))
      none)
    (some ((false, last1_1), some t_2))
def F14_R31741 : Nat →
  Nat →
    PT.T (PT.int IntKind.u64) →
      Int64 →
        Int64 →
          UInt8 →
            Int64 →
              UInt64 → UInt64 → Int64 → List (UInt64 × Int64) → Option ((Bool × Int64) × Option (List (UInt64 × Int64))) := fun (n : Nat) =>
  ofixA (31741 : Nat)
    [PT.int IntKind.u64, PT.int IntKind.i64, PT.int IntKind.i64, PT.int IntKind.u8, PT.int IntKind.i64,
      PT.int IntKind.u64, PT.int IntKind.u64, PT.int IntKind.i64,
      PT.list (CTs.cons (CT.int IntKind.u64) (CTs.cons (CT.int IntKind.i64) CTs.nil))]
    (F14_L31741 n)
def F14_J3967 : Nat →
  UInt64 →
    Bool →
      Option (List (UInt64 × Int64)) →
        UInt8 → Int64 → UInt64 → UInt64 → Int64 → Option ((Bool × Int64) × Option (List (UInt64 × Int64))) := fun (n : Nat) (now : UInt64) (t : Bool) (s : Option (List (UInt64 × Int64))) (c0 : UInt8) (c1 : Int64)
    (c2 last0 : UInt64) (last1 : Int64) =>
  oite t
    (obind s fun (x_2 : List (UInt64 × Int64)) =>
      F14_R31741 n n now (Int64.ofInt ↑(List.length x_2)) (0 : Int64) c0 c1 c2 last0 last1 x_2)
    (some ((false, last1), s))
def F14 : Nat →
  (UInt8 × Int64 × UInt64) × Option (List (UInt64 × Int64)) × UInt64 →
    Option ((Bool × Int64) × Option (List (UInt64 × Int64))) := fun (n : Nat) (x : (UInt8 × Int64 × UInt64) × Option (List (UInt64 × Int64)) × UInt64) =>
  obind (F10 n (Prod.fst (Prod.snd x))) fun (x_1 : ((UInt64 × Int64) × Bool) × Option (List (UInt64 × Int64))) =>
    oite (!Prod.snd (Prod.fst x_1)) (some ((false, (0 : Int64)), Prod.snd x_1))
      (oite (decide (Prod.fst (Prod.fst x) = (1 : UInt8)))
        (some
          ((decide (Prod.fst (Prod.snd (Prod.fst x)) < Prod.snd (Prod.fst (Prod.fst x_1))),
              Prod.snd (Prod.fst (Prod.fst x_1))),
            Prod.snd x_1))
        (oite (decide (Prod.fst (Prod.fst x) = (2 : UInt8)))
          (some
            ((decide (Prod.snd (Prod.fst (Prod.fst x_1)) < Prod.fst (Prod.snd (Prod.fst x))),
                Prod.snd (Prod.fst (Prod.fst x_1))),
              Prod.snd x_1))
          (oite (decide (Prod.fst (Prod.fst x) = (3 : UInt8)))
            (oite (decide (Prod.fst (Prod.fst (Prod.fst x_1)) < Prod.snd (Prod.snd x)))
              (some
                ((decide
                      (Prod.snd (Prod.snd (Prod.fst x)) ≤ Prod.snd (Prod.snd x) - Prod.fst (Prod.fst (Prod.fst x_1))),
                    Prod.snd (Prod.fst (Prod.fst x_1))),
                  Prod.snd x_1))
              (some ((false, Prod.snd (Prod.fst (Prod.fst x_1))), Prod.snd x_1)))
            (ojoinA (3967 : Nat)
              [PT.int IntKind.u64, PT.bool,
                PT.opt
                  (OTs.cons (OT.row (CTs.cons (CT.int IntKind.u64) (CTs.cons (CT.int IntKind.i64) CTs.nil))) OTs.nil),
                PT.int IntKind.u8, PT.int IntKind.i64, PT.int IntKind.u64, PT.int IntKind.u64, PT.int IntKind.i64]
              (fun
                  (J :
                    Arr
                      [PT.int IntKind.u64, PT.bool,
                        PT.opt
                          (OTs.cons (OT.row (CTs.cons (CT.int IntKind.u64) (CTs.cons (CT.int IntKind.i64) CTs.nil)))
                            OTs.nil),
                        PT.int IntKind.u8, PT.int IntKind.i64, PT.int IntKind.u64, PT.int IntKind.u64,
                        PT.int IntKind.i64]
                      (Option ((Bool × Int64) × Option (List (UInt64 × Int64))))) =>
                oite (decide (Prod.fst (Prod.fst x) = (4 : UInt8)))
                  (J (Prod.snd (Prod.snd x)) (decide (Prod.fst (Prod.fst x) = (4 : UInt8))) (Prod.snd x_1)
                    (Prod.fst (Prod.fst x)) (Prod.fst (Prod.snd (Prod.fst x))) (Prod.snd (Prod.snd (Prod.fst x)))
                    (Prod.fst (Prod.fst (Prod.fst x_1))) (Prod.snd (Prod.fst (Prod.fst x_1))))
                  (J (Prod.snd (Prod.snd x)) (decide (Prod.fst (Prod.fst x) = (5 : UInt8))) (Prod.snd x_1)
                    (Prod.fst (Prod.fst x)) (Prod.fst (Prod.snd (Prod.fst x))) (Prod.snd (Prod.snd (Prod.fst x)))
                    (Prod.fst (Prod.fst (Prod.fst x_1))) (Prod.snd (Prod.fst (Prod.fst x_1)))))
              (F14_J3967 n)))))
theorem F14_R31741_s (n : Nat) (m_ : Nat) : F14_R31741 n (m_ + 1) = F14_L31741 n (F14_R31741 n m_) := rfl
theorem ok14 (n : Nat) : FunOK Try.prog ⟨14, sig14, F14 n⟩ :=
  fun_ok (hints := ⟨[(3967, ⟨[(1, .one (.own 1)), (2, .one (.int .u64)), (3, .one (.own 3)), (8, .one (.own 4)), (60, .one (.bool))], [(1, .fold (.cons (.row (.cons (.int .u64) (.cons (.int .i64) .nil))) .nil)), (3, .cells [.int .u8, .int .i64, .int .u64]), (4, .cells [.int .u64, .int .i64])], 5⟩), (1015725, ⟨[(2, .one (.int .u64)), (3, .one (.own 3)), (8, .one (.own 4)), (11, .one (.own 5)), (66, .one (.own 6)), (67, .one (.int .i64)), (68, .one (.int .i64))], [(1, .cells [.own 6]), (3, .cells [.int .u8, .int .i64, .int .u64]), (4, .cells [.int .u64, .int .i64]), (5, .cells [.int .u64, .int .i64]), (6, .row (.cons (.int .u64) (.cons (.int .i64) .nil)))], 7⟩), (4062903, ⟨[(2, .one (.int .u64)), (3, .one (.own 3)), (8, .one (.own 4)), (12, .one (.int .i64)), (13, .one (.int .i64)), (66, .one (.own 5)), (67, .one (.int .i64)), (68, .one (.int .i64))], [(1, .cells [.own 5]), (3, .cells [.int .u8, .int .i64, .int .u64]), (4, .cells [.int .u64, .int .i64]), (5, .row (.cons (.int .u64) (.cons (.int .i64) .nil)))], 6⟩)], [(31741, ⟨[(2, .one (.int .u64)), (3, .one (.own 3)), (8, .one (.own 4)), (66, .one (.own 5)), (67, .one (.int .i64)), (68, .one (.int .i64))], [(1, .cells [.own 5]), (3, .cells [.int .u8, .int .i64, .int .u64]), (4, .cells [.int .u64, .int .i64]), (5, .row (.cons (.int .u64) (.cons (.int .i64) .nil)))], 6⟩)]⟩) (fuel := n) (c := Try.f14.body.getD .skip) (rs := Try.f14.results.toList) tt_ok mix (FsOK.cons (ok10 n) (FsOK.cons (ok25 n) (FsOK.nil))) Try.func14 (by kernel_rfl) (by kernel_rfl) rfl (by kernel_rfl) rfl rfl (by kernel_rfl)
-- watchfire/watchfirelaw13.Awake
def sig7 : Sig := ⟨.nil, (.cons (.one (.c .bool)) .nil)⟩
def F7 : Nat → Unit → Option (Bool × Unit) := fun (n : Nat) (x : Unit) =>
  obind (F8 n (some [], (1 : UInt64), (10 : Int64))) fun (x_1 : Int64 × Option (List (UInt64 × Int64))) =>
    obind (F8 n (Prod.snd x_1, (3 : UInt64), (5 : Int64))) fun (x_2 : Int64 × Option (List (UInt64 × Int64))) =>
      obind (F14 n (((4 : UInt8), (3 : Int64), (5 : UInt64)), Prod.snd x_2, (3 : UInt64)))
        fun (x_3 : (Bool × Int64) × Option (List (UInt64 × Int64))) =>
        obind (F14 n (((5 : UInt8), (3 : Int64), (5 : UInt64)), Prod.snd x_3, (3 : UInt64)))
          fun (x_4 : (Bool × Int64) × Option (List (UInt64 × Int64))) =>
          oite (!Prod.fst (Prod.fst x_3))
            (oite (Prod.fst (Prod.fst x_4)) (some (decide (Prod.snd (Prod.fst x_4) = (5 : Int64)), ()))
              (some (false, ())))
            (some (false, ()))
theorem ok7 (n : Nat) : FunOK Try.prog ⟨7, sig7, F7 n⟩ :=
  fun_ok (hints := ⟨[], []⟩) (fuel := n) (c := Try.f7.body.getD .skip) (rs := Try.f7.results.toList) tt_ok mix (FsOK.cons (ok8 n) (FsOK.cons (ok14 n) (FsOK.nil))) Try.func7 (by kernel_rfl) (by kernel_rfl) rfl (by kernel_rfl) rfl rfl (by kernel_rfl)
-- (*watchfire/cond.Series).Points
def sig9 : Sig := ⟨(.cons (.one (.ptr (.cons (.row (.cons (.int .u64) (.cons (.int .i64) .nil))) .nil))) .nil), (.cons (.one (.c (.ro (.cons (.int .u64) (.cons (.int .i64) .nil))))) .nil)⟩
def F9 : Nat → Option (List (UInt64 × Int64)) → Option (List (UInt64 × Int64) × Option (List (UInt64 × Int64))) := fun (n : Nat) (x : Option (List (UInt64 × Int64))) =>
  oelim x (some ([], none)) fun (x_1 : List (UInt64 × Int64)) =>
    oite (Nat.ble ((0 : Nat) + List.length x_1) (4294967296 : Nat)) (some ([] ++ x_1, some x_1)) none
theorem ok9 (n : Nat) : FunOK Try.prog ⟨9, sig9, F9 n⟩ :=
  fun_ok (hints := ⟨[], []⟩) (fuel := n) (c := Try.f9.body.getD .skip) (rs := Try.f9.results.toList) tt_ok mix (FsOK.nil) Try.func9 (by kernel_rfl) (by kernel_rfl) rfl (by kernel_rfl) rfl rfl (by kernel_rfl)
-- (watchfire/watchfirelaw13.Small).Cond
def sig11 : Sig := ⟨(.cons (.agg (.cons (.int .u8) (.cons (.int .i16) (.cons (.int .u8) .nil)))) .nil), (.cons (.agg (.cons (.int .u8) (.cons (.int .i64) (.cons (.int .u64) .nil)))) .nil)⟩
def F11 : Nat → UInt8 × Int16 × UInt8 → Option ((UInt8 × Int64 × UInt64) × Unit) := fun (n : Nat) (x : UInt8 × Int16 × UInt8) =>
  oite (decide ((1 : UInt8) + Prod.fst x % (5 : UInt8) = (1 : UInt8)))
    (oite (decide ((1 : UInt8) + Prod.fst x % (5 : UInt8) = (1 : UInt8)))
      (some
        (((1 : UInt8) + Prod.fst x % (5 : UInt8), Int64.ofInt (Int16.toInt (Prod.fst (Prod.snd x))), (0 : UInt64)),
          ()))
      (oite (decide ((1 : UInt8) + Prod.fst x % (5 : UInt8) = (3 : UInt8)))
        (some
          (((1 : UInt8) + Prod.fst x % (5 : UInt8), (0 : Int64),
              (1 : UInt64) + UInt64.ofInt ↑(UInt8.toNat (Prod.snd (Prod.snd x))) % (20 : UInt64)),
            ()))
        (some
          (((1 : UInt8) + Prod.fst x % (5 : UInt8),
              IK.maxI IntKind.i64 (Int64.ofInt (Int16.toInt (Prod.fst (Prod.snd x))))
                ((0 : Int64) - Int64.ofInt (Int16.toInt (Prod.fst (Prod.snd x)))),
              (1 : UInt64) + UInt64.ofInt ↑(UInt8.toNat (Prod.snd (Prod.snd x))) % (20 : UInt64)),
            ()))))
    (oite (decide ((1 : UInt8) + Prod.fst x % (5 : UInt8) = (2 : UInt8)))
      (some
        (((1 : UInt8) + Prod.fst x % (5 : UInt8), Int64.ofInt (Int16.toInt (Prod.fst (Prod.snd x))), (0 : UInt64)),
          ()))
      (oite (decide ((1 : UInt8) + Prod.fst x % (5 : UInt8) = (3 : UInt8)))
        (some
          (((1 : UInt8) + Prod.fst x % (5 : UInt8), (0 : Int64),
              (1 : UInt64) + UInt64.ofInt ↑(UInt8.toNat (Prod.snd (Prod.snd x))) % (20 : UInt64)),
            ()))
        (some
          (((1 : UInt8) + Prod.fst x % (5 : UInt8),
              IK.maxI IntKind.i64 (Int64.ofInt (Int16.toInt (Prod.fst (Prod.snd x))))
                ((0 : Int64) - Int64.ofInt (Int16.toInt (Prod.fst (Prod.snd x)))),
              (1 : UInt64) + UInt64.ofInt ↑(UInt8.toNat (Prod.snd (Prod.snd x))) % (20 : UInt64)),
            ()))))
theorem ok11 (n : Nat) : FunOK Try.prog ⟨11, sig11, F11 n⟩ :=
  fun_ok (hints := ⟨[], []⟩) (fuel := n) (c := Try.f11.body.getD .skip) (rs := Try.f11.results.toList) tt_ok mix (FsOK.nil) Try.func11 (by kernel_rfl) (by kernel_rfl) rfl (by kernel_rfl) rfl rfl (by kernel_rfl)
-- watchfire/watchfirelaw13.Ref
def sig12 : Sig := ⟨(.cons (.agg (.cons (.int .u8) (.cons (.int .i64) (.cons (.int .u64) .nil)))) .nil), (.cons (.agg (.cons (.int .i64) (.cons (.int .i64) (.cons (.int .u64) .nil)))) .nil)⟩
def F12 : Nat → UInt8 × Int64 × UInt64 → Option ((Int64 × Int64 × UInt64) × Unit) := fun (n : Nat) (x : UInt8 × Int64 × UInt64) =>
  some ((Int64.ofInt ↑(UInt8.toNat (Prod.fst x)), Prod.fst (Prod.snd x), Prod.snd (Prod.snd x)), ())
theorem ok12 (n : Nat) : FunOK Try.prog ⟨12, sig12, F12 n⟩ :=
  fun_ok (hints := ⟨[], []⟩) (fuel := n) (c := Try.f12.body.getD .skip) (rs := Try.f12.results.toList) tt_ok mix (FsOK.nil) Try.func12 (by kernel_rfl) (by kernel_rfl) rfl (by kernel_rfl) rfl rfl (by kernel_rfl)
-- (watchfire/watchfireref13.Cond).Check
def sig13 : Sig := ⟨(.cons (.agg (.cons (.int .i64) (.cons (.int .i64) (.cons (.int .u64) .nil)))) .nil), (.cons (.one (.c (.int .i64))) .nil)⟩
def F13_J15 : Bool → Int64 → Int64 → UInt64 → Option (Int64 × Unit) := fun (ok_1 : Bool) (c0_1 c1_1 : Int64) (c2_1 : UInt64) =>
  oite (decide (c0_1 = (3 : Int64)))
    (oite (!decide (c1_1 = (0 : Int64))) (some ((6 : Int64), ()))
      (oite (!ok_1) (some ((6 : Int64), ())) (some ((0 : Int64), ()))))
    (oite (!ok_1) (some ((6 : Int64), ())) (some ((0 : Int64), ())))
def F13_J7 : Bool → Int64 → Int64 → UInt64 → Option (Int64 × Unit) := fun (ok : Bool) (c0 c1 : Int64) (c2 : UInt64) =>
  ojoinA (15 : Nat) [PT.bool, PT.int IntKind.i64, PT.int IntKind.i64, PT.int IntKind.u64]
    (fun (J : Arr [PT.bool, PT.int IntKind.i64, PT.int IntKind.i64, PT.int IntKind.u64] (Option (Int64 × Unit))) =>
      oite (decide (c0 ≤ (2 : Int64))) (J (decide (c2 = (0 : UInt64))) c0 c1 c2) (J ok c0 c1 c2))
    F13_J15
def F13 : Nat → Int64 × Int64 × UInt64 → Option (Int64 × Unit) := fun (n : Nat) (x : Int64 × Int64 × UInt64) =>
  oite (decide (Prod.fst x < (1 : Int64))) (some ((12 : Int64), ()))
    (oite (decide ((5 : Int64) < Prod.fst x)) (some ((12 : Int64), ()))
      (ojoinA (7 : Nat) [PT.bool, PT.int IntKind.i64, PT.int IntKind.i64, PT.int IntKind.u64]
        (fun (J : Arr [PT.bool, PT.int IntKind.i64, PT.int IntKind.i64, PT.int IntKind.u64] (Option (Int64 × Unit))) =>
          oite (decide ((1 : UInt64) ≤ Prod.snd (Prod.snd x)))
            (oite (decide (Prod.snd (Prod.snd x) ≤ (1048576 : UInt64)))
              (J (decide ((0 : Int64) ≤ Prod.fst (Prod.snd x))) (Prod.fst x) (Prod.fst (Prod.snd x))
                (Prod.snd (Prod.snd x)))
              (J false (Prod.fst x) (Prod.fst (Prod.snd x)) (Prod.snd (Prod.snd x))))
            (J false (Prod.fst x) (Prod.fst (Prod.snd x)) (Prod.snd (Prod.snd x))))
        F13_J7))
theorem ok13 (n : Nat) : FunOK Try.prog ⟨13, sig13, F13 n⟩ :=
  fun_ok (hints := ⟨[(7, ⟨[(1, .one (.own 1)), (3, .one (.bool))], [(1, .cells [.int .i64, .int .i64, .int .u64])], 2⟩), (15, ⟨[(1, .one (.own 1)), (3, .one (.bool))], [(1, .cells [.int .i64, .int .i64, .int .u64])], 2⟩)], []⟩) (fuel := n) (c := Try.f13.body.getD .skip) (rs := Try.f13.results.toList) tt_ok mix (FsOK.nil) Try.func13 (by kernel_rfl) (by kernel_rfl) rfl (by kernel_rfl) rfl rfl (by kernel_rfl)
-- watchfire/watchfireref13.over
def sig26 : Sig := ⟨(.cons (.one (.c (.int .i64))) (.cons (.one (.c (.int .i64))) (.cons (.one (.c (.int .i64))) .nil))), (.cons (.one (.c .bool)) .nil)⟩
def F26 : Nat → Int64 × Int64 × Int64 → Option (Bool × Unit) := fun (n : Nat) (x : Int64 × Int64 × Int64) =>
  oite (decide (Prod.fst x ≤ Prod.fst (Prod.snd x))) (some (false, ()))
    (oite (decide ((0 : Int64) ≤ Prod.fst (Prod.snd x)))
      (some (decide (Prod.snd (Prod.snd x) < Prod.fst x - Prod.fst (Prod.snd x)), ()))
      (oite (decide (Prod.fst x < (0 : Int64)))
        (some (decide (Prod.snd (Prod.snd x) < Prod.fst x - Prod.fst (Prod.snd x)), ()))
        (some
          (decide
              (UInt64.ofInt (Int64.toInt (Prod.snd (Prod.snd x))) <
                UInt64.ofInt (Int64.toInt (Prod.fst x)) +
                    UInt64.ofInt (Int64.toInt ((0 : Int64) - (Prod.fst (Prod.snd x) + (1 : Int64)))) +
                  (1 : UInt64)),
            ()))))
theorem ok26 (n : Nat) : FunOK Try.prog ⟨26, sig26, F26 n⟩ :=
  fun_ok (hints := ⟨[], []⟩) (fuel := n) (c := Try.f26.body.getD .skip) (rs := Try.f26.results.toList) tt_ok mix (FsOK.nil) Try.func26 (by kernel_rfl) (by kernel_rfl) rfl (by kernel_rfl) rfl rfl (by kernel_rfl)
-- (watchfire/watchfireref13.Cond).Holds
def sig15 : Sig := ⟨(.cons (.agg (.cons (.int .i64) (.cons (.int .i64) (.cons (.int .u64) .nil)))) (.cons (.one (.c (.ro (.cons (.int .u64) (.cons (.int .i64) .nil))))) (.cons (.one (.c (.int .u64))) .nil))), (.cons (.one (.c .bool)) (.cons (.one (.c (.int .i64))) .nil))⟩
def F15_J507861 : Arr
    [PT.list (CTs.cons (CT.int IntKind.u64) (CTs.cons (CT.int IntKind.i64) CTs.nil)), PT.int IntKind.u64,
      PT.int IntKind.i64, PT.int IntKind.i64, PT.int IntKind.i64, PT.int IntKind.u64, PT.int IntKind.u64,
      PT.int IntKind.i64]
    (Option ((Bool × Int64) × Unit)) →
  List (UInt64 × Int64) →
    UInt64 → Int64 → Bool → Int64 → Int64 → UInt64 → UInt64 → Int64 → Option ((Bool × Int64) × Unit) := fun
    (rec :
      Arr
        [PT.list (CTs.cons (CT.int IntKind.u64) (CTs.cons (CT.int IntKind.i64) CTs.nil)), PT.int IntKind.u64,
          PT.int IntKind.i64, PT.int IntKind.i64, PT.int IntKind.i64, PT.int IntKind.u64, PT.int IntKind.u64,
          PT.int IntKind.i64]
        (Option ((Bool × Int64) × Unit)))
    (l_2 : List (UInt64 × Int64)) (now_2 : UInt64) (i_1 : Int64) (t_1 : Bool) (c0_2 c1_2 : Int64)
    (c2_2 last0_2 : UInt64) (last1_2 : Int64) =>
  oite t_1 (some ((true, last1_2), ())) (rec l_2 now_2 (i_1 + (1 : Int64)) c0_2 c1_2 c2_2 last0_2 last1_2)
def F15_L31741 : Nat →
  Arr
      [PT.list (CTs.cons (CT.int IntKind.u64) (CTs.cons (CT.int IntKind.i64) CTs.nil)), PT.int IntKind.u64,
        PT.int IntKind.i64, PT.int IntKind.i64, PT.int IntKind.i64, PT.int IntKind.u64, PT.int IntKind.u64,
        PT.int IntKind.i64]
      (Option ((Bool × Int64) × Unit)) →
    List (UInt64 × Int64) → UInt64 → Int64 → Int64 → Int64 → UInt64 → UInt64 → Int64 → Option ((Bool × Int64) × Unit) := fun (n : Nat)
    (rec :
      Arr
        [PT.list (CTs.cons (CT.int IntKind.u64) (CTs.cons (CT.int IntKind.i64) CTs.nil)), PT.int IntKind.u64,
          PT.int IntKind.i64, PT.int IntKind.i64, PT.int IntKind.i64, PT.int IntKind.u64, PT.int IntKind.u64,
          PT.int IntKind.i64]
        (Option ((Bool × Int64) × Unit)))
    (l_1 : List (UInt64 × Int64)) (now_1 : UInt64) (i c0_1 c1_1 : Int64) (c2_1 last0_1 : UInt64) (last1_1 : Int64) =>
  oite (decide (i < Int64.ofInt ↑(List.length l_1)))
    (obind (at? l_1 (Int64.toInt i)) fun (x_2 : UInt64 × Int64) =>
      oite (decide (Prod.fst x_2 + c2_1 < now_1)) (rec l_1 now_1 (i + (1 : Int64)) c0_1 c1_1 c2_1 last0_1 last1_1)
        (ojoinA (507861 : Nat)
          [PT.list (CTs.cons (CT.int IntKind.u64) (CTs.cons (CT.int IntKind.i64) CTs.nil)), PT.int IntKind.u64,
            PT.int IntKind.i64, PT.bool, PT.int IntKind.i64, PT.int IntKind.i64, PT.int IntKind.u64, PT.int IntKind.u64,
            PT.int IntKind.i64]
          (fun
              (J :
                Arr
                  [PT.list (CTs.cons (CT.int IntKind.u64) (CTs.cons (CT.int IntKind.i64) CTs.nil)), PT.int IntKind.u64,
                    PT.int IntKind.i64, PT.bool, PT.int IntKind.i64, PT.int IntKind.i64, PT.int IntKind.u64,
                    PT.int IntKind.u64, PT.int IntKind.i64]
                  (Option ((Bool × Int64) × Unit))) =>
            oite (decide (c0_1 = (4 : Int64)))
              (obind (at? l_1 (Int64.toInt i)) fun (x_3 : UInt64 × Int64) =>
                obind (F26 n (last1_1, Prod.snd x_3, c1_1)) fun (x_4 : Bool × Unit) =>
                  oite (Prod.fst x_4) (J l_1 now_1 i true c0_1 c1_1 c2_1 last0_1 last1_1)
                    (oite (decide (c0_1 = (5 : Int64)))
                      (obind (at? l_1 (Int64.toInt i)) fun (x_5 : UInt64 × Int64) =>
                        obind (F26 n (Prod.snd x_5, last1_1, c1_1)) fun (x_6 : Bool × Unit) =>
                          J l_1 now_1 i (Prod.fst x_6) c0_1 c1_1 c2_1 last0_1 last1_1)
                      (J l_1 now_1 i false c0_1 c1_1 c2_1 last0_1 last1_1)))
              (oite (decide (c0_1 = (5 : Int64)))
                (obind (at? l_1 (Int64.toInt i)) fun (x_3 : UInt64 × Int64) =>
                  obind (F26 n (Prod.snd x_3, last1_1, c1_1)) fun (x_4 : Bool × Unit) =>
                    J l_1 now_1 i (Prod.fst x_4) c0_1 c1_1 c2_1 last0_1 last1_1)
                (J l_1 now_1 i false c0_1 c1_1 c2_1 last0_1 last1_1)))
          (F15_J507861 rec)))
    (some ((false, last1_1), ()))
def F15_R31741 : Nat →
  Nat →
    PT.T (PT.list (CTs.cons (CT.int IntKind.u64) (CTs.cons (CT.int IntKind.i64) CTs.nil))) →
      UInt64 → Int64 → Int64 → Int64 → UInt64 → UInt64 → Int64 → Option ((Bool × Int64) × Unit) := fun (n : Nat) =>
  ofixA (31741 : Nat)
    [PT.list (CTs.cons (CT.int IntKind.u64) (CTs.cons (CT.int IntKind.i64) CTs.nil)), PT.int IntKind.u64,
      PT.int IntKind.i64, PT.int IntKind.i64, PT.int IntKind.i64, PT.int IntKind.u64, PT.int IntKind.u64,
      PT.int IntKind.i64]
    (F15_L31741 n)
def F15_J3967 : Nat → List (UInt64 × Int64) → UInt64 → Bool → Int64 → Int64 → UInt64 → UInt64 → Int64 → Option ((Bool × Int64) × Unit) := fun (n : Nat) (l : List (UInt64 × Int64)) (now : UInt64) (t : Bool) (c0 c1 : Int64) (c2 last0 : UInt64)
    (last1 : Int64) =>
  oite t (F15_R31741 n n l now (0 : Int64) c0 c1 c2 last0 last1) (some ((false, last1), ()))
def F15 : Nat → (Int64 × Int64 × UInt64) × List (UInt64 × Int64) × UInt64 → Option ((Bool × Int64) × Unit) := fun (n : Nat) (x : (Int64 × Int64 × UInt64) × List (UInt64 × Int64) × UInt64) =>
  oite (decide (Int64.ofInt ↑(List.length (Prod.fst (Prod.snd x))) = (0 : Int64)))
    (some ((false, (0 : Int64)), ()))
    (obind
      (at? (Prod.fst (Prod.snd x)) (Int64.toInt (Int64.ofInt ↑(List.length (Prod.fst (Prod.snd x))) - (1 : Int64))))
      fun (x_1 : UInt64 × Int64) =>
      oite (decide (Prod.fst (Prod.fst x) = (1 : Int64)))
        (some ((decide (Prod.fst (Prod.snd (Prod.fst x)) < Prod.snd x_1), Prod.snd x_1), ()))
        (oite (decide (Prod.fst (Prod.fst x) = (2 : Int64)))
          (some ((decide (Prod.snd x_1 < Prod.fst (Prod.snd (Prod.fst x))), Prod.snd x_1), ()))
          (oite (decide (Prod.fst (Prod.fst x) = (3 : Int64)))
            (oite (decide (Prod.fst x_1 + Prod.snd (Prod.snd (Prod.fst x)) ≤ Prod.snd (Prod.snd x)))
              (some ((decide (Prod.fst x_1 < Prod.snd (Prod.snd x)), Prod.snd x_1), ()))
              (some ((false, Prod.snd x_1), ())))
            (ojoinA (3967 : Nat)
              [PT.list (CTs.cons (CT.int IntKind.u64) (CTs.cons (CT.int IntKind.i64) CTs.nil)), PT.int IntKind.u64,
                PT.bool, PT.int IntKind.i64, PT.int IntKind.i64, PT.int IntKind.u64, PT.int IntKind.u64,
                PT.int IntKind.i64]
              (fun
                  (J :
                    Arr
                      [PT.list (CTs.cons (CT.int IntKind.u64) (CTs.cons (CT.int IntKind.i64) CTs.nil)),
                        PT.int IntKind.u64, PT.bool, PT.int IntKind.i64, PT.int IntKind.i64, PT.int IntKind.u64,
                        PT.int IntKind.u64, PT.int IntKind.i64]
                      (Option ((Bool × Int64) × Unit))) =>
                oite (decide (Prod.fst (Prod.fst x) = (4 : Int64)))
                  (J (Prod.fst (Prod.snd x)) (Prod.snd (Prod.snd x)) (decide (Prod.fst (Prod.fst x) = (4 : Int64)))
                    (Prod.fst (Prod.fst x)) (Prod.fst (Prod.snd (Prod.fst x))) (Prod.snd (Prod.snd (Prod.fst x)))
                    (Prod.fst x_1) (Prod.snd x_1))
                  (J (Prod.fst (Prod.snd x)) (Prod.snd (Prod.snd x)) (decide (Prod.fst (Prod.fst x) = (5 : Int64)))
                    (Prod.fst (Prod.fst x)) (Prod.fst (Prod.snd (Prod.fst x))) (Prod.snd (Prod.snd (Prod.fst x)))
                    (Prod.fst x_1) (Prod.snd x_1)))
              (F15_J3967 n)))))
theorem F15_R31741_s (n : Nat) (m_ : Nat) : F15_R31741 n (m_ + 1) = F15_L31741 n (F15_R31741 n m_) := rfl
theorem ok15 (n : Nat) : FunOK Try.prog ⟨15, sig15, F15 n⟩ :=
  fun_ok (hints := ⟨[(3967, ⟨[(1, .one (.ro (.cons (.int .u64) (.cons (.int .i64) .nil)))), (2, .one (.int .u64)), (3, .one (.own 3)), (8, .one (.own 4)), (56, .one (.bool))], [(3, .cells [.int .i64, .int .i64, .int .u64]), (4, .cells [.int .u64, .int .i64])], 5⟩), (507861, ⟨[(1, .one (.ro (.cons (.int .u64) (.cons (.int .i64) .nil)))), (2, .one (.int .u64)), (3, .one (.own 3)), (8, .one (.own 4)), (9, .one (.int .i64)), (106, .one (.bool))], [(3, .cells [.int .i64, .int .i64, .int .u64]), (4, .cells [.int .u64, .int .i64])], 5⟩)], [(31741, ⟨[(1, .one (.ro (.cons (.int .u64) (.cons (.int .i64) .nil)))), (2, .one (.int .u64)), (3, .one (.own 3)), (8, .one (.own 4)), (9, .one (.int .i64))], [(3, .cells [.int .i64, .int .i64, .int .u64]), (4, .cells [.int .u64, .int .i64])], 5⟩)]⟩) (fuel := n) (c := Try.f15.body.getD .skip) (rs := Try.f15.results.toList) tt_ok mix (FsOK.cons (ok26 n) (FsOK.nil)) Try.func15 (by kernel_rfl) (by kernel_rfl) rfl (by kernel_rfl) rfl rfl (by kernel_rfl)
-- watchfire/watchfirelaw13.CondHolds
def sig3 : Sig := ⟨(.cons (.one (.c (.ro (.cons (.int .u8) (.cons (.int .i64) .nil))))) (.cons (.agg (.cons (.int .u8) (.cons (.int .i64) (.cons (.int .u64) .nil)))) (.cons (.agg (.cons (.int .u8) (.cons (.int .i16) (.cons (.int .u8) .nil)))) (.cons (.one (.c (.int .u8))) .nil)))), (.cons (.one (.c .bool)) .nil)⟩
def F3_L1048247 : Nat →
  Arr
      [PT.int IntKind.u8, PT.int IntKind.u64, PT.int IntKind.i64, PT.int IntKind.i64,
        PT.opt (OTs.cons (OT.row (CTs.cons (CT.int IntKind.u64) (CTs.cons (CT.int IntKind.i64) CTs.nil))) OTs.nil),
        PT.list (CTs.cons (CT.int IntKind.u64) (CTs.cons (CT.int IntKind.i64) CTs.nil)),
        PT.list (CTs.cons (CT.int IntKind.u8) (CTs.cons (CT.int IntKind.i64) (CTs.cons (CT.int IntKind.u64) CTs.nil)))]
      (Option (Bool × Unit)) →
    Arr
        [PT.int IntKind.u8, PT.int IntKind.u64, PT.int IntKind.i64, PT.int IntKind.i64, PT.int IntKind.i64,
          PT.int IntKind.i64,
          PT.opt (OTs.cons (OT.row (CTs.cons (CT.int IntKind.u64) (CTs.cons (CT.int IntKind.i64) CTs.nil))) OTs.nil),
          PT.list (CTs.cons (CT.int IntKind.u64) (CTs.cons (CT.int IntKind.i64) CTs.nil)), PT.int IntKind.u8,
          PT.int IntKind.i64, PT.int IntKind.u64,
          PT.list
            (CTs.cons (CT.int IntKind.u8) (CTs.cons (CT.int IntKind.i64) (CTs.cons (CT.int IntKind.u64) CTs.nil))),
          PT.list (CTs.cons (CT.int IntKind.u64) CTs.nil)]
        (Option (Bool × Unit)) →
      UInt8 →
        UInt64 →
          Int64 →
            Int64 →
              Int64 →
                Int64 →
                  Option (List (UInt64 × Int64)) →
                    List (UInt64 × Int64) →
                      UInt8 → Int64 → UInt64 → List (UInt8 × Int64 × UInt64) → List UInt64 → Option (Bool × Unit) := fun (n : Nat)
    (rec_1 :
      Arr
        [PT.int IntKind.u8, PT.int IntKind.u64, PT.int IntKind.i64, PT.int IntKind.i64,
          PT.opt (OTs.cons (OT.row (CTs.cons (CT.int IntKind.u64) (CTs.cons (CT.int IntKind.i64) CTs.nil))) OTs.nil),
          PT.list (CTs.cons (CT.int IntKind.u64) (CTs.cons (CT.int IntKind.i64) CTs.nil)),
          PT.list
            (CTs.cons (CT.int IntKind.u8) (CTs.cons (CT.int IntKind.i64) (CTs.cons (CT.int IntKind.u64) CTs.nil)))]
        (Option (Bool × Unit)))
    (rec_2 :
      Arr
        [PT.int IntKind.u8, PT.int IntKind.u64, PT.int IntKind.i64, PT.int IntKind.i64, PT.int IntKind.i64,
          PT.int IntKind.i64,
          PT.opt (OTs.cons (OT.row (CTs.cons (CT.int IntKind.u64) (CTs.cons (CT.int IntKind.i64) CTs.nil))) OTs.nil),
          PT.list (CTs.cons (CT.int IntKind.u64) (CTs.cons (CT.int IntKind.i64) CTs.nil)), PT.int IntKind.u8,
          PT.int IntKind.i64, PT.int IntKind.u64,
          PT.list
            (CTs.cons (CT.int IntKind.u8) (CTs.cons (CT.int IntKind.i64) (CTs.cons (CT.int IntKind.u64) CTs.nil))),
          PT.list (CTs.cons (CT.int IntKind.u64) CTs.nil)]
        (Option (Bool × Unit)))
    (ahead_4 : UInt8) (now_4 : UInt64) (t_3 t_1_2 t_2_2 t_3_1 : Int64) (x__4 : Option (List (UInt64 × Int64)))
    (m_4 : List (UInt64 × Int64)) (y0 : UInt8) (y1 : Int64) (y2 : UInt64) (t_4 : List (UInt8 × Int64 × UInt64))
    (t_5 : List UInt64) =>
  oite (decide (t_3_1 < t_2_2))
    (oite (decide ((0 : Int) ≤ Int64.toInt t_3_1) && Nat.blt (Int.toNat (Int64.toInt t_3_1)) (List.length t_5))
      (obind t_5[Int.toNat (Int64.toInt t_3_1)]? fun (x_8 : UInt64) =>
        obind (F14 n ((y0, y1, y2), x__4, x_8)) fun (x_9 : (Bool × Int64) × Option (List (UInt64 × Int64))) =>
          obind (F12 n (y0, y1, y2)) fun (x_10 : (Int64 × Int64 × UInt64) × Unit) =>
            obind
              (F15 n
                ((Prod.fst (Prod.fst x_10), Prod.fst (Prod.snd (Prod.fst x_10)), Prod.snd (Prod.snd (Prod.fst x_10))),
                  m_4, x_8))
              fun (x_11 : (Bool × Int64) × Unit) =>
              oite (!Prod.fst (Prod.fst x_9) == Prod.fst (Prod.fst x_11)) (some (false, ()))
                (oite (!decide (Prod.snd (Prod.fst x_9) = Prod.snd (Prod.fst x_11))) (some (false, ()))
                  (rec_2 ahead_4 now_4 t_3 t_1_2 t_2_2 (t_3_1 + (1 : Int64)) (Prod.snd x_9) m_4 y0 y1 y2 t_4 t_5)))
      none)
    (rec_1 ahead_4 now_4 t_3 (t_1_2 + (1 : Int64)) x__4 m_4 t_4)
def F3_R1048247 : Nat →
  Arr
      [PT.int IntKind.u8, PT.int IntKind.u64, PT.int IntKind.i64, PT.int IntKind.i64,
        PT.opt (OTs.cons (OT.row (CTs.cons (CT.int IntKind.u64) (CTs.cons (CT.int IntKind.i64) CTs.nil))) OTs.nil),
        PT.list (CTs.cons (CT.int IntKind.u64) (CTs.cons (CT.int IntKind.i64) CTs.nil)),
        PT.list (CTs.cons (CT.int IntKind.u8) (CTs.cons (CT.int IntKind.i64) (CTs.cons (CT.int IntKind.u64) CTs.nil)))]
      (Option (Bool × Unit)) →
    Nat →
      PT.T (PT.int IntKind.u8) →
        UInt64 →
          Int64 →
            Int64 →
              Int64 →
                Int64 →
                  Option (List (UInt64 × Int64)) →
                    List (UInt64 × Int64) →
                      UInt8 → Int64 → UInt64 → List (UInt8 × Int64 × UInt64) → List UInt64 → Option (Bool × Unit) := fun (n : Nat)
    (rec_1 :
      Arr
        [PT.int IntKind.u8, PT.int IntKind.u64, PT.int IntKind.i64, PT.int IntKind.i64,
          PT.opt (OTs.cons (OT.row (CTs.cons (CT.int IntKind.u64) (CTs.cons (CT.int IntKind.i64) CTs.nil))) OTs.nil),
          PT.list (CTs.cons (CT.int IntKind.u64) (CTs.cons (CT.int IntKind.i64) CTs.nil)),
          PT.list
            (CTs.cons (CT.int IntKind.u8) (CTs.cons (CT.int IntKind.i64) (CTs.cons (CT.int IntKind.u64) CTs.nil)))]
        (Option (Bool × Unit))) =>
  ofixA (1048247 : Nat)
    [PT.int IntKind.u8, PT.int IntKind.u64, PT.int IntKind.i64, PT.int IntKind.i64, PT.int IntKind.i64,
      PT.int IntKind.i64,
      PT.opt (OTs.cons (OT.row (CTs.cons (CT.int IntKind.u64) (CTs.cons (CT.int IntKind.i64) CTs.nil))) OTs.nil),
      PT.list (CTs.cons (CT.int IntKind.u64) (CTs.cons (CT.int IntKind.i64) CTs.nil)), PT.int IntKind.u8,
      PT.int IntKind.i64, PT.int IntKind.u64,
      PT.list (CTs.cons (CT.int IntKind.u8) (CTs.cons (CT.int IntKind.i64) (CTs.cons (CT.int IntKind.u64) CTs.nil))),
      PT.list (CTs.cons (CT.int IntKind.u64) CTs.nil)]
    (F3_L1048247 n rec_1)
def F3_L8189 : Nat →
  Arr
      [PT.int IntKind.u8, PT.int IntKind.u64, PT.int IntKind.i64, PT.int IntKind.i64,
        PT.opt (OTs.cons (OT.row (CTs.cons (CT.int IntKind.u64) (CTs.cons (CT.int IntKind.i64) CTs.nil))) OTs.nil),
        PT.list (CTs.cons (CT.int IntKind.u64) (CTs.cons (CT.int IntKind.i64) CTs.nil)),
        PT.list (CTs.cons (CT.int IntKind.u8) (CTs.cons (CT.int IntKind.i64) (CTs.cons (CT.int IntKind.u64) CTs.nil)))]
      (Option (Bool × Unit)) →
    UInt8 →
      UInt64 →
        Int64 →
          Int64 →
            Option (List (UInt64 × Int64)) →
              List (UInt64 × Int64) → List (UInt8 × Int64 × UInt64) → Option (Bool × Unit) := fun (n : Nat)
    (rec_1 :
      Arr
        [PT.int IntKind.u8, PT.int IntKind.u64, PT.int IntKind.i64, PT.int IntKind.i64,
          PT.opt (OTs.cons (OT.row (CTs.cons (CT.int IntKind.u64) (CTs.cons (CT.int IntKind.i64) CTs.nil))) OTs.nil),
          PT.list (CTs.cons (CT.int IntKind.u64) (CTs.cons (CT.int IntKind.i64) CTs.nil)),
          PT.list
            (CTs.cons (CT.int IntKind.u8) (CTs.cons (CT.int IntKind.i64) (CTs.cons (CT.int IntKind.u64) CTs.nil)))]
        (Option (Bool × Unit)))
    (ahead_3 : UInt8) (now_3 : UInt64) (t_2 t_1_1 : Int64) (x__3 : Option (List (UInt64 × Int64)))
    (m_3 : List (UInt64 × Int64)) (t_2_1 : List (UInt8 × Int64 × UInt64)) =>
  oite (decide (t_1_1 < t_2))
    (oite (decide ((0 : Int) ≤ Int64.toInt t_1_1) && Nat.blt (Int.toNat (Int64.toInt t_1_1)) (List.length t_2_1))
      (obind t_2_1[Int.toNat (Int64.toInt t_1_1)]? fun (x_5 : UInt8 × Int64 × UInt64) =>
        obind (F12 n (Prod.fst x_5, Prod.fst (Prod.snd x_5), Prod.snd (Prod.snd x_5)))
          fun (x_6 : (Int64 × Int64 × UInt64) × Unit) =>
          obind
            (F13 n (Prod.fst (Prod.fst x_6), Prod.fst (Prod.snd (Prod.fst x_6)), Prod.snd (Prod.snd (Prod.fst x_6))))
            fun (x_7 : Int64 × Unit) =>
            oite (!decide (Prod.fst x_7 = (0 : Int64))) (rec_1 ahead_3 now_3 t_2 (t_1_1 + (1 : Int64)) x__3 m_3 t_2_1)
              (F3_R1048247 n rec_1 n ahead_3 now_3 t_2 t_1_1
                (Int64.ofInt
                  ↑(List.length
                      [now_3 + UInt64.ofInt ↑(UInt8.toNat (ahead_3 % (30 : UInt8))),
                        UInt64.ofInt ↑(UInt8.toNat ahead_3)]))
                (0 : Int64) x__3 m_3 (Prod.fst x_5) (Prod.fst (Prod.snd x_5)) (Prod.snd (Prod.snd x_5)) t_2_1
                [now_3 + UInt64.ofInt ↑(UInt8.toNat (ahead_3 % (30 : UInt8))), UInt64.ofInt ↑(UInt8.toNat ahead_3)]))
      none)
    (some (true, ()))
def F3_R8189 : Nat →
  Nat →
    PT.T (PT.int IntKind.u8) →
      UInt64 →
        Int64 →
          Int64 →
            Option (List (UInt64 × Int64)) →
              List (UInt64 × Int64) → List (UInt8 × Int64 × UInt64) → Option (Bool × Unit) := fun (n : Nat) =>
  ofixA (8189 : Nat)
    [PT.int IntKind.u8, PT.int IntKind.u64, PT.int IntKind.i64, PT.int IntKind.i64,
      PT.opt (OTs.cons (OT.row (CTs.cons (CT.int IntKind.u64) (CTs.cons (CT.int IntKind.i64) CTs.nil))) OTs.nil),
      PT.list (CTs.cons (CT.int IntKind.u64) (CTs.cons (CT.int IntKind.i64) CTs.nil)),
      PT.list (CTs.cons (CT.int IntKind.u8) (CTs.cons (CT.int IntKind.i64) (CTs.cons (CT.int IntKind.u64) CTs.nil)))]
    (F3_L8189 n)
def F3_L4093 : Nat →
  Arr
      [PT.int IntKind.u8, PT.int IntKind.u64,
        PT.list (CTs.cons (CT.int IntKind.u64) (CTs.cons (CT.int IntKind.i64) CTs.nil)), PT.int IntKind.i64,
        PT.int IntKind.i64, PT.int IntKind.u8, PT.int IntKind.i64, PT.int IntKind.u64, PT.int IntKind.u8,
        PT.int IntKind.i16, PT.int IntKind.u8,
        PT.opt (OTs.cons (OT.row (CTs.cons (CT.int IntKind.u64) (CTs.cons (CT.int IntKind.i64) CTs.nil))) OTs.nil),
        PT.list (CTs.cons (CT.int IntKind.u64) (CTs.cons (CT.int IntKind.i64) CTs.nil))]
      (Option (Bool × Unit)) →
    UInt8 →
      UInt64 →
        List (UInt64 × Int64) →
          Int64 →
            Int64 →
              UInt8 →
                Int64 →
                  UInt64 →
                    UInt8 →
                      Int16 → UInt8 → Option (List (UInt64 × Int64)) → List (UInt64 × Int64) → Option (Bool × Unit) := fun (n : Nat)
    (rec :
      Arr
        [PT.int IntKind.u8, PT.int IntKind.u64,
          PT.list (CTs.cons (CT.int IntKind.u64) (CTs.cons (CT.int IntKind.i64) CTs.nil)), PT.int IntKind.i64,
          PT.int IntKind.i64, PT.int IntKind.u8, PT.int IntKind.i64, PT.int IntKind.u64, PT.int IntKind.u8,
          PT.int IntKind.i16, PT.int IntKind.u8,
          PT.opt (OTs.cons (OT.row (CTs.cons (CT.int IntKind.u64) (CTs.cons (CT.int IntKind.i64) CTs.nil))) OTs.nil),
          PT.list (CTs.cons (CT.int IntKind.u64) (CTs.cons (CT.int IntKind.i64) CTs.nil))]
        (Option (Bool × Unit)))
    (ahead_2 : UInt8) (now_2 : UInt64) (got_1 : List (UInt64 × Int64)) (t t_1 : Int64) (c0_2 : UInt8) (c1_2 : Int64)
    (c2_2 : UInt64) (s0_2 : UInt8) (s1_2 : Int16) (s2_2 : UInt8) (x__2 : Option (List (UInt64 × Int64)))
    (m_2 : List (UInt64 × Int64)) =>
  oite (decide (t_1 < t))
    (obind (at? got_1 (Int64.toInt t_1)) fun (x_4 : UInt64 × Int64) =>
      oite (decide ((0 : Int) ≤ Int64.toInt t_1) && Nat.blt (Int.toNat (Int64.toInt t_1)) (List.length m_2))
        (obind m_2[Int.toNat (Int64.toInt t_1)]? fun (x_5 : UInt64 × Int64) =>
          oite (!(decide (Prod.fst x_4 = Prod.fst x_5) && (decide (Prod.snd x_4 = Prod.snd x_5) && true)))
            (some (false, ()))
            (rec ahead_2 now_2 got_1 t (t_1 + (1 : Int64)) c0_2 c1_2 c2_2 s0_2 s1_2 s2_2 x__2 m_2))
        none)
    (obind (F11 n (s0_2, s1_2, s2_2)) fun (x_4 : (UInt8 × Int64 × UInt64) × Unit) =>
      F3_R8189 n n ahead_2 now_2
        (Int64.ofInt
          ↑(List.length
              [(c0_2, c1_2, c2_2),
                (Prod.fst (Prod.fst x_4), Prod.fst (Prod.snd (Prod.fst x_4)), Prod.snd (Prod.snd (Prod.fst x_4)))]))
        (0 : Int64) x__2 m_2
        [(c0_2, c1_2, c2_2),
          (Prod.fst (Prod.fst x_4), Prod.fst (Prod.snd (Prod.fst x_4)), Prod.snd (Prod.snd (Prod.fst x_4)))])
def F3_R4093 : Nat →
  Nat →
    PT.T (PT.int IntKind.u8) →
      UInt64 →
        List (UInt64 × Int64) →
          Int64 →
            Int64 →
              UInt8 →
                Int64 →
                  UInt64 →
                    UInt8 →
                      Int16 → UInt8 → Option (List (UInt64 × Int64)) → List (UInt64 × Int64) → Option (Bool × Unit) := fun (n : Nat) =>
  ofixA (4093 : Nat)
    [PT.int IntKind.u8, PT.int IntKind.u64,
      PT.list (CTs.cons (CT.int IntKind.u64) (CTs.cons (CT.int IntKind.i64) CTs.nil)), PT.int IntKind.i64,
      PT.int IntKind.i64, PT.int IntKind.u8, PT.int IntKind.i64, PT.int IntKind.u64, PT.int IntKind.u8,
      PT.int IntKind.i16, PT.int IntKind.u8,
      PT.opt (OTs.cons (OT.row (CTs.cons (CT.int IntKind.u64) (CTs.cons (CT.int IntKind.i64) CTs.nil))) OTs.nil),
      PT.list (CTs.cons (CT.int IntKind.u64) (CTs.cons (CT.int IntKind.i64) CTs.nil))]
    (F3_L4093 n)
def F3_J511 : Nat →
  UInt8 →
    UInt64 →
      List (UInt64 × Int64) →
        UInt8 →
          Int64 →
            UInt64 →
              UInt8 → Int16 → UInt8 → Option (List (UInt64 × Int64)) → List (UInt64 × Int64) → Option (Bool × Unit) := fun (n : Nat) (ahead_1 : UInt8) (now_1 : UInt64) (got : List (UInt64 × Int64)) (c0_1 : UInt8) (c1_1 : Int64)
    (c2_1 : UInt64) (s0_1 : UInt8) (s1_1 : Int16) (s2_1 : UInt8) (x__1 : Option (List (UInt64 × Int64)))
    (m_1 : List (UInt64 × Int64)) =>
  F3_R4093 n n ahead_1 now_1 got (Int64.ofInt ↑(List.length m_1)) (0 : Int64) c0_1 c1_1 c2_1 s0_1 s1_1 s2_1 x__1 m_1
def F3_J63 : Nat →
  UInt8 →
    UInt64 →
      UInt8 →
        Int64 →
          UInt64 →
            UInt8 → Int16 → UInt8 → Option (List (UInt64 × Int64)) → List (UInt64 × Int64) → Option (Bool × Unit) := fun (n : Nat) (ahead : UInt8) (now : UInt64) (c0 : UInt8) (c1 : Int64) (c2 : UInt64) (s0 : UInt8) (s1 : Int16)
    (s2 : UInt8) (x_ : Option (List (UInt64 × Int64))) (m : List (UInt64 × Int64)) =>
  obind (F9 n x_) fun (x_2 : List (UInt64 × Int64) × Option (List (UInt64 × Int64))) =>
    obind (F10 n (Prod.snd x_2)) fun (x_3 : ((UInt64 × Int64) × Bool) × Option (List (UInt64 × Int64))) =>
      ojoinA (511 : Nat)
        [PT.int IntKind.u8, PT.int IntKind.u64,
          PT.list (CTs.cons (CT.int IntKind.u64) (CTs.cons (CT.int IntKind.i64) CTs.nil)), PT.int IntKind.u8,
          PT.int IntKind.i64, PT.int IntKind.u64, PT.int IntKind.u8, PT.int IntKind.i16, PT.int IntKind.u8,
          PT.opt (OTs.cons (OT.row (CTs.cons (CT.int IntKind.u64) (CTs.cons (CT.int IntKind.i64) CTs.nil))) OTs.nil),
          PT.list (CTs.cons (CT.int IntKind.u64) (CTs.cons (CT.int IntKind.i64) CTs.nil))]
        (fun
            (J :
              Arr
                [PT.int IntKind.u8, PT.int IntKind.u64,
                  PT.list (CTs.cons (CT.int IntKind.u64) (CTs.cons (CT.int IntKind.i64) CTs.nil)), PT.int IntKind.u8,
                  PT.int IntKind.i64, PT.int IntKind.u64, PT.int IntKind.u8, PT.int IntKind.i16, PT.int IntKind.u8,
                  PT.opt
                    (OTs.cons (OT.row (CTs.cons (CT.int IntKind.u64) (CTs.cons (CT.int IntKind.i64) CTs.nil))) OTs.nil),
                  PT.list (CTs.cons (CT.int IntKind.u64) (CTs.cons (CT.int IntKind.i64) CTs.nil))]
                (Option (Bool × Unit))) =>
          oite (!decide (Int64.ofInt ↑(List.length (Prod.fst x_2)) = Int64.ofInt ↑(List.length m)))
            (some (false, ()))
            (oite (!Prod.snd (Prod.fst x_3) == decide ((0 : Int64) < Int64.ofInt ↑(List.length m)))
              (some (false, ()))
              (oite (Prod.snd (Prod.fst x_3))
                (oite
                  (decide ((0 : Int) ≤ Int64.toInt (Int64.ofInt ↑(List.length m) - (1 : Int64))) &&
                    Nat.blt (Int.toNat (Int64.toInt (Int64.ofInt ↑(List.length m) - (1 : Int64)))) (List.length m))
                  (obind m[Int.toNat (Int64.toInt (Int64.ofInt ↑(List.length m) - (1 : Int64)))]?
                    fun (x_4 : UInt64 × Int64) =>
                    oite
                      (!(decide (Prod.fst (Prod.fst (Prod.fst x_3)) = Prod.fst x_4) &&
                          (decide (Prod.snd (Prod.fst (Prod.fst x_3)) = Prod.snd x_4) && true)))
                      (some (false, ())) (J ahead now (Prod.fst x_2) c0 c1 c2 s0 s1 s2 (Prod.snd x_3) m))
                  none)
                (J ahead now (Prod.fst x_2) c0 c1 c2 s0 s1 s2 (Prod.snd x_3) m))))
        (F3_J511 n)
def F3_L253 : Nat →
  Arr
      [PT.int IntKind.u8, PT.int IntKind.u64, PT.int IntKind.u8, PT.int IntKind.i64, PT.int IntKind.u64,
        PT.int IntKind.u8, PT.int IntKind.i16, PT.int IntKind.u8,
        PT.opt (OTs.cons (OT.row (CTs.cons (CT.int IntKind.u64) (CTs.cons (CT.int IntKind.i64) CTs.nil))) OTs.nil),
        PT.list (CTs.cons (CT.int IntKind.u64) (CTs.cons (CT.int IntKind.i64) CTs.nil))]
      (Option (Bool × Unit)) →
    Arr
        [PT.int IntKind.u8, PT.int IntKind.u64,
          PT.list (CTs.cons (CT.int IntKind.u8) (CTs.cons (CT.int IntKind.i64) CTs.nil)), PT.int IntKind.i64,
          PT.int IntKind.i64, PT.int IntKind.u8, PT.int IntKind.i64, PT.int IntKind.u64, PT.int IntKind.u8,
          PT.int IntKind.i16, PT.int IntKind.u8,
          PT.opt (OTs.cons (OT.row (CTs.cons (CT.int IntKind.u64) (CTs.cons (CT.int IntKind.i64) CTs.nil))) OTs.nil),
          PT.list (CTs.cons (CT.int IntKind.u64) (CTs.cons (CT.int IntKind.i64) CTs.nil))]
        (Option (Bool × Unit)) →
      UInt8 →
        UInt64 →
          List (UInt8 × Int64) →
            Int64 →
              Int64 →
                UInt8 →
                  Int64 →
                    UInt64 →
                      UInt8 →
                        Int16 → UInt8 → Option (List (UInt64 × Int64)) → List (UInt64 × Int64) → Option (Bool × Unit) := fun (n : Nat)
    (J :
      Arr
        [PT.int IntKind.u8, PT.int IntKind.u64, PT.int IntKind.u8, PT.int IntKind.i64, PT.int IntKind.u64,
          PT.int IntKind.u8, PT.int IntKind.i16, PT.int IntKind.u8,
          PT.opt (OTs.cons (OT.row (CTs.cons (CT.int IntKind.u64) (CTs.cons (CT.int IntKind.i64) CTs.nil))) OTs.nil),
          PT.list (CTs.cons (CT.int IntKind.u64) (CTs.cons (CT.int IntKind.i64) CTs.nil))]
        (Option (Bool × Unit)))
    (rec :
      Arr
        [PT.int IntKind.u8, PT.int IntKind.u64,
          PT.list (CTs.cons (CT.int IntKind.u8) (CTs.cons (CT.int IntKind.i64) CTs.nil)), PT.int IntKind.i64,
          PT.int IntKind.i64, PT.int IntKind.u8, PT.int IntKind.i64, PT.int IntKind.u64, PT.int IntKind.u8,
          PT.int IntKind.i16, PT.int IntKind.u8,
          PT.opt (OTs.cons (OT.row (CTs.cons (CT.int IntKind.u64) (CTs.cons (CT.int IntKind.i64) CTs.nil))) OTs.nil),
          PT.list (CTs.cons (CT.int IntKind.u64) (CTs.cons (CT.int IntKind.i64) CTs.nil))]
        (Option (Bool × Unit)))
    (ahead : UInt8) (now : UInt64) (t : List (UInt8 × Int64)) (t_1 t_2 : Int64) (c0 : UInt8) (c1 : Int64) (c2 : UInt64)
    (s0 : UInt8) (s1 : Int16) (s2 : UInt8) (x_ : Option (List (UInt64 × Int64))) (m : List (UInt64 × Int64)) =>
  oite (decide (t_2 < t_1))
    (obind (at? t (Int64.toInt t_2)) fun (x_2 : UInt8 × Int64) =>
      oite (decide ((60 : Int64) < t_2)) (J ahead now c0 c1 c2 s0 s1 s2 x_ m)
        (obind (F8 n (x_, now + UInt64.ofInt ↑(UInt8.toNat (Prod.fst x_2 % (8 : UInt8))), Prod.snd x_2))
          fun (x_3 : Int64 × Option (List (UInt64 × Int64))) =>
          oite (!decide (Prod.fst x_3 = (0 : Int64))) (some (false, ()))
            (oite
              (Nat.ble
                (List.length m +
                  List.length [(now + UInt64.ofInt ↑(UInt8.toNat (Prod.fst x_2 % (8 : UInt8))), Prod.snd x_2)])
                (4294967296 : Nat))
              (oite
                (decide
                  ((32 : Int64) <
                    Int64.ofInt
                      ↑(List.length
                          (m ++ [(now + UInt64.ofInt ↑(UInt8.toNat (Prod.fst x_2 % (8 : UInt8))), Prod.snd x_2)]))))
                (oite
                  (Nat.ble (Int.toNat (Int64.toInt (1 : Int64)))
                    (List.length
                      (m ++ [(now + UInt64.ofInt ↑(UInt8.toNat (Prod.fst x_2 % (8 : UInt8))), Prod.snd x_2)])))
                  (rec ahead (now + UInt64.ofInt ↑(UInt8.toNat (Prod.fst x_2 % (8 : UInt8)))) t t_1 (t_2 + (1 : Int64))
                    c0 c1 c2 s0 s1 s2 (Prod.snd x_3)
                    (List.take
                      (List.length
                          (m ++ [(now + UInt64.ofInt ↑(UInt8.toNat (Prod.fst x_2 % (8 : UInt8))), Prod.snd x_2)]) -
                        Int.toNat (Int64.toInt (1 : Int64)))
                      (List.drop (Int.toNat (Int64.toInt (1 : Int64)))
                        (m ++ [(now + UInt64.ofInt ↑(UInt8.toNat (Prod.fst x_2 % (8 : UInt8))), Prod.snd x_2)]))))
                  none)
                (rec ahead (now + UInt64.ofInt ↑(UInt8.toNat (Prod.fst x_2 % (8 : UInt8)))) t t_1 (t_2 + (1 : Int64)) c0
                  c1 c2 s0 s1 s2 (Prod.snd x_3)
                  (m ++ [(now + UInt64.ofInt ↑(UInt8.toNat (Prod.fst x_2 % (8 : UInt8))), Prod.snd x_2)])))
              none)))
    (J ahead now c0 c1 c2 s0 s1 s2 x_ m)
def F3_R253 : Nat →
  Arr
      [PT.int IntKind.u8, PT.int IntKind.u64, PT.int IntKind.u8, PT.int IntKind.i64, PT.int IntKind.u64,
        PT.int IntKind.u8, PT.int IntKind.i16, PT.int IntKind.u8,
        PT.opt (OTs.cons (OT.row (CTs.cons (CT.int IntKind.u64) (CTs.cons (CT.int IntKind.i64) CTs.nil))) OTs.nil),
        PT.list (CTs.cons (CT.int IntKind.u64) (CTs.cons (CT.int IntKind.i64) CTs.nil))]
      (Option (Bool × Unit)) →
    Nat →
      PT.T (PT.int IntKind.u8) →
        UInt64 →
          List (UInt8 × Int64) →
            Int64 →
              Int64 →
                UInt8 →
                  Int64 →
                    UInt64 →
                      UInt8 →
                        Int16 → UInt8 → Option (List (UInt64 × Int64)) → List (UInt64 × Int64) → Option (Bool × Unit) := fun (n : Nat)
    (J :
      Arr
        [PT.int IntKind.u8, PT.int IntKind.u64, PT.int IntKind.u8, PT.int IntKind.i64, PT.int IntKind.u64,
          PT.int IntKind.u8, PT.int IntKind.i16, PT.int IntKind.u8,
          PT.opt (OTs.cons (OT.row (CTs.cons (CT.int IntKind.u64) (CTs.cons (CT.int IntKind.i64) CTs.nil))) OTs.nil),
          PT.list (CTs.cons (CT.int IntKind.u64) (CTs.cons (CT.int IntKind.i64) CTs.nil))]
        (Option (Bool × Unit))) =>
  ofixA (253 : Nat)
    [PT.int IntKind.u8, PT.int IntKind.u64,
      PT.list (CTs.cons (CT.int IntKind.u8) (CTs.cons (CT.int IntKind.i64) CTs.nil)), PT.int IntKind.i64,
      PT.int IntKind.i64, PT.int IntKind.u8, PT.int IntKind.i64, PT.int IntKind.u64, PT.int IntKind.u8,
      PT.int IntKind.i16, PT.int IntKind.u8,
      PT.opt (OTs.cons (OT.row (CTs.cons (CT.int IntKind.u64) (CTs.cons (CT.int IntKind.i64) CTs.nil))) OTs.nil),
      PT.list (CTs.cons (CT.int IntKind.u64) (CTs.cons (CT.int IntKind.i64) CTs.nil))]
    (F3_L253 n J)
def F3 : Nat → List (UInt8 × Int64) × (UInt8 × Int64 × UInt64) × (UInt8 × Int16 × UInt8) × UInt8 → Option (Bool × Unit) := fun (n : Nat) (x : List (UInt8 × Int64) × (UInt8 × Int64 × UInt64) × (UInt8 × Int16 × UInt8) × UInt8) =>
  obind (F7 n ()) fun (x_1 : Bool × Unit) =>
    oite (!Prod.fst x_1) (some (false, ()))
      (ojoinA (63 : Nat)
        [PT.int IntKind.u8, PT.int IntKind.u64, PT.int IntKind.u8, PT.int IntKind.i64, PT.int IntKind.u64,
          PT.int IntKind.u8, PT.int IntKind.i16, PT.int IntKind.u8,
          PT.opt (OTs.cons (OT.row (CTs.cons (CT.int IntKind.u64) (CTs.cons (CT.int IntKind.i64) CTs.nil))) OTs.nil),
          PT.list (CTs.cons (CT.int IntKind.u64) (CTs.cons (CT.int IntKind.i64) CTs.nil))]
        (fun
            (J :
              Arr
                [PT.int IntKind.u8, PT.int IntKind.u64, PT.int IntKind.u8, PT.int IntKind.i64, PT.int IntKind.u64,
                  PT.int IntKind.u8, PT.int IntKind.i16, PT.int IntKind.u8,
                  PT.opt
                    (OTs.cons (OT.row (CTs.cons (CT.int IntKind.u64) (CTs.cons (CT.int IntKind.i64) CTs.nil))) OTs.nil),
                  PT.list (CTs.cons (CT.int IntKind.u64) (CTs.cons (CT.int IntKind.i64) CTs.nil))]
                (Option (Bool × Unit))) =>
          F3_R253 n J n (Prod.snd (Prod.snd (Prod.snd x))) (0 : UInt64) (Prod.fst x)
            (Int64.ofInt ↑(List.length (Prod.fst x))) (0 : Int64) (Prod.fst (Prod.fst (Prod.snd x)))
            (Prod.fst (Prod.snd (Prod.fst (Prod.snd x)))) (Prod.snd (Prod.snd (Prod.fst (Prod.snd x))))
            (Prod.fst (Prod.fst (Prod.snd (Prod.snd x)))) (Prod.fst (Prod.snd (Prod.fst (Prod.snd (Prod.snd x)))))
            (Prod.snd (Prod.snd (Prod.fst (Prod.snd (Prod.snd x))))) (some []) [])
        (F3_J63 n))
theorem F3_R1048247_s (n : Nat) (rec_1 : Arr [PT.int IntKind.u8, PT.int IntKind.u64, PT.int IntKind.i64, PT.int IntKind.i64, PT.opt (OTs.cons (OT.row (CTs.cons (CT.int IntKind.u64) (CTs.cons (CT.int IntKind.i64) CTs.nil))) OTs.nil), PT.list (CTs.cons (CT.int IntKind.u64) (CTs.cons (CT.int IntKind.i64) CTs.nil)), PT.list (CTs.cons (CT.int IntKind.u8) (CTs.cons (CT.int IntKind.i64) (CTs.cons (CT.int IntKind.u64) CTs.nil)))] (Option (Bool × Unit))) (m_ : Nat) : F3_R1048247 n rec_1 (m_ + 1) = F3_L1048247 n rec_1 (F3_R1048247 n rec_1 m_) := rfl
theorem F3_R8189_s (n : Nat) (m_ : Nat) : F3_R8189 n (m_ + 1) = F3_L8189 n (F3_R8189 n m_) := rfl
theorem F3_R4093_s (n : Nat) (m_ : Nat) : F3_R4093 n (m_ + 1) = F3_L4093 n (F3_R4093 n m_) := rfl
theorem F3_R253_s (n : Nat) (J : Arr [PT.int IntKind.u8, PT.int IntKind.u64, PT.int IntKind.u8, PT.int IntKind.i64, PT.int IntKind.u64, PT.int IntKind.u8, PT.int IntKind.i16, PT.int IntKind.u8, PT.opt (OTs.cons (OT.row (CTs.cons (CT.int IntKind.u64) (CTs.cons (CT.int IntKind.i64) CTs.nil))) OTs.nil), PT.list (CTs.cons (CT.int IntKind.u64) (CTs.cons (CT.int IntKind.i64) CTs.nil))] (Option (Bool × Unit))) (m_ : Nat) : F3_R253 n J (m_ + 1) = F3_L253 n J (F3_R253 n J m_) := rfl
theorem ok3 (n : Nat) : FunOK Try.prog ⟨3, sig3, F3 n⟩ :=
  fun_ok (hints := ⟨[(63, ⟨[(3, .one (.int .u8)), (5, .one (.own 4)), (6, .one (.own 5)), (9, .one (.own 6)), (10, .one (.own 7)), (11, .one (.int .u64))], [(4, .cells [.int .u8, .int .i64, .int .u64]), (5, .cells [.int .u8, .int .i16, .int .u8]), (6, .fold (.cons (.row (.cons (.int .u64) (.cons (.int .i64) .nil))) .nil)), (7, .row (.cons (.int .u64) (.cons (.int .i64) .nil)))], 8⟩), (511, ⟨[(3, .one (.int .u8)), (5, .one (.own 4)), (6, .one (.own 5)), (9, .one (.own 6)), (10, .one (.own 7)), (11, .one (.int .u64)), (14, .one (.ro (.cons (.int .u64) (.cons (.int .i64) .nil))))], [(4, .cells [.int .u8, .int .i64, .int .u64]), (5, .cells [.int .u8, .int .i16, .int .u8]), (6, .fold (.cons (.row (.cons (.int .u64) (.cons (.int .i64) .nil))) .nil)), (7, .row (.cons (.int .u64) (.cons (.int .i64) .nil)))], 8⟩)], [(253, ⟨[(3, .one (.int .u8)), (5, .one (.own 4)), (6, .one (.own 5)), (9, .one (.own 6)), (10, .one (.own 7)), (11, .one (.int .u64)), (28, .one (.ro (.cons (.int .u8) (.cons (.int .i64) .nil)))), (29, .one (.int .i64)), (30, .one (.int .i64))], [(4, .cells [.int .u8, .int .i64, .int .u64]), (5, .cells [.int .u8, .int .i16, .int .u8]), (6, .fold (.cons (.row (.cons (.int .u64) (.cons (.int .i64) .nil))) .nil)), (7, .row (.cons (.int .u64) (.cons (.int .i64) .nil)))], 8⟩), (4093, ⟨[(3, .one (.int .u8)), (5, .one (.own 4)), (6, .one (.own 5)), (9, .one (.own 6)), (10, .one (.own 7)), (11, .one (.int .u64)), (14, .one (.ro (.cons (.int .u64) (.cons (.int .i64) .nil)))), (92, .one (.int .i64)), (93, .one (.int .i64))], [(4, .cells [.int .u8, .int .i64, .int .u64]), (5, .cells [.int .u8, .int .i16, .int .u8]), (6, .fold (.cons (.row (.cons (.int .u64) (.cons (.int .i64) .nil))) .nil)), (7, .row (.cons (.int .u64) (.cons (.int .i64) .nil)))], 8⟩), (8189, ⟨[(3, .one (.int .u8)), (9, .one (.own 4)), (10, .one (.own 5)), (11, .one (.int .u64)), (109, .one (.own 6)), (110, .one (.int .i64)), (111, .one (.int .i64))], [(4, .fold (.cons (.row (.cons (.int .u64) (.cons (.int .i64) .nil))) .nil)), (5, .sealed (.cons (.int .u64) (.cons (.int .i64) .nil))), (6, .row (.cons (.int .u8) (.cons (.int .i64) (.cons (.int .u64) .nil))))], 7⟩), (1048247, ⟨[(3, .one (.int .u8)), (9, .one (.own 4)), (10, .one (.own 5)), (11, .one (.int .u64)), (19, .one (.own 6)), (109, .one (.own 7)), (110, .one (.int .i64)), (111, .one (.int .i64)), (126, .one (.own 8)), (127, .one (.int .i64)), (128, .one (.int .i64))], [(4, .fold (.cons (.row (.cons (.int .u64) (.cons (.int .i64) .nil))) .nil)), (5, .sealed (.cons (.int .u64) (.cons (.int .i64) .nil))), (6, .cells [.int .u8, .int .i64, .int .u64]), (7, .row (.cons (.int .u8) (.cons (.int .i64) (.cons (.int .u64) .nil)))), (8, .row (.cons (.int .u64) .nil))], 9⟩)]⟩) (fuel := n) (c := Try.f3.body.getD .skip) (rs := Try.f3.results.toList) tt_ok mix (FsOK.cons (ok7 n) (FsOK.cons (ok8 n) (FsOK.cons (ok9 n) (FsOK.cons (ok10 n) (FsOK.cons (ok11 n) (FsOK.cons (ok12 n) (FsOK.cons (ok13 n) (FsOK.cons (ok14 n) (FsOK.cons (ok15 n) (FsOK.nil)))))))))) Try.func3 (by kernel_rfl) (by kernel_rfl) rfl (by kernel_rfl) rfl rfl (by kernel_rfl)
-- watchfire/watchfirelaw13.CondOrder
def sig4 : Sig := ⟨(.cons (.one (.c (.ro (.cons (.int .u64) .nil)))) (.cons (.one (.c (.int .i64))) .nil)), (.cons (.one (.c .bool)) .nil)⟩
def F4_J32439 : Nat →
  Arr
      [PT.int IntKind.i64, PT.int IntKind.u64, PT.int IntKind.i64, PT.list (CTs.cons (CT.int IntKind.u64) CTs.nil),
        PT.int IntKind.i64, PT.int IntKind.i64,
        PT.opt (OTs.cons (OT.row (CTs.cons (CT.int IntKind.u64) (CTs.cons (CT.int IntKind.i64) CTs.nil))) OTs.nil)]
      (Option (Bool × Unit)) →
    Int64 →
      UInt64 →
        Int64 → Int64 → Int64 → List UInt64 → Int64 → Int64 → Option (List (UInt64 × Int64)) → Option (Bool × Unit) := fun (n : Nat)
    (rec :
      Arr
        [PT.int IntKind.i64, PT.int IntKind.u64, PT.int IntKind.i64, PT.list (CTs.cons (CT.int IntKind.u64) CTs.nil),
          PT.int IntKind.i64, PT.int IntKind.i64,
          PT.opt (OTs.cons (OT.row (CTs.cons (CT.int IntKind.u64) (CTs.cons (CT.int IntKind.i64) CTs.nil))) OTs.nil)]
        (Option (Bool × Unit)))
    (v_1 : Int64) (last_1 : UInt64) (n__1 e want : Int64) (t_3 : List UInt64) (t_1_1 t_2_1 : Int64)
    (s_1 : Option (List (UInt64 × Int64))) =>
  oite (!decide (e = want)) (some (false, ()))
    (obind (F9 n s_1) fun (x_4 : List (UInt64 × Int64) × Option (List (UInt64 × Int64))) =>
      oite (!decide (Int64.ofInt ↑(List.length (Prod.fst x_4)) = IK.minI IntKind.i64 n__1 (32 : Int64)))
        (some (false, ())) (rec v_1 last_1 n__1 t_3 t_1_1 (t_2_1 + (1 : Int64)) (Prod.snd x_4)))
def F4_L253 : Nat →
  Arr
      [PT.int IntKind.i64, PT.int IntKind.u64, PT.int IntKind.i64, PT.list (CTs.cons (CT.int IntKind.u64) CTs.nil),
        PT.int IntKind.i64, PT.int IntKind.i64,
        PT.opt (OTs.cons (OT.row (CTs.cons (CT.int IntKind.u64) (CTs.cons (CT.int IntKind.i64) CTs.nil))) OTs.nil)]
      (Option (Bool × Unit)) →
    Int64 → UInt64 → Int64 → List UInt64 → Int64 → Int64 → Option (List (UInt64 × Int64)) → Option (Bool × Unit) := fun (n : Nat)
    (rec :
      Arr
        [PT.int IntKind.i64, PT.int IntKind.u64, PT.int IntKind.i64, PT.list (CTs.cons (CT.int IntKind.u64) CTs.nil),
          PT.int IntKind.i64, PT.int IntKind.i64,
          PT.opt (OTs.cons (OT.row (CTs.cons (CT.int IntKind.u64) (CTs.cons (CT.int IntKind.i64) CTs.nil))) OTs.nil)]
        (Option (Bool × Unit)))
    (v : Int64) (last : UInt64) (n_ : Int64) (t : List UInt64) (t_1 t_2 : Int64) (s : Option (List (UInt64 × Int64))) =>
  oite (decide (t_2 < t_1))
    (obind (at? t (Int64.toInt t_2)) fun (x_2 : UInt64) =>
      obind (F8 n (s, x_2, v)) fun (x_3 : Int64 × Option (List (UInt64 × Int64))) =>
        ojoinA (32439 : Nat)
          [PT.int IntKind.i64, PT.int IntKind.u64, PT.int IntKind.i64, PT.int IntKind.i64, PT.int IntKind.i64,
            PT.list (CTs.cons (CT.int IntKind.u64) CTs.nil), PT.int IntKind.i64, PT.int IntKind.i64,
            PT.opt (OTs.cons (OT.row (CTs.cons (CT.int IntKind.u64) (CTs.cons (CT.int IntKind.i64) CTs.nil))) OTs.nil)]
          (fun
              (J :
                Arr
                  [PT.int IntKind.i64, PT.int IntKind.u64, PT.int IntKind.i64, PT.int IntKind.i64, PT.int IntKind.i64,
                    PT.list (CTs.cons (CT.int IntKind.u64) CTs.nil), PT.int IntKind.i64, PT.int IntKind.i64,
                    PT.opt
                      (OTs.cons (OT.row (CTs.cons (CT.int IntKind.u64) (CTs.cons (CT.int IntKind.i64) CTs.nil)))
                        OTs.nil)]
                  (Option (Bool × Unit))) =>
            oite (decide ((1099511627776 : UInt64) < x_2))
              (J v last n_ (Prod.fst x_3) (6 : Int64) t t_1 t_2 (Prod.snd x_3))
              (oite (decide ((0 : Int64) < n_))
                (oite (decide (x_2 < last)) (J v last n_ (Prod.fst x_3) (9 : Int64) t t_1 t_2 (Prod.snd x_3))
                  (J v x_2 (n_ + (1 : Int64)) (Prod.fst x_3) (0 : Int64) t t_1 t_2 (Prod.snd x_3)))
                (J v x_2 (n_ + (1 : Int64)) (Prod.fst x_3) (0 : Int64) t t_1 t_2 (Prod.snd x_3))))
          (F4_J32439 n rec))
    (obind (F10 n s) fun (x_2 : ((UInt64 × Int64) × Bool) × Option (List (UInt64 × Int64))) =>
      oite (Prod.snd (Prod.fst x_2) == decide ((0 : Int64) < n_))
        (oite (decide (n_ = (0 : Int64))) (some (true, ()))
          (some
            (decide (Prod.fst (Prod.fst (Prod.fst x_2)) = last) &&
                (decide (Prod.snd (Prod.fst (Prod.fst x_2)) = v) && true),
              ())))
        (some (false, ())))
def F4_R253 : Nat →
  Nat →
    PT.T (PT.int IntKind.i64) →
      UInt64 → Int64 → List UInt64 → Int64 → Int64 → Option (List (UInt64 × Int64)) → Option (Bool × Unit) := fun (n : Nat) =>
  ofixA (253 : Nat)
    [PT.int IntKind.i64, PT.int IntKind.u64, PT.int IntKind.i64, PT.list (CTs.cons (CT.int IntKind.u64) CTs.nil),
      PT.int IntKind.i64, PT.int IntKind.i64,
      PT.opt (OTs.cons (OT.row (CTs.cons (CT.int IntKind.u64) (CTs.cons (CT.int IntKind.i64) CTs.nil))) OTs.nil)]
    (F4_L253 n)
def F4 : Nat → List UInt64 × Int64 → Option (Bool × Unit) := fun (n : Nat) (x : List UInt64 × Int64) =>
  obind (F7 n ()) fun (x_1 : Bool × Unit) =>
    oite (!Prod.fst x_1) (some (false, ()))
      (oite (decide ((60 : Int64) < Int64.ofInt ↑(List.length (Prod.fst x)))) (some (true, ()))
        (F4_R253 n n (Prod.snd x) (0 : UInt64) (0 : Int64) (Prod.fst x) (Int64.ofInt ↑(List.length (Prod.fst x)))
          (0 : Int64) (some [])))
theorem F4_R253_s (n : Nat) (m_ : Nat) : F4_R253 n (m_ + 1) = F4_L253 n (F4_R253 n m_) := rfl
theorem ok4 (n : Nat) : FunOK Try.prog ⟨4, sig4, F4 n⟩ :=
  fun_ok (hints := ⟨[(32439, ⟨[(1, .one (.int .i64)), (5, .one (.own 2)), (6, .one (.int .u64)), (7, .one (.int .i64)), (10, .one (.int .i64)), (11, .one (.int .i64)), (19, .one (.ro (.cons (.int .u64) .nil))), (20, .one (.int .i64)), (21, .one (.int .i64))], [(2, .fold (.cons (.row (.cons (.int .u64) (.cons (.int .i64) .nil))) .nil))], 3⟩)], [(253, ⟨[(1, .one (.int .i64)), (5, .one (.own 2)), (6, .one (.int .u64)), (7, .one (.int .i64)), (19, .one (.ro (.cons (.int .u64) .nil))), (20, .one (.int .i64)), (21, .one (.int .i64))], [(2, .fold (.cons (.row (.cons (.int .u64) (.cons (.int .i64) .nil))) .nil))], 3⟩)]⟩) (fuel := n) (c := Try.f4.body.getD .skip) (rs := Try.f4.results.toList) tt_ok mix (FsOK.cons (ok7 n) (FsOK.cons (ok8 n) (FsOK.cons (ok9 n) (FsOK.cons (ok10 n) (FsOK.nil))))) Try.func4 (by kernel_rfl) (by kernel_rfl) rfl (by kernel_rfl) rfl rfl (by kernel_rfl)
-- watchfire/cond.Number
def sig16 : Sig := ⟨(.cons (.one (.c .str)) (.cons (.one (.c (.int .u64))) .nil)), (.cons (.one (.c (.int .u64))) (.cons (.one (.c .bool)) .nil))⟩
def F16_L61 : Arr [PT.bytes, PT.int IntKind.u64, PT.int IntKind.u64, PT.int IntKind.i64, PT.int IntKind.i64]
    (Option ((UInt64 × Bool) × Unit)) →
  List UInt8 → UInt64 → UInt64 → Int64 → Int64 → Option ((UInt64 × Bool) × Unit) := fun
    (rec :
      Arr [PT.bytes, PT.int IntKind.u64, PT.int IntKind.u64, PT.int IntKind.i64, PT.int IntKind.i64]
        (Option ((UInt64 × Bool) × Unit)))
    (s_1 : List UInt8) (most_1 n_ : UInt64) (t t_1 : Int64) =>
  oite (decide (t_1 < t))
    (obind (at? s_1 (Int64.toInt t_1)) fun (x_1 : UInt8) =>
      oite (decide (x_1 < (48 : UInt8))) (some (((0 : UInt64), false), ()))
        (obind (at? s_1 (Int64.toInt t_1)) fun (x_2 : UInt8) =>
          oite (decide ((57 : UInt8) < x_2)) (some (((0 : UInt64), false), ()))
            (obind (at? s_1 (Int64.toInt t_1)) fun (x_3 : UInt8) =>
              rec s_1 most_1 (n_ * (10 : UInt64) + UInt64.ofInt ↑(UInt8.toNat (x_3 - (48 : UInt8)))) t
                (t_1 + (1 : Int64)))))
    (some ((n_, decide (n_ ≤ most_1)), ()))
def F16_R61 : Nat → PT.T PT.bytes → UInt64 → UInt64 → Int64 → Int64 → Option ((UInt64 × Bool) × Unit) := ofixA (61 : Nat) [PT.bytes, PT.int IntKind.u64, PT.int IntKind.u64, PT.int IntKind.i64, PT.int IntKind.i64] F16_L61
def F16_J3 : Nat → List UInt8 → UInt64 → Option ((UInt64 × Bool) × Unit) := fun (n : Nat) (s : List UInt8) (most : UInt64) =>
  F16_R61 n s most (0 : UInt64) (Int64.ofInt ↑(List.length s)) (0 : Int64)
def F16 : Nat → List UInt8 × UInt64 → Option ((UInt64 × Bool) × Unit) := fun (n : Nat) (x : List UInt8 × UInt64) =>
  ojoinA (3 : Nat) [PT.bytes, PT.int IntKind.u64]
    (fun (J : Arr [PT.bytes, PT.int IntKind.u64] (Option ((UInt64 × Bool) × Unit))) =>
      oite (decide (Int64.ofInt ↑(List.length (Prod.fst x)) < (1 : Int64))) (some (((0 : UInt64), false), ()))
        (oite (decide ((19 : Int64) < Int64.ofInt ↑(List.length (Prod.fst x))))
          (some (((0 : UInt64), false), ()))
          (oite (decide ((1 : Int64) < Int64.ofInt ↑(List.length (Prod.fst x))))
            (obind (at? (Prod.fst x) (Int64.toInt (0 : Int64))) fun (x_1 : UInt8) =>
              oite (decide (x_1 = (48 : UInt8))) (some (((0 : UInt64), false), ()))
                (J (Prod.fst x) (Prod.snd x)))
            (J (Prod.fst x) (Prod.snd x)))))
    (F16_J3 n)
theorem F16_R61_s  (m_ : Nat) : F16_R61  (m_ + 1) = F16_L61  (F16_R61  m_) := rfl
theorem ok16 (n : Nat) : FunOK Try.prog ⟨16, sig16, F16 n⟩ :=
  fun_ok (hints := ⟨[(3, ⟨[(0, .one (.str)), (1, .one (.int .u64))], [], 2⟩)], [(61, ⟨[(0, .one (.str)), (1, .one (.int .u64)), (6, .one (.int .u64)), (27, .one (.int .i64)), (28, .one (.int .i64))], [], 2⟩)]⟩) (fuel := n) (c := Try.f16.body.getD .skip) (rs := Try.f16.results.toList) tt_ok mix (FsOK.nil) Try.func16 (by kernel_rfl) (by kernel_rfl) rfl (by kernel_rfl) rfl rfl (by kernel_rfl)
-- watchfire/watchfireref13.Number
def sig17 : Sig := ⟨(.cons (.one (.c .str)) (.cons (.one (.c (.int .u64))) .nil)), (.cons (.one (.c (.int .u64))) (.cons (.one (.c .bool)) .nil))⟩
def F17_L61 : Arr [PT.bytes, PT.int IntKind.u64, PT.int IntKind.u64, PT.int IntKind.i64] (Option ((UInt64 × Bool) × Unit)) →
  List UInt8 → UInt64 → UInt64 → Int64 → Option ((UInt64 × Bool) × Unit) := fun
    (rec :
      Arr [PT.bytes, PT.int IntKind.u64, PT.int IntKind.u64, PT.int IntKind.i64] (Option ((UInt64 × Bool) × Unit)))
    (s_1 : List UInt8) (most_1 n_ : UInt64) (i : Int64) =>
  oite (decide (i < Int64.ofInt ↑(List.length s_1)))
    (obind (at? s_1 (Int64.toInt i)) fun (x_1 : UInt8) =>
      oite (decide (x_1 < (48 : UInt8))) (some (((0 : UInt64), false), ()))
        (obind (at? s_1 (Int64.toInt i)) fun (x_2 : UInt8) =>
          oite (decide ((57 : UInt8) < x_2)) (some (((0 : UInt64), false), ()))
            (obind (at? s_1 (Int64.toInt i)) fun (x_3 : UInt8) =>
              rec s_1 most_1 (n_ * (10 : UInt64) + UInt64.ofInt ↑(UInt8.toNat x_3) - (48 : UInt64)) (i + (1 : Int64)))))
    (some ((n_, decide (n_ ≤ most_1)), ()))
def F17_R61 : Nat → PT.T PT.bytes → UInt64 → UInt64 → Int64 → Option ((UInt64 × Bool) × Unit) := ofixA (61 : Nat) [PT.bytes, PT.int IntKind.u64, PT.int IntKind.u64, PT.int IntKind.i64] F17_L61
def F17_J3 : Nat → List UInt8 → UInt64 → Option ((UInt64 × Bool) × Unit) := fun (n : Nat) (s : List UInt8) (most : UInt64) => F17_R61 n s most (0 : UInt64) (0 : Int64)
def F17 : Nat → List UInt8 × UInt64 → Option ((UInt64 × Bool) × Unit) := fun (n : Nat) (x : List UInt8 × UInt64) =>
  ojoinA (3 : Nat) [PT.bytes, PT.int IntKind.u64]
    (fun (J : Arr [PT.bytes, PT.int IntKind.u64] (Option ((UInt64 × Bool) × Unit))) =>
      oite (decide (Int64.ofInt ↑(List.length (Prod.fst x)) = (0 : Int64))) (some (((0 : UInt64), false), ()))
        (oite (decide ((19 : Int64) < Int64.ofInt ↑(List.length (Prod.fst x))))
          (some (((0 : UInt64), false), ()))
          (oite (decide ((1 : Int64) < Int64.ofInt ↑(List.length (Prod.fst x))))
            (obind (at? (Prod.fst x) (Int64.toInt (0 : Int64))) fun (x_1 : UInt8) =>
              oite (decide (x_1 = (48 : UInt8))) (some (((0 : UInt64), false), ()))
                (J (Prod.fst x) (Prod.snd x)))
            (J (Prod.fst x) (Prod.snd x)))))
    (F17_J3 n)
theorem F17_R61_s  (m_ : Nat) : F17_R61  (m_ + 1) = F17_L61  (F17_R61  m_) := rfl
theorem ok17 (n : Nat) : FunOK Try.prog ⟨17, sig17, F17 n⟩ :=
  fun_ok (hints := ⟨[(3, ⟨[(0, .one (.str)), (1, .one (.int .u64))], [], 2⟩)], [(61, ⟨[(0, .one (.str)), (1, .one (.int .u64)), (6, .one (.int .u64)), (7, .one (.int .i64))], [], 2⟩)]⟩) (fuel := n) (c := Try.f17.body.getD .skip) (rs := Try.f17.results.toList) tt_ok mix (FsOK.nil) Try.func17 (by kernel_rfl) (by kernel_rfl) rfl (by kernel_rfl) rfl rfl (by kernel_rfl)
-- internal/stringslite.HasPrefix
def sig33 : Sig := ⟨(.cons (.one (.c .str)) (.cons (.one (.c .str)) .nil)), (.cons (.one (.c .bool)) .nil)⟩
def F33 : Nat → List UInt8 × List UInt8 → Option (Bool × Unit) := fun (n : Nat) (x : List UInt8 × List UInt8) =>
  oite (decide (Int64.ofInt ↑(List.length (Prod.snd x)) ≤ Int64.ofInt ↑(List.length (Prod.fst x))))
    (oite
      (decide ((0 : Int) ≤ Int64.toInt (Int64.ofInt ↑(List.length (Prod.snd x)))) &&
          Nat.ble (Int.toNat (Int64.toInt (Int64.ofInt ↑(List.length (Prod.snd x))))) (List.length (Prod.fst x)) &&
        true)
      (some
        (List.drop (0 : Nat)
              (List.take (Int.toNat (Int64.toInt (Int64.ofInt ↑(List.length (Prod.snd x))))) (Prod.fst x)) ==
            Prod.snd x,
          ()))
      none)
    (some (false, ()))
theorem ok33 (n : Nat) : FunOK Try.prog ⟨33, sig33, F33 n⟩ :=
  fun_ok (hints := ⟨[], []⟩) (fuel := n) (c := Try.f33.body.getD .skip) (rs := Try.f33.results.toList) tt_ok mix (FsOK.nil) Try.func33 (by kernel_rfl) (by kernel_rfl) rfl (by kernel_rfl) rfl rfl (by kernel_rfl)
-- internal/stringslite.CutPrefix
def sig32 : Sig := ⟨(.cons (.one (.c .str)) (.cons (.one (.c .str)) .nil)), (.cons (.one (.c .str)) (.cons (.one (.c .bool)) .nil))⟩
def F32 : Nat → List UInt8 × List UInt8 → Option ((List UInt8 × Bool) × Unit) := fun (n : Nat) (x : List UInt8 × List UInt8) =>
  obind (F33 n (Prod.fst x, Prod.snd x)) fun (x_1 : Bool × Unit) =>
    oite (!Prod.fst x_1) (some ((Prod.fst x, false), ()))
      (oite
        (decide ((0 : Int) ≤ Int64.toInt (Int64.ofInt ↑(List.length (Prod.snd x)))) &&
          Nat.ble (Int.toNat (Int64.toInt (Int64.ofInt ↑(List.length (Prod.snd x))))) (List.length (Prod.fst x)))
        (some
          ((List.drop (Int.toNat (Int64.toInt (Int64.ofInt ↑(List.length (Prod.snd x)))))
                (List.take (List.length (Prod.fst x)) (Prod.fst x)),
              true),
            ()))
        none)
theorem ok32 (n : Nat) : FunOK Try.prog ⟨32, sig32, F32 n⟩ :=
  fun_ok (hints := ⟨[], []⟩) (fuel := n) (c := Try.f32.body.getD .skip) (rs := Try.f32.results.toList) tt_ok mix (FsOK.cons (ok33 n) (FsOK.nil)) Try.func32 (by kernel_rfl) (by kernel_rfl) rfl (by kernel_rfl) rfl rfl (by kernel_rfl)
-- strings.CutPrefix
def sig27 : Sig := ⟨(.cons (.one (.c .str)) (.cons (.one (.c .str)) .nil)), (.cons (.one (.c .str)) (.cons (.one (.c .bool)) .nil))⟩
def F27 : Nat → List UInt8 × List UInt8 → Option ((List UInt8 × Bool) × Unit) := fun (n : Nat) (x : List UInt8 × List UInt8) =>
  obind (F32 n (Prod.fst x, Prod.snd x)) fun (x_1 : (List UInt8 × Bool) × Unit) =>
    some ((Prod.fst (Prod.fst x_1), Prod.snd (Prod.fst x_1)), ())
theorem ok27 (n : Nat) : FunOK Try.prog ⟨27, sig27, F27 n⟩ :=
  fun_ok (hints := ⟨[], []⟩) (fuel := n) (c := Try.f27.body.getD .skip) (rs := Try.f27.results.toList) tt_ok mix (FsOK.cons (ok32 n) (FsOK.nil)) Try.func27 (by kernel_rfl) (by kernel_rfl) rfl (by kernel_rfl) rfl rfl (by kernel_rfl)
-- watchfire/cond.Signed
def sig18 : Sig := ⟨(.cons (.one (.c .str)) .nil), (.cons (.one (.c (.int .i64))) (.cons (.one (.c .bool)) .nil))⟩
def F18 : Nat → List UInt8 → Option ((Int64 × Bool) × Unit) := fun (n : Nat) (x : List UInt8) =>
  obind (F27 n (x, [(45 : UInt8)])) fun (x_1 : (List UInt8 × Bool) × Unit) =>
    oite (Prod.snd (Prod.fst x_1))
      (obind (F16 n (Prod.fst (Prod.fst x_1), (9223372036854775808 : UInt64))) fun (x_2 : (UInt64 × Bool) × Unit) =>
        oite (decide (Prod.fst (Prod.fst x_2) < (1 : UInt64))) (some (((0 : Int64), false), ()))
          (oite (!Prod.snd (Prod.fst x_2)) (some (((0 : Int64), false), ()))
            (some
              (((0 : Int64) - Int64.ofInt ↑(UInt64.toNat (Prod.fst (Prod.fst x_2) - (1 : UInt64))) - (1 : Int64), true),
                ()))))
      (obind (F16 n (x, (9223372036854775807 : UInt64))) fun (x_2 : (UInt64 × Bool) × Unit) =>
        some ((Int64.ofInt ↑(UInt64.toNat (Prod.fst (Prod.fst x_2))), Prod.snd (Prod.fst x_2)), ()))
theorem ok18 (n : Nat) : FunOK Try.prog ⟨18, sig18, F18 n⟩ :=
  fun_ok (hints := ⟨[], []⟩) (fuel := n) (c := Try.f18.body.getD .skip) (rs := Try.f18.results.toList) tt_ok mix (FsOK.cons (ok27 n) (FsOK.cons (ok16 n) (FsOK.nil))) Try.func18 (by kernel_rfl) (by kernel_rfl) rfl (by kernel_rfl) rfl rfl (by kernel_rfl)
-- watchfire/watchfireref13.Signed
def sig19 : Sig := ⟨(.cons (.one (.c .str)) .nil), (.cons (.one (.c (.int .i64))) (.cons (.one (.c .bool)) .nil))⟩
def F19_J3 : Nat → List UInt8 → Option ((Int64 × Bool) × Unit) := fun (n : Nat) (s : List UInt8) =>
  obind (F17 n (s, (9223372036854775807 : UInt64))) fun (x_1 : (UInt64 × Bool) × Unit) =>
    some ((Int64.ofInt ↑(UInt64.toNat (Prod.fst (Prod.fst x_1))), Prod.snd (Prod.fst x_1)), ())
def F19 : Nat → List UInt8 → Option ((Int64 × Bool) × Unit) := fun (n : Nat) (x : List UInt8) =>
  ojoinA (3 : Nat) [PT.bytes]
    (fun (J : Arr [PT.bytes] (Option ((Int64 × Bool) × Unit))) =>
      oite (decide ((0 : Int64) < Int64.ofInt ↑(List.length x)))
        (obind (at? x (Int64.toInt (0 : Int64))) fun (x_1 : UInt8) =>
          oite (decide (x_1 = (45 : UInt8)))
            (oite (Nat.ble (Int.toNat (Int64.toInt (1 : Int64))) (List.length x))
              (obind
                (F17 n
                  (List.drop (Int.toNat (Int64.toInt (1 : Int64))) (List.take (List.length x) x),
                    (9223372036854775808 : UInt64)))
                fun (x_2 : (UInt64 × Bool) × Unit) =>
                oite (!Prod.snd (Prod.fst x_2)) (some (((0 : Int64), false), ()))
                  (oite (decide (Prod.fst (Prod.fst x_2) = (0 : UInt64))) (some (((0 : Int64), false), ()))
                    (some
                      (((0 : Int64) - Int64.ofInt ↑(UInt64.toNat (Prod.fst (Prod.fst x_2) - (1 : UInt64))) -
                            (1 : Int64),
                          true),
                        ()))))
              none)
            (J x))
        (J x))
    (F19_J3 n)
theorem ok19 (n : Nat) : FunOK Try.prog ⟨19, sig19, F19 n⟩ :=
  fun_ok (hints := ⟨[(3, ⟨[(0, .one (.str))], [], 1⟩)], []⟩) (fuel := n) (c := Try.f19.body.getD .skip) (rs := Try.f19.results.toList) tt_ok mix (FsOK.cons (ok17 n) (FsOK.nil)) Try.func19 (by kernel_rfl) (by kernel_rfl) rfl (by kernel_rfl) rfl rfl (by kernel_rfl)
-- watchfire/watchfirelaw13.CondNumbers
def sig5 : Sig := ⟨(.cons (.one (.c .str)) (.cons (.one (.c (.int .u64))) .nil)), (.cons (.one (.c .bool)) .nil)⟩
def F5 : Nat → List UInt8 × UInt64 → Option (Bool × Unit) := fun (n : Nat) (x : List UInt8 × UInt64) =>
  obind (F7 n ()) fun (x_1 : Bool × Unit) =>
    oite (!Prod.fst x_1) (some (false, ()))
      (oite (decide ((40 : Int64) < Int64.ofInt ↑(List.length (Prod.fst x)))) (some (true, ()))
        (obind (F16 n (Prod.fst x, Prod.snd x)) fun (x_2 : (UInt64 × Bool) × Unit) =>
          obind (F17 n (Prod.fst x, Prod.snd x)) fun (x_3 : (UInt64 × Bool) × Unit) =>
            obind (F18 n (Prod.fst x)) fun (x_4 : (Int64 × Bool) × Unit) =>
              obind (F19 n (Prod.fst x)) fun (x_5 : (Int64 × Bool) × Unit) =>
                oite (Prod.snd (Prod.fst x_2) == Prod.snd (Prod.fst x_3))
                  (oite (!Prod.snd (Prod.fst x_2))
                    (oite (Prod.snd (Prod.fst x_4) == Prod.snd (Prod.fst x_5))
                      (oite (!Prod.snd (Prod.fst x_4)) (some (true, ()))
                        (some (decide (Prod.fst (Prod.fst x_4) = Prod.fst (Prod.fst x_5)), ())))
                      (some (false, ())))
                    (oite (decide (Prod.fst (Prod.fst x_2) = Prod.fst (Prod.fst x_3)))
                      (oite (Prod.snd (Prod.fst x_4) == Prod.snd (Prod.fst x_5))
                        (oite (!Prod.snd (Prod.fst x_4)) (some (true, ()))
                          (some (decide (Prod.fst (Prod.fst x_4) = Prod.fst (Prod.fst x_5)), ())))
                        (some (false, ())))
                      (some (false, ()))))
                  (some (false, ()))))
theorem ok5 (n : Nat) : FunOK Try.prog ⟨5, sig5, F5 n⟩ :=
  fun_ok (hints := ⟨[], []⟩) (fuel := n) (c := Try.f5.body.getD .skip) (rs := Try.f5.results.toList) tt_ok mix (FsOK.cons (ok7 n) (FsOK.cons (ok16 n) (FsOK.cons (ok17 n) (FsOK.cons (ok18 n) (FsOK.cons (ok19 n) (FsOK.nil)))))) Try.func5 (by kernel_rfl) (by kernel_rfl) rfl (by kernel_rfl) rfl rfl (by kernel_rfl)
-- (watchfire/cond.Cond).Check
def sig22 : Sig := ⟨(.cons (.agg (.cons (.int .u8) (.cons (.int .i64) (.cons (.int .u64) .nil)))) .nil), (.cons (.one (.c (.int .i64))) .nil)⟩
def F22_J26 : UInt8 → Int64 → UInt64 → Option (Int64 × Unit) := fun (c0 : UInt8) (c1 : Int64) (c2 : UInt64) =>
  oite (decide (c1 < (0 : Int64))) (some ((6 : Int64), ()))
    (oite (decide (c2 < (1 : UInt64))) (some ((6 : Int64), ()))
      (oite (decide ((1048576 : UInt64) < c2)) (some ((6 : Int64), ())) (some ((0 : Int64), ()))))
def F22 : Nat → UInt8 × Int64 × UInt64 → Option (Int64 × Unit) := fun (n : Nat) (x : UInt8 × Int64 × UInt64) =>
  ojoinA (26 : Nat) [PT.int IntKind.u8, PT.int IntKind.i64, PT.int IntKind.u64]
    (fun (J : Arr [PT.int IntKind.u8, PT.int IntKind.i64, PT.int IntKind.u64] (Option (Int64 × Unit))) =>
      oite (decide (Prod.fst x = (1 : UInt8)))
        (oite (decide (Prod.fst x = (1 : UInt8)))
          (oite (!decide (Prod.snd (Prod.snd x) = (0 : UInt64))) (some ((6 : Int64), ()))
            (some ((0 : Int64), ())))
          (oite (decide (Prod.fst x = (3 : UInt8)))
            (oite (!decide (Prod.fst (Prod.snd x) = (0 : Int64))) (some ((6 : Int64), ()))
              (J (Prod.fst x) (Prod.fst (Prod.snd x)) (Prod.snd (Prod.snd x))))
            (oite (decide (Prod.fst x = (4 : UInt8)))
              (oite (decide (Prod.fst x = (4 : UInt8))) (J (Prod.fst x) (Prod.fst (Prod.snd x)) (Prod.snd (Prod.snd x)))
                (some ((12 : Int64), ())))
              (oite (decide (Prod.fst x = (5 : UInt8))) (J (Prod.fst x) (Prod.fst (Prod.snd x)) (Prod.snd (Prod.snd x)))
                (some ((12 : Int64), ()))))))
        (oite (decide (Prod.fst x = (2 : UInt8)))
          (oite (!decide (Prod.snd (Prod.snd x) = (0 : UInt64))) (some ((6 : Int64), ()))
            (some ((0 : Int64), ())))
          (oite (decide (Prod.fst x = (3 : UInt8)))
            (oite (!decide (Prod.fst (Prod.snd x) = (0 : Int64))) (some ((6 : Int64), ()))
              (J (Prod.fst x) (Prod.fst (Prod.snd x)) (Prod.snd (Prod.snd x))))
            (oite (decide (Prod.fst x = (4 : UInt8)))
              (oite (decide (Prod.fst x = (4 : UInt8))) (J (Prod.fst x) (Prod.fst (Prod.snd x)) (Prod.snd (Prod.snd x)))
                (some ((12 : Int64), ())))
              (oite (decide (Prod.fst x = (5 : UInt8))) (J (Prod.fst x) (Prod.fst (Prod.snd x)) (Prod.snd (Prod.snd x)))
                (some ((12 : Int64), ())))))))
    F22_J26
theorem ok22 (n : Nat) : FunOK Try.prog ⟨22, sig22, F22 n⟩ :=
  fun_ok (hints := ⟨[(26, ⟨[(1, .one (.own 1))], [(1, .cells [.int .u8, .int .i64, .int .u64])], 2⟩)], []⟩) (fuel := n) (c := Try.f22.body.getD .skip) (rs := Try.f22.results.toList) tt_ok mix (FsOK.nil) Try.func22 (by kernel_rfl) (by kernel_rfl) rfl (by kernel_rfl) rfl rfl (by kernel_rfl)
-- watchfire/cond.Parse
def sig20 : Sig := ⟨(.cons (.one (.c (.ro (.cons .str .nil)))) .nil), (.cons (.agg (.cons (.int .u8) (.cons (.int .i64) (.cons (.int .u64) .nil)))) (.cons (.one (.c (.int .i64))) .nil))⟩
def F20_J1023 : Nat →
  List UInt8 →
    List UInt8 → UInt8 → Int64 → UInt64 → UInt8 → Int64 → UInt64 → Option (((UInt8 × Int64 × UInt64) × Int64) × Unit) := fun (n : Nat) (limit ticks : List UInt8) (t0_2 : UInt8) (t1_2 : Int64) (t2_2 : UInt64) (c0_2 : UInt8) (c1_2 : Int64)
    (c2_2 : UInt64) =>
  obind (F18 n limit) fun (x_3 : (Int64 × Bool) × Unit) =>
    oite (!Prod.snd (Prod.fst x_3)) (some ((((0 : UInt8), (0 : Int64), (0 : UInt64)), (27 : Int64)), ()))
      (obind (F16 n (ticks, (1048576 : UInt64))) fun (x_4 : (UInt64 × Bool) × Unit) =>
        oite (!Prod.snd (Prod.fst x_4)) (some ((((0 : UInt8), (0 : Int64), (0 : UInt64)), (27 : Int64)), ()))
          (obind (F22 n (c0_2, Prod.fst (Prod.fst x_3), Prod.fst (Prod.fst x_4))) fun (x_5 : Int64 × Unit) =>
            oite (!decide (Prod.fst x_5 = (0 : Int64)))
              (some ((((0 : UInt8), (0 : Int64), (0 : UInt64)), Prod.fst x_5), ()))
              (some (((c0_2, Prod.fst (Prod.fst x_3), Prod.fst (Prod.fst x_4)), (0 : Int64)), ()))))
def F20_J63 : Nat →
  List (List UInt8) →
    Int64 → UInt8 → Int64 → UInt64 → UInt8 → Int64 → UInt64 → Option (((UInt8 × Int64 × UInt64) × Int64) × Unit) := fun (n : Nat) (words_1 : List (List UInt8)) (want : Int64) (t0_1 : UInt8) (t1_1 : Int64) (t2_1 : UInt64) (c0_1 : UInt8)
    (c1_1 : Int64) (c2_1 : UInt64) =>
  oite (decide (c0_1 = (0 : UInt8))) (some ((((0 : UInt8), (0 : Int64), (0 : UInt64)), (2 : Int64)), ()))
    (oite (!decide (Int64.ofInt ↑(List.length words_1) = want))
      (some ((((0 : UInt8), (0 : Int64), (0 : UInt64)), (2 : Int64)), ()))
      (obind (at? words_1 (Int64.toInt (1 : Int64))) fun (x_1 : List UInt8) =>
        obind (at? words_1 (Int64.toInt (Int64.ofInt ↑(List.length words_1) - (1 : Int64)))) fun (x_2 : List UInt8) =>
          ojoinA (1023 : Nat)
            [PT.bytes, PT.bytes, PT.int IntKind.u8, PT.int IntKind.i64, PT.int IntKind.u64, PT.int IntKind.u8,
              PT.int IntKind.i64, PT.int IntKind.u64]
            (fun
                (J :
                  Arr
                    [PT.bytes, PT.bytes, PT.int IntKind.u8, PT.int IntKind.i64, PT.int IntKind.u64, PT.int IntKind.u8,
                      PT.int IntKind.i64, PT.int IntKind.u64]
                    (Option (((UInt8 × Int64 × UInt64) × Int64) × Unit))) =>
              oite (decide (c0_1 = (3 : UInt8))) (J [(48 : UInt8)] x_2 t0_1 t1_1 t2_1 c0_1 c1_1 c2_1)
                (oite (decide (c0_1 = (1 : UInt8)))
                  (oite (decide (c0_1 = (1 : UInt8))) (J x_1 [(48 : UInt8)] t0_1 t1_1 t2_1 c0_1 c1_1 c2_1)
                    (J x_1 x_2 t0_1 t1_1 t2_1 c0_1 c1_1 c2_1))
                  (oite (decide (c0_1 = (2 : UInt8))) (J x_1 [(48 : UInt8)] t0_1 t1_1 t2_1 c0_1 c1_1 c2_1)
                    (J x_1 x_2 t0_1 t1_1 t2_1 c0_1 c1_1 c2_1))))
            (F20_J1023 n)))
def F20_L61 : Nat →
  Arr
      [PT.list (CTs.cons CT.str CTs.nil), PT.int IntKind.i64, PT.int IntKind.i64, PT.int IntKind.u8, PT.int IntKind.i64,
        PT.int IntKind.u64, PT.int IntKind.u8, PT.int IntKind.i64, PT.int IntKind.u64,
        PT.list (CTs.cons CT.str CTs.nil)]
      (Option (((UInt8 × Int64 × UInt64) × Int64) × Unit)) →
    List (List UInt8) →
      Int64 →
        Int64 →
          UInt8 →
            Int64 →
              UInt64 → UInt8 → Int64 → UInt64 → List (List UInt8) → Option (((UInt8 × Int64 × UInt64) × Int64) × Unit) := fun (n : Nat)
    (rec :
      Arr
        [PT.list (CTs.cons CT.str CTs.nil), PT.int IntKind.i64, PT.int IntKind.i64, PT.int IntKind.u8,
          PT.int IntKind.i64, PT.int IntKind.u64, PT.int IntKind.u8, PT.int IntKind.i64, PT.int IntKind.u64,
          PT.list (CTs.cons CT.str CTs.nil)]
        (Option (((UInt8 × Int64 × UInt64) × Int64) × Unit)))
    (words : List (List UInt8)) (t t_1 : Int64) (t0 : UInt8) (t1 : Int64) (t2 : UInt64) (c0 : UInt8) (c1 : Int64)
    (c2 : UInt64) (t_2 : List (List UInt8)) =>
  oite (decide (t_1 < t))
    (oite (decide ((0 : Int) ≤ Int64.toInt t_1) && Nat.blt (Int.toNat (Int64.toInt t_1)) (List.length t_2))
      (obind t_2[Int.toNat (Int64.toInt t_1)]? fun (x_1 : List UInt8) =>
        oite (decide ((0 : Int64) < Int64.ofInt ↑(List.length words)))
          (obind (at? words (Int64.toInt (0 : Int64))) fun (x_2 : List UInt8) =>
            oite (x_2 == x_1)
              (rec words t (t_1 + (1 : Int64)) t0 t1 t2 (UInt8.ofInt (Int64.toInt (t_1 + (1 : Int64)))) c1 c2 t_2)
              (rec words t (t_1 + (1 : Int64)) t0 t1 t2 c0 c1 c2 t_2))
          (rec words t (t_1 + (1 : Int64)) t0 t1 t2 c0 c1 c2 t_2))
      none)
    (ojoinA (63 : Nat)
      [PT.list (CTs.cons CT.str CTs.nil), PT.int IntKind.i64, PT.int IntKind.u8, PT.int IntKind.i64, PT.int IntKind.u64,
        PT.int IntKind.u8, PT.int IntKind.i64, PT.int IntKind.u64]
      (fun
          (J :
            Arr
              [PT.list (CTs.cons CT.str CTs.nil), PT.int IntKind.i64, PT.int IntKind.u8, PT.int IntKind.i64,
                PT.int IntKind.u64, PT.int IntKind.u8, PT.int IntKind.i64, PT.int IntKind.u64]
              (Option (((UInt8 × Int64 × UInt64) × Int64) × Unit))) =>
        oite (decide (c0 = (4 : UInt8))) (J words (3 : Int64) t0 t1 t2 c0 c1 c2)
          (oite (decide (c0 = (5 : UInt8))) (J words (3 : Int64) t0 t1 t2 c0 c1 c2)
            (J words (2 : Int64) t0 t1 t2 c0 c1 c2)))
      (F20_J63 n))
def F20_R61 : Nat →
  Nat →
    PT.T (PT.list (CTs.cons CT.str CTs.nil)) →
      Int64 →
        Int64 →
          UInt8 →
            Int64 →
              UInt64 → UInt8 → Int64 → UInt64 → List (List UInt8) → Option (((UInt8 × Int64 × UInt64) × Int64) × Unit) := fun (n : Nat) =>
  ofixA (61 : Nat)
    [PT.list (CTs.cons CT.str CTs.nil), PT.int IntKind.i64, PT.int IntKind.i64, PT.int IntKind.u8, PT.int IntKind.i64,
      PT.int IntKind.u64, PT.int IntKind.u8, PT.int IntKind.i64, PT.int IntKind.u64, PT.list (CTs.cons CT.str CTs.nil)]
    (F20_L61 n)
def F20 : Nat → List (List UInt8) → Option (((UInt8 × Int64 × UInt64) × Int64) × Unit) := fun (n : Nat) (x : List (List UInt8)) =>
  F20_R61 n n x (5 : Int64) (0 : Int64) (0 : UInt8) (0 : Int64) (0 : UInt64) (0 : UInt8) (0 : Int64) (0 : UInt64)
    [[(97 : UInt8), (98 : UInt8), (111 : UInt8), (118 : UInt8), (101 : UInt8)],
      [(98 : UInt8), (101 : UInt8), (108 : UInt8), (111 : UInt8), (119 : UInt8)],
      [(97 : UInt8), (98 : UInt8), (115 : UInt8), (101 : UInt8), (110 : UInt8), (116 : UInt8)],
      [(114 : UInt8), (105 : UInt8), (115 : UInt8), (101 : UInt8), (115 : UInt8)],
      [(102 : UInt8), (97 : UInt8), (108 : UInt8), (108 : UInt8), (115 : UInt8)]]
theorem F20_R61_s (n : Nat) (m_ : Nat) : F20_R61 n (m_ + 1) = F20_L61 n (F20_R61 n m_) := rfl
theorem ok20 (n : Nat) : FunOK Try.prog ⟨20, sig20, F20 n⟩ :=
  fun_ok (hints := ⟨[(63, ⟨[(0, .one (.ro (.cons .str .nil))), (2, .one (.own 1)), (5, .one (.own 2)), (8, .one (.int .i64))], [(1, .cells [.int .u8, .int .i64, .int .u64]), (2, .cells [.int .u8, .int .i64, .int .u64])], 3⟩), (1023, ⟨[(2, .one (.own 1)), (5, .one (.own 2)), (9, .one (.str)), (10, .one (.str))], [(1, .cells [.int .u8, .int .i64, .int .u64]), (2, .cells [.int .u8, .int .i64, .int .u64])], 3⟩)], [(61, ⟨[(0, .one (.ro (.cons .str .nil))), (2, .one (.own 1)), (5, .one (.own 2)), (14, .one (.own 3)), (15, .one (.int .i64)), (16, .one (.int .i64))], [(1, .cells [.int .u8, .int .i64, .int .u64]), (2, .cells [.int .u8, .int .i64, .int .u64]), (3, .row (.cons .str .nil))], 4⟩)]⟩) (fuel := n) (c := Try.f20.body.getD .skip) (rs := Try.f20.results.toList) tt_ok mix (FsOK.cons (ok18 n) (FsOK.cons (ok16 n) (FsOK.cons (ok22 n) (FsOK.nil)))) Try.func20 (by kernel_rfl) (by kernel_rfl) rfl (by kernel_rfl) rfl rfl (by kernel_rfl)
-- watchfire/watchfireref13.Parse
def sig21 : Sig := ⟨(.cons (.one (.c (.ro (.cons .str .nil)))) .nil), (.cons (.agg (.cons (.int .i64) (.cons (.int .i64) (.cons (.int .u64) .nil)))) (.cons (.one (.c (.int .i64))) .nil))⟩
def F21_J255 : Nat → Int64 → Int64 → UInt64 → Int64 → Int64 → UInt64 → Option (((Int64 × Int64 × UInt64) × Int64) × Unit) := fun (n : Nat) (t0_3 t1_3 : Int64) (t2_3 : UInt64) (c0_3 c1_3 : Int64) (c2_3 : UInt64) =>
  obind (F13 n (c0_3, c1_3, c2_3)) fun (x_1 : Int64 × Unit) =>
    oite (!decide (Prod.fst x_1 = (0 : Int64)))
      (some ((((0 : Int64), (0 : Int64), (0 : UInt64)), Prod.fst x_1), ()))
      (some (((c0_3, c1_3, c2_3), (0 : Int64)), ()))
def F21_J127 : Nat →
  List (List UInt8) →
    Int64 → Int64 → UInt64 → Int64 → Int64 → UInt64 → Option (((Int64 × Int64 × UInt64) × Int64) × Unit) := fun (n : Nat) (w_2 : List (List UInt8)) (t0_2 t1_2 : Int64) (t2_2 : UInt64) (c0_2 c1_2 : Int64) (c2_2 : UInt64) =>
  ojoinA (255 : Nat)
    [PT.int IntKind.i64, PT.int IntKind.i64, PT.int IntKind.u64, PT.int IntKind.i64, PT.int IntKind.i64,
      PT.int IntKind.u64]
    (fun
        (J :
          Arr
            [PT.int IntKind.i64, PT.int IntKind.i64, PT.int IntKind.u64, PT.int IntKind.i64, PT.int IntKind.i64,
              PT.int IntKind.u64]
            (Option (((Int64 × Int64 × UInt64) × Int64) × Unit))) =>
      oite (decide ((3 : Int64) ≤ c0_2))
        (obind (at? w_2 (Int64.toInt (Int64.ofInt ↑(List.length w_2) - (1 : Int64)))) fun (x_1 : List UInt8) =>
          obind (F17 n (x_1, (1048576 : UInt64))) fun (x_2 : (UInt64 × Bool) × Unit) =>
            oite (!Prod.snd (Prod.fst x_2))
              (some ((((0 : Int64), (0 : Int64), (0 : UInt64)), (27 : Int64)), ()))
              (J t0_2 t1_2 t2_2 c0_2 c1_2 (Prod.fst (Prod.fst x_2))))
        (J t0_2 t1_2 t2_2 c0_2 c1_2 c2_2))
    (F21_J255 n)
def F21_J62 : Nat →
  List (List UInt8) →
    Bool → Int64 → Int64 → UInt64 → Int64 → Int64 → UInt64 → Option (((Int64 × Int64 × UInt64) × Int64) × Unit) := fun (n : Nat) (w_1 : List (List UInt8)) (t : Bool) (t0_1 t1_1 : Int64) (t2_1 : UInt64) (c0_1 c1_1 : Int64)
    (c2_1 : UInt64) =>
  oite t (some ((((0 : Int64), (0 : Int64), (0 : UInt64)), (2 : Int64)), ()))
    (ojoinA (127 : Nat)
      [PT.list (CTs.cons CT.str CTs.nil), PT.int IntKind.i64, PT.int IntKind.i64, PT.int IntKind.u64,
        PT.int IntKind.i64, PT.int IntKind.i64, PT.int IntKind.u64]
      (fun
          (J :
            Arr
              [PT.list (CTs.cons CT.str CTs.nil), PT.int IntKind.i64, PT.int IntKind.i64, PT.int IntKind.u64,
                PT.int IntKind.i64, PT.int IntKind.i64, PT.int IntKind.u64]
              (Option (((Int64 × Int64 × UInt64) × Int64) × Unit))) =>
        oite (!decide (c0_1 = (3 : Int64)))
          (obind (at? w_1 (Int64.toInt (1 : Int64))) fun (x_1 : List UInt8) =>
            obind (F19 n x_1) fun (x_2 : (Int64 × Bool) × Unit) =>
              oite (!Prod.snd (Prod.fst x_2))
                (some ((((0 : Int64), (0 : Int64), (0 : UInt64)), (27 : Int64)), ()))
                (J w_1 t0_1 t1_1 t2_1 c0_1 (Prod.fst (Prod.fst x_2)) c2_1))
          (J w_1 t0_1 t1_1 t2_1 c0_1 c1_1 c2_1))
      (F21_J127 n))
def F21_L61 : Nat →
  Arr
      [PT.list (CTs.cons CT.str CTs.nil), PT.int IntKind.i64, PT.int IntKind.i64, PT.int IntKind.i64,
        PT.int IntKind.u64, PT.list (CTs.cons CT.str CTs.nil), PT.int IntKind.i64, PT.int IntKind.i64,
        PT.int IntKind.u64]
      (Option (((Int64 × Int64 × UInt64) × Int64) × Unit)) →
    List (List UInt8) →
      Int64 →
        Int64 →
          Int64 →
            UInt64 → List (List UInt8) → Int64 → Int64 → UInt64 → Option (((Int64 × Int64 × UInt64) × Int64) × Unit) := fun (n : Nat)
    (rec :
      Arr
        [PT.list (CTs.cons CT.str CTs.nil), PT.int IntKind.i64, PT.int IntKind.i64, PT.int IntKind.i64,
          PT.int IntKind.u64, PT.list (CTs.cons CT.str CTs.nil), PT.int IntKind.i64, PT.int IntKind.i64,
          PT.int IntKind.u64]
        (Option (((Int64 × Int64 × UInt64) × Int64) × Unit)))
    (w : List (List UInt8)) (i t0 t1 : Int64) (t2 : UInt64) (names : List (List UInt8)) (c0 c1 : Int64) (c2 : UInt64) =>
  oite (decide (i < (6 : Int64)))
    (oite (decide ((0 : Int64) < Int64.ofInt ↑(List.length w)))
      (obind (at? w (Int64.toInt (0 : Int64))) fun (x_1 : List UInt8) =>
        oite (decide ((0 : Int) ≤ Int64.toInt i) && Nat.blt (Int.toNat (Int64.toInt i)) (List.length names))
          (obind names[Int.toNat (Int64.toInt i)]? fun (x_2 : List UInt8) =>
            oite (x_1 == x_2) (rec w (i + (1 : Int64)) t0 t1 t2 names i c1 c2)
              (rec w (i + (1 : Int64)) t0 t1 t2 names c0 c1 c2))
          none)
      (rec w (i + (1 : Int64)) t0 t1 t2 names c0 c1 c2))
    (ojoinA (62 : Nat)
      [PT.list (CTs.cons CT.str CTs.nil), PT.bool, PT.int IntKind.i64, PT.int IntKind.i64, PT.int IntKind.u64,
        PT.int IntKind.i64, PT.int IntKind.i64, PT.int IntKind.u64]
      (fun
          (J :
            Arr
              [PT.list (CTs.cons CT.str CTs.nil), PT.bool, PT.int IntKind.i64, PT.int IntKind.i64, PT.int IntKind.u64,
                PT.int IntKind.i64, PT.int IntKind.i64, PT.int IntKind.u64]
              (Option (((Int64 × Int64 × UInt64) × Int64) × Unit))) =>
        oite (decide (c0 = (0 : Int64))) (J w true t0 t1 t2 c0 c1 c2)
          (oite (decide (c0 < (4 : Int64)))
            (oite (!decide (Int64.ofInt ↑(List.length w) = (2 : Int64))) (J w true t0 t1 t2 c0 c1 c2)
              (oite (decide ((4 : Int64) ≤ c0))
                (J w (!decide (Int64.ofInt ↑(List.length w) = (3 : Int64))) t0 t1 t2 c0 c1 c2)
                (J w false t0 t1 t2 c0 c1 c2)))
            (oite (decide ((4 : Int64) ≤ c0))
              (J w (!decide (Int64.ofInt ↑(List.length w) = (3 : Int64))) t0 t1 t2 c0 c1 c2)
              (J w false t0 t1 t2 c0 c1 c2))))
      (F21_J62 n))
def F21_R61 : Nat →
  Nat →
    PT.T (PT.list (CTs.cons CT.str CTs.nil)) →
      Int64 →
        Int64 →
          Int64 →
            UInt64 → List (List UInt8) → Int64 → Int64 → UInt64 → Option (((Int64 × Int64 × UInt64) × Int64) × Unit) := fun (n : Nat) =>
  ofixA (61 : Nat)
    [PT.list (CTs.cons CT.str CTs.nil), PT.int IntKind.i64, PT.int IntKind.i64, PT.int IntKind.i64, PT.int IntKind.u64,
      PT.list (CTs.cons CT.str CTs.nil), PT.int IntKind.i64, PT.int IntKind.i64, PT.int IntKind.u64]
    (F21_L61 n)
def F21 : Nat → List (List UInt8) → Option (((Int64 × Int64 × UInt64) × Int64) × Unit) := fun (n : Nat) (x : List (List UInt8)) =>
  F21_R61 n n x (1 : Int64) (0 : Int64) (0 : Int64) (0 : UInt64)
    [[], [(97 : UInt8), (98 : UInt8), (111 : UInt8), (118 : UInt8), (101 : UInt8)],
      [(98 : UInt8), (101 : UInt8), (108 : UInt8), (111 : UInt8), (119 : UInt8)],
      [(97 : UInt8), (98 : UInt8), (115 : UInt8), (101 : UInt8), (110 : UInt8), (116 : UInt8)],
      [(114 : UInt8), (105 : UInt8), (115 : UInt8), (101 : UInt8), (115 : UInt8)],
      [(102 : UInt8), (97 : UInt8), (108 : UInt8), (108 : UInt8), (115 : UInt8)]]
    (0 : Int64) (0 : Int64) (0 : UInt64)
theorem F21_R61_s (n : Nat) (m_ : Nat) : F21_R61 n (m_ + 1) = F21_L61 n (F21_R61 n m_) := rfl
theorem ok21 (n : Nat) : FunOK Try.prog ⟨21, sig21, F21 n⟩ :=
  fun_ok (hints := ⟨[(62, ⟨[(0, .one (.ro (.cons .str .nil))), (2, .one (.own 1)), (5, .one (.own 2)), (51, .one (.bool))], [(1, .cells [.int .i64, .int .i64, .int .u64]), (2, .cells [.int .i64, .int .i64, .int .u64])], 3⟩), (127, ⟨[(0, .one (.ro (.cons .str .nil))), (2, .one (.own 1)), (5, .one (.own 2))], [(1, .cells [.int .i64, .int .i64, .int .u64]), (2, .cells [.int .i64, .int .i64, .int .u64])], 3⟩), (255, ⟨[(2, .one (.own 1)), (5, .one (.own 2))], [(1, .cells [.int .i64, .int .i64, .int .u64]), (2, .cells [.int .i64, .int .i64, .int .u64])], 3⟩)], [(61, ⟨[(0, .one (.ro (.cons .str .nil))), (2, .one (.own 1)), (4, .one (.own 2)), (5, .one (.own 3)), (6, .one (.int .i64))], [(1, .cells [.int .i64, .int .i64, .int .u64]), (2, .row (.cons .str .nil)), (3, .cells [.int .i64, .int .i64, .int .u64])], 4⟩)]⟩) (fuel := n) (c := Try.f21.body.getD .skip) (rs := Try.f21.results.toList) tt_ok mix (FsOK.cons (ok19 n) (FsOK.cons (ok17 n) (FsOK.cons (ok13 n) (FsOK.nil)))) Try.func21 (by kernel_rfl) (by kernel_rfl) rfl (by kernel_rfl) rfl rfl (by kernel_rfl)
-- watchfire/cond.printed
def sig29 : Sig := ⟨(.cons (.one (.c (.int .u64))) .nil), (.cons (.one (.c .str)) .nil)⟩
def G29 : Nat → (UInt64 → Option (List UInt8 × Unit)) → UInt64 → Option (List UInt8 × Unit) := fun (n : Nat) (rc : UInt64 → Option (List UInt8 × Unit)) (x : UInt64) =>
  oite (decide ((9 : UInt64) < x))
    (obind (rc (x / (10 : UInt64))) fun (x_1 : List UInt8 × Unit) =>
      obind (rc (x % (10 : UInt64))) fun (x_2 : List UInt8 × Unit) =>
        oite (Nat.ble (List.length (Prod.fst x_1) + List.length (Prod.fst x_2)) (4294967296 : Nat))
          (some (Prod.fst x_1 ++ Prod.fst x_2, ())) none)
    (some ([UInt8.ofInt ↑(UInt64.toNat ((48 : UInt64) + x))], ()))
theorem okG29 (n : Nat) (rc : sig29.In → Option sig29.Out) (h : FunOK Try.prog ⟨29, sig29, rc⟩) : FunOK Try.prog ⟨29, sig29, G29 n rc⟩ :=
  fun_ok (hints := ⟨[], []⟩) (fuel := n) (c := Try.f29.body.getD .skip) (rs := Try.f29.results.toList) tt_ok mix (FsOK.cons h (FsOK.nil)) Try.func29 (by kernel_rfl) (by kernel_rfl) rfl (by kernel_rfl) rfl rfl (by kernel_rfl)
def F29 (n : Nat) : sig29.In → Option sig29.Out := selfN (sig := sig29) (G29 n) n
theorem ok29 (n : Nat) : FunOK Try.prog ⟨29, sig29, F29 n⟩ :=
  self_ok (c := Try.f29.body.getD .skip) Try.func29 (by kernel_rfl) (by kernel_rfl) (fun F h => okG29 n F h) n
-- watchfire/cond.signed
def sig28 : Sig := ⟨(.cons (.one (.c (.int .i64))) .nil), (.cons (.one (.c .str)) .nil)⟩
def F28 : Nat → Int64 → Option (List UInt8 × Unit) := fun (n : Nat) (x : Int64) =>
  oite (decide (x < (0 : Int64)))
    (obind (F29 n (UInt64.ofInt (Int64.toInt ((0 : Int64) - (x + (1 : Int64)))) + (1 : UInt64)))
      fun (x_1 : List UInt8 × Unit) =>
      oite (Nat.ble (List.length [(45 : UInt8)] + List.length (Prod.fst x_1)) (4294967296 : Nat))
        (some ([(45 : UInt8)] ++ Prod.fst x_1, ())) none)
    (obind (F29 n (UInt64.ofInt (Int64.toInt x))) fun (x_1 : List UInt8 × Unit) => some (Prod.fst x_1, ()))
theorem ok28 (n : Nat) : FunOK Try.prog ⟨28, sig28, F28 n⟩ :=
  fun_ok (hints := ⟨[], []⟩) (fuel := n) (c := Try.f28.body.getD .skip) (rs := Try.f28.results.toList) tt_ok mix (FsOK.cons (ok29 n) (FsOK.nil)) Try.func28 (by kernel_rfl) (by kernel_rfl) rfl (by kernel_rfl) rfl rfl (by kernel_rfl)
-- (watchfire/cond.Cond).Text
def sig23 : Sig := ⟨(.cons (.agg (.cons (.int .u8) (.cons (.int .i64) (.cons (.int .u64) .nil)))) .nil), (.cons (.one (.c .str)) .nil)⟩
def F23 : Nat → UInt8 × Int64 × UInt64 → Option (List UInt8 × Unit) := fun (n : Nat) (x : UInt8 × Int64 × UInt64) =>
  oite (decide (Prod.fst x = (1 : UInt8)))
    (obind (F28 n (Prod.fst (Prod.snd x))) fun (x_1 : List UInt8 × Unit) =>
      oite
        (Nat.ble
          (List.length [(97 : UInt8), (98 : UInt8), (111 : UInt8), (118 : UInt8), (101 : UInt8), (32 : UInt8)] +
            List.length (Prod.fst x_1))
          (4294967296 : Nat))
        (some
          ([(97 : UInt8), (98 : UInt8), (111 : UInt8), (118 : UInt8), (101 : UInt8), (32 : UInt8)] ++ Prod.fst x_1,
            ()))
        none)
    (oite (decide (Prod.fst x = (2 : UInt8)))
      (obind (F28 n (Prod.fst (Prod.snd x))) fun (x_1 : List UInt8 × Unit) =>
        oite
          (Nat.ble
            (List.length [(98 : UInt8), (101 : UInt8), (108 : UInt8), (111 : UInt8), (119 : UInt8), (32 : UInt8)] +
              List.length (Prod.fst x_1))
            (4294967296 : Nat))
          (some
            ([(98 : UInt8), (101 : UInt8), (108 : UInt8), (111 : UInt8), (119 : UInt8), (32 : UInt8)] ++ Prod.fst x_1,
              ()))
          none)
      (oite (decide (Prod.fst x = (3 : UInt8)))
        (obind (F29 n (Prod.snd (Prod.snd x))) fun (x_1 : List UInt8 × Unit) =>
          oite
            (Nat.ble
              (List.length
                  [(97 : UInt8), (98 : UInt8), (115 : UInt8), (101 : UInt8), (110 : UInt8), (116 : UInt8),
                    (32 : UInt8)] +
                List.length (Prod.fst x_1))
              (4294967296 : Nat))
            (some
              ([(97 : UInt8), (98 : UInt8), (115 : UInt8), (101 : UInt8), (110 : UInt8), (116 : UInt8), (32 : UInt8)] ++
                  Prod.fst x_1,
                ()))
            none)
        (oite (decide (Prod.fst x = (4 : UInt8)))
          (obind (F28 n (Prod.fst (Prod.snd x))) fun (x_1 : List UInt8 × Unit) =>
            oite
              (Nat.ble
                (List.length [(114 : UInt8), (105 : UInt8), (115 : UInt8), (101 : UInt8), (115 : UInt8), (32 : UInt8)] +
                  List.length (Prod.fst x_1))
                (4294967296 : Nat))
              (oite
                (Nat.ble
                  (List.length
                      ([(114 : UInt8), (105 : UInt8), (115 : UInt8), (101 : UInt8), (115 : UInt8), (32 : UInt8)] ++
                        Prod.fst x_1) +
                    List.length [(32 : UInt8)])
                  (4294967296 : Nat))
                (obind (F29 n (Prod.snd (Prod.snd x))) fun (x_2 : List UInt8 × Unit) =>
                  oite
                    (Nat.ble
                      (List.length
                          ([(114 : UInt8), (105 : UInt8), (115 : UInt8), (101 : UInt8), (115 : UInt8), (32 : UInt8)] ++
                              Prod.fst x_1 ++
                            [(32 : UInt8)]) +
                        List.length (Prod.fst x_2))
                      (4294967296 : Nat))
                    (some
                      ([(114 : UInt8), (105 : UInt8), (115 : UInt8), (101 : UInt8), (115 : UInt8), (32 : UInt8)] ++
                              Prod.fst x_1 ++
                            [(32 : UInt8)] ++
                          Prod.fst x_2,
                        ()))
                    none)
                none)
              none)
          (oite (decide (Prod.fst x = (5 : UInt8)))
            (obind (F28 n (Prod.fst (Prod.snd x))) fun (x_1 : List UInt8 × Unit) =>
              oite
                (Nat.ble
                  (List.length
                      [(102 : UInt8), (97 : UInt8), (108 : UInt8), (108 : UInt8), (115 : UInt8), (32 : UInt8)] +
                    List.length (Prod.fst x_1))
                  (4294967296 : Nat))
                (oite
                  (Nat.ble
                    (List.length
                        ([(102 : UInt8), (97 : UInt8), (108 : UInt8), (108 : UInt8), (115 : UInt8), (32 : UInt8)] ++
                          Prod.fst x_1) +
                      List.length [(32 : UInt8)])
                    (4294967296 : Nat))
                  (obind (F29 n (Prod.snd (Prod.snd x))) fun (x_2 : List UInt8 × Unit) =>
                    oite
                      (Nat.ble
                        (List.length
                            ([(102 : UInt8), (97 : UInt8), (108 : UInt8), (108 : UInt8), (115 : UInt8), (32 : UInt8)] ++
                                Prod.fst x_1 ++
                              [(32 : UInt8)]) +
                          List.length (Prod.fst x_2))
                        (4294967296 : Nat))
                      (some
                        ([(102 : UInt8), (97 : UInt8), (108 : UInt8), (108 : UInt8), (115 : UInt8), (32 : UInt8)] ++
                                Prod.fst x_1 ++
                              [(32 : UInt8)] ++
                            Prod.fst x_2,
                          ()))
                      none)
                  none)
                none)
            (some ([], ()))))))
theorem ok23 (n : Nat) : FunOK Try.prog ⟨23, sig23, F23 n⟩ :=
  fun_ok (hints := ⟨[], []⟩) (fuel := n) (c := Try.f23.body.getD .skip) (rs := Try.f23.results.toList) tt_ok mix (FsOK.cons (ok28 n) (FsOK.cons (ok29 n) (FsOK.nil))) Try.func23 (by kernel_rfl) (by kernel_rfl) rfl (by kernel_rfl) rfl rfl (by kernel_rfl)
-- watchfire/watchfireref01.Itoa
def sig31 : Sig := ⟨(.cons (.one (.c (.int .u64))) .nil), (.cons (.one (.c .str)) .nil)⟩
def G31 : Nat → (UInt64 → Option (List UInt8 × Unit)) → UInt64 → Option (List UInt8 × Unit) := fun (n : Nat) (rc : UInt64 → Option (List UInt8 × Unit)) (x : UInt64) =>
  oite (decide ((9 : UInt64) < x))
    (obind (rc (x / (10 : UInt64))) fun (x_1 : List UInt8 × Unit) =>
      oite
        (Nat.ble
          (List.length (Prod.fst x_1) + List.length [UInt8.ofInt ↑(UInt64.toNat ((48 : UInt64) + x % (10 : UInt64)))])
          (4294967296 : Nat))
        (some (Prod.fst x_1 ++ [UInt8.ofInt ↑(UInt64.toNat ((48 : UInt64) + x % (10 : UInt64)))], ())) none)
    (some ([UInt8.ofInt ↑(UInt64.toNat ((48 : UInt64) + x % (10 : UInt64)))], ()))
theorem okG31 (n : Nat) (rc : sig31.In → Option sig31.Out) (h : FunOK Try.prog ⟨31, sig31, rc⟩) : FunOK Try.prog ⟨31, sig31, G31 n rc⟩ :=
  fun_ok (hints := ⟨[], []⟩) (fuel := n) (c := Try.f31.body.getD .skip) (rs := Try.f31.results.toList) tt_ok mix (FsOK.cons h (FsOK.nil)) Try.func31 (by kernel_rfl) (by kernel_rfl) rfl (by kernel_rfl) rfl rfl (by kernel_rfl)
def F31 (n : Nat) : sig31.In → Option sig31.Out := selfN (sig := sig31) (G31 n) n
theorem ok31 (n : Nat) : FunOK Try.prog ⟨31, sig31, F31 n⟩ :=
  self_ok (c := Try.f31.body.getD .skip) Try.func31 (by kernel_rfl) (by kernel_rfl) (fun F h => okG31 n F h) n
-- watchfire/watchfireref01.Signed
def sig30 : Sig := ⟨(.cons (.one (.c (.int .i64))) .nil), (.cons (.one (.c .str)) .nil)⟩
def F30 : Nat → Int64 → Option (List UInt8 × Unit) := fun (n : Nat) (x : Int64) =>
  oite (decide (x < (0 : Int64)))
    (obind (F31 n (UInt64.ofInt (Int64.toInt ((0 : Int64) - (x + (1 : Int64)))) + (1 : UInt64)))
      fun (x_1 : List UInt8 × Unit) =>
      oite (Nat.ble (List.length [(45 : UInt8)] + List.length (Prod.fst x_1)) (4294967296 : Nat))
        (some ([(45 : UInt8)] ++ Prod.fst x_1, ())) none)
    (obind (F31 n (UInt64.ofInt (Int64.toInt x))) fun (x_1 : List UInt8 × Unit) => some (Prod.fst x_1, ()))
theorem ok30 (n : Nat) : FunOK Try.prog ⟨30, sig30, F30 n⟩ :=
  fun_ok (hints := ⟨[], []⟩) (fuel := n) (c := Try.f30.body.getD .skip) (rs := Try.f30.results.toList) tt_ok mix (FsOK.cons (ok31 n) (FsOK.nil)) Try.func30 (by kernel_rfl) (by kernel_rfl) rfl (by kernel_rfl) rfl rfl (by kernel_rfl)
-- (watchfire/watchfireref13.Cond).Text
def sig24 : Sig := ⟨(.cons (.agg (.cons (.int .i64) (.cons (.int .i64) (.cons (.int .u64) .nil)))) .nil), (.cons (.one (.c .str)) .nil)⟩
def F24_J31 : Nat → List UInt8 → Int64 → Int64 → UInt64 → Option (List UInt8 × Unit) := fun (n : Nat) (s : List UInt8) (c0 c1 : Int64) (c2 : UInt64) =>
  oite (decide ((3 : Int64) ≤ c0))
    (oite (Nat.ble (List.length s + List.length [(32 : UInt8)]) (4294967296 : Nat))
      (obind (F31 n c2) fun (x_2 : List UInt8 × Unit) =>
        oite (Nat.ble (List.length (s ++ [(32 : UInt8)]) + List.length (Prod.fst x_2)) (4294967296 : Nat))
          (some (s ++ [(32 : UInt8)] ++ Prod.fst x_2, ())) none)
      none)
    (some (s, ()))
def F24 : Nat → Int64 × Int64 × UInt64 → Option (List UInt8 × Unit) := fun (n : Nat) (x : Int64 × Int64 × UInt64) =>
  oite (decide (Prod.fst x < (1 : Int64))) (some ([], ()))
    (oite (decide ((5 : Int64) < Prod.fst x)) (some ([], ()))
      (oite
        (decide ((0 : Int) ≤ Int64.toInt (Prod.fst x)) &&
          Nat.blt (Int.toNat (Int64.toInt (Prod.fst x)))
            (List.length
              [[], [(97 : UInt8), (98 : UInt8), (111 : UInt8), (118 : UInt8), (101 : UInt8)],
                [(98 : UInt8), (101 : UInt8), (108 : UInt8), (111 : UInt8), (119 : UInt8)],
                [(97 : UInt8), (98 : UInt8), (115 : UInt8), (101 : UInt8), (110 : UInt8), (116 : UInt8)],
                [(114 : UInt8), (105 : UInt8), (115 : UInt8), (101 : UInt8), (115 : UInt8)],
                [(102 : UInt8), (97 : UInt8), (108 : UInt8), (108 : UInt8), (115 : UInt8)]]))
        (obind
          [[], [(97 : UInt8), (98 : UInt8), (111 : UInt8), (118 : UInt8), (101 : UInt8)],
              [(98 : UInt8), (101 : UInt8), (108 : UInt8), (111 : UInt8), (119 : UInt8)],
              [(97 : UInt8), (98 : UInt8), (115 : UInt8), (101 : UInt8), (110 : UInt8), (116 : UInt8)],
              [(114 : UInt8), (105 : UInt8), (115 : UInt8), (101 : UInt8), (115 : UInt8)],
              [(102 : UInt8), (97 : UInt8), (108 : UInt8), (108 : UInt8),
                (115 : UInt8)]][Int.toNat (Int64.toInt (Prod.fst x))]?
          fun (x_1 : List UInt8) =>
          ojoinA (31 : Nat) [PT.bytes, PT.int IntKind.i64, PT.int IntKind.i64, PT.int IntKind.u64]
            (fun
                (J :
                  Arr [PT.bytes, PT.int IntKind.i64, PT.int IntKind.i64, PT.int IntKind.u64]
                    (Option (List UInt8 × Unit))) =>
              oite (!decide (Prod.fst x = (3 : Int64)))
                (oite (Nat.ble (List.length x_1 + List.length [(32 : UInt8)]) (4294967296 : Nat))
                  (obind (F30 n (Prod.fst (Prod.snd x))) fun (x_2 : List UInt8 × Unit) =>
                    oite (Nat.ble (List.length (x_1 ++ [(32 : UInt8)]) + List.length (Prod.fst x_2)) (4294967296 : Nat))
                      (J (x_1 ++ [(32 : UInt8)] ++ Prod.fst x_2) (Prod.fst x) (Prod.fst (Prod.snd x))
                        (Prod.snd (Prod.snd x)))
                      none)
                  none)
                (J x_1 (Prod.fst x) (Prod.fst (Prod.snd x)) (Prod.snd (Prod.snd x))))
            (F24_J31 n))
        none))
theorem ok24 (n : Nat) : FunOK Try.prog ⟨24, sig24, F24 n⟩ :=
  fun_ok (hints := ⟨[(31, ⟨[(1, .one (.own 1)), (4, .one (.str))], [(1, .cells [.int .i64, .int .i64, .int .u64])], 2⟩)], []⟩) (fuel := n) (c := Try.f24.body.getD .skip) (rs := Try.f24.results.toList) tt_ok mix (FsOK.cons (ok30 n) (FsOK.cons (ok31 n) (FsOK.nil))) Try.func24 (by kernel_rfl) (by kernel_rfl) rfl (by kernel_rfl) rfl rfl (by kernel_rfl)
-- watchfire/watchfirelaw13.CondTexts
def sig6 : Sig := ⟨(.cons (.one (.c (.ro (.cons .str .nil)))) (.cons (.agg (.cons (.int .u8) (.cons (.int .i64) (.cons (.int .u64) .nil)))) (.cons (.agg (.cons (.int .u8) (.cons (.int .i16) (.cons (.int .u8) .nil)))) .nil))), (.cons (.one (.c .bool)) .nil)⟩
def F6_L1043325 : Nat →
  Arr
      [PT.int IntKind.i64, PT.int IntKind.i64, PT.int IntKind.u8, PT.int IntKind.i16, PT.int IntKind.u8,
        PT.list (CTs.cons (CT.int IntKind.u8) (CTs.cons (CT.int IntKind.i64) (CTs.cons (CT.int IntKind.u64) CTs.nil)))]
      (Option (Bool × Unit)) →
    Arr
        [PT.int IntKind.i64, PT.bytes, PT.int IntKind.i64, PT.int IntKind.i64, PT.int IntKind.i64, PT.int IntKind.i64,
          PT.int IntKind.u8, PT.int IntKind.i16, PT.int IntKind.u8, PT.int IntKind.u8, PT.int IntKind.i64,
          PT.int IntKind.u64, PT.list (CTs.cons CT.str CTs.nil),
          PT.list
            (CTs.cons (CT.int IntKind.u8) (CTs.cons (CT.int IntKind.i64) (CTs.cons (CT.int IntKind.u64) CTs.nil)))]
        (Option (Bool × Unit)) →
      Int64 →
        List UInt8 →
          Int64 →
            Int64 →
              Int64 →
                Int64 →
                  UInt8 →
                    Int16 →
                      UInt8 →
                        UInt8 →
                          Int64 → UInt64 → List (List UInt8) → List (UInt8 × Int64 × UInt64) → Option (Bool × Unit) := fun (n : Nat)
    (rec :
      Arr
        [PT.int IntKind.i64, PT.int IntKind.i64, PT.int IntKind.u8, PT.int IntKind.i16, PT.int IntKind.u8,
          PT.list
            (CTs.cons (CT.int IntKind.u8) (CTs.cons (CT.int IntKind.i64) (CTs.cons (CT.int IntKind.u64) CTs.nil)))]
        (Option (Bool × Unit)))
    (rec_1 :
      Arr
        [PT.int IntKind.i64, PT.bytes, PT.int IntKind.i64, PT.int IntKind.i64, PT.int IntKind.i64, PT.int IntKind.i64,
          PT.int IntKind.u8, PT.int IntKind.i16, PT.int IntKind.u8, PT.int IntKind.u8, PT.int IntKind.i64,
          PT.int IntKind.u64, PT.list (CTs.cons CT.str CTs.nil),
          PT.list
            (CTs.cons (CT.int IntKind.u8) (CTs.cons (CT.int IntKind.i64) (CTs.cons (CT.int IntKind.u64) CTs.nil)))]
        (Option (Bool × Unit)))
    (from_ : Int64) (t_3 : List UInt8) (t_1_1 t_2_1 t_3_1 t_4 : Int64) (s0_1 : UInt8) (s1_1 : Int16) (s2_1 z0 : UInt8)
    (z1 : Int64) (z2 : UInt64) (l : List (List UInt8)) (t_5 : List (UInt8 × Int64 × UInt64)) =>
  oite (decide (t_4 < t_3_1))
    (obind (at? t_3 (Int64.toInt t_4)) fun (x_16 : UInt8) =>
      oite (decide (x_16 = (32 : UInt8)))
        (oite
          (decide ((0 : Int) ≤ Int64.toInt t_4) && Nat.ble (Int.toNat (Int64.toInt t_4)) (List.length t_3) &&
            (decide ((0 : Int) ≤ Int64.toInt from_) &&
              Nat.ble (Int.toNat (Int64.toInt from_)) (Int.toNat (Int64.toInt t_4))))
          (oite
            (Nat.ble
              (List.length l +
                List.length [List.drop (Int.toNat (Int64.toInt from_)) (List.take (Int.toNat (Int64.toInt t_4)) t_3)])
              (4294967296 : Nat))
            (rec_1 (t_4 + (1 : Int64)) t_3 t_1_1 t_2_1 t_3_1 (t_4 + (1 : Int64)) s0_1 s1_1 s2_1 z0 z1 z2
              (l ++ [List.drop (Int.toNat (Int64.toInt from_)) (List.take (Int.toNat (Int64.toInt t_4)) t_3)]) t_5)
            none)
          none)
        (rec_1 from_ t_3 t_1_1 t_2_1 t_3_1 (t_4 + (1 : Int64)) s0_1 s1_1 s2_1 z0 z1 z2 l t_5))
    (obind (F20 n l) fun (x_16 : ((UInt8 × Int64 × UInt64) × Int64) × Unit) =>
      oite (!decide (Prod.snd (Prod.fst x_16) = (0 : Int64))) (some (false, ()))
        (oite
          (!(decide (Prod.fst (Prod.fst (Prod.fst x_16)) = z0) &&
              (decide (Prod.fst (Prod.snd (Prod.fst (Prod.fst x_16))) = z1) &&
                (decide (Prod.snd (Prod.snd (Prod.fst (Prod.fst x_16))) = z2) && true))))
          (some (false, ())) (rec t_1_1 (t_2_1 + (1 : Int64)) s0_1 s1_1 s2_1 t_5)))
def F6_R1043325 : Nat →
  Arr
      [PT.int IntKind.i64, PT.int IntKind.i64, PT.int IntKind.u8, PT.int IntKind.i16, PT.int IntKind.u8,
        PT.list (CTs.cons (CT.int IntKind.u8) (CTs.cons (CT.int IntKind.i64) (CTs.cons (CT.int IntKind.u64) CTs.nil)))]
      (Option (Bool × Unit)) →
    Nat →
      PT.T (PT.int IntKind.i64) →
        List UInt8 →
          Int64 →
            Int64 →
              Int64 →
                Int64 →
                  UInt8 →
                    Int16 →
                      UInt8 →
                        UInt8 →
                          Int64 → UInt64 → List (List UInt8) → List (UInt8 × Int64 × UInt64) → Option (Bool × Unit) := fun (n : Nat)
    (rec :
      Arr
        [PT.int IntKind.i64, PT.int IntKind.i64, PT.int IntKind.u8, PT.int IntKind.i16, PT.int IntKind.u8,
          PT.list
            (CTs.cons (CT.int IntKind.u8) (CTs.cons (CT.int IntKind.i64) (CTs.cons (CT.int IntKind.u64) CTs.nil)))]
        (Option (Bool × Unit))) =>
  ofixA (1043325 : Nat)
    [PT.int IntKind.i64, PT.bytes, PT.int IntKind.i64, PT.int IntKind.i64, PT.int IntKind.i64, PT.int IntKind.i64,
      PT.int IntKind.u8, PT.int IntKind.i16, PT.int IntKind.u8, PT.int IntKind.u8, PT.int IntKind.i64,
      PT.int IntKind.u64, PT.list (CTs.cons CT.str CTs.nil),
      PT.list (CTs.cons (CT.int IntKind.u8) (CTs.cons (CT.int IntKind.i64) (CTs.cons (CT.int IntKind.u64) CTs.nil)))]
    (F6_L1043325 n rec)
def F6_L509 : Nat →
  Arr
      [PT.int IntKind.i64, PT.int IntKind.i64, PT.int IntKind.u8, PT.int IntKind.i16, PT.int IntKind.u8,
        PT.list (CTs.cons (CT.int IntKind.u8) (CTs.cons (CT.int IntKind.i64) (CTs.cons (CT.int IntKind.u64) CTs.nil)))]
      (Option (Bool × Unit)) →
    Int64 → Int64 → UInt8 → Int16 → UInt8 → List (UInt8 × Int64 × UInt64) → Option (Bool × Unit) := fun (n : Nat)
    (rec :
      Arr
        [PT.int IntKind.i64, PT.int IntKind.i64, PT.int IntKind.u8, PT.int IntKind.i16, PT.int IntKind.u8,
          PT.list
            (CTs.cons (CT.int IntKind.u8) (CTs.cons (CT.int IntKind.i64) (CTs.cons (CT.int IntKind.u64) CTs.nil)))]
        (Option (Bool × Unit)))
    (t t_1 : Int64) (s0 : UInt8) (s1 : Int16) (s2 : UInt8) (t_2 : List (UInt8 × Int64 × UInt64)) =>
  oite (decide (t_1 < t))
    (oite (decide ((0 : Int) ≤ Int64.toInt t_1) && Nat.blt (Int.toNat (Int64.toInt t_1)) (List.length t_2))
      (obind t_2[Int.toNat (Int64.toInt t_1)]? fun (x_12 : UInt8 × Int64 × UInt64) =>
        obind (F12 n (Prod.fst x_12, Prod.fst (Prod.snd x_12), Prod.snd (Prod.snd x_12)))
          fun (x_13 : (Int64 × Int64 × UInt64) × Unit) =>
          obind
            (F13 n (Prod.fst (Prod.fst x_13), Prod.fst (Prod.snd (Prod.fst x_13)), Prod.snd (Prod.snd (Prod.fst x_13))))
            fun (x_14 : Int64 × Unit) =>
            oite (!decide (Prod.fst x_14 = (0 : Int64))) (rec t (t_1 + (1 : Int64)) s0 s1 s2 t_2)
              (obind (F23 n (Prod.fst x_12, Prod.fst (Prod.snd x_12), Prod.snd (Prod.snd x_12)))
                fun (x_15 : List UInt8 × Unit) =>
                oite (Nat.ble (List.length (Prod.fst x_15) + List.length [(32 : UInt8)]) (4294967296 : Nat))
                  (F6_R1043325 n rec n (0 : Int64) (Prod.fst x_15 ++ [(32 : UInt8)]) t t_1
                    (Int64.ofInt ↑(List.length (Prod.fst x_15 ++ [(32 : UInt8)]))) (0 : Int64) s0 s1 s2 (Prod.fst x_12)
                    (Prod.fst (Prod.snd x_12)) (Prod.snd (Prod.snd x_12)) [] t_2)
                  none))
      none)
    (obind (F11 n (s0, s1, s2)) fun (x_12 : (UInt8 × Int64 × UInt64) × Unit) =>
      obind (F12 n (Prod.fst (Prod.fst x_12), Prod.fst (Prod.snd (Prod.fst x_12)), Prod.snd (Prod.snd (Prod.fst x_12))))
        fun (x_13 : (Int64 × Int64 × UInt64) × Unit) =>
        obind
          (F13 n (Prod.fst (Prod.fst x_13), Prod.fst (Prod.snd (Prod.fst x_13)), Prod.snd (Prod.snd (Prod.fst x_13))))
          fun (x_14 : Int64 × Unit) => some (decide (Prod.fst x_14 = (0 : Int64)), ()))
def F6_R509 : Nat →
  Nat →
    PT.T (PT.int IntKind.i64) → Int64 → UInt8 → Int16 → UInt8 → List (UInt8 × Int64 × UInt64) → Option (Bool × Unit) := fun (n : Nat) =>
  ofixA (509 : Nat)
    [PT.int IntKind.i64, PT.int IntKind.i64, PT.int IntKind.u8, PT.int IntKind.i16, PT.int IntKind.u8,
      PT.list (CTs.cons (CT.int IntKind.u8) (CTs.cons (CT.int IntKind.i64) (CTs.cons (CT.int IntKind.u64) CTs.nil)))]
    (F6_L509 n)
def F6 : Nat → List (List UInt8) × (UInt8 × Int64 × UInt64) × UInt8 × Int16 × UInt8 → Option (Bool × Unit) := fun (n : Nat) (x : List (List UInt8) × (UInt8 × Int64 × UInt64) × UInt8 × Int16 × UInt8) =>
  obind (F7 n ()) fun (x_1 : Bool × Unit) =>
    oite (!Prod.fst x_1) (some (false, ()))
      (oite (decide ((6 : Int64) < Int64.ofInt ↑(List.length (Prod.fst x)))) (some (true, ()))
        (obind (F20 n (Prod.fst x)) fun (x_2 : ((UInt8 × Int64 × UInt64) × Int64) × Unit) =>
          obind (F21 n (Prod.fst x)) fun (x_3 : ((Int64 × Int64 × UInt64) × Int64) × Unit) =>
            oite (!decide (Prod.snd (Prod.fst x_2) = Prod.snd (Prod.fst x_3))) (some (false, ()))
              (obind
                (F12 n
                  (Prod.fst (Prod.fst (Prod.fst x_2)), Prod.fst (Prod.snd (Prod.fst (Prod.fst x_2))),
                    Prod.snd (Prod.snd (Prod.fst (Prod.fst x_2)))))
                fun (x_4 : (Int64 × Int64 × UInt64) × Unit) =>
                oite
                  (!(decide (Prod.fst (Prod.fst x_4) = Prod.fst (Prod.fst (Prod.fst x_3))) &&
                      (decide (Prod.fst (Prod.snd (Prod.fst x_4)) = Prod.fst (Prod.snd (Prod.fst (Prod.fst x_3)))) &&
                        (decide (Prod.snd (Prod.snd (Prod.fst x_4)) = Prod.snd (Prod.snd (Prod.fst (Prod.fst x_3)))) &&
                          true))))
                  (some (false, ()))
                  (obind
                    (F22 n
                      (Prod.fst (Prod.fst (Prod.snd x)), Prod.fst (Prod.snd (Prod.fst (Prod.snd x))),
                        Prod.snd (Prod.snd (Prod.fst (Prod.snd x)))))
                    fun (x_5 : Int64 × Unit) =>
                    obind
                      (F12 n
                        (Prod.fst (Prod.fst (Prod.snd x)), Prod.fst (Prod.snd (Prod.fst (Prod.snd x))),
                          Prod.snd (Prod.snd (Prod.fst (Prod.snd x)))))
                      fun (x_6 : (Int64 × Int64 × UInt64) × Unit) =>
                      obind
                        (F13 n
                          (Prod.fst (Prod.fst x_6), Prod.fst (Prod.snd (Prod.fst x_6)),
                            Prod.snd (Prod.snd (Prod.fst x_6))))
                        fun (x_7 : Int64 × Unit) =>
                        oite (!decide (Prod.fst x_5 = Prod.fst x_7)) (some (false, ()))
                          (obind
                            (F23 n
                              (Prod.fst (Prod.fst (Prod.snd x)), Prod.fst (Prod.snd (Prod.fst (Prod.snd x))),
                                Prod.snd (Prod.snd (Prod.fst (Prod.snd x)))))
                            fun (x_8 : List UInt8 × Unit) =>
                            obind
                              (F12 n
                                (Prod.fst (Prod.fst (Prod.snd x)), Prod.fst (Prod.snd (Prod.fst (Prod.snd x))),
                                  Prod.snd (Prod.snd (Prod.fst (Prod.snd x)))))
                              fun (x_9 : (Int64 × Int64 × UInt64) × Unit) =>
                              obind
                                (F24 n
                                  (Prod.fst (Prod.fst x_9), Prod.fst (Prod.snd (Prod.fst x_9)),
                                    Prod.snd (Prod.snd (Prod.fst x_9))))
                                fun (x_10 : List UInt8 × Unit) =>
                                oite (!Prod.fst x_8 == Prod.fst x_10) (some (false, ()))
                                  (obind
                                    (F11 n
                                      (Prod.fst (Prod.snd (Prod.snd x)), Prod.fst (Prod.snd (Prod.snd (Prod.snd x))),
                                        Prod.snd (Prod.snd (Prod.snd (Prod.snd x)))))
                                    fun (x_11 : (UInt8 × Int64 × UInt64) × Unit) =>
                                    F6_R509 n n
                                      (Int64.ofInt
                                        ↑(List.length
                                            [(Prod.fst (Prod.fst (Prod.snd x)),
                                                Prod.fst (Prod.snd (Prod.fst (Prod.snd x))),
                                                Prod.snd (Prod.snd (Prod.fst (Prod.snd x)))),
                                              (Prod.fst (Prod.fst x_11), Prod.fst (Prod.snd (Prod.fst x_11)),
                                                Prod.snd (Prod.snd (Prod.fst x_11)))]))
                                      (0 : Int64) (Prod.fst (Prod.snd (Prod.snd x)))
                                      (Prod.fst (Prod.snd (Prod.snd (Prod.snd x))))
                                      (Prod.snd (Prod.snd (Prod.snd (Prod.snd x))))
                                      [(Prod.fst (Prod.fst (Prod.snd x)), Prod.fst (Prod.snd (Prod.fst (Prod.snd x))),
                                          Prod.snd (Prod.snd (Prod.fst (Prod.snd x)))),
                                        (Prod.fst (Prod.fst x_11), Prod.fst (Prod.snd (Prod.fst x_11)),
                                          Prod.snd (Prod.snd (Prod.fst x_11)))]))))))
theorem F6_R1043325_s (n : Nat) (rec : Arr [PT.int IntKind.i64, PT.int IntKind.i64, PT.int IntKind.u8, PT.int IntKind.i16, PT.int IntKind.u8, PT.list (CTs.cons (CT.int IntKind.u8) (CTs.cons (CT.int IntKind.i64) (CTs.cons (CT.int IntKind.u64) CTs.nil)))] (Option (Bool × Unit))) (m_ : Nat) : F6_R1043325 n rec (m_ + 1) = F6_L1043325 n rec (F6_R1043325 n rec m_) := rfl
theorem F6_R509_s (n : Nat) (m_ : Nat) : F6_R509 n (m_ + 1) = F6_L509 n (F6_R509 n m_) := rfl
theorem ok6 (n : Nat) : FunOK Try.prog ⟨6, sig6, F6 n⟩ :=
  fun_ok (hints := ⟨[], [(509, ⟨[(5, .one (.own 3)), (62, .one (.own 4)), (63, .one (.int .i64)), (64, .one (.int .i64))], [(3, .cells [.int .u8, .int .i16, .int .u8]), (4, .row (.cons (.int .u8) (.cons (.int .i64) (.cons (.int .u64) .nil))))], 5⟩), (1043325, ⟨[(5, .one (.own 3)), (12, .one (.own 4)), (13, .one (.own 5)), (14, .one (.int .i64)), (15, .one (.str)), (62, .one (.own 6)), (63, .one (.int .i64)), (64, .one (.int .i64)), (76, .one (.int .i64)), (77, .one (.int .i64))], [(3, .cells [.int .u8, .int .i16, .int .u8]), (4, .cells [.int .u8, .int .i64, .int .u64]), (5, .row (.cons .str .nil)), (6, .row (.cons (.int .u8) (.cons (.int .i64) (.cons (.int .u64) .nil))))], 7⟩)]⟩) (fuel := n) (c := Try.f6.body.getD .skip) (rs := Try.f6.results.toList) tt_ok mix (FsOK.cons (ok7 n) (FsOK.cons (ok20 n) (FsOK.cons (ok21 n) (FsOK.cons (ok12 n) (FsOK.cons (ok22 n) (FsOK.cons (ok13 n) (FsOK.cons (ok23 n) (FsOK.cons (ok24 n) (FsOK.cons (ok11 n) (FsOK.nil)))))))))) Try.func6 (by kernel_rfl) (by kernel_rfl) rfl (by kernel_rfl) rfl rfl (by kernel_rfl)
end Go.Proofs.Ytbogfhocjpicjaa
