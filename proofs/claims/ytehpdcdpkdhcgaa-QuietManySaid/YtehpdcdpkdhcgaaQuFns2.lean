/- What the functions of this seat compute, found by walking their code symbolically: each F is what the walk finds, each ok says that the Go function keeps it as a contract. Printed by a program of this repo's. -/
import Derived.Test.YtehpdcdpkdhcgaaQuFns1
import Derived.Test.YtehpdcdpkdhcgaaSxClone
open Go Go.Sx
namespace Go.Proofs.Ytehpdcdpkdhcgaa
set_option maxRecDepth 100000
set_option linter.unusedVariables false
-- watchfire/quiet.New
def sig14 : Sig := ⟨.nil, (.cons (.one (.ptr (.cons (.map (.one (.int .i64)) (.agg (.cons (.ro (.cons .str (.cons (.int .u8) (.cons .str .nil)))) (.cons (.int .u64) (.cons (.int .u64) .nil))))) (.cons (.c (.int .i64)) .nil)))) .nil)⟩
def F14 : Nat → Unit → Option (Option (List (Int64 × List (List UInt8 × UInt8 × List UInt8) × UInt64 × UInt64) × Int64) × Unit) := fun (n : Nat) (x : Unit) => some (some ([], (0 : Int64)), ())
theorem ok14 (n : Nat) : FunOK Try.prog ⟨14, sig14, F14 n⟩ :=
  fun_ok (hints := ⟨[], []⟩) (fuel := n) (c := Try.f14.body.getD .skip) (rs := Try.f14.results.toList) tt_ok mix (FsOK.nil) Try.func14 (by kernel_rfl) (by kernel_rfl) rfl (by kernel_rfl) rfl rfl (by kernel_rfl)
-- watchfire/lab.word
def sig63 : Sig := ⟨(.cons (.one (.c .str)) (.cons (.one (.c (.int .i64))) (.cons (.one (.c .bool)) .nil))), (.cons (.one (.c .bool)) .nil)⟩
def F63_J471 : Arr [PT.bool, PT.bytes, PT.nat] (Option (Bool × Unit)) → Bool → Int32 → Bool → List UInt8 → Nat → Option (Bool × Unit) := fun (rec : Arr [PT.bool, PT.bytes, PT.nat] (Option (Bool × Unit))) (also_1 : Bool) (c : Int32) (t_1 : Bool)
    (t_1_1 : List UInt8) (x_2 : Nat) =>
  oite t_1 (rec also_1 t_1_1 x_2)
    (oite also_1
      (oite (decide ((48 : Int32) ≤ c))
        (oite (decide (c ≤ (57 : Int32))) (rec also_1 t_1_1 x_2)
          (oite (decide (c = (46 : Int32))) (rec also_1 t_1_1 x_2)
            (oite (decide (c = (95 : Int32))) (rec also_1 t_1_1 x_2)
              (oite (decide (c = (45 : Int32))) (rec also_1 t_1_1 x_2) (some (false, ()))))))
        (oite (decide (c = (46 : Int32))) (rec also_1 t_1_1 x_2)
          (oite (decide (c = (95 : Int32))) (rec also_1 t_1_1 x_2)
            (oite (decide (c = (45 : Int32))) (rec also_1 t_1_1 x_2) (some (false, ()))))))
      (some (false, ())))
def F63_L29 : Arr [PT.bool, PT.bytes, PT.nat] (Option (Bool × Unit)) → Bool → List UInt8 → Nat → Option (Bool × Unit) := fun (rec : Arr [PT.bool, PT.bytes, PT.nat] (Option (Bool × Unit))) (also : Bool) (t : List UInt8) (x_1 : Nat) =>
  oite (Nat.blt x_1 (List.length t))
    (ojoinA (471 : Nat) [PT.bool, PT.int IntKind.i32, PT.bool, PT.bytes, PT.nat]
      (fun (J : Arr [PT.bool, PT.int IntKind.i32, PT.bool, PT.bytes, PT.nat] (Option (Bool × Unit))) =>
        oite (decide ((97 : Int32) ≤ Int32.ofInt ↑(runeAt t x_1)))
          (J also (Int32.ofInt ↑(runeAt t x_1)) (decide (Int32.ofInt ↑(runeAt t x_1) ≤ (122 : Int32))) t
            (x_1 + runeLen t x_1))
          (J also (Int32.ofInt ↑(runeAt t x_1)) false t (x_1 + runeLen t x_1)))
      (F63_J471 rec))
    (some (true, ()))
def F63_R29 : Nat → PT.T PT.bool → List UInt8 → Nat → Option (Bool × Unit) := ofixA (29 : Nat) [PT.bool, PT.bytes, PT.nat] F63_L29
def F63 : Nat → List UInt8 × Int64 × Bool → Option (Bool × Unit) := fun (n : Nat) (x : List UInt8 × Int64 × Bool) =>
  oite (decide (Int64.ofInt ↑(List.length (Prod.fst x)) < (1 : Int64))) (some (false, ()))
    (oite (decide (Prod.fst (Prod.snd x) < Int64.ofInt ↑(List.length (Prod.fst x)))) (some (false, ()))
      (F63_R29 n (Prod.snd (Prod.snd x)) (Prod.fst x) (0 : Nat)))
theorem F63_R29_s  (m_ : Nat) : F63_R29  (m_ + 1) = F63_L29  (F63_R29  m_) := rfl
theorem ok63 (n : Nat) : FunOK Try.prog ⟨63, sig63, F63 n⟩ :=
  fun_ok (hints := ⟨[(471, ⟨[(2, .one (.bool)), (8, .one (.int .i32)), (19, .one (.own 3)), (23, .one (.bool))], [(3, .iter)], 4⟩)], [(29, ⟨[(2, .one (.bool)), (19, .one (.own 3))], [(3, .iter)], 4⟩)]⟩) (fuel := n) (c := Try.f63.body.getD .skip) (rs := Try.f63.results.toList) tt_ok mix (FsOK.nil) Try.func63 (by kernel_rfl) (by kernel_rfl) rfl (by kernel_rfl) rfl rfl (by kernel_rfl)
-- watchfire/lab.Key
def sig55 : Sig := ⟨(.cons (.one (.c .str)) .nil), (.cons (.one (.c .bool)) .nil)⟩
def F55 : Nat → List UInt8 → Option (Bool × Unit) := fun (n : Nat) (x : List UInt8) =>
  obind (F63 n (x, (8 : Int64), false)) fun (x_1 : Bool × Unit) => some (Prod.fst x_1, ())
theorem ok55 (n : Nat) : FunOK Try.prog ⟨55, sig55, F55 n⟩ :=
  fun_ok (hints := ⟨[], []⟩) (fuel := n) (c := Try.f55.body.getD .skip) (rs := Try.f55.results.toList) tt_ok mix (FsOK.cons (ok63 n) (FsOK.nil)) Try.func55 (by kernel_rfl) (by kernel_rfl) rfl (by kernel_rfl) rfl rfl (by kernel_rfl)
-- watchfire/lab.Value
def sig56 : Sig := ⟨(.cons (.one (.c .str)) .nil), (.cons (.one (.c .bool)) .nil)⟩
def F56 : Nat → List UInt8 → Option (Bool × Unit) := fun (n : Nat) (x : List UInt8) =>
  obind (F63 n (x, (16 : Int64), true)) fun (x_1 : Bool × Unit) => some (Prod.fst x_1, ())
theorem ok56 (n : Nat) : FunOK Try.prog ⟨56, sig56, F56 n⟩ :=
  fun_ok (hints := ⟨[], []⟩) (fuel := n) (c := Try.f56.body.getD .skip) (rs := Try.f56.results.toList) tt_ok mix (FsOK.cons (ok63 n) (FsOK.nil)) Try.func56 (by kernel_rfl) (by kernel_rfl) rfl (by kernel_rfl) rfl rfl (by kernel_rfl)
-- (watchfire/match.Ask).Check
def sig41 : Sig := ⟨(.cons (.agg (.cons .str (.cons (.int .u8) (.cons .str .nil)))) .nil), (.cons (.one (.c (.int .i64))) .nil)⟩
def F41 : Nat → List UInt8 × UInt8 × List UInt8 → Option (Int64 × Unit) := fun (n : Nat) (x : List UInt8 × UInt8 × List UInt8) =>
  obind (F55 n (Prod.fst x)) fun (x_1 : Bool × Unit) =>
    oite (!Prod.fst x_1) (some ((8 : Int64), ()))
      (oite (decide (Prod.fst (Prod.snd x) < (1 : UInt8))) (some ((12 : Int64), ()))
        (oite (decide ((5 : UInt8) < Prod.fst (Prod.snd x))) (some ((12 : Int64), ()))
          (oite (decide ((4 : UInt8) ≤ Prod.fst (Prod.snd x)))
            (oite (!Prod.snd (Prod.snd x) == []) (some ((27 : Int64), ()))
              (oite (decide (Prod.fst (Prod.snd x) < (4 : UInt8)))
                (obind (F56 n (Prod.snd (Prod.snd x))) fun (x_2 : Bool × Unit) =>
                  oite (!Prod.fst x_2) (some ((27 : Int64), ())) (some ((0 : Int64), ())))
                (some ((0 : Int64), ()))))
            (oite (decide (Prod.fst (Prod.snd x) < (4 : UInt8)))
              (obind (F56 n (Prod.snd (Prod.snd x))) fun (x_2 : Bool × Unit) =>
                oite (!Prod.fst x_2) (some ((27 : Int64), ())) (some ((0 : Int64), ())))
              (some ((0 : Int64), ()))))))
theorem ok41 (n : Nat) : FunOK Try.prog ⟨41, sig41, F41 n⟩ :=
  fun_ok (hints := ⟨[], []⟩) (fuel := n) (c := Try.f41.body.getD .skip) (rs := Try.f41.results.toList) tt_ok mix (FsOK.cons (ok55 n) (FsOK.cons (ok56 n) (FsOK.nil))) Try.func41 (by kernel_rfl) (by kernel_rfl) rfl (by kernel_rfl) rfl rfl (by kernel_rfl)
-- (watchfire/match.Asks).Check
def sig35 : Sig := ⟨(.cons (.one (.c (.ro (.cons .str (.cons (.int .u8) (.cons .str .nil)))))) .nil), (.cons (.one (.c (.int .i64))) .nil)⟩
def F35_L29 : Nat →
  Arr
      [PT.list (CTs.cons CT.str (CTs.cons (CT.int IntKind.u8) (CTs.cons CT.str CTs.nil))), PT.int IntKind.i64,
        PT.int IntKind.i64]
      (Option (Int64 × Unit)) →
    List (List UInt8 × UInt8 × List UInt8) → Int64 → Int64 → Option (Int64 × Unit) := fun (n : Nat)
    (rec :
      Arr
        [PT.list (CTs.cons CT.str (CTs.cons (CT.int IntKind.u8) (CTs.cons CT.str CTs.nil))), PT.int IntKind.i64,
          PT.int IntKind.i64]
        (Option (Int64 × Unit)))
    (t : List (List UInt8 × UInt8 × List UInt8)) (t_1 t_2 : Int64) =>
  oite (decide (t_2 < t_1))
    (obind (at? t (Int64.toInt t_2)) fun (x_1 : List UInt8 × UInt8 × List UInt8) =>
      obind (F41 n (Prod.fst x_1, Prod.fst (Prod.snd x_1), Prod.snd (Prod.snd x_1))) fun (x_2 : Int64 × Unit) =>
        oite (!decide (Prod.fst x_2 = (0 : Int64))) (some (Prod.fst x_2, ())) (rec t t_1 (t_2 + (1 : Int64))))
    (some ((0 : Int64), ()))
def F35_R29 : Nat →
  Nat →
    PT.T (PT.list (CTs.cons CT.str (CTs.cons (CT.int IntKind.u8) (CTs.cons CT.str CTs.nil)))) →
      Int64 → Int64 → Option (Int64 × Unit) := fun (n : Nat) =>
  ofixA (29 : Nat)
    [PT.list (CTs.cons CT.str (CTs.cons (CT.int IntKind.u8) (CTs.cons CT.str CTs.nil))), PT.int IntKind.i64,
      PT.int IntKind.i64]
    (F35_L29 n)
def F35 : Nat → List (List UInt8 × UInt8 × List UInt8) → Option (Int64 × Unit) := fun (n : Nat) (x : List (List UInt8 × UInt8 × List UInt8)) =>
  oite (decide ((8 : Int64) < Int64.ofInt ↑(List.length x))) (some ((5 : Int64), ()))
    (F35_R29 n n x (Int64.ofInt ↑(List.length x)) (0 : Int64))
theorem F35_R29_s (n : Nat) (m_ : Nat) : F35_R29 n (m_ + 1) = F35_L29 n (F35_R29 n m_) := rfl
theorem ok35 (n : Nat) : FunOK Try.prog ⟨35, sig35, F35 n⟩ :=
  fun_ok (hints := ⟨[], [(29, ⟨[(9, .one (.ro (.cons .str (.cons (.int .u8) (.cons .str .nil))))), (10, .one (.int .i64)), (11, .one (.int .i64))], [], 1⟩)]⟩) (fuel := n) (c := Try.f35.body.getD .skip) (rs := Try.f35.results.toList) tt_ok mix (FsOK.cons (ok41 n) (FsOK.nil)) Try.func35 (by kernel_rfl) (by kernel_rfl) rfl (by kernel_rfl) rfl rfl (by kernel_rfl)
-- (watchfire/quiet.Quiet).Check
def sig28 : Sig := ⟨(.cons (.agg (.cons (.ro (.cons .str (.cons (.int .u8) (.cons .str .nil)))) (.cons (.int .u64) (.cons (.int .u64) .nil)))) .nil), (.cons (.one (.c (.int .i64))) .nil)⟩
def F28 : Nat → List (List UInt8 × UInt8 × List UInt8) × UInt64 × UInt64 → Option (Int64 × Unit) := fun (n : Nat) (x : List (List UInt8 × UInt8 × List UInt8) × UInt64 × UInt64) =>
  oite (decide (Int64.ofInt ↑(List.length (Prod.fst x)) = (0 : Int64))) (some ((2 : Int64), ()))
    (oite (decide (Prod.snd (Prod.snd x) ≤ Prod.fst (Prod.snd x))) (some ((6 : Int64), ()))
      (oite (decide ((1099511627776 : UInt64) < Prod.snd (Prod.snd x))) (some ((6 : Int64), ()))
        (obind (F35 n (Prod.fst x)) fun (x_1 : Int64 × Unit) => some (Prod.fst x_1, ()))))
theorem ok28 (n : Nat) : FunOK Try.prog ⟨28, sig28, F28 n⟩ :=
  fun_ok (hints := ⟨[], []⟩) (fuel := n) (c := Try.f28.body.getD .skip) (rs := Try.f28.results.toList) tt_ok mix (FsOK.cons (ok35 n) (FsOK.nil)) Try.func28 (by kernel_rfl) (by kernel_rfl) rfl (by kernel_rfl) rfl rfl (by kernel_rfl)
-- slices.Clone[watchfire/match.Asks,watchfire/match.Ask]
def sig29 : Sig := ⟨(.cons (.one (.c (.ro (.cons .str (.cons (.int .u8) (.cons .str .nil)))))) .nil), (.cons (.one (.row (.cons .str (.cons (.int .u8) (.cons .str .nil))))) .nil)⟩
def F29 (n : Nat) (xs : List (CTs.T (.cons .str (.cons (.int .u8) (.cons .str .nil))))) : Option (List (CTs.T (.cons .str (.cons (.int .u8) (.cons .str .nil)))) × Unit) := cloneF (.cons .str (.cons (.int .u8) (.cons .str .nil))) xs
theorem ok29 (n : Nat) : FunOK Try.prog ⟨29, sig29, F29 n⟩ :=
  clone_ok (c := Try.f29.body.getD .skip) (rs := Try.f29.results.toList) tt_ok mix Try.func29 (by kernel_rfl) rfl (by kernel_rfl) rfl rfl ⟨rfl, rfl, rfl⟩ ⟨rfl, rfl, rfl⟩ ⟨rfl, rfl, rfl⟩ (by kernel_rfl) (by kernel_rfl) (fun xs => by kernel_rfl)
-- (*watchfire/quiet.List).Add
def sig15 : Sig := ⟨(.cons (.one (.ptr (.cons (.map (.one (.int .i64)) (.agg (.cons (.ro (.cons .str (.cons (.int .u8) (.cons .str .nil)))) (.cons (.int .u64) (.cons (.int .u64) .nil))))) (.cons (.c (.int .i64)) .nil)))) (.cons (.agg (.cons (.ro (.cons .str (.cons (.int .u8) (.cons .str .nil)))) (.cons (.int .u64) (.cons (.int .u64) .nil)))) .nil)), (.cons (.one (.c (.int .i64))) (.cons (.one (.c (.int .i64))) .nil))⟩
def F15 : Nat →
  Option (List (Int64 × List (List UInt8 × UInt8 × List UInt8) × UInt64 × UInt64) × Int64) ×
      List (List UInt8 × UInt8 × List UInt8) × UInt64 × UInt64 →
    Option ((Int64 × Int64) × Option (List (Int64 × List (List UInt8 × UInt8 × List UInt8) × UInt64 × UInt64) × Int64)) := fun (n : Nat)
    (x :
      Option (List (Int64 × List (List UInt8 × UInt8 × List UInt8) × UInt64 × UInt64) × Int64) ×
        List (List UInt8 × UInt8 × List UInt8) × UInt64 × UInt64) =>
  oelim (Prod.fst x) (some (((0 : Int64), (1 : Int64)), none))
    fun (x_1 : List (Int64 × List (List UInt8 × UInt8 × List UInt8) × UInt64 × UInt64) × Int64) =>
    obind (F28 n (Prod.fst (Prod.snd x), Prod.fst (Prod.snd (Prod.snd x)), Prod.snd (Prod.snd (Prod.snd x))))
      fun (x_2 : Int64 × Unit) =>
      oite (!decide (Prod.fst x_2 = (0 : Int64)))
        (some (((0 : Int64), Prod.fst x_2), some (Prod.fst x_1, Prod.snd x_1)))
        (oite (Nat.ble (List.length (Prod.fst x_1)) (4294967296 : Nat))
          (oite (decide (Int64.ofInt ↑(List.length (Prod.fst x_1)) = (32 : Int64)))
            (some (((0 : Int64), (5 : Int64)), some (Prod.fst x_1, Prod.snd x_1)))
            (obind (F29 n (Prod.fst (Prod.snd x))) fun (x_3 : List (List UInt8 × UInt8 × List UInt8) × Unit) =>
              some
                ((Prod.snd x_1 + (1 : Int64), (0 : Int64)),
                  some
                    (mput (VT.one (CT.int IntKind.i64))
                        (VT.agg
                          (CTs.cons (CT.ro (CTs.cons CT.str (CTs.cons (CT.int IntKind.u8) (CTs.cons CT.str CTs.nil))))
                            (CTs.cons (CT.int IntKind.u64) (CTs.cons (CT.int IntKind.u64) CTs.nil))))
                        (Prod.snd x_1 + (1 : Int64))
                        (Prod.fst x_3, Prod.fst (Prod.snd (Prod.snd x)), Prod.snd (Prod.snd (Prod.snd x)))
                        (Prod.fst x_1),
                      Prod.snd x_1 + (1 : Int64)))))
          none)
theorem ok15 (n : Nat) : FunOK Try.prog ⟨15, sig15, F15 n⟩ :=
  fun_ok (hints := ⟨[], []⟩) (fuel := n) (c := Try.f15.body.getD .skip) (rs := Try.f15.results.toList) tt_ok mix (FsOK.cons (ok28 n) (FsOK.cons (ok29 n) (FsOK.nil))) Try.func15 (by kernel_rfl) (by kernel_rfl) rfl (by kernel_rfl) rfl rfl (by kernel_rfl)
-- (*watchfire/quiet.List).End
def sig16 : Sig := ⟨(.cons (.one (.ptr (.cons (.map (.one (.int .i64)) (.agg (.cons (.ro (.cons .str (.cons (.int .u8) (.cons .str .nil)))) (.cons (.int .u64) (.cons (.int .u64) .nil))))) (.cons (.c (.int .i64)) .nil)))) (.cons (.one (.c (.int .i64))) (.cons (.one (.c (.int .u64))) .nil))), (.cons (.one (.c (.int .i64))) .nil)⟩
def F16 : Nat →
  Option (List (Int64 × List (List UInt8 × UInt8 × List UInt8) × UInt64 × UInt64) × Int64) × Int64 × UInt64 →
    Option (Int64 × Option (List (Int64 × List (List UInt8 × UInt8 × List UInt8) × UInt64 × UInt64) × Int64)) := fun (n : Nat)
    (x : Option (List (Int64 × List (List UInt8 × UInt8 × List UInt8) × UInt64 × UInt64) × Int64) × Int64 × UInt64) =>
  oelim (Prod.fst x) (some ((1 : Int64), none))
    fun (x_1 : List (Int64 × List (List UInt8 × UInt8 × List UInt8) × UInt64 × UInt64) × Int64) =>
    oite
      (!Option.isSome
          (mget (VT.one (CT.int IntKind.i64))
            (VT.agg
              (CTs.cons (CT.ro (CTs.cons CT.str (CTs.cons (CT.int IntKind.u8) (CTs.cons CT.str CTs.nil))))
                (CTs.cons (CT.int IntKind.u64) (CTs.cons (CT.int IntKind.u64) CTs.nil))))
            (Prod.fst (Prod.snd x)) (Prod.fst x_1)))
      (some ((14 : Int64), some (Prod.fst x_1, Prod.snd x_1)))
      (oite
        (decide
          (Prod.snd (Prod.snd x) ≤
            Prod.fst
              (Prod.snd
                (Option.getD
                  (mget (VT.one (CT.int IntKind.i64))
                    (VT.agg
                      (CTs.cons (CT.ro (CTs.cons CT.str (CTs.cons (CT.int IntKind.u8) (CTs.cons CT.str CTs.nil))))
                        (CTs.cons (CT.int IntKind.u64) (CTs.cons (CT.int IntKind.u64) CTs.nil))))
                    (Prod.fst (Prod.snd x)) (Prod.fst x_1))
                  ([], (0 : UInt64), (0 : UInt64))))))
        (some
          ((0 : Int64),
            some
              (mdel (VT.one (CT.int IntKind.i64))
                  (VT.agg
                    (CTs.cons (CT.ro (CTs.cons CT.str (CTs.cons (CT.int IntKind.u8) (CTs.cons CT.str CTs.nil))))
                      (CTs.cons (CT.int IntKind.u64) (CTs.cons (CT.int IntKind.u64) CTs.nil))))
                  (Prod.fst (Prod.snd x)) (Prod.fst x_1),
                Prod.snd x_1)))
        (some
          ((0 : Int64),
            some
              (mput (VT.one (CT.int IntKind.i64))
                  (VT.agg
                    (CTs.cons (CT.ro (CTs.cons CT.str (CTs.cons (CT.int IntKind.u8) (CTs.cons CT.str CTs.nil))))
                      (CTs.cons (CT.int IntKind.u64) (CTs.cons (CT.int IntKind.u64) CTs.nil))))
                  (Prod.fst (Prod.snd x))
                  (Prod.fst
                      (Option.getD
                        (mget (VT.one (CT.int IntKind.i64))
                          (VT.agg
                            (CTs.cons (CT.ro (CTs.cons CT.str (CTs.cons (CT.int IntKind.u8) (CTs.cons CT.str CTs.nil))))
                              (CTs.cons (CT.int IntKind.u64) (CTs.cons (CT.int IntKind.u64) CTs.nil))))
                          (Prod.fst (Prod.snd x)) (Prod.fst x_1))
                        ([], (0 : UInt64), (0 : UInt64))),
                    Prod.fst
                      (Prod.snd
                        (Option.getD
                          (mget (VT.one (CT.int IntKind.i64))
                            (VT.agg
                              (CTs.cons
                                (CT.ro (CTs.cons CT.str (CTs.cons (CT.int IntKind.u8) (CTs.cons CT.str CTs.nil))))
                                (CTs.cons (CT.int IntKind.u64) (CTs.cons (CT.int IntKind.u64) CTs.nil))))
                            (Prod.fst (Prod.snd x)) (Prod.fst x_1))
                          ([], (0 : UInt64), (0 : UInt64)))),
                    IK.minI IntKind.u64
                      (Prod.snd
                        (Prod.snd
                          (Option.getD
                            (mget (VT.one (CT.int IntKind.i64))
                              (VT.agg
                                (CTs.cons
                                  (CT.ro (CTs.cons CT.str (CTs.cons (CT.int IntKind.u8) (CTs.cons CT.str CTs.nil))))
                                  (CTs.cons (CT.int IntKind.u64) (CTs.cons (CT.int IntKind.u64) CTs.nil))))
                              (Prod.fst (Prod.snd x)) (Prod.fst x_1))
                            ([], (0 : UInt64), (0 : UInt64)))))
                      (Prod.snd (Prod.snd x)))
                  (Prod.fst x_1),
                Prod.snd x_1))))
theorem ok16 (n : Nat) : FunOK Try.prog ⟨16, sig16, F16 n⟩ :=
  fun_ok (hints := ⟨[], []⟩) (fuel := n) (c := Try.f16.body.getD .skip) (rs := Try.f16.results.toList) tt_ok mix (FsOK.nil) Try.func16 (by kernel_rfl) (by kernel_rfl) rfl (by kernel_rfl) rfl rfl (by kernel_rfl)
-- watchfire/watchfirelaw18.QuietMany
def sig4 : Sig := ⟨(.cons (.one (.c (.int .u8))) (.cons (.one (.c (.int .u8))) .nil)), (.cons (.one (.c .bool)) .nil)⟩
def F4_L125 : Nat →
  Arr
      [PT.int IntKind.u8, PT.int IntKind.u8, PT.int IntKind.i64, PT.int IntKind.i64,
        PT.opt
          (OTs.cons
            (OT.map (VT.one (CT.int IntKind.i64))
              (VT.agg
                (CTs.cons (CT.ro (CTs.cons CT.str (CTs.cons (CT.int IntKind.u8) (CTs.cons CT.str CTs.nil))))
                  (CTs.cons (CT.int IntKind.u64) (CTs.cons (CT.int IntKind.u64) CTs.nil)))))
            (OTs.cons (OT.c (CT.int IntKind.i64)) OTs.nil)),
        PT.list (CTs.cons CT.str (CTs.cons (CT.int IntKind.u8) (CTs.cons CT.str CTs.nil))), PT.int IntKind.u64,
        PT.int IntKind.u64]
      (Option (Bool × Unit)) →
    UInt8 →
      UInt8 →
        Int64 →
          Int64 →
            Option (List (Int64 × List (List UInt8 × UInt8 × List UInt8) × UInt64 × UInt64) × Int64) →
              List (List UInt8 × UInt8 × List UInt8) → UInt64 → UInt64 → Option (Bool × Unit) := fun (n : Nat)
    (rec :
      Arr
        [PT.int IntKind.u8, PT.int IntKind.u8, PT.int IntKind.i64, PT.int IntKind.i64,
          PT.opt
            (OTs.cons
              (OT.map (VT.one (CT.int IntKind.i64))
                (VT.agg
                  (CTs.cons (CT.ro (CTs.cons CT.str (CTs.cons (CT.int IntKind.u8) (CTs.cons CT.str CTs.nil))))
                    (CTs.cons (CT.int IntKind.u64) (CTs.cons (CT.int IntKind.u64) CTs.nil)))))
              (OTs.cons (OT.c (CT.int IntKind.i64)) OTs.nil)),
          PT.list (CTs.cons CT.str (CTs.cons (CT.int IntKind.u8) (CTs.cons CT.str CTs.nil))), PT.int IntKind.u64,
          PT.int IntKind.u64]
        (Option (Bool × Unit)))
    (n_ drop : UInt8) (t t_1 : Int64)
    (l : Option (List (Int64 × List (List UInt8 × UInt8 × List UInt8) × UInt64 × UInt64) × Int64))
    (q0 : List (List UInt8 × UInt8 × List UInt8)) (q1 q2 : UInt64) =>
  oite (decide (t_1 < t))
    (obind (F15 n (l, q0, q1, q2))
      fun
        (x_4 :
          (Int64 × Int64) × Option (List (Int64 × List (List UInt8 × UInt8 × List UInt8) × UInt64 × UInt64) × Int64)) =>
      oite (decide (t_1 < (32 : Int64)))
        (oite (!decide (Prod.snd (Prod.fst x_4) = (0 : Int64))) (some (false, ()))
          (oite (!decide (Prod.fst (Prod.fst x_4) = t_1 + (1 : Int64))) (some (false, ()))
            (oite (decide ((32 : Int64) ≤ t_1))
              (oite (!decide (Prod.snd (Prod.fst x_4) = (5 : Int64))) (some (false, ()))
                (oite (!decide (Prod.fst (Prod.fst x_4) = (0 : Int64))) (some (false, ()))
                  (rec n_ drop t (t_1 + (1 : Int64)) (Prod.snd x_4) q0 q1 q2)))
              (rec n_ drop t (t_1 + (1 : Int64)) (Prod.snd x_4) q0 q1 q2))))
        (oite (decide ((32 : Int64) ≤ t_1))
          (oite (!decide (Prod.snd (Prod.fst x_4) = (5 : Int64))) (some (false, ()))
            (oite (!decide (Prod.fst (Prod.fst x_4) = (0 : Int64))) (some (false, ()))
              (rec n_ drop t (t_1 + (1 : Int64)) (Prod.snd x_4) q0 q1 q2)))
          (rec n_ drop t (t_1 + (1 : Int64)) (Prod.snd x_4) q0 q1 q2)))
    (obind (F16 n (l, (1 : Int64) + Int64.ofInt ↑(UInt8.toNat drop) % (40 : Int64), (0 : UInt64)))
      fun (x_4 : Int64 × Option (List (Int64 × List (List UInt8 × UInt8 × List UInt8) × UInt64 × UInt64) × Int64)) =>
      obind (F16 n (Prod.snd x_4, (1 : Int64) + Int64.ofInt ↑(UInt8.toNat drop) % (40 : Int64), (0 : UInt64)))
        fun (x_5 : Int64 × Option (List (Int64 × List (List UInt8 × UInt8 × List UInt8) × UInt64 × UInt64) × Int64)) =>
        obind (F15 n (Prod.snd x_5, q0, q1, q2))
          fun
            (x_6 :
              (Int64 × Int64) ×
                Option (List (Int64 × List (List UInt8 × UInt8 × List UInt8) × UInt64 × UInt64) × Int64)) =>
          oite
            (decide
              (IK.minI IntKind.i64 (Int64.ofInt ↑(UInt8.toNat (n_ % (40 : UInt8)))) (32 : Int64) <
                (1 : Int64) + Int64.ofInt ↑(UInt8.toNat drop) % (40 : Int64)))
            (oite (decide (Prod.fst x_4 = (14 : Int64)))
              (oite (decide (Prod.fst x_5 = (14 : Int64)))
                (some
                  (decide
                        (IK.minI IntKind.i64 (Int64.ofInt ↑(UInt8.toNat (n_ % (40 : UInt8)))) (32 : Int64) =
                          (32 : Int64)) ==
                      decide (Prod.snd (Prod.fst x_6) = (5 : Int64)),
                    ()))
                (some (false, ())))
              (some (false, ())))
            (oite (decide (Prod.fst x_4 = (0 : Int64)))
              (oite (decide (Prod.fst x_5 = (14 : Int64)))
                (oite (decide (Prod.snd (Prod.fst x_6) = (0 : Int64)))
                  (some
                    (decide
                        (Prod.fst (Prod.fst x_6) =
                          IK.minI IntKind.i64 (Int64.ofInt ↑(UInt8.toNat (n_ % (40 : UInt8)))) (32 : Int64) +
                            (1 : Int64)),
                      ()))
                  (some (false, ())))
                (some (false, ())))
              (some (false, ()))))
def F4_R125 : Nat →
  Nat →
    PT.T (PT.int IntKind.u8) →
      UInt8 →
        Int64 →
          Int64 →
            Option (List (Int64 × List (List UInt8 × UInt8 × List UInt8) × UInt64 × UInt64) × Int64) →
              List (List UInt8 × UInt8 × List UInt8) → UInt64 → UInt64 → Option (Bool × Unit) := fun (n : Nat) =>
  ofixA (125 : Nat)
    [PT.int IntKind.u8, PT.int IntKind.u8, PT.int IntKind.i64, PT.int IntKind.i64,
      PT.opt
        (OTs.cons
          (OT.map (VT.one (CT.int IntKind.i64))
            (VT.agg
              (CTs.cons (CT.ro (CTs.cons CT.str (CTs.cons (CT.int IntKind.u8) (CTs.cons CT.str CTs.nil))))
                (CTs.cons (CT.int IntKind.u64) (CTs.cons (CT.int IntKind.u64) CTs.nil)))))
          (OTs.cons (OT.c (CT.int IntKind.i64)) OTs.nil)),
      PT.list (CTs.cons CT.str (CTs.cons (CT.int IntKind.u8) (CTs.cons CT.str CTs.nil))), PT.int IntKind.u64,
      PT.int IntKind.u64]
    (F4_L125 n)
def F4 : Nat → UInt8 × UInt8 → Option (Bool × Unit) := fun (n : Nat) (x : UInt8 × UInt8) =>
  obind (F7 n ()) fun (x_1 : Bool × Unit) =>
    oite (!Prod.fst x_1) (some (false, ()))
      (obind (F14 n ())
        fun (x_2 : Option (List (Int64 × List (List UInt8 × UInt8 × List UInt8) × UInt64 × UInt64) × Int64) × Unit) =>
        obind (F9 n ([((0 : UInt8), (0 : UInt8), (0 : UInt8))], (1 : Int64)))
          fun (x_3 : List (List UInt8 × UInt8 × List UInt8) × Unit) =>
          F4_R125 n n (Prod.fst x) (Prod.snd x) (Int64.ofInt ↑(UInt8.toNat (Prod.fst x % (40 : UInt8)))) (0 : Int64)
            (Prod.fst x_2) (Prod.fst x_3) (1 : UInt64) (5 : UInt64))
theorem F4_R125_s (n : Nat) (m_ : Nat) : F4_R125 n (m_ + 1) = F4_L125 n (F4_R125 n m_) := rfl
theorem ok4 (n : Nat) : FunOK Try.prog ⟨4, sig4, F4 n⟩ :=
  fun_ok (hints := ⟨[], [(125, ⟨[(0, .one (.int .u8)), (1, .one (.int .u8)), (5, .one (.own 2)), (6, .one (.own 3)), (25, .one (.int .i64)), (26, .one (.int .i64))], [(2, .fold (.cons (.map (.one (.int .i64)) (.agg (.cons (.ro (.cons .str (.cons (.int .u8) (.cons .str .nil)))) (.cons (.int .u64) (.cons (.int .u64) .nil))))) (.cons (.c (.int .i64)) .nil))), (3, .cells [.ro (.cons .str (.cons (.int .u8) (.cons .str .nil))), .int .u64, .int .u64])], 4⟩)]⟩) (fuel := n) (c := Try.f4.body.getD .skip) (rs := Try.f4.results.toList) tt_ok mix (FsOK.cons (ok7 n) (FsOK.cons (ok14 n) (FsOK.cons (ok9 n) (FsOK.cons (ok15 n) (FsOK.cons (ok16 n) (FsOK.nil)))))) Try.func4 (by kernel_rfl) (by kernel_rfl) rfl (by kernel_rfl) rfl rfl (by kernel_rfl)
end Go.Proofs.Ytehpdcdpkdhcgaa
