/- What the functions of this seat compute, found by walking their code symbolically: each F is what the walk finds, each ok says that the Go function keeps it as a contract. Printed by a program of this repo's. -/
import Derived.Test.YtgknjddbbehboaaOnceC
import Derived.Test.YtgknjddbbehboaaSxClone
import Derived.Test.YtgknjddbbehboaaAtom
open Go Go.Sx
namespace Go.Proofs.Ytgknjddbbehboaa
set_option maxRecDepth 100000
set_option linter.unusedVariables false
-- watchfire/crc.New
def sig10 : Sig := ⟨.nil, (.cons (.one (.ptrA (.cons (.c (.int .u32)) (.cons (.c (.int .i32)) (.cons (.c (.int .u32)) .nil))) (.int .u32) 256 (.cons (.c (.int .u64)) (.cons (.c (.int .u64)) .nil)))) .nil)⟩
def F10 : Nat → Unit → Option (Option ((UInt32 × Int32 × UInt32) × List UInt32 × UInt64 × UInt64) × Unit) := fun (n : Nat) (x : Unit) =>
  some
    (some
        (((0 : UInt32), (0 : Int32), (0 : UInt32)), List.replicate (256 : Nat) (0 : UInt32), (0 : UInt64),
          (0 : UInt64)),
      ())
theorem ok10 (n : Nat) : FunOK Try.prog ⟨10, sig10, F10 n⟩ :=
  fun_ok (hints := ⟨[], []⟩) (fuel := n) (c := Try.f10.body.getD .skip) (rs := Try.f10.results.toList) tt_ok mix (FsOK.nil) Try.func10 (by kernel_rfl) (by kernel_rfl) rfl (by kernel_rfl) rfl rfl (by kernel_rfl)
-- watchfire/item.number
def sig58 : Sig := ⟨(.cons (.one (.c (.int .u64))) .nil), (.cons (.one (.c .bool)) .nil)⟩
def F58 : Nat → UInt64 → Option (Bool × Unit) := fun (n : Nat) (x : UInt64) => some (decide (x ≤ (1099511627776 : UInt64)), ())
theorem ok58 (n : Nat) : FunOK Try.prog ⟨58, sig58, F58 n⟩ :=
  fun_ok (hints := ⟨[], []⟩) (fuel := n) (c := Try.f58.body.getD .skip) (rs := Try.f58.results.toList) tt_ok mix (FsOK.nil) Try.func58 (by kernel_rfl) (by kernel_rfl) rfl (by kernel_rfl) rfl rfl (by kernel_rfl)
-- watchfire/item.gap
def sig51 : Sig := ⟨(.cons (.agg (.cons (.int .u8) (.cons (.int .u64) (.cons (.int .u64) .nil)))) .nil), (.cons (.one (.c (.int .i64))) .nil)⟩
def F51 : Nat → UInt8 × UInt64 × UInt64 → Option (Int64 × Unit) := fun (n : Nat) (x : UInt8 × UInt64 × UInt64) =>
  oite (decide ((32 : UInt8) ≤ Prod.fst x)) (some ((6 : Int64), ()))
    (oite (decide (Prod.fst (Prod.snd x) < (1 : UInt64))) (some ((6 : Int64), ()))
      (oite (decide (Prod.snd (Prod.snd x) < Prod.fst (Prod.snd x))) (some ((6 : Int64), ()))
        (obind (F58 n (Prod.snd (Prod.snd x))) fun (x_1 : Bool × Unit) =>
          oite (!Prod.fst x_1) (some ((6 : Int64), ())) (some ((0 : Int64), ())))))
theorem ok51 (n : Nat) : FunOK Try.prog ⟨51, sig51, F51 n⟩ :=
  fun_ok (hints := ⟨[], []⟩) (fuel := n) (c := Try.f51.body.getD .skip) (rs := Try.f51.results.toList) tt_ok mix (FsOK.cons (ok58 n) (FsOK.nil)) Try.func51 (by kernel_rfl) (by kernel_rfl) rfl (by kernel_rfl) rfl rfl (by kernel_rfl)
-- watchfire/lab.word
def sig65 : Sig := ⟨(.cons (.one (.c .str)) (.cons (.one (.c (.int .i64))) (.cons (.one (.c .bool)) .nil))), (.cons (.one (.c .bool)) .nil)⟩
def F65_J471 : Arr [PT.bool, PT.bytes, PT.nat] (Option (Bool × Unit)) → Bool → Int32 → Bool → List UInt8 → Nat → Option (Bool × Unit) := fun (rec : Arr [PT.bool, PT.bytes, PT.nat] (Option (Bool × Unit))) (also_1 : Bool) (c : Int32) (t_1 : Bool)
    (t_1_1 : List UInt8) (x_2 : Nat) =>
  oite t_1 (rec also_1 t_1_1 x_2)
    (oite also_1
      (oite (decide ((48 : Int32) ≤ c))
        (oite (decide (c ≤ (57 : Int32))) (rec also_1 t_1_1 x_2)
          (oite (decide (c = (46 : Int32))) (rec also_1 t_1_1 x_2)
            (oite (decide (c = (95 : Int32))) (rec also_1 t_1_1 x_2)
              (oite (decide (c = (45 : Int32))) (rec also_1 t_1_1 x_2) (some (false, ()))))))
        (oite (decide (c = (46 : Int32))) (rec also_1 t_1_1 x_2)
          (oite (decide (c = (95 : Int32))) (rec also_1 t_1_1 x_2)
            (oite (decide (c = (45 : Int32))) (rec also_1 t_1_1 x_2) (some (false, ()))))))
      (some (false, ())))
def F65_L29 : Arr [PT.bool, PT.bytes, PT.nat] (Option (Bool × Unit)) → Bool → List UInt8 → Nat → Option (Bool × Unit) := fun (rec : Arr [PT.bool, PT.bytes, PT.nat] (Option (Bool × Unit))) (also : Bool) (t : List UInt8) (x_1 : Nat) =>
  oite (Nat.blt x_1 (List.length t))
    (ojoinA (471 : Nat) [PT.bool, PT.int IntKind.i32, PT.bool, PT.bytes, PT.nat]
      (fun (J : Arr [PT.bool, PT.int IntKind.i32, PT.bool, PT.bytes, PT.nat] (Option (Bool × Unit))) =>
        oite (decide ((97 : Int32) ≤ Int32.ofInt ↑(runeAt t x_1)))
          (J also (Int32.ofInt ↑(runeAt t x_1)) (decide (Int32.ofInt ↑(runeAt t x_1) ≤ (122 : Int32))) t
            (x_1 + runeLen t x_1))
          (J also (Int32.ofInt ↑(runeAt t x_1)) false t (x_1 + runeLen t x_1)))
      (F65_J471 rec))
    (some (true, ()))
def F65_R29 : Nat → PT.T PT.bool → List UInt8 → Nat → Option (Bool × Unit) := ofixA (29 : Nat) [PT.bool, PT.bytes, PT.nat] F65_L29
def F65 : Nat → List UInt8 × Int64 × Bool → Option (Bool × Unit) := fun (n : Nat) (x : List UInt8 × Int64 × Bool) =>
  oite (decide (Int64.ofInt ↑(List.length (Prod.fst x)) < (1 : Int64))) (some (false, ()))
    (oite (decide (Prod.fst (Prod.snd x) < Int64.ofInt ↑(List.length (Prod.fst x)))) (some (false, ()))
      (F65_R29 n (Prod.snd (Prod.snd x)) (Prod.fst x) (0 : Nat)))
theorem F65_R29_s  (m_ : Nat) : F65_R29  (m_ + 1) = F65_L29  (F65_R29  m_) := rfl
theorem ok65 (n : Nat) : FunOK Try.prog ⟨65, sig65, F65 n⟩ :=
  fun_ok (hints := ⟨[(471, ⟨[(2, .one (.bool)), (8, .one (.int .i32)), (19, .one (.own 3)), (23, .one (.bool))], [(3, .iter)], 4⟩)], [(29, ⟨[(2, .one (.bool)), (19, .one (.own 3))], [(3, .iter)], 4⟩)]⟩) (fuel := n) (c := Try.f65.body.getD .skip) (rs := Try.f65.results.toList) tt_ok mix (FsOK.nil) Try.func65 (by kernel_rfl) (by kernel_rfl) rfl (by kernel_rfl) rfl rfl (by kernel_rfl)
-- watchfire/lab.Name
def sig59 : Sig := ⟨(.cons (.one (.c .str)) .nil), (.cons (.one (.c .bool)) .nil)⟩
def F59 : Nat → List UInt8 → Option (Bool × Unit) := fun (n : Nat) (x : List UInt8) =>
  obind (F65 n (x, (12 : Int64), true)) fun (x_1 : Bool × Unit) =>
    oite (Prod.fst x_1)
      (obind (at? x (Int64.toInt (0 : Int64))) fun (x_2 : UInt8) =>
        oite (decide ((97 : UInt8) ≤ x_2))
          (obind (at? x (Int64.toInt (0 : Int64))) fun (x_3 : UInt8) => some (decide (x_3 ≤ (122 : UInt8)), ()))
          (some (false, ())))
      (some (false, ()))
theorem ok59 (n : Nat) : FunOK Try.prog ⟨59, sig59, F59 n⟩ :=
  fun_ok (hints := ⟨[], []⟩) (fuel := n) (c := Try.f59.body.getD .skip) (rs := Try.f59.results.toList) tt_ok mix (FsOK.cons (ok65 n) (FsOK.nil)) Try.func59 (by kernel_rfl) (by kernel_rfl) rfl (by kernel_rfl) rfl rfl (by kernel_rfl)
-- internal/stringslite.HasPrefix
def sig71 : Sig := ⟨(.cons (.one (.c .str)) (.cons (.one (.c .str)) .nil)), (.cons (.one (.c .bool)) .nil)⟩
def F71 : Nat → List UInt8 × List UInt8 → Option (Bool × Unit) := fun (n : Nat) (x : List UInt8 × List UInt8) =>
  oite (decide (Int64.ofInt ↑(List.length (Prod.snd x)) ≤ Int64.ofInt ↑(List.length (Prod.fst x))))
    (oite
      (decide ((0 : Int) ≤ Int64.toInt (Int64.ofInt ↑(List.length (Prod.snd x)))) &&
          Nat.ble (Int.toNat (Int64.toInt (Int64.ofInt ↑(List.length (Prod.snd x))))) (List.length (Prod.fst x)) &&
        true)
      (some
        (List.drop (0 : Nat)
              (List.take (Int.toNat (Int64.toInt (Int64.ofInt ↑(List.length (Prod.snd x))))) (Prod.fst x)) ==
            Prod.snd x,
          ()))
      none)
    (some (false, ()))
theorem ok71 (n : Nat) : FunOK Try.prog ⟨71, sig71, F71 n⟩ :=
  fun_ok (hints := ⟨[], []⟩) (fuel := n) (c := Try.f71.body.getD .skip) (rs := Try.f71.results.toList) tt_ok mix (FsOK.nil) Try.func71 (by kernel_rfl) (by kernel_rfl) rfl (by kernel_rfl) rfl rfl (by kernel_rfl)
-- strings.HasPrefix
def sig66 : Sig := ⟨(.cons (.one (.c .str)) (.cons (.one (.c .str)) .nil)), (.cons (.one (.c .bool)) .nil)⟩
def F66 : Nat → List UInt8 × List UInt8 → Option (Bool × Unit) := fun (n : Nat) (x : List UInt8 × List UInt8) =>
  obind (F71 n (Prod.fst x, Prod.snd x)) fun (x_1 : Bool × Unit) => some (Prod.fst x_1, ())
theorem ok66 (n : Nat) : FunOK Try.prog ⟨66, sig66, F66 n⟩ :=
  fun_ok (hints := ⟨[], []⟩) (fuel := n) (c := Try.f66.body.getD .skip) (rs := Try.f66.results.toList) tt_ok mix (FsOK.cons (ok71 n) (FsOK.nil)) Try.func66 (by kernel_rfl) (by kernel_rfl) rfl (by kernel_rfl) rfl rfl (by kernel_rfl)
-- watchfire/item.Own
def sig60 : Sig := ⟨(.cons (.one (.c .str)) .nil), (.cons (.one (.c .bool)) .nil)⟩
def F60 : Nat → List UInt8 → Option (Bool × Unit) := fun (n : Nat) (x : List UInt8) =>
  obind (F66 n (x, [(111 : UInt8), (119 : UInt8), (110 : UInt8), (46 : UInt8)])) fun (x_1 : Bool × Unit) =>
    some (Prod.fst x_1, ())
theorem ok60 (n : Nat) : FunOK Try.prog ⟨60, sig60, F60 n⟩ :=
  fun_ok (hints := ⟨[], []⟩) (fuel := n) (c := Try.f60.body.getD .skip) (rs := Try.f60.results.toList) tt_ok mix (FsOK.cons (ok66 n) (FsOK.nil)) Try.func60 (by kernel_rfl) (by kernel_rfl) rfl (by kernel_rfl) rfl rfl (by kernel_rfl)
-- watchfire/lab.Key
def sig67 : Sig := ⟨(.cons (.one (.c .str)) .nil), (.cons (.one (.c .bool)) .nil)⟩
def F67 : Nat → List UInt8 → Option (Bool × Unit) := fun (n : Nat) (x : List UInt8) =>
  obind (F65 n (x, (8 : Int64), false)) fun (x_1 : Bool × Unit) => some (Prod.fst x_1, ())
theorem ok67 (n : Nat) : FunOK Try.prog ⟨67, sig67, F67 n⟩ :=
  fun_ok (hints := ⟨[], []⟩) (fuel := n) (c := Try.f67.body.getD .skip) (rs := Try.f67.results.toList) tt_ok mix (FsOK.cons (ok65 n) (FsOK.nil)) Try.func67 (by kernel_rfl) (by kernel_rfl) rfl (by kernel_rfl) rfl rfl (by kernel_rfl)
-- watchfire/lab.Value
def sig68 : Sig := ⟨(.cons (.one (.c .str)) .nil), (.cons (.one (.c .bool)) .nil)⟩
def F68 : Nat → List UInt8 → Option (Bool × Unit) := fun (n : Nat) (x : List UInt8) =>
  obind (F65 n (x, (16 : Int64), true)) fun (x_1 : Bool × Unit) => some (Prod.fst x_1, ())
theorem ok68 (n : Nat) : FunOK Try.prog ⟨68, sig68, F68 n⟩ :=
  fun_ok (hints := ⟨[], []⟩) (fuel := n) (c := Try.f68.body.getD .skip) (rs := Try.f68.results.toList) tt_ok mix (FsOK.cons (ok65 n) (FsOK.nil)) Try.func68 (by kernel_rfl) (by kernel_rfl) rfl (by kernel_rfl) rfl rfl (by kernel_rfl)
-- watchfire/lab.Check
def sig61 : Sig := ⟨(.cons (.one (.c (.ro (.cons .str (.cons .str .nil))))) .nil), (.cons (.one (.c (.int .i64))) .nil)⟩
def F61_J3767 : Arr
    [PT.list (CTs.cons CT.str (CTs.cons CT.str CTs.nil)), PT.list (CTs.cons CT.str (CTs.cons CT.str CTs.nil)),
      PT.int IntKind.i64, PT.int IntKind.i64]
    (Option (Int64 × Unit)) →
  List (List UInt8 × List UInt8) →
    Int64 → List (List UInt8 × List UInt8) → Int64 → Int64 → Bool → List UInt8 → List UInt8 → Option (Int64 × Unit) := fun
    (rec :
      Arr
        [PT.list (CTs.cons CT.str (CTs.cons CT.str CTs.nil)), PT.list (CTs.cons CT.str (CTs.cons CT.str CTs.nil)),
          PT.int IntKind.i64, PT.int IntKind.i64]
        (Option (Int64 × Unit)))
    (l_1 : List (List UInt8 × List UInt8)) (i : Int64) (t_3 : List (List UInt8 × List UInt8)) (t_1_1 t_2_1 : Int64)
    (t_3_1 : Bool) (p0 p1 : List UInt8) =>
  oite t_3_1 (some ((7 : Int64), ()))
    (oite (decide ((0 : Int64) < i))
      (obind (at? l_1 (Int64.toInt (i - (1 : Int64)))) fun (x_4 : List UInt8 × List UInt8) =>
        oite (!(bytesLt (Prod.fst x_4) p0 || Prod.fst x_4 == p0)) (some ((9 : Int64), ()))
          (rec l_1 t_3 t_1_1 (t_2_1 + (1 : Int64))))
      (rec l_1 t_3 t_1_1 (t_2_1 + (1 : Int64))))
def F61_L29 : Nat →
  Arr
      [PT.list (CTs.cons CT.str (CTs.cons CT.str CTs.nil)), PT.list (CTs.cons CT.str (CTs.cons CT.str CTs.nil)),
        PT.int IntKind.i64, PT.int IntKind.i64]
      (Option (Int64 × Unit)) →
    List (List UInt8 × List UInt8) → List (List UInt8 × List UInt8) → Int64 → Int64 → Option (Int64 × Unit) := fun (n : Nat)
    (rec :
      Arr
        [PT.list (CTs.cons CT.str (CTs.cons CT.str CTs.nil)), PT.list (CTs.cons CT.str (CTs.cons CT.str CTs.nil)),
          PT.int IntKind.i64, PT.int IntKind.i64]
        (Option (Int64 × Unit)))
    (l t : List (List UInt8 × List UInt8)) (t_1 t_2 : Int64) =>
  oite (decide (t_2 < t_1))
    (obind (at? t (Int64.toInt t_2)) fun (x_1 : List UInt8 × List UInt8) =>
      obind (F67 n (Prod.fst x_1)) fun (x_2 : Bool × Unit) =>
        oite (!Prod.fst x_2) (some ((8 : Int64), ()))
          (obind (F68 n (Prod.snd x_1)) fun (x_3 : Bool × Unit) =>
            oite (!Prod.fst x_3) (some ((8 : Int64), ()))
              (ojoinA (3767 : Nat)
                [PT.list (CTs.cons CT.str (CTs.cons CT.str CTs.nil)), PT.int IntKind.i64,
                  PT.list (CTs.cons CT.str (CTs.cons CT.str CTs.nil)), PT.int IntKind.i64, PT.int IntKind.i64, PT.bool,
                  PT.bytes, PT.bytes]
                (fun
                    (J :
                      Arr
                        [PT.list (CTs.cons CT.str (CTs.cons CT.str CTs.nil)), PT.int IntKind.i64,
                          PT.list (CTs.cons CT.str (CTs.cons CT.str CTs.nil)), PT.int IntKind.i64, PT.int IntKind.i64,
                          PT.bool, PT.bytes, PT.bytes]
                        (Option (Int64 × Unit))) =>
                  oite (decide ((0 : Int64) < t_2))
                    (obind (at? l (Int64.toInt (t_2 - (1 : Int64)))) fun (x_4 : List UInt8 × List UInt8) =>
                      J l t_2 t t_1 t_2 (Prod.fst x_4 == Prod.fst x_1) (Prod.fst x_1) (Prod.snd x_1))
                    (J l t_2 t t_1 t_2 false (Prod.fst x_1) (Prod.snd x_1)))
                (F61_J3767 rec))))
    (some ((0 : Int64), ()))
def F61_R29 : Nat →
  Nat →
    PT.T (PT.list (CTs.cons CT.str (CTs.cons CT.str CTs.nil))) →
      List (List UInt8 × List UInt8) → Int64 → Int64 → Option (Int64 × Unit) := fun (n : Nat) =>
  ofixA (29 : Nat)
    [PT.list (CTs.cons CT.str (CTs.cons CT.str CTs.nil)), PT.list (CTs.cons CT.str (CTs.cons CT.str CTs.nil)),
      PT.int IntKind.i64, PT.int IntKind.i64]
    (F61_L29 n)
def F61 : Nat → List (List UInt8 × List UInt8) → Option (Int64 × Unit) := fun (n : Nat) (x : List (List UInt8 × List UInt8)) =>
  oite (decide ((8 : Int64) < Int64.ofInt ↑(List.length x))) (some ((5 : Int64), ()))
    (F61_R29 n n x x (Int64.ofInt ↑(List.length x)) (0 : Int64))
theorem F61_R29_s (n : Nat) (m_ : Nat) : F61_R29 n (m_ + 1) = F61_L29 n (F61_R29 n m_) := rfl
theorem ok61 (n : Nat) : FunOK Try.prog ⟨61, sig61, F61 n⟩ :=
  fun_ok (hints := ⟨[(3767, ⟨[(0, .one (.ro (.cons .str (.cons .str .nil)))), (3, .one (.int .i64)), (4, .one (.own 1)), (8, .one (.ro (.cons .str (.cons .str .nil)))), (9, .one (.int .i64)), (10, .one (.int .i64)), (26, .one (.bool))], [(1, .cells [.str, .str])], 2⟩)], [(29, ⟨[(0, .one (.ro (.cons .str (.cons .str .nil)))), (8, .one (.ro (.cons .str (.cons .str .nil)))), (9, .one (.int .i64)), (10, .one (.int .i64))], [], 1⟩)]⟩) (fuel := n) (c := Try.f61.body.getD .skip) (rs := Try.f61.results.toList) tt_ok mix (FsOK.cons (ok67 n) (FsOK.cons (ok68 n) (FsOK.nil))) Try.func61 (by kernel_rfl) (by kernel_rfl) rfl (by kernel_rfl) rfl rfl (by kernel_rfl)
-- watchfire/item.event
def sig52 : Sig := ⟨(.cons (.agg (.cons (.int .u8) (.cons (.int .u64) (.cons (.int .u64) (.cons .str (.cons (.ro (.cons .str (.cons .str .nil))) (.cons (.int .u8) (.cons (.int .u8) (.cons (.int .i64) (.cons (.int .u8) .nil)))))))))) .nil), (.cons (.one (.c (.int .i64))) .nil)⟩
def F52_J111 : Nat →
  Bool →
    UInt8 →
      UInt64 →
        UInt64 → List UInt8 → List (List UInt8 × List UInt8) → UInt8 → UInt8 → Int64 → UInt8 → Option (Int64 × Unit) := fun (n : Nat) (t : Bool) (v0 : UInt8) (v1 v2 : UInt64) (v3 : List UInt8) (v4 : List (List UInt8 × List UInt8))
    (v5 v6 : UInt8) (v7 : Int64) (v8 : UInt8) =>
  oite t (some ((12 : Int64), ()))
    (obind (F60 n v3) fun (x_4 : Bool × Unit) =>
      oite (!(!decide (v8 = (0 : UInt8))) == Prod.fst x_4) (some ((27 : Int64), ()))
        (obind (F61 n v4) fun (x_5 : Int64 × Unit) => some (Prod.fst x_5, ())))
def F52 : Nat →
  UInt8 × UInt64 × UInt64 × List UInt8 × List (List UInt8 × List UInt8) × UInt8 × UInt8 × Int64 × UInt8 →
    Option (Int64 × Unit) := fun (n : Nat)
    (x : UInt8 × UInt64 × UInt64 × List UInt8 × List (List UInt8 × List UInt8) × UInt8 × UInt8 × Int64 × UInt8) =>
  oite (decide ((32 : UInt8) ≤ Prod.fst x)) (some ((6 : Int64), ()))
    (oite (decide (Prod.fst (Prod.snd x) < (1 : UInt64))) (some ((6 : Int64), ()))
      (obind (F58 n (Prod.fst (Prod.snd x))) fun (x_1 : Bool × Unit) =>
        oite (!Prod.fst x_1) (some ((6 : Int64), ()))
          (obind (F58 n (Prod.fst (Prod.snd (Prod.snd x)))) fun (x_2 : Bool × Unit) =>
            oite (!Prod.fst x_2) (some ((6 : Int64), ()))
              (oite
                (decide ((7 : UInt8) < Prod.fst (Prod.snd (Prod.snd (Prod.snd (Prod.snd (Prod.snd (Prod.snd x))))))))
                (some ((6 : Int64), ()))
                (obind (F59 n (Prod.fst (Prod.snd (Prod.snd (Prod.snd x))))) fun (x_3 : Bool × Unit) =>
                  oite (!Prod.fst x_3) (some ((8 : Int64), ()))
                    (ojoinA (111 : Nat)
                      [PT.bool, PT.int IntKind.u8, PT.int IntKind.u64, PT.int IntKind.u64, PT.bytes,
                        PT.list (CTs.cons CT.str (CTs.cons CT.str CTs.nil)), PT.int IntKind.u8, PT.int IntKind.u8,
                        PT.int IntKind.i64, PT.int IntKind.u8]
                      (fun
                          (J :
                            Arr
                              [PT.bool, PT.int IntKind.u8, PT.int IntKind.u64, PT.int IntKind.u64, PT.bytes,
                                PT.list (CTs.cons CT.str (CTs.cons CT.str CTs.nil)), PT.int IntKind.u8,
                                PT.int IntKind.u8, PT.int IntKind.i64, PT.int IntKind.u8]
                              (Option (Int64 × Unit))) =>
                        oite (!decide (Prod.fst (Prod.snd (Prod.snd (Prod.snd (Prod.snd (Prod.snd x))))) = (0 : UInt8)))
                          (oite
                            (!decide (Prod.fst (Prod.snd (Prod.snd (Prod.snd (Prod.snd (Prod.snd x))))) = (2 : UInt8)))
                            (J true (Prod.fst x) (Prod.fst (Prod.snd x)) (Prod.fst (Prod.snd (Prod.snd x)))
                              (Prod.fst (Prod.snd (Prod.snd (Prod.snd x))))
                              (Prod.fst (Prod.snd (Prod.snd (Prod.snd (Prod.snd x)))))
                              (Prod.fst (Prod.snd (Prod.snd (Prod.snd (Prod.snd (Prod.snd x))))))
                              (Prod.fst (Prod.snd (Prod.snd (Prod.snd (Prod.snd (Prod.snd (Prod.snd x)))))))
                              (Prod.fst (Prod.snd (Prod.snd (Prod.snd (Prod.snd (Prod.snd (Prod.snd (Prod.snd x))))))))
                              (Prod.snd (Prod.snd (Prod.snd (Prod.snd (Prod.snd (Prod.snd (Prod.snd (Prod.snd x)))))))))
                            (J
                              (decide
                                ((2 : UInt8) <
                                  Prod.snd
                                    (Prod.snd (Prod.snd (Prod.snd (Prod.snd (Prod.snd (Prod.snd (Prod.snd x)))))))))
                              (Prod.fst x) (Prod.fst (Prod.snd x)) (Prod.fst (Prod.snd (Prod.snd x)))
                              (Prod.fst (Prod.snd (Prod.snd (Prod.snd x))))
                              (Prod.fst (Prod.snd (Prod.snd (Prod.snd (Prod.snd x)))))
                              (Prod.fst (Prod.snd (Prod.snd (Prod.snd (Prod.snd (Prod.snd x))))))
                              (Prod.fst (Prod.snd (Prod.snd (Prod.snd (Prod.snd (Prod.snd (Prod.snd x)))))))
                              (Prod.fst (Prod.snd (Prod.snd (Prod.snd (Prod.snd (Prod.snd (Prod.snd (Prod.snd x))))))))
                              (Prod.snd
                                (Prod.snd (Prod.snd (Prod.snd (Prod.snd (Prod.snd (Prod.snd (Prod.snd x))))))))))
                          (J
                            (decide
                              ((2 : UInt8) <
                                Prod.snd
                                  (Prod.snd (Prod.snd (Prod.snd (Prod.snd (Prod.snd (Prod.snd (Prod.snd x)))))))))
                            (Prod.fst x) (Prod.fst (Prod.snd x)) (Prod.fst (Prod.snd (Prod.snd x)))
                            (Prod.fst (Prod.snd (Prod.snd (Prod.snd x))))
                            (Prod.fst (Prod.snd (Prod.snd (Prod.snd (Prod.snd x)))))
                            (Prod.fst (Prod.snd (Prod.snd (Prod.snd (Prod.snd (Prod.snd x))))))
                            (Prod.fst (Prod.snd (Prod.snd (Prod.snd (Prod.snd (Prod.snd (Prod.snd x)))))))
                            (Prod.fst (Prod.snd (Prod.snd (Prod.snd (Prod.snd (Prod.snd (Prod.snd (Prod.snd x))))))))
                            (Prod.snd (Prod.snd (Prod.snd (Prod.snd (Prod.snd (Prod.snd (Prod.snd (Prod.snd x))))))))))
                      (F52_J111 n)))))))
theorem ok52 (n : Nat) : FunOK Try.prog ⟨52, sig52, F52 n⟩ :=
  fun_ok (hints := ⟨[(111, ⟨[(1, .one (.own 1)), (34, .one (.bool))], [(1, .cells [.int .u8, .int .u64, .int .u64, .str, .ro (.cons .str (.cons .str .nil)), .int .u8, .int .u8, .int .i64, .int .u8])], 2⟩)], []⟩) (fuel := n) (c := Try.f52.body.getD .skip) (rs := Try.f52.results.toList) tt_ok mix (FsOK.cons (ok58 n) (FsOK.cons (ok59 n) (FsOK.cons (ok60 n) (FsOK.cons (ok61 n) (FsOK.nil))))) Try.func52 (by kernel_rfl) (by kernel_rfl) rfl (by kernel_rfl) rfl rfl (by kernel_rfl)
-- watchfire/item.Check
def sig36 : Sig := ⟨(.cons (.agg (.cons .bool (.cons (.int .u8) (.cons (.int .u64) (.cons (.int .u64) (.cons .str (.cons (.ro (.cons .str (.cons .str .nil))) (.cons (.int .u8) (.cons (.int .u8) (.cons (.int .i64) (.cons (.int .u8) (.cons (.int .u8) (.cons (.int .u64) (.cons (.int .u64) .nil)))))))))))))) .nil), (.cons (.one (.c (.int .i64))) .nil)⟩
def F36 : Nat →
  Bool ×
      UInt8 ×
        UInt64 ×
          UInt64 ×
            List UInt8 × List (List UInt8 × List UInt8) × UInt8 × UInt8 × Int64 × UInt8 × UInt8 × UInt64 × UInt64 →
    Option (Int64 × Unit) := fun (n : Nat)
    (x :
      Bool ×
        UInt8 ×
          UInt64 ×
            UInt64 ×
              List UInt8 × List (List UInt8 × List UInt8) × UInt8 × UInt8 × Int64 × UInt8 × UInt8 × UInt64 × UInt64) =>
  oite (Prod.fst x)
    (obind
      (F51 n
        (Prod.fst
            (Prod.snd
              (Prod.snd (Prod.snd (Prod.snd (Prod.snd (Prod.snd (Prod.snd (Prod.snd (Prod.snd (Prod.snd x)))))))))),
          Prod.fst
            (Prod.snd
              (Prod.snd
                (Prod.snd (Prod.snd (Prod.snd (Prod.snd (Prod.snd (Prod.snd (Prod.snd (Prod.snd (Prod.snd x))))))))))),
          Prod.snd
            (Prod.snd
              (Prod.snd
                (Prod.snd (Prod.snd (Prod.snd (Prod.snd (Prod.snd (Prod.snd (Prod.snd (Prod.snd (Prod.snd x)))))))))))))
      fun (x_1 : Int64 × Unit) => some (Prod.fst x_1, ()))
    (obind
      (F52 n
        (Prod.fst (Prod.snd x), Prod.fst (Prod.snd (Prod.snd x)), Prod.fst (Prod.snd (Prod.snd (Prod.snd x))),
          Prod.fst (Prod.snd (Prod.snd (Prod.snd (Prod.snd x)))),
          Prod.fst (Prod.snd (Prod.snd (Prod.snd (Prod.snd (Prod.snd x))))),
          Prod.fst (Prod.snd (Prod.snd (Prod.snd (Prod.snd (Prod.snd (Prod.snd x)))))),
          Prod.fst (Prod.snd (Prod.snd (Prod.snd (Prod.snd (Prod.snd (Prod.snd (Prod.snd x))))))),
          Prod.fst (Prod.snd (Prod.snd (Prod.snd (Prod.snd (Prod.snd (Prod.snd (Prod.snd (Prod.snd x)))))))),
          Prod.fst
            (Prod.snd (Prod.snd (Prod.snd (Prod.snd (Prod.snd (Prod.snd (Prod.snd (Prod.snd (Prod.snd x)))))))))))
      fun (x_1 : Int64 × Unit) => some (Prod.fst x_1, ()))
theorem ok36 (n : Nat) : FunOK Try.prog ⟨36, sig36, F36 n⟩ :=
  fun_ok (hints := ⟨[], []⟩) (fuel := n) (c := Try.f36.body.getD .skip) (rs := Try.f36.results.toList) tt_ok mix (FsOK.cons (ok51 n) (FsOK.cons (ok52 n) (FsOK.nil))) Try.func36 (by kernel_rfl) (by kernel_rfl) rfl (by kernel_rfl) rfl rfl (by kernel_rfl)
-- slices.Equal[[]watchfire/api.Pair,watchfire/api.Pair]
def sig50 : Sig := ⟨(.cons (.one (.c (.ro (.cons .str (.cons .str .nil))))) (.cons (.one (.c (.ro (.cons .str (.cons .str .nil))))) .nil)), (.cons (.one (.c .bool)) .nil)⟩
def F50_L29 : Arr
    [PT.list (CTs.cons CT.str (CTs.cons CT.str CTs.nil)), PT.list (CTs.cons CT.str (CTs.cons CT.str CTs.nil)),
      PT.int IntKind.i64, PT.int IntKind.i64]
    (Option (Bool × Unit)) →
  List (List UInt8 × List UInt8) → List (List UInt8 × List UInt8) → Int64 → Int64 → Option (Bool × Unit) := fun
    (rec :
      Arr
        [PT.list (CTs.cons CT.str (CTs.cons CT.str CTs.nil)), PT.list (CTs.cons CT.str (CTs.cons CT.str CTs.nil)),
          PT.int IntKind.i64, PT.int IntKind.i64]
        (Option (Bool × Unit)))
    (s1 s2 : List (List UInt8 × List UInt8)) (t t_1 : Int64) =>
  oite (decide (t_1 < t))
    (obind (at? s1 (Int64.toInt t_1)) fun (x_1 : List UInt8 × List UInt8) =>
      obind (at? s2 (Int64.toInt t_1)) fun (x_2 : List UInt8 × List UInt8) =>
        oite (!(Prod.fst x_1 == Prod.fst x_2 && (Prod.snd x_1 == Prod.snd x_2 && true))) (some (false, ()))
          (rec s1 s2 t (t_1 + (1 : Int64))))
    (some (true, ()))
def F50_R29 : Nat →
  PT.T (PT.list (CTs.cons CT.str (CTs.cons CT.str CTs.nil))) →
    List (List UInt8 × List UInt8) → Int64 → Int64 → Option (Bool × Unit) := ofixA (29 : Nat)
  [PT.list (CTs.cons CT.str (CTs.cons CT.str CTs.nil)), PT.list (CTs.cons CT.str (CTs.cons CT.str CTs.nil)),
    PT.int IntKind.i64, PT.int IntKind.i64]
  F50_L29
def F50 : Nat → List (List UInt8 × List UInt8) × List (List UInt8 × List UInt8) → Option (Bool × Unit) := fun (n : Nat) (x : List (List UInt8 × List UInt8) × List (List UInt8 × List UInt8)) =>
  oite (!decide (Int64.ofInt ↑(List.length (Prod.fst x)) = Int64.ofInt ↑(List.length (Prod.snd x))))
    (some (false, ()))
    (F50_R29 n (Prod.fst x) (Prod.snd x) (Int64.ofInt ↑(List.length (Prod.fst x))) (0 : Int64))
theorem F50_R29_s  (m_ : Nat) : F50_R29  (m_ + 1) = F50_L29  (F50_R29  m_) := rfl
theorem ok50 (n : Nat) : FunOK Try.prog ⟨50, sig50, F50 n⟩ :=
  fun_ok (hints := ⟨[], [(29, ⟨[(0, .one (.ro (.cons .str (.cons .str .nil)))), (1, .one (.ro (.cons .str (.cons .str .nil)))), (12, .one (.int .i64)), (13, .one (.int .i64))], [], 2⟩)]⟩) (fuel := n) (c := Try.f50.body.getD .skip) (rs := Try.f50.results.toList) tt_ok mix (FsOK.nil) Try.func50 (by kernel_rfl) (by kernel_rfl) rfl (by kernel_rfl) rfl rfl (by kernel_rfl)
-- watchfire/lab.Same
def sig33 : Sig := ⟨(.cons (.one (.c (.ro (.cons .str (.cons .str .nil))))) (.cons (.one (.c (.ro (.cons .str (.cons .str .nil))))) .nil)), (.cons (.one (.c .bool)) .nil)⟩
def F33 : Nat → List (List UInt8 × List UInt8) × List (List UInt8 × List UInt8) → Option (Bool × Unit) := fun (n : Nat) (x : List (List UInt8 × List UInt8) × List (List UInt8 × List UInt8)) =>
  obind (F50 n (Prod.fst x, Prod.snd x)) fun (x_1 : Bool × Unit) => some (Prod.fst x_1, ())
theorem ok33 (n : Nat) : FunOK Try.prog ⟨33, sig33, F33 n⟩ :=
  fun_ok (hints := ⟨[], []⟩) (fuel := n) (c := Try.f33.body.getD .skip) (rs := Try.f33.results.toList) tt_ok mix (FsOK.cons (ok50 n) (FsOK.nil)) Try.func33 (by kernel_rfl) (by kernel_rfl) rfl (by kernel_rfl) rfl rfl (by kernel_rfl)
-- watchfire/item.Same
def sig14 : Sig := ⟨(.cons (.agg (.cons .bool (.cons (.int .u8) (.cons (.int .u64) (.cons (.int .u64) (.cons .str (.cons (.ro (.cons .str (.cons .str .nil))) (.cons (.int .u8) (.cons (.int .u8) (.cons (.int .i64) (.cons (.int .u8) (.cons (.int .u8) (.cons (.int .u64) (.cons (.int .u64) .nil)))))))))))))) (.cons (.agg (.cons .bool (.cons (.int .u8) (.cons (.int .u64) (.cons (.int .u64) (.cons .str (.cons (.ro (.cons .str (.cons .str .nil))) (.cons (.int .u8) (.cons (.int .u8) (.cons (.int .i64) (.cons (.int .u8) (.cons (.int .u8) (.cons (.int .u64) (.cons (.int .u64) .nil)))))))))))))) .nil)), (.cons (.one (.c .bool)) .nil)⟩
def F14_J14 : Nat →
  Bool →
    Bool →
      UInt8 →
        UInt64 →
          UInt64 →
            List UInt8 →
              List (List UInt8 × List UInt8) →
                UInt8 →
                  UInt8 →
                    Int64 →
                      UInt8 →
                        UInt8 →
                          UInt64 →
                            UInt64 →
                              Bool →
                                UInt8 →
                                  UInt64 →
                                    UInt64 →
                                      List UInt8 →
                                        List (List UInt8 × List UInt8) →
                                          UInt8 →
                                            UInt8 →
                                              Int64 →
                                                UInt8 →
                                                  UInt8 →
                                                    UInt64 →
                                                      UInt64 →
                                                        UInt8 →
                                                          UInt64 →
                                                            UInt64 →
                                                              List UInt8 →
                                                                List (List UInt8 × List UInt8) →
                                                                  UInt8 →
                                                                    UInt8 →
                                                                      Int64 →
                                                                        UInt8 →
                                                                          UInt8 →
                                                                            UInt64 →
                                                                              UInt64 →
                                                                                List UInt8 →
                                                                                  List (List UInt8 × List UInt8) →
                                                                                    UInt8 →
                                                                                      UInt8 →
                                                                                        Int64 →
                                                                                          UInt8 → Option (Bool × Unit) := fun (n : Nat) (t a0 : Bool) (a1 : UInt8) (a2 a3 : UInt64) (a4 : List UInt8) (a5 : List (List UInt8 × List UInt8))
    (a6 a7 : UInt8) (a8 : Int64) (a9 a10 : UInt8) (a11 a12 : UInt64) (b0 : Bool) (b1 : UInt8) (b2 b3 : UInt64)
    (b4 : List UInt8) (b5 : List (List UInt8 × List UInt8)) (b6 b7 : UInt8) (b8 : Int64) (b9 b10 : UInt8)
    (b11 b12 : UInt64) (x0 : UInt8) (x1 x2 : UInt64) (x3 : List UInt8) (x4 : List (List UInt8 × List UInt8))
    (x5 x6 : UInt8) (x7 : Int64) (x8 y0 : UInt8) (y1 y2 : UInt64) (y3 : List UInt8)
    (y4 : List (List UInt8 × List UInt8)) (y5 y6 : UInt8) (y7 : Int64) (y8 : UInt8) =>
  oite t
    (oite (a0 == b0) (some (decide (a10 = b10) && (decide (a11 = b11) && (decide (a12 = b12) && true)), ()))
      (some (false, ())))
    (oite (decide (x0 = y0))
      (oite (decide (x1 = y1))
        (oite (decide (x2 = y2))
          (oite (x3 == y3)
            (oite (decide (x5 = y5))
              (oite (decide (x6 = y6))
                (oite (decide (x7 = y7))
                  (oite (decide (x8 = y8))
                    (obind (F33 n (x4, y4)) fun (x_1 : Bool × Unit) => some (Prod.fst x_1, ()))
                    (some (false, ())))
                  (some (false, ())))
                (some (false, ())))
              (some (false, ())))
            (some (false, ())))
          (some (false, ())))
        (some (false, ())))
      (some (false, ())))
def F14 : Nat →
  (Bool ×
        UInt8 ×
          UInt64 ×
            UInt64 ×
              List UInt8 × List (List UInt8 × List UInt8) × UInt8 × UInt8 × Int64 × UInt8 × UInt8 × UInt64 × UInt64) ×
      Bool ×
        UInt8 ×
          UInt64 ×
            UInt64 ×
              List UInt8 × List (List UInt8 × List UInt8) × UInt8 × UInt8 × Int64 × UInt8 × UInt8 × UInt64 × UInt64 →
    Option (Bool × Unit) := fun (n : Nat)
    (x :
      (Bool ×
          UInt8 ×
            UInt64 ×
              UInt64 ×
                List UInt8 × List (List UInt8 × List UInt8) × UInt8 × UInt8 × Int64 × UInt8 × UInt8 × UInt64 × UInt64) ×
        Bool ×
          UInt8 ×
            UInt64 ×
              UInt64 ×
                List UInt8 ×
                  List (List UInt8 × List UInt8) × UInt8 × UInt8 × Int64 × UInt8 × UInt8 × UInt64 × UInt64) =>
  ojoinA (14 : Nat)
    [PT.bool, PT.bool, PT.int IntKind.u8, PT.int IntKind.u64, PT.int IntKind.u64, PT.bytes,
      PT.list (CTs.cons CT.str (CTs.cons CT.str CTs.nil)), PT.int IntKind.u8, PT.int IntKind.u8, PT.int IntKind.i64,
      PT.int IntKind.u8, PT.int IntKind.u8, PT.int IntKind.u64, PT.int IntKind.u64, PT.bool, PT.int IntKind.u8,
      PT.int IntKind.u64, PT.int IntKind.u64, PT.bytes, PT.list (CTs.cons CT.str (CTs.cons CT.str CTs.nil)),
      PT.int IntKind.u8, PT.int IntKind.u8, PT.int IntKind.i64, PT.int IntKind.u8, PT.int IntKind.u8,
      PT.int IntKind.u64, PT.int IntKind.u64, PT.int IntKind.u8, PT.int IntKind.u64, PT.int IntKind.u64, PT.bytes,
      PT.list (CTs.cons CT.str (CTs.cons CT.str CTs.nil)), PT.int IntKind.u8, PT.int IntKind.u8, PT.int IntKind.i64,
      PT.int IntKind.u8, PT.int IntKind.u8, PT.int IntKind.u64, PT.int IntKind.u64, PT.bytes,
      PT.list (CTs.cons CT.str (CTs.cons CT.str CTs.nil)), PT.int IntKind.u8, PT.int IntKind.u8, PT.int IntKind.i64,
      PT.int IntKind.u8]
    (fun
        (J :
          Arr
            [PT.bool, PT.bool, PT.int IntKind.u8, PT.int IntKind.u64, PT.int IntKind.u64, PT.bytes,
              PT.list (CTs.cons CT.str (CTs.cons CT.str CTs.nil)), PT.int IntKind.u8, PT.int IntKind.u8,
              PT.int IntKind.i64, PT.int IntKind.u8, PT.int IntKind.u8, PT.int IntKind.u64, PT.int IntKind.u64, PT.bool,
              PT.int IntKind.u8, PT.int IntKind.u64, PT.int IntKind.u64, PT.bytes,
              PT.list (CTs.cons CT.str (CTs.cons CT.str CTs.nil)), PT.int IntKind.u8, PT.int IntKind.u8,
              PT.int IntKind.i64, PT.int IntKind.u8, PT.int IntKind.u8, PT.int IntKind.u64, PT.int IntKind.u64,
              PT.int IntKind.u8, PT.int IntKind.u64, PT.int IntKind.u64, PT.bytes,
              PT.list (CTs.cons CT.str (CTs.cons CT.str CTs.nil)), PT.int IntKind.u8, PT.int IntKind.u8,
              PT.int IntKind.i64, PT.int IntKind.u8, PT.int IntKind.u8, PT.int IntKind.u64, PT.int IntKind.u64,
              PT.bytes, PT.list (CTs.cons CT.str (CTs.cons CT.str CTs.nil)), PT.int IntKind.u8, PT.int IntKind.u8,
              PT.int IntKind.i64, PT.int IntKind.u8]
            (Option (Bool × Unit))) =>
      oite (Prod.fst (Prod.fst x))
        (J true (Prod.fst (Prod.fst x)) (Prod.fst (Prod.snd (Prod.fst x))) (Prod.fst (Prod.snd (Prod.snd (Prod.fst x))))
          (Prod.fst (Prod.snd (Prod.snd (Prod.snd (Prod.fst x)))))
          (Prod.fst (Prod.snd (Prod.snd (Prod.snd (Prod.snd (Prod.fst x))))))
          (Prod.fst (Prod.snd (Prod.snd (Prod.snd (Prod.snd (Prod.snd (Prod.fst x)))))))
          (Prod.fst (Prod.snd (Prod.snd (Prod.snd (Prod.snd (Prod.snd (Prod.snd (Prod.fst x))))))))
          (Prod.fst (Prod.snd (Prod.snd (Prod.snd (Prod.snd (Prod.snd (Prod.snd (Prod.snd (Prod.fst x)))))))))
          (Prod.fst
            (Prod.snd (Prod.snd (Prod.snd (Prod.snd (Prod.snd (Prod.snd (Prod.snd (Prod.snd (Prod.fst x))))))))))
          (Prod.fst
            (Prod.snd
              (Prod.snd (Prod.snd (Prod.snd (Prod.snd (Prod.snd (Prod.snd (Prod.snd (Prod.snd (Prod.fst x)))))))))))
          (Prod.fst
            (Prod.snd
              (Prod.snd
                (Prod.snd (Prod.snd (Prod.snd (Prod.snd (Prod.snd (Prod.snd (Prod.snd (Prod.snd (Prod.fst x))))))))))))
          (Prod.fst
            (Prod.snd
              (Prod.snd
                (Prod.snd
                  (Prod.snd
                    (Prod.snd (Prod.snd (Prod.snd (Prod.snd (Prod.snd (Prod.snd (Prod.snd (Prod.fst x)))))))))))))
          (Prod.snd
            (Prod.snd
              (Prod.snd
                (Prod.snd
                  (Prod.snd
                    (Prod.snd (Prod.snd (Prod.snd (Prod.snd (Prod.snd (Prod.snd (Prod.snd (Prod.fst x)))))))))))))
          (Prod.fst (Prod.snd x)) (Prod.fst (Prod.snd (Prod.snd x))) (Prod.fst (Prod.snd (Prod.snd (Prod.snd x))))
          (Prod.fst (Prod.snd (Prod.snd (Prod.snd (Prod.snd x)))))
          (Prod.fst (Prod.snd (Prod.snd (Prod.snd (Prod.snd (Prod.snd x))))))
          (Prod.fst (Prod.snd (Prod.snd (Prod.snd (Prod.snd (Prod.snd (Prod.snd x)))))))
          (Prod.fst (Prod.snd (Prod.snd (Prod.snd (Prod.snd (Prod.snd (Prod.snd (Prod.snd x))))))))
          (Prod.fst (Prod.snd (Prod.snd (Prod.snd (Prod.snd (Prod.snd (Prod.snd (Prod.snd (Prod.snd x)))))))))
          (Prod.fst
            (Prod.snd (Prod.snd (Prod.snd (Prod.snd (Prod.snd (Prod.snd (Prod.snd (Prod.snd (Prod.snd x))))))))))
          (Prod.fst
            (Prod.snd
              (Prod.snd (Prod.snd (Prod.snd (Prod.snd (Prod.snd (Prod.snd (Prod.snd (Prod.snd (Prod.snd x)))))))))))
          (Prod.fst
            (Prod.snd
              (Prod.snd
                (Prod.snd (Prod.snd (Prod.snd (Prod.snd (Prod.snd (Prod.snd (Prod.snd (Prod.snd (Prod.snd x))))))))))))
          (Prod.fst
            (Prod.snd
              (Prod.snd
                (Prod.snd
                  (Prod.snd
                    (Prod.snd (Prod.snd (Prod.snd (Prod.snd (Prod.snd (Prod.snd (Prod.snd (Prod.snd x)))))))))))))
          (Prod.snd
            (Prod.snd
              (Prod.snd
                (Prod.snd
                  (Prod.snd
                    (Prod.snd (Prod.snd (Prod.snd (Prod.snd (Prod.snd (Prod.snd (Prod.snd (Prod.snd x)))))))))))))
          (Prod.fst (Prod.snd (Prod.fst x))) (Prod.fst (Prod.snd (Prod.snd (Prod.fst x))))
          (Prod.fst (Prod.snd (Prod.snd (Prod.snd (Prod.fst x)))))
          (Prod.fst (Prod.snd (Prod.snd (Prod.snd (Prod.snd (Prod.fst x))))))
          (Prod.fst (Prod.snd (Prod.snd (Prod.snd (Prod.snd (Prod.snd (Prod.fst x)))))))
          (Prod.fst (Prod.snd (Prod.snd (Prod.snd (Prod.snd (Prod.snd (Prod.snd (Prod.fst x))))))))
          (Prod.fst (Prod.snd (Prod.snd (Prod.snd (Prod.snd (Prod.snd (Prod.snd (Prod.snd (Prod.fst x)))))))))
          (Prod.fst
            (Prod.snd (Prod.snd (Prod.snd (Prod.snd (Prod.snd (Prod.snd (Prod.snd (Prod.snd (Prod.fst x))))))))))
          (Prod.fst
            (Prod.snd
              (Prod.snd (Prod.snd (Prod.snd (Prod.snd (Prod.snd (Prod.snd (Prod.snd (Prod.snd (Prod.fst x)))))))))))
          (Prod.fst (Prod.snd (Prod.snd x))) (Prod.fst (Prod.snd (Prod.snd (Prod.snd x))))
          (Prod.fst (Prod.snd (Prod.snd (Prod.snd (Prod.snd x)))))
          (Prod.fst (Prod.snd (Prod.snd (Prod.snd (Prod.snd (Prod.snd x))))))
          (Prod.fst (Prod.snd (Prod.snd (Prod.snd (Prod.snd (Prod.snd (Prod.snd x)))))))
          (Prod.fst (Prod.snd (Prod.snd (Prod.snd (Prod.snd (Prod.snd (Prod.snd (Prod.snd x))))))))
          (Prod.fst (Prod.snd (Prod.snd (Prod.snd (Prod.snd (Prod.snd (Prod.snd (Prod.snd (Prod.snd x)))))))))
          (Prod.fst
            (Prod.snd (Prod.snd (Prod.snd (Prod.snd (Prod.snd (Prod.snd (Prod.snd (Prod.snd (Prod.snd x))))))))))
          (Prod.fst
            (Prod.snd
              (Prod.snd (Prod.snd (Prod.snd (Prod.snd (Prod.snd (Prod.snd (Prod.snd (Prod.snd (Prod.snd x))))))))))))
        (J (Prod.fst (Prod.snd x)) (Prod.fst (Prod.fst x)) (Prod.fst (Prod.snd (Prod.fst x)))
          (Prod.fst (Prod.snd (Prod.snd (Prod.fst x)))) (Prod.fst (Prod.snd (Prod.snd (Prod.snd (Prod.fst x)))))
          (Prod.fst (Prod.snd (Prod.snd (Prod.snd (Prod.snd (Prod.fst x))))))
          (Prod.fst (Prod.snd (Prod.snd (Prod.snd (Prod.snd (Prod.snd (Prod.fst x)))))))
          (Prod.fst (Prod.snd (Prod.snd (Prod.snd (Prod.snd (Prod.snd (Prod.snd (Prod.fst x))))))))
          (Prod.fst (Prod.snd (Prod.snd (Prod.snd (Prod.snd (Prod.snd (Prod.snd (Prod.snd (Prod.fst x)))))))))
          (Prod.fst
            (Prod.snd (Prod.snd (Prod.snd (Prod.snd (Prod.snd (Prod.snd (Prod.snd (Prod.snd (Prod.fst x))))))))))
          (Prod.fst
            (Prod.snd
              (Prod.snd (Prod.snd (Prod.snd (Prod.snd (Prod.snd (Prod.snd (Prod.snd (Prod.snd (Prod.fst x)))))))))))
          (Prod.fst
            (Prod.snd
              (Prod.snd
                (Prod.snd (Prod.snd (Prod.snd (Prod.snd (Prod.snd (Prod.snd (Prod.snd (Prod.snd (Prod.fst x))))))))))))
          (Prod.fst
            (Prod.snd
              (Prod.snd
                (Prod.snd
                  (Prod.snd
                    (Prod.snd (Prod.snd (Prod.snd (Prod.snd (Prod.snd (Prod.snd (Prod.snd (Prod.fst x)))))))))))))
          (Prod.snd
            (Prod.snd
              (Prod.snd
                (Prod.snd
                  (Prod.snd
                    (Prod.snd (Prod.snd (Prod.snd (Prod.snd (Prod.snd (Prod.snd (Prod.snd (Prod.fst x)))))))))))))
          (Prod.fst (Prod.snd x)) (Prod.fst (Prod.snd (Prod.snd x))) (Prod.fst (Prod.snd (Prod.snd (Prod.snd x))))
          (Prod.fst (Prod.snd (Prod.snd (Prod.snd (Prod.snd x)))))
          (Prod.fst (Prod.snd (Prod.snd (Prod.snd (Prod.snd (Prod.snd x))))))
          (Prod.fst (Prod.snd (Prod.snd (Prod.snd (Prod.snd (Prod.snd (Prod.snd x)))))))
          (Prod.fst (Prod.snd (Prod.snd (Prod.snd (Prod.snd (Prod.snd (Prod.snd (Prod.snd x))))))))
          (Prod.fst (Prod.snd (Prod.snd (Prod.snd (Prod.snd (Prod.snd (Prod.snd (Prod.snd (Prod.snd x)))))))))
          (Prod.fst
            (Prod.snd (Prod.snd (Prod.snd (Prod.snd (Prod.snd (Prod.snd (Prod.snd (Prod.snd (Prod.snd x))))))))))
          (Prod.fst
            (Prod.snd
              (Prod.snd (Prod.snd (Prod.snd (Prod.snd (Prod.snd (Prod.snd (Prod.snd (Prod.snd (Prod.snd x)))))))))))
          (Prod.fst
            (Prod.snd
              (Prod.snd
                (Prod.snd (Prod.snd (Prod.snd (Prod.snd (Prod.snd (Prod.snd (Prod.snd (Prod.snd (Prod.snd x))))))))))))
          (Prod.fst
            (Prod.snd
              (Prod.snd
                (Prod.snd
                  (Prod.snd
                    (Prod.snd (Prod.snd (Prod.snd (Prod.snd (Prod.snd (Prod.snd (Prod.snd (Prod.snd x)))))))))))))
          (Prod.snd
            (Prod.snd
              (Prod.snd
                (Prod.snd
                  (Prod.snd
                    (Prod.snd (Prod.snd (Prod.snd (Prod.snd (Prod.snd (Prod.snd (Prod.snd (Prod.snd x)))))))))))))
          (Prod.fst (Prod.snd (Prod.fst x))) (Prod.fst (Prod.snd (Prod.snd (Prod.fst x))))
          (Prod.fst (Prod.snd (Prod.snd (Prod.snd (Prod.fst x)))))
          (Prod.fst (Prod.snd (Prod.snd (Prod.snd (Prod.snd (Prod.fst x))))))
          (Prod.fst (Prod.snd (Prod.snd (Prod.snd (Prod.snd (Prod.snd (Prod.fst x)))))))
          (Prod.fst (Prod.snd (Prod.snd (Prod.snd (Prod.snd (Prod.snd (Prod.snd (Prod.fst x))))))))
          (Prod.fst (Prod.snd (Prod.snd (Prod.snd (Prod.snd (Prod.snd (Prod.snd (Prod.snd (Prod.fst x)))))))))
          (Prod.fst
            (Prod.snd (Prod.snd (Prod.snd (Prod.snd (Prod.snd (Prod.snd (Prod.snd (Prod.snd (Prod.fst x))))))))))
          (Prod.fst
            (Prod.snd
              (Prod.snd (Prod.snd (Prod.snd (Prod.snd (Prod.snd (Prod.snd (Prod.snd (Prod.snd (Prod.fst x)))))))))))
          (Prod.fst (Prod.snd (Prod.snd x))) (Prod.fst (Prod.snd (Prod.snd (Prod.snd x))))
          (Prod.fst (Prod.snd (Prod.snd (Prod.snd (Prod.snd x)))))
          (Prod.fst (Prod.snd (Prod.snd (Prod.snd (Prod.snd (Prod.snd x))))))
          (Prod.fst (Prod.snd (Prod.snd (Prod.snd (Prod.snd (Prod.snd (Prod.snd x)))))))
          (Prod.fst (Prod.snd (Prod.snd (Prod.snd (Prod.snd (Prod.snd (Prod.snd (Prod.snd x))))))))
          (Prod.fst (Prod.snd (Prod.snd (Prod.snd (Prod.snd (Prod.snd (Prod.snd (Prod.snd (Prod.snd x)))))))))
          (Prod.fst
            (Prod.snd (Prod.snd (Prod.snd (Prod.snd (Prod.snd (Prod.snd (Prod.snd (Prod.snd (Prod.snd x))))))))))
          (Prod.fst
            (Prod.snd
              (Prod.snd (Prod.snd (Prod.snd (Prod.snd (Prod.snd (Prod.snd (Prod.snd (Prod.snd (Prod.snd x)))))))))))))
    (F14_J14 n)
theorem ok14 (n : Nat) : FunOK Try.prog ⟨14, sig14, F14 n⟩ :=
  fun_ok (hints := ⟨[(14, ⟨[(2, .one (.own 2)), (3, .one (.own 3)), (5, .one (.own 4)), (6, .one (.own 5)), (16, .one (.bool))], [(2, .cells [.bool, .int .u8, .int .u64, .int .u64, .str, .ro (.cons .str (.cons .str .nil)), .int .u8, .int .u8, .int .i64, .int .u8, .int .u8, .int .u64, .int .u64]), (3, .cells [.bool, .int .u8, .int .u64, .int .u64, .str, .ro (.cons .str (.cons .str .nil)), .int .u8, .int .u8, .int .i64, .int .u8, .int .u8, .int .u64, .int .u64]), (4, .cells [.int .u8, .int .u64, .int .u64, .str, .ro (.cons .str (.cons .str .nil)), .int .u8, .int .u8, .int .i64, .int .u8]), (5, .cells [.int .u8, .int .u64, .int .u64, .str, .ro (.cons .str (.cons .str .nil)), .int .u8, .int .u8, .int .i64, .int .u8])], 6⟩)], []⟩) (fuel := n) (c := Try.f14.body.getD .skip) (rs := Try.f14.results.toList) tt_ok mix (FsOK.cons (ok33 n) (FsOK.nil)) Try.func14 (by kernel_rfl) (by kernel_rfl) rfl (by kernel_rfl) rfl rfl (by kernel_rfl)
-- watchfire/frame.bare
def sig37 : Sig := ⟨(.cons (.agg (.cons .bool (.cons (.int .u8) (.cons (.int .u64) (.cons (.int .u64) (.cons .str (.cons (.ro (.cons .str (.cons .str .nil))) (.cons (.int .u8) (.cons (.int .u8) (.cons (.int .i64) (.cons (.int .u8) (.cons (.int .u8) (.cons (.int .u64) (.cons (.int .u64) .nil)))))))))))))) .nil), (.cons (.one (.c .bool)) .nil)⟩
def F37 : Nat →
  Bool ×
      UInt8 ×
        UInt64 ×
          UInt64 ×
            List UInt8 × List (List UInt8 × List UInt8) × UInt8 × UInt8 × Int64 × UInt8 × UInt8 × UInt64 × UInt64 →
    Option (Bool × Unit) := fun (n : Nat)
    (x :
      Bool ×
        UInt8 ×
          UInt64 ×
            UInt64 ×
              List UInt8 × List (List UInt8 × List UInt8) × UInt8 × UInt8 × Int64 × UInt8 × UInt8 × UInt64 × UInt64) =>
  obind
    (F14 n
      ((Prod.fst x, Prod.fst (Prod.snd x), Prod.fst (Prod.snd (Prod.snd x)),
          Prod.fst (Prod.snd (Prod.snd (Prod.snd x))), Prod.fst (Prod.snd (Prod.snd (Prod.snd (Prod.snd x)))),
          Prod.fst (Prod.snd (Prod.snd (Prod.snd (Prod.snd (Prod.snd x))))),
          Prod.fst (Prod.snd (Prod.snd (Prod.snd (Prod.snd (Prod.snd (Prod.snd x)))))),
          Prod.fst (Prod.snd (Prod.snd (Prod.snd (Prod.snd (Prod.snd (Prod.snd (Prod.snd x))))))),
          Prod.fst (Prod.snd (Prod.snd (Prod.snd (Prod.snd (Prod.snd (Prod.snd (Prod.snd (Prod.snd x)))))))),
          Prod.fst (Prod.snd (Prod.snd (Prod.snd (Prod.snd (Prod.snd (Prod.snd (Prod.snd (Prod.snd (Prod.snd x))))))))),
          Prod.fst
            (Prod.snd
              (Prod.snd (Prod.snd (Prod.snd (Prod.snd (Prod.snd (Prod.snd (Prod.snd (Prod.snd (Prod.snd x)))))))))),
          Prod.fst
            (Prod.snd
              (Prod.snd
                (Prod.snd (Prod.snd (Prod.snd (Prod.snd (Prod.snd (Prod.snd (Prod.snd (Prod.snd (Prod.snd x))))))))))),
          Prod.snd
            (Prod.snd
              (Prod.snd
                (Prod.snd (Prod.snd (Prod.snd (Prod.snd (Prod.snd (Prod.snd (Prod.snd (Prod.snd (Prod.snd x)))))))))))),
        false, (0 : UInt8), (0 : UInt64), (0 : UInt64), [], [], (0 : UInt8), (0 : UInt8), (0 : Int64), (0 : UInt8),
        (0 : UInt8), (0 : UInt64), (0 : UInt64)))
    fun (x_1 : Bool × Unit) => some (Prod.fst x_1, ())
theorem ok37 (n : Nat) : FunOK Try.prog ⟨37, sig37, F37 n⟩ :=
  fun_ok (hints := ⟨[], []⟩) (fuel := n) (c := Try.f37.body.getD .skip) (rs := Try.f37.results.toList) tt_ok mix (FsOK.cons (ok14 n) (FsOK.nil)) Try.func37 (by kernel_rfl) (by kernel_rfl) rfl (by kernel_rfl) rfl rfl (by kernel_rfl)
-- watchfire/frame.Check
def sig19 : Sig := ⟨(.cons (.agg (.cons (.int .u8) (.cons (.int .u8) (.cons (.int .u8) (.cons (.int .u64) (.cons (.int .u64) (.cons .bool (.cons (.int .u8) (.cons (.int .u64) (.cons (.int .u64) (.cons .str (.cons (.ro (.cons .str (.cons .str .nil))) (.cons (.int .u8) (.cons (.int .u8) (.cons (.int .i64) (.cons (.int .u8) (.cons (.int .u8) (.cons (.int .u64) (.cons (.int .u64) (.cons (.int .u64) (.cons (.int .u64) (.cons (.int .u64) .nil)))))))))))))))))))))) .nil), (.cons (.one (.c (.int .i64))) .nil)⟩
def F19 : Nat →
  UInt8 ×
      UInt8 ×
        UInt8 ×
          UInt64 ×
            UInt64 ×
              Bool ×
                UInt8 ×
                  UInt64 ×
                    UInt64 ×
                      List UInt8 ×
                        List (List UInt8 × List UInt8) ×
                          UInt8 × UInt8 × Int64 × UInt8 × UInt8 × UInt64 × UInt64 × UInt64 × UInt64 × UInt64 →
    Option (Int64 × Unit) := fun (n : Nat)
    (x :
      UInt8 ×
        UInt8 ×
          UInt8 ×
            UInt64 ×
              UInt64 ×
                Bool ×
                  UInt8 ×
                    UInt64 ×
                      UInt64 ×
                        List UInt8 ×
                          List (List UInt8 × List UInt8) ×
                            UInt8 × UInt8 × Int64 × UInt8 × UInt8 × UInt64 × UInt64 × UInt64 × UInt64 × UInt64) =>
  oite (decide (Prod.fst x < (1 : UInt8))) (some ((12 : Int64), ()))
    (oite (decide ((3 : UInt8) < Prod.fst x)) (some ((12 : Int64), ()))
      (oite (decide ((32 : UInt8) ≤ Prod.fst (Prod.snd x))) (some ((20 : Int64), ()))
        (oite (decide ((32 : UInt8) ≤ Prod.fst (Prod.snd (Prod.snd x)))) (some ((20 : Int64), ()))
          (oite (decide (Prod.fst (Prod.snd x) = Prod.fst (Prod.snd (Prod.snd x)))) (some ((20 : Int64), ()))
            (oite (decide ((1099511627776 : UInt64) < Prod.fst (Prod.snd (Prod.snd (Prod.snd x)))))
              (some ((6 : Int64), ()))
              (oite (decide ((1099511627776 : UInt64) < Prod.fst (Prod.snd (Prod.snd (Prod.snd (Prod.snd x))))))
                (some ((6 : Int64), ()))
                (oite
                  (decide
                    ((1099511627776 : UInt64) <
                      Prod.fst
                        (Prod.snd
                          (Prod.snd
                            (Prod.snd
                              (Prod.snd
                                (Prod.snd
                                  (Prod.snd
                                    (Prod.snd
                                      (Prod.snd
                                        (Prod.snd
                                          (Prod.snd
                                            (Prod.snd
                                              (Prod.snd
                                                (Prod.snd
                                                  (Prod.snd
                                                    (Prod.snd (Prod.snd (Prod.snd (Prod.snd x))))))))))))))))))))
                  (some ((6 : Int64), ()))
                  (oite
                    (decide
                      ((1099511627776 : UInt64) <
                        Prod.snd
                          (Prod.snd
                            (Prod.snd
                              (Prod.snd
                                (Prod.snd
                                  (Prod.snd
                                    (Prod.snd
                                      (Prod.snd
                                        (Prod.snd
                                          (Prod.snd
                                            (Prod.snd
                                              (Prod.snd
                                                (Prod.snd
                                                  (Prod.snd
                                                    (Prod.snd
                                                      (Prod.snd
                                                        (Prod.snd (Prod.snd (Prod.snd (Prod.snd x)))))))))))))))))))))
                    (some ((6 : Int64), ()))
                    (oite (decide (Prod.fst x = (1 : UInt8)))
                      (oite (decide (Prod.fst (Prod.snd (Prod.snd (Prod.snd (Prod.snd x)))) < (1 : UInt64)))
                        (some ((6 : Int64), ()))
                        (oite (decide (Prod.fst (Prod.snd (Prod.snd (Prod.snd x))) < (1 : UInt64)))
                          (some ((6 : Int64), ()))
                          (oite
                            (!decide
                                (Prod.fst
                                    (Prod.snd
                                      (Prod.snd
                                        (Prod.snd
                                          (Prod.snd
                                            (Prod.snd
                                              (Prod.snd
                                                (Prod.snd
                                                  (Prod.snd
                                                    (Prod.snd
                                                      (Prod.snd
                                                        (Prod.snd
                                                          (Prod.snd
                                                            (Prod.snd
                                                              (Prod.snd
                                                                (Prod.snd
                                                                  (Prod.snd (Prod.snd (Prod.snd x)))))))))))))))))) =
                                  (0 : UInt64)))
                            (some ((6 : Int64), ()))
                            (oite
                              (!decide
                                  (Prod.fst
                                      (Prod.snd
                                        (Prod.snd
                                          (Prod.snd
                                            (Prod.snd
                                              (Prod.snd
                                                (Prod.snd
                                                  (Prod.snd
                                                    (Prod.snd
                                                      (Prod.snd
                                                        (Prod.snd
                                                          (Prod.snd
                                                            (Prod.snd
                                                              (Prod.snd
                                                                (Prod.snd
                                                                  (Prod.snd
                                                                    (Prod.snd
                                                                      (Prod.snd
                                                                        (Prod.snd (Prod.snd x))))))))))))))))))) =
                                    (0 : UInt64)))
                              (some ((6 : Int64), ()))
                              (oite
                                (!decide
                                    (Prod.snd
                                        (Prod.snd
                                          (Prod.snd
                                            (Prod.snd
                                              (Prod.snd
                                                (Prod.snd
                                                  (Prod.snd
                                                    (Prod.snd
                                                      (Prod.snd
                                                        (Prod.snd
                                                          (Prod.snd
                                                            (Prod.snd
                                                              (Prod.snd
                                                                (Prod.snd
                                                                  (Prod.snd
                                                                    (Prod.snd
                                                                      (Prod.snd
                                                                        (Prod.snd
                                                                          (Prod.snd (Prod.snd x))))))))))))))))))) =
                                      (0 : UInt64)))
                                (some ((6 : Int64), ()))
                                (obind
                                  (F36 n
                                    (Prod.fst (Prod.snd (Prod.snd (Prod.snd (Prod.snd (Prod.snd x))))),
                                      Prod.fst (Prod.snd (Prod.snd (Prod.snd (Prod.snd (Prod.snd (Prod.snd x)))))),
                                      Prod.fst
                                        (Prod.snd (Prod.snd (Prod.snd (Prod.snd (Prod.snd (Prod.snd (Prod.snd x))))))),
                                      Prod.fst
                                        (Prod.snd
                                          (Prod.snd
                                            (Prod.snd (Prod.snd (Prod.snd (Prod.snd (Prod.snd (Prod.snd x)))))))),
                                      Prod.fst
                                        (Prod.snd
                                          (Prod.snd
                                            (Prod.snd
                                              (Prod.snd (Prod.snd (Prod.snd (Prod.snd (Prod.snd (Prod.snd x))))))))),
                                      Prod.fst
                                        (Prod.snd
                                          (Prod.snd
                                            (Prod.snd
                                              (Prod.snd
                                                (Prod.snd (Prod.snd (Prod.snd (Prod.snd (Prod.snd (Prod.snd x)))))))))),
                                      Prod.fst
                                        (Prod.snd
                                          (Prod.snd
                                            (Prod.snd
                                              (Prod.snd
                                                (Prod.snd
                                                  (Prod.snd
                                                    (Prod.snd (Prod.snd (Prod.snd (Prod.snd (Prod.snd x))))))))))),
                                      Prod.fst
                                        (Prod.snd
                                          (Prod.snd
                                            (Prod.snd
                                              (Prod.snd
                                                (Prod.snd
                                                  (Prod.snd
                                                    (Prod.snd
                                                      (Prod.snd (Prod.snd (Prod.snd (Prod.snd (Prod.snd x)))))))))))),
                                      Prod.fst
                                        (Prod.snd
                                          (Prod.snd
                                            (Prod.snd
                                              (Prod.snd
                                                (Prod.snd
                                                  (Prod.snd
                                                    (Prod.snd
                                                      (Prod.snd
                                                        (Prod.snd
                                                          (Prod.snd (Prod.snd (Prod.snd (Prod.snd x))))))))))))),
                                      Prod.fst
                                        (Prod.snd
                                          (Prod.snd
                                            (Prod.snd
                                              (Prod.snd
                                                (Prod.snd
                                                  (Prod.snd
                                                    (Prod.snd
                                                      (Prod.snd
                                                        (Prod.snd
                                                          (Prod.snd
                                                            (Prod.snd (Prod.snd (Prod.snd (Prod.snd x)))))))))))))),
                                      Prod.fst
                                        (Prod.snd
                                          (Prod.snd
                                            (Prod.snd
                                              (Prod.snd
                                                (Prod.snd
                                                  (Prod.snd
                                                    (Prod.snd
                                                      (Prod.snd
                                                        (Prod.snd
                                                          (Prod.snd
                                                            (Prod.snd
                                                              (Prod.snd (Prod.snd (Prod.snd (Prod.snd x))))))))))))))),
                                      Prod.fst
                                        (Prod.snd
                                          (Prod.snd
                                            (Prod.snd
                                              (Prod.snd
                                                (Prod.snd
                                                  (Prod.snd
                                                    (Prod.snd
                                                      (Prod.snd
                                                        (Prod.snd
                                                          (Prod.snd
                                                            (Prod.snd
                                                              (Prod.snd
                                                                (Prod.snd
                                                                  (Prod.snd (Prod.snd (Prod.snd x)))))))))))))))),
                                      Prod.fst
                                        (Prod.snd
                                          (Prod.snd
                                            (Prod.snd
                                              (Prod.snd
                                                (Prod.snd
                                                  (Prod.snd
                                                    (Prod.snd
                                                      (Prod.snd
                                                        (Prod.snd
                                                          (Prod.snd
                                                            (Prod.snd
                                                              (Prod.snd
                                                                (Prod.snd
                                                                  (Prod.snd
                                                                    (Prod.snd (Prod.snd (Prod.snd x)))))))))))))))))))
                                  fun (x_1 : Int64 × Unit) => some (Prod.fst x_1, ())))))))
                      (oite (decide (Prod.fst x = (2 : UInt8)))
                        (oite (!decide (Prod.fst (Prod.snd (Prod.snd (Prod.snd (Prod.snd x)))) = (0 : UInt64)))
                          (some ((6 : Int64), ()))
                          (oite (decide (Prod.fst (Prod.snd (Prod.snd (Prod.snd x))) < (1 : UInt64)))
                            (some ((6 : Int64), ()))
                            (oite
                              (decide
                                (Prod.snd
                                    (Prod.snd
                                      (Prod.snd
                                        (Prod.snd
                                          (Prod.snd
                                            (Prod.snd
                                              (Prod.snd
                                                (Prod.snd
                                                  (Prod.snd
                                                    (Prod.snd
                                                      (Prod.snd
                                                        (Prod.snd
                                                          (Prod.snd
                                                            (Prod.snd
                                                              (Prod.snd
                                                                (Prod.snd
                                                                  (Prod.snd
                                                                    (Prod.snd (Prod.snd (Prod.snd x))))))))))))))))))) <
                                  (1 : UInt64)))
                              (some ((6 : Int64), ()))
                              (obind
                                (F37 n
                                  (Prod.fst (Prod.snd (Prod.snd (Prod.snd (Prod.snd (Prod.snd x))))),
                                    Prod.fst (Prod.snd (Prod.snd (Prod.snd (Prod.snd (Prod.snd (Prod.snd x)))))),
                                    Prod.fst
                                      (Prod.snd (Prod.snd (Prod.snd (Prod.snd (Prod.snd (Prod.snd (Prod.snd x))))))),
                                    Prod.fst
                                      (Prod.snd
                                        (Prod.snd (Prod.snd (Prod.snd (Prod.snd (Prod.snd (Prod.snd (Prod.snd x)))))))),
                                    Prod.fst
                                      (Prod.snd
                                        (Prod.snd
                                          (Prod.snd
                                            (Prod.snd (Prod.snd (Prod.snd (Prod.snd (Prod.snd (Prod.snd x))))))))),
                                    Prod.fst
                                      (Prod.snd
                                        (Prod.snd
                                          (Prod.snd
                                            (Prod.snd
                                              (Prod.snd (Prod.snd (Prod.snd (Prod.snd (Prod.snd (Prod.snd x)))))))))),
                                    Prod.fst
                                      (Prod.snd
                                        (Prod.snd
                                          (Prod.snd
                                            (Prod.snd
                                              (Prod.snd
                                                (Prod.snd
                                                  (Prod.snd (Prod.snd (Prod.snd (Prod.snd (Prod.snd x))))))))))),
                                    Prod.fst
                                      (Prod.snd
                                        (Prod.snd
                                          (Prod.snd
                                            (Prod.snd
                                              (Prod.snd
                                                (Prod.snd
                                                  (Prod.snd
                                                    (Prod.snd (Prod.snd (Prod.snd (Prod.snd (Prod.snd x)))))))))))),
                                    Prod.fst
                                      (Prod.snd
                                        (Prod.snd
                                          (Prod.snd
                                            (Prod.snd
                                              (Prod.snd
                                                (Prod.snd
                                                  (Prod.snd
                                                    (Prod.snd
                                                      (Prod.snd (Prod.snd (Prod.snd (Prod.snd (Prod.snd x))))))))))))),
                                    Prod.fst
                                      (Prod.snd
                                        (Prod.snd
                                          (Prod.snd
                                            (Prod.snd
                                              (Prod.snd
                                                (Prod.snd
                                                  (Prod.snd
                                                    (Prod.snd
                                                      (Prod.snd
                                                        (Prod.snd
                                                          (Prod.snd (Prod.snd (Prod.snd (Prod.snd x)))))))))))))),
                                    Prod.fst
                                      (Prod.snd
                                        (Prod.snd
                                          (Prod.snd
                                            (Prod.snd
                                              (Prod.snd
                                                (Prod.snd
                                                  (Prod.snd
                                                    (Prod.snd
                                                      (Prod.snd
                                                        (Prod.snd
                                                          (Prod.snd
                                                            (Prod.snd (Prod.snd (Prod.snd (Prod.snd x))))))))))))))),
                                    Prod.fst
                                      (Prod.snd
                                        (Prod.snd
                                          (Prod.snd
                                            (Prod.snd
                                              (Prod.snd
                                                (Prod.snd
                                                  (Prod.snd
                                                    (Prod.snd
                                                      (Prod.snd
                                                        (Prod.snd
                                                          (Prod.snd
                                                            (Prod.snd
                                                              (Prod.snd (Prod.snd (Prod.snd (Prod.snd x)))))))))))))))),
                                    Prod.fst
                                      (Prod.snd
                                        (Prod.snd
                                          (Prod.snd
                                            (Prod.snd
                                              (Prod.snd
                                                (Prod.snd
                                                  (Prod.snd
                                                    (Prod.snd
                                                      (Prod.snd
                                                        (Prod.snd
                                                          (Prod.snd
                                                            (Prod.snd
                                                              (Prod.snd
                                                                (Prod.snd
                                                                  (Prod.snd (Prod.snd (Prod.snd x)))))))))))))))))))
                                fun (x_1 : Bool × Unit) =>
                                oite (!Prod.fst x_1) (some ((6 : Int64), ()))
                                  (some ((0 : Int64), ()))))))
                        (oite (decide (Prod.fst x = (3 : UInt8)))
                          (oite (!decide (Prod.fst (Prod.snd (Prod.snd (Prod.snd (Prod.snd x)))) = (0 : UInt64)))
                            (some ((6 : Int64), ()))
                            (oite (!decide (Prod.fst (Prod.snd (Prod.snd (Prod.snd x))) = (0 : UInt64)))
                              (some ((6 : Int64), ()))
                              (oite
                                (!decide
                                    (Prod.fst
                                        (Prod.snd
                                          (Prod.snd
                                            (Prod.snd
                                              (Prod.snd
                                                (Prod.snd
                                                  (Prod.snd
                                                    (Prod.snd
                                                      (Prod.snd
                                                        (Prod.snd
                                                          (Prod.snd
                                                            (Prod.snd
                                                              (Prod.snd
                                                                (Prod.snd
                                                                  (Prod.snd
                                                                    (Prod.snd
                                                                      (Prod.snd
                                                                        (Prod.snd (Prod.snd x)))))))))))))))))) =
                                      (0 : UInt64)))
                                (some ((6 : Int64), ()))
                                (oite
                                  (!decide
                                      (Prod.fst
                                          (Prod.snd
                                            (Prod.snd
                                              (Prod.snd
                                                (Prod.snd
                                                  (Prod.snd
                                                    (Prod.snd
                                                      (Prod.snd
                                                        (Prod.snd
                                                          (Prod.snd
                                                            (Prod.snd
                                                              (Prod.snd
                                                                (Prod.snd
                                                                  (Prod.snd
                                                                    (Prod.snd
                                                                      (Prod.snd
                                                                        (Prod.snd
                                                                          (Prod.snd
                                                                            (Prod.snd (Prod.snd x))))))))))))))))))) =
                                        (0 : UInt64)))
                                  (some ((6 : Int64), ()))
                                  (oite
                                    (!decide
                                        (Prod.snd
                                            (Prod.snd
                                              (Prod.snd
                                                (Prod.snd
                                                  (Prod.snd
                                                    (Prod.snd
                                                      (Prod.snd
                                                        (Prod.snd
                                                          (Prod.snd
                                                            (Prod.snd
                                                              (Prod.snd
                                                                (Prod.snd
                                                                  (Prod.snd
                                                                    (Prod.snd
                                                                      (Prod.snd
                                                                        (Prod.snd
                                                                          (Prod.snd
                                                                            (Prod.snd
                                                                              (Prod.snd (Prod.snd x))))))))))))))))))) =
                                          (0 : UInt64)))
                                    (some ((6 : Int64), ()))
                                    (obind
                                      (F37 n
                                        (Prod.fst (Prod.snd (Prod.snd (Prod.snd (Prod.snd (Prod.snd x))))),
                                          Prod.fst (Prod.snd (Prod.snd (Prod.snd (Prod.snd (Prod.snd (Prod.snd x)))))),
                                          Prod.fst
                                            (Prod.snd
                                              (Prod.snd (Prod.snd (Prod.snd (Prod.snd (Prod.snd (Prod.snd x))))))),
                                          Prod.fst
                                            (Prod.snd
                                              (Prod.snd
                                                (Prod.snd (Prod.snd (Prod.snd (Prod.snd (Prod.snd (Prod.snd x)))))))),
                                          Prod.fst
                                            (Prod.snd
                                              (Prod.snd
                                                (Prod.snd
                                                  (Prod.snd
                                                    (Prod.snd (Prod.snd (Prod.snd (Prod.snd (Prod.snd x))))))))),
                                          Prod.fst
                                            (Prod.snd
                                              (Prod.snd
                                                (Prod.snd
                                                  (Prod.snd
                                                    (Prod.snd
                                                      (Prod.snd (Prod.snd (Prod.snd (Prod.snd (Prod.snd x)))))))))),
                                          Prod.fst
                                            (Prod.snd
                                              (Prod.snd
                                                (Prod.snd
                                                  (Prod.snd
                                                    (Prod.snd
                                                      (Prod.snd
                                                        (Prod.snd (Prod.snd (Prod.snd (Prod.snd (Prod.snd x))))))))))),
                                          Prod.fst
                                            (Prod.snd
                                              (Prod.snd
                                                (Prod.snd
                                                  (Prod.snd
                                                    (Prod.snd
                                                      (Prod.snd
                                                        (Prod.snd
                                                          (Prod.snd
                                                            (Prod.snd (Prod.snd (Prod.snd (Prod.snd x)))))))))))),
                                          Prod.fst
                                            (Prod.snd
                                              (Prod.snd
                                                (Prod.snd
                                                  (Prod.snd
                                                    (Prod.snd
                                                      (Prod.snd
                                                        (Prod.snd
                                                          (Prod.snd
                                                            (Prod.snd
                                                              (Prod.snd (Prod.snd (Prod.snd (Prod.snd x))))))))))))),
                                          Prod.fst
                                            (Prod.snd
                                              (Prod.snd
                                                (Prod.snd
                                                  (Prod.snd
                                                    (Prod.snd
                                                      (Prod.snd
                                                        (Prod.snd
                                                          (Prod.snd
                                                            (Prod.snd
                                                              (Prod.snd
                                                                (Prod.snd (Prod.snd (Prod.snd (Prod.snd x)))))))))))))),
                                          Prod.fst
                                            (Prod.snd
                                              (Prod.snd
                                                (Prod.snd
                                                  (Prod.snd
                                                    (Prod.snd
                                                      (Prod.snd
                                                        (Prod.snd
                                                          (Prod.snd
                                                            (Prod.snd
                                                              (Prod.snd
                                                                (Prod.snd
                                                                  (Prod.snd
                                                                    (Prod.snd (Prod.snd (Prod.snd x))))))))))))))),
                                          Prod.fst
                                            (Prod.snd
                                              (Prod.snd
                                                (Prod.snd
                                                  (Prod.snd
                                                    (Prod.snd
                                                      (Prod.snd
                                                        (Prod.snd
                                                          (Prod.snd
                                                            (Prod.snd
                                                              (Prod.snd
                                                                (Prod.snd
                                                                  (Prod.snd
                                                                    (Prod.snd
                                                                      (Prod.snd (Prod.snd (Prod.snd x)))))))))))))))),
                                          Prod.fst
                                            (Prod.snd
                                              (Prod.snd
                                                (Prod.snd
                                                  (Prod.snd
                                                    (Prod.snd
                                                      (Prod.snd
                                                        (Prod.snd
                                                          (Prod.snd
                                                            (Prod.snd
                                                              (Prod.snd
                                                                (Prod.snd
                                                                  (Prod.snd
                                                                    (Prod.snd
                                                                      (Prod.snd
                                                                        (Prod.snd
                                                                          (Prod.snd (Prod.snd x)))))))))))))))))))
                                      fun (x_1 : Bool × Unit) =>
                                      oite (!Prod.fst x_1) (some ((6 : Int64), ()))
                                        (some ((0 : Int64), ()))))))))
                          (some ((0 : Int64), ())))))))))))))
theorem ok19 (n : Nat) : FunOK Try.prog ⟨19, sig19, F19 n⟩ :=
  fun_ok (hints := ⟨[], []⟩) (fuel := n) (c := Try.f19.body.getD .skip) (rs := Try.f19.results.toList) tt_ok mix (FsOK.cons (ok36 n) (FsOK.cons (ok37 n) (FsOK.nil))) Try.func19 (by kernel_rfl) (by kernel_rfl) rfl (by kernel_rfl) rfl rfl (by kernel_rfl)
-- (*watchfire/pack.Writer).Byte
def sig20 : Sig := ⟨(.cons (.one (.ptr (.cons (.row (.cons (.int .u8) .nil)) .nil))) (.cons (.one (.c (.int .u8))) .nil)), .nil⟩
def F20 : Nat → Option (List UInt8) × UInt8 → Option (Unit × Option (List UInt8)) := fun (n : Nat) (x : Option (List UInt8) × UInt8) =>
  oelim (Prod.fst x) (some ((), none)) fun (x_1 : List UInt8) =>
    oite (Nat.ble (List.length x_1 + List.length [Prod.snd x]) (4294967296 : Nat))
      (some ((), some (x_1 ++ [Prod.snd x]))) none
theorem ok20 (n : Nat) : FunOK Try.prog ⟨20, sig20, F20 n⟩ :=
  fun_ok (hints := ⟨[], []⟩) (fuel := n) (c := Try.f20.body.getD .skip) (rs := Try.f20.results.toList) tt_ok mix (FsOK.nil) Try.func20 (by kernel_rfl) (by kernel_rfl) rfl (by kernel_rfl) rfl rfl (by kernel_rfl)
-- (*watchfire/pack.Writer).Uint
def sig21 : Sig := ⟨(.cons (.one (.ptr (.cons (.row (.cons (.int .u8) .nil)) .nil))) (.cons (.one (.c (.int .u64))) .nil)), .nil⟩
def F21_L6 : Arr [PT.int IntKind.u64, PT.list (CTs.cons (CT.int IntKind.u8) CTs.nil)] (Option (Unit × Option (List UInt8))) →
  UInt64 → List UInt8 → Option (Unit × Option (List UInt8)) := fun
    (rec :
      Arr [PT.int IntKind.u64, PT.list (CTs.cons (CT.int IntKind.u8) CTs.nil)] (Option (Unit × Option (List UInt8))))
    (n_ : UInt64) (wl : List UInt8) =>
  oite (decide ((128 : UInt64) ≤ n_))
    (oite (Nat.ble (List.length wl + List.length [UInt8.ofInt ↑(UInt64.toNat n_) ||| (128 : UInt8)]) (4294967296 : Nat))
      (rec (IK.shr IntKind.u64 n_ ↑(UInt64.toNat (7 : UInt64)))
        (wl ++ [UInt8.ofInt ↑(UInt64.toNat n_) ||| (128 : UInt8)]))
      none)
    (oite (Nat.ble (List.length wl + List.length [UInt8.ofInt ↑(UInt64.toNat n_)]) (4294967296 : Nat))
      (some ((), some (wl ++ [UInt8.ofInt ↑(UInt64.toNat n_)]))) none)
def F21_R6 : Nat → PT.T (PT.int IntKind.u64) → List UInt8 → Option (Unit × Option (List UInt8)) := ofixA (6 : Nat) [PT.int IntKind.u64, PT.list (CTs.cons (CT.int IntKind.u8) CTs.nil)] F21_L6
def F21 : Nat → Option (List UInt8) × UInt64 → Option (Unit × Option (List UInt8)) := fun (n : Nat) (x : Option (List UInt8) × UInt64) =>
  oelim (Prod.fst x) (some ((), none)) fun (x_1 : List UInt8) => F21_R6 n (Prod.snd x) x_1
theorem F21_R6_s  (m_ : Nat) : F21_R6  (m_ + 1) = F21_L6  (F21_R6  m_) := rfl
theorem ok21 (n : Nat) : FunOK Try.prog ⟨21, sig21, F21 n⟩ :=
  fun_ok (hints := ⟨[], [(6, ⟨[(0, .one (.own 0)), (1, .one (.int .u64))], [(0, .cells [.own 2]), (2, .row (.cons (.int .u8) .nil))], 3⟩)]⟩) (fuel := n) (c := Try.f21.body.getD .skip) (rs := Try.f21.results.toList) tt_ok mix (FsOK.nil) Try.func21 (by kernel_rfl) (by kernel_rfl) rfl (by kernel_rfl) rfl rfl (by kernel_rfl)
-- (*watchfire/pack.Writer).Bool
def sig38 : Sig := ⟨(.cons (.one (.ptr (.cons (.row (.cons (.int .u8) .nil)) .nil))) (.cons (.one (.c .bool)) .nil)), .nil⟩
def F38 : Nat → Option (List UInt8) × Bool → Option (Unit × Option (List UInt8)) := fun (n : Nat) (x : Option (List UInt8) × Bool) =>
  oite (Prod.snd x)
    (obind (F20 n (Prod.fst x, (1 : UInt8))) fun (x_1 : Unit × Option (List UInt8)) => some ((), Prod.snd x_1))
    (obind (F20 n (Prod.fst x, (0 : UInt8))) fun (x_1 : Unit × Option (List UInt8)) => some ((), Prod.snd x_1))
theorem ok38 (n : Nat) : FunOK Try.prog ⟨38, sig38, F38 n⟩ :=
  fun_ok (hints := ⟨[], []⟩) (fuel := n) (c := Try.f38.body.getD .skip) (rs := Try.f38.results.toList) tt_ok mix (FsOK.cons (ok20 n) (FsOK.nil)) Try.func38 (by kernel_rfl) (by kernel_rfl) rfl (by kernel_rfl) rfl rfl (by kernel_rfl)
-- (*watchfire/pack.Writer).Text
def sig39 : Sig := ⟨(.cons (.one (.ptr (.cons (.row (.cons (.int .u8) .nil)) .nil))) (.cons (.one (.c .str)) .nil)), .nil⟩
def F39 : Nat → Option (List UInt8) × List UInt8 → Option (Unit × Option (List UInt8)) := fun (n : Nat) (x : Option (List UInt8) × List UInt8) =>
  oelim (Prod.fst x) (some ((), none)) fun (x_1 : List UInt8) =>
    obind (F21 n (some x_1, UInt64.ofInt (Int64.toInt (Int64.ofInt ↑(List.length (Prod.snd x))))))
      fun (x_2 : Unit × Option (List UInt8)) =>
      obind (Prod.snd x_2) fun (x_3 : List UInt8) =>
        oite (Nat.ble (List.length x_3 + List.length (Prod.snd x)) (4294967296 : Nat))
          (some ((), some (x_3 ++ Prod.snd x))) none
theorem ok39 (n : Nat) : FunOK Try.prog ⟨39, sig39, F39 n⟩ :=
  fun_ok (hints := ⟨[], []⟩) (fuel := n) (c := Try.f39.body.getD .skip) (rs := Try.f39.results.toList) tt_ok mix (FsOK.cons (ok21 n) (FsOK.nil)) Try.func39 (by kernel_rfl) (by kernel_rfl) rfl (by kernel_rfl) rfl rfl (by kernel_rfl)
-- (*watchfire/pack.Writer).Int
def sig40 : Sig := ⟨(.cons (.one (.ptr (.cons (.row (.cons (.int .u8) .nil)) .nil))) (.cons (.one (.c (.int .i64))) .nil)), .nil⟩
def F40 : Nat → Option (List UInt8) × Int64 → Option (Unit × Option (List UInt8)) := fun (n : Nat) (x : Option (List UInt8) × Int64) =>
  obind
    (F21 n
      (Prod.fst x,
        IK.shl IntKind.u64 (UInt64.ofInt (Int64.toInt (Prod.snd x))) ↑(UInt64.toNat (1 : UInt64)) ^^^
          UInt64.ofInt (Int64.toInt (IK.shr IntKind.i64 (Prod.snd x) ↑(UInt64.toNat (63 : UInt64))))))
    fun (x_1 : Unit × Option (List UInt8)) => some ((), Prod.snd x_1)
theorem ok40 (n : Nat) : FunOK Try.prog ⟨40, sig40, F40 n⟩ :=
  fun_ok (hints := ⟨[], []⟩) (fuel := n) (c := Try.f40.body.getD .skip) (rs := Try.f40.results.toList) tt_ok mix (FsOK.cons (ok21 n) (FsOK.nil)) Try.func40 (by kernel_rfl) (by kernel_rfl) rfl (by kernel_rfl) rfl rfl (by kernel_rfl)
-- watchfire/item.Put
def sig22 : Sig := ⟨(.cons (.one (.ptr (.cons (.row (.cons (.int .u8) .nil)) .nil))) (.cons (.agg (.cons .bool (.cons (.int .u8) (.cons (.int .u64) (.cons (.int .u64) (.cons .str (.cons (.ro (.cons .str (.cons .str .nil))) (.cons (.int .u8) (.cons (.int .u8) (.cons (.int .i64) (.cons (.int .u8) (.cons (.int .u8) (.cons (.int .u64) (.cons (.int .u64) .nil)))))))))))))) .nil)), .nil⟩
def F22_L4093 : Nat →
  Arr
      [PT.list (CTs.cons CT.str (CTs.cons CT.str CTs.nil)), PT.int IntKind.i64, PT.int IntKind.i64,
        PT.opt (OTs.cons (OT.row (CTs.cons (CT.int IntKind.u8) CTs.nil)) OTs.nil), PT.int IntKind.u8,
        PT.int IntKind.u64, PT.int IntKind.u64, PT.bytes, PT.list (CTs.cons CT.str (CTs.cons CT.str CTs.nil)),
        PT.int IntKind.u8, PT.int IntKind.u8, PT.int IntKind.i64, PT.int IntKind.u8]
      (Option (Unit × Option (List UInt8))) →
    List (List UInt8 × List UInt8) →
      Int64 →
        Int64 →
          Option (List UInt8) →
            UInt8 →
              UInt64 →
                UInt64 →
                  List UInt8 →
                    List (List UInt8 × List UInt8) →
                      UInt8 → UInt8 → Int64 → UInt8 → Option (Unit × Option (List UInt8)) := fun (n : Nat)
    (rec :
      Arr
        [PT.list (CTs.cons CT.str (CTs.cons CT.str CTs.nil)), PT.int IntKind.i64, PT.int IntKind.i64,
          PT.opt (OTs.cons (OT.row (CTs.cons (CT.int IntKind.u8) CTs.nil)) OTs.nil), PT.int IntKind.u8,
          PT.int IntKind.u64, PT.int IntKind.u64, PT.bytes, PT.list (CTs.cons CT.str (CTs.cons CT.str CTs.nil)),
          PT.int IntKind.u8, PT.int IntKind.u8, PT.int IntKind.i64, PT.int IntKind.u8]
        (Option (Unit × Option (List UInt8))))
    (t : List (List UInt8 × List UInt8)) (t_1 t_2 : Int64) (w : Option (List UInt8)) (v0 : UInt8) (v1 v2 : UInt64)
    (v3 : List UInt8) (v4 : List (List UInt8 × List UInt8)) (v5 v6 : UInt8) (v7 : Int64) (v8 : UInt8) =>
  oite (decide (t_2 < t_1))
    (obind (at? t (Int64.toInt t_2)) fun (x_7 : List UInt8 × List UInt8) =>
      obind (F39 n (w, Prod.fst x_7)) fun (x_8 : Unit × Option (List UInt8)) =>
        obind (F39 n (Prod.snd x_8, Prod.snd x_7)) fun (x_9 : Unit × Option (List UInt8)) =>
          rec t t_1 (t_2 + (1 : Int64)) (Prod.snd x_9) v0 v1 v2 v3 v4 v5 v6 v7 v8)
    (obind (F20 n (w, v5)) fun (x_7 : Unit × Option (List UInt8)) =>
      obind (F20 n (Prod.snd x_7, v6)) fun (x_8 : Unit × Option (List UInt8)) =>
        obind (F40 n (Prod.snd x_8, v7)) fun (x_9 : Unit × Option (List UInt8)) =>
          obind (F20 n (Prod.snd x_9, v8)) fun (x_10 : Unit × Option (List UInt8)) => some ((), Prod.snd x_10))
def F22_R4093 : Nat →
  Nat →
    PT.T (PT.list (CTs.cons CT.str (CTs.cons CT.str CTs.nil))) →
      Int64 →
        Int64 →
          Option (List UInt8) →
            UInt8 →
              UInt64 →
                UInt64 →
                  List UInt8 →
                    List (List UInt8 × List UInt8) →
                      UInt8 → UInt8 → Int64 → UInt8 → Option (Unit × Option (List UInt8)) := fun (n : Nat) =>
  ofixA (4093 : Nat)
    [PT.list (CTs.cons CT.str (CTs.cons CT.str CTs.nil)), PT.int IntKind.i64, PT.int IntKind.i64,
      PT.opt (OTs.cons (OT.row (CTs.cons (CT.int IntKind.u8) CTs.nil)) OTs.nil), PT.int IntKind.u8, PT.int IntKind.u64,
      PT.int IntKind.u64, PT.bytes, PT.list (CTs.cons CT.str (CTs.cons CT.str CTs.nil)), PT.int IntKind.u8,
      PT.int IntKind.u8, PT.int IntKind.i64, PT.int IntKind.u8]
    (F22_L4093 n)
def F22 : Nat →
  Option (List UInt8) ×
      Bool ×
        UInt8 ×
          UInt64 ×
            UInt64 ×
              List UInt8 × List (List UInt8 × List UInt8) × UInt8 × UInt8 × Int64 × UInt8 × UInt8 × UInt64 × UInt64 →
    Option (Unit × Option (List UInt8)) := fun (n : Nat)
    (x :
      Option (List UInt8) ×
        Bool ×
          UInt8 ×
            UInt64 ×
              UInt64 ×
                List UInt8 ×
                  List (List UInt8 × List UInt8) × UInt8 × UInt8 × Int64 × UInt8 × UInt8 × UInt64 × UInt64) =>
  obind (F38 n (Prod.fst x, Prod.fst (Prod.snd x))) fun (x_1 : Unit × Option (List UInt8)) =>
    oite (Prod.fst (Prod.snd x))
      (obind
        (F20 n
          (Prod.snd x_1,
            Prod.fst
              (Prod.snd
                (Prod.snd
                  (Prod.snd
                    (Prod.snd (Prod.snd (Prod.snd (Prod.snd (Prod.snd (Prod.snd (Prod.snd (Prod.snd x)))))))))))))
        fun (x_2 : Unit × Option (List UInt8)) =>
        obind
          (F21 n
            (Prod.snd x_2,
              Prod.fst
                (Prod.snd
                  (Prod.snd
                    (Prod.snd
                      (Prod.snd
                        (Prod.snd (Prod.snd (Prod.snd (Prod.snd (Prod.snd (Prod.snd (Prod.snd (Prod.snd x))))))))))))))
          fun (x_3 : Unit × Option (List UInt8)) =>
          obind
            (F21 n
              (Prod.snd x_3,
                Prod.snd
                  (Prod.snd
                    (Prod.snd
                      (Prod.snd
                        (Prod.snd
                          (Prod.snd
                            (Prod.snd (Prod.snd (Prod.snd (Prod.snd (Prod.snd (Prod.snd (Prod.snd x))))))))))))))
            fun (x_4 : Unit × Option (List UInt8)) => some ((), Prod.snd x_4))
      (obind (F20 n (Prod.snd x_1, Prod.fst (Prod.snd (Prod.snd x)))) fun (x_2 : Unit × Option (List UInt8)) =>
        obind (F21 n (Prod.snd x_2, Prod.fst (Prod.snd (Prod.snd (Prod.snd x)))))
          fun (x_3 : Unit × Option (List UInt8)) =>
          obind (F21 n (Prod.snd x_3, Prod.fst (Prod.snd (Prod.snd (Prod.snd (Prod.snd x))))))
            fun (x_4 : Unit × Option (List UInt8)) =>
            obind (F39 n (Prod.snd x_4, Prod.fst (Prod.snd (Prod.snd (Prod.snd (Prod.snd (Prod.snd x)))))))
              fun (x_5 : Unit × Option (List UInt8)) =>
              obind
                (F21 n
                  (Prod.snd x_5,
                    UInt64.ofInt
                      (Int64.toInt
                        (Int64.ofInt
                          ↑(List.length
                              (Prod.fst (Prod.snd (Prod.snd (Prod.snd (Prod.snd (Prod.snd (Prod.snd x))))))))))))
                fun (x_6 : Unit × Option (List UInt8)) =>
                F22_R4093 n n (Prod.fst (Prod.snd (Prod.snd (Prod.snd (Prod.snd (Prod.snd (Prod.snd x)))))))
                  (Int64.ofInt
                    ↑(List.length (Prod.fst (Prod.snd (Prod.snd (Prod.snd (Prod.snd (Prod.snd (Prod.snd x)))))))))
                  (0 : Int64) (Prod.snd x_6) (Prod.fst (Prod.snd (Prod.snd x)))
                  (Prod.fst (Prod.snd (Prod.snd (Prod.snd x)))) (Prod.fst (Prod.snd (Prod.snd (Prod.snd (Prod.snd x)))))
                  (Prod.fst (Prod.snd (Prod.snd (Prod.snd (Prod.snd (Prod.snd x))))))
                  (Prod.fst (Prod.snd (Prod.snd (Prod.snd (Prod.snd (Prod.snd (Prod.snd x)))))))
                  (Prod.fst (Prod.snd (Prod.snd (Prod.snd (Prod.snd (Prod.snd (Prod.snd (Prod.snd x))))))))
                  (Prod.fst (Prod.snd (Prod.snd (Prod.snd (Prod.snd (Prod.snd (Prod.snd (Prod.snd (Prod.snd x)))))))))
                  (Prod.fst
                    (Prod.snd
                      (Prod.snd (Prod.snd (Prod.snd (Prod.snd (Prod.snd (Prod.snd (Prod.snd (Prod.snd x))))))))))
                  (Prod.fst
                    (Prod.snd
                      (Prod.snd
                        (Prod.snd (Prod.snd (Prod.snd (Prod.snd (Prod.snd (Prod.snd (Prod.snd (Prod.snd x))))))))))))
theorem F22_R4093_s (n : Nat) (m_ : Nat) : F22_R4093 n (m_ + 1) = F22_L4093 n (F22_R4093 n m_) := rfl
theorem ok22 (n : Nat) : FunOK Try.prog ⟨22, sig22, F22 n⟩ :=
  fun_ok (hints := ⟨[], [(4093, ⟨[(0, .one (.own 0)), (4, .one (.own 2)), (53, .one (.ro (.cons .str (.cons .str .nil)))), (54, .one (.int .i64)), (55, .one (.int .i64))], [(0, .fold (.cons (.row (.cons (.int .u8) .nil)) .nil)), (2, .cells [.int .u8, .int .u64, .int .u64, .str, .ro (.cons .str (.cons .str .nil)), .int .u8, .int .u8, .int .i64, .int .u8])], 3⟩)]⟩) (fuel := n) (c := Try.f22.body.getD .skip) (rs := Try.f22.results.toList) tt_ok mix (FsOK.cons (ok38 n) (FsOK.cons (ok20 n) (FsOK.cons (ok21 n) (FsOK.cons (ok39 n) (FsOK.cons (ok40 n) (FsOK.nil)))))) Try.func22 (by kernel_rfl) (by kernel_rfl) rfl (by kernel_rfl) rfl rfl (by kernel_rfl)
-- (*watchfire/pack.Writer).Bytes
def sig24 : Sig := ⟨(.cons (.one (.ptr (.cons (.row (.cons (.int .u8) .nil)) .nil))) .nil), (.cons (.one (.c (.ro (.cons (.int .u8) .nil)))) .nil)⟩
def F24 : Nat → Option (List UInt8) → Option (List UInt8 × Option (List UInt8)) := fun (n : Nat) (x : Option (List UInt8)) =>
  oelim x (some ([], none)) fun (x_1 : List UInt8) =>
    oite (Nat.ble ((0 : Nat) + List.length x_1) (4294967296 : Nat)) (some ([] ++ x_1, some x_1)) none
theorem ok24 (n : Nat) : FunOK Try.prog ⟨24, sig24, F24 n⟩ :=
  fun_ok (hints := ⟨[], []⟩) (fuel := n) (c := Try.f24.body.getD .skip) (rs := Try.f24.results.toList) tt_ok mix (FsOK.nil) Try.func24 (by kernel_rfl) (by kernel_rfl) rfl (by kernel_rfl) rfl rfl (by kernel_rfl)
-- (*sync/atomic.Uint64).Add
def sig54 : Sig := ⟨(.cons (.oagg .nil) (.cons (.one (.c (.int .u64))) .nil)), (.cons (.one (.c (.int .u64))) .nil)⟩
def F54 (n : Nat) : sig54.In → Option sig54.Out := fun _ => none
theorem ok54 (n : Nat) : FunOK Try.prog ⟨54, sig54, F54 n⟩ := ⟨atom54, _, Try.func54, by kernel_rfl, by kernel_rfl⟩
-- (*watchfire/crc.Table).Add
def sig53 : Sig := ⟨(.cons (.one (.ptrA (.cons (.c (.int .u32)) (.cons (.c (.int .i32)) (.cons (.c (.int .u32)) .nil))) (.int .u32) 256 (.cons (.c (.int .u64)) (.cons (.c (.int .u64)) .nil)))) (.cons (.one (.c (.int .u32))) (.cons (.one (.c (.ro (.cons (.int .u8) .nil)))) .nil))), (.cons (.one (.c (.int .u32))) .nil)⟩
def F53_L125 : Arr
    [PT.list (CTs.cons (CT.int IntKind.u8) CTs.nil), PT.int IntKind.u32, PT.list (CTs.cons (CT.int IntKind.u8) CTs.nil),
      PT.int IntKind.i64, PT.int IntKind.i64,
      PT.optA
        (OTs.cons (OT.c (CT.int IntKind.u32))
          (OTs.cons (OT.c (CT.int IntKind.i32)) (OTs.cons (OT.c (CT.int IntKind.u32)) OTs.nil)))
        (CT.int IntKind.u32) (OTs.cons (OT.c (CT.int IntKind.u64)) (OTs.cons (OT.c (CT.int IntKind.u64)) OTs.nil))]
    (Option (UInt32 × Option ((UInt32 × Int32 × UInt32) × List UInt32 × UInt64 × UInt64))) →
  List UInt8 →
    UInt32 →
      List UInt8 →
        Int64 →
          Int64 →
            Option ((UInt32 × Int32 × UInt32) × List UInt32 × UInt64 × UInt64) →
              Option (UInt32 × Option ((UInt32 × Int32 × UInt32) × List UInt32 × UInt64 × UInt64)) := fun
    (rec :
      Arr
        [PT.list (CTs.cons (CT.int IntKind.u8) CTs.nil), PT.int IntKind.u32,
          PT.list (CTs.cons (CT.int IntKind.u8) CTs.nil), PT.int IntKind.i64, PT.int IntKind.i64,
          PT.optA
            (OTs.cons (OT.c (CT.int IntKind.u32))
              (OTs.cons (OT.c (CT.int IntKind.i32)) (OTs.cons (OT.c (CT.int IntKind.u32)) OTs.nil)))
            (CT.int IntKind.u32) (OTs.cons (OT.c (CT.int IntKind.u64)) (OTs.cons (OT.c (CT.int IntKind.u64)) OTs.nil))]
        (Option (UInt32 × Option ((UInt32 × Int32 × UInt32) × List UInt32 × UInt64 × UInt64))))
    (b : List UInt8) (n_ : UInt32) (t : List UInt8) (t_1 t_2 : Int64)
    (t_3 : Option ((UInt32 × Int32 × UInt32) × List UInt32 × UInt64 × UInt64)) =>
  oite (decide (t_2 < t_1))
    (obind (at? t (Int64.toInt t_2)) fun (x_3 : UInt8) =>
      obind t_3 fun (x_4 : (UInt32 × Int32 × UInt32) × List UInt32 × UInt64 × UInt64) =>
        oite (decide ((0 : Int) ≤ ↑(UInt8.toNat (UInt8.ofInt ↑(UInt32.toNat n_) ^^^ x_3))))
          (oite (Nat.blt (Int.toNat ↑(UInt8.toNat (UInt8.ofInt ↑(UInt32.toNat n_) ^^^ x_3))) (256 : Nat))
            (obind
              (Prod.fst (Prod.snd x_4))[Int.toNat ↑(UInt8.toNat (UInt8.ofInt ↑(UInt32.toNat n_) ^^^ x_3)) * (1 : Nat)]?
              fun (x_5 : UInt32) =>
              rec b (x_5 ^^^ IK.shr IntKind.u32 n_ ↑(UInt64.toNat (8 : UInt64))) t t_1 (t_2 + (1 : Int64))
                (some
                  ((Prod.fst (Prod.fst x_4), Prod.fst (Prod.snd (Prod.fst x_4)), Prod.snd (Prod.snd (Prod.fst x_4))),
                    Prod.fst (Prod.snd x_4), Prod.fst (Prod.snd (Prod.snd x_4)), Prod.snd (Prod.snd (Prod.snd x_4)))))
            none)
          none)
    (obind t_3 fun (x_3 : (UInt32 × Int32 × UInt32) × List UInt32 × UInt64 × UInt64) =>
      some
        (IK.com IntKind.u32 n_,
          some
            ((Prod.fst (Prod.fst x_3), Prod.fst (Prod.snd (Prod.fst x_3)), Prod.snd (Prod.snd (Prod.fst x_3))),
              Prod.fst (Prod.snd x_3), Prod.fst (Prod.snd (Prod.snd x_3)),
              Prod.snd (Prod.snd (Prod.snd x_3)) + UInt64.ofInt (Int64.toInt (Int64.ofInt ↑(List.length b))))))
def F53_R125 : Nat →
  PT.T (PT.list (CTs.cons (CT.int IntKind.u8) CTs.nil)) →
    UInt32 →
      List UInt8 →
        Int64 →
          Int64 →
            Option ((UInt32 × Int32 × UInt32) × List UInt32 × UInt64 × UInt64) →
              Option (UInt32 × Option ((UInt32 × Int32 × UInt32) × List UInt32 × UInt64 × UInt64)) := ofixA (125 : Nat)
  [PT.list (CTs.cons (CT.int IntKind.u8) CTs.nil), PT.int IntKind.u32, PT.list (CTs.cons (CT.int IntKind.u8) CTs.nil),
    PT.int IntKind.i64, PT.int IntKind.i64,
    PT.optA
      (OTs.cons (OT.c (CT.int IntKind.u32))
        (OTs.cons (OT.c (CT.int IntKind.i32)) (OTs.cons (OT.c (CT.int IntKind.u32)) OTs.nil)))
      (CT.int IntKind.u32) (OTs.cons (OT.c (CT.int IntKind.u64)) (OTs.cons (OT.c (CT.int IntKind.u64)) OTs.nil))]
  F53_L125
def F53 : Nat →
  Option ((UInt32 × Int32 × UInt32) × List UInt32 × UInt64 × UInt64) × UInt32 × List UInt8 →
    Option (UInt32 × Option ((UInt32 × Int32 × UInt32) × List UInt32 × UInt64 × UInt64)) := fun (n : Nat) (x : Option ((UInt32 × Int32 × UInt32) × List UInt32 × UInt64 × UInt64) × UInt32 × List UInt8) =>
  oelim (Prod.fst x) (some ((0 : UInt32), none))
    fun (x_1 : (UInt32 × Int32 × UInt32) × List UInt32 × UInt64 × UInt64) =>
    obind
      (F62 n
        ([], (),
          some
            ((Prod.fst (Prod.fst x_1), Prod.fst (Prod.snd (Prod.fst x_1)), Prod.snd (Prod.snd (Prod.fst x_1))),
              Prod.fst (Prod.snd x_1), Prod.fst (Prod.snd (Prod.snd x_1)), Prod.snd (Prod.snd (Prod.snd x_1)))))
      fun (x_2 : Unit × Option ((UInt32 × Int32 × UInt32) × List UInt32 × UInt64 × UInt64)) =>
      F53_R125 n (Prod.snd (Prod.snd x)) (IK.com IntKind.u32 (Prod.fst (Prod.snd x))) (Prod.snd (Prod.snd x))
        (Int64.ofInt ↑(List.length (Prod.snd (Prod.snd x)))) (0 : Int64) (Prod.snd x_2)
theorem F53_R125_s  (m_ : Nat) : F53_R125  (m_ + 1) = F53_L125  (F53_R125  m_) := rfl
theorem ok53 (n : Nat) : FunOK Try.prog ⟨53, sig53, F53 n⟩ :=
  fun_ok (hints := ⟨[], [(125, ⟨[(0, .one (.own 0)), (2, .one (.ro (.cons (.int .u8) .nil))), (7, .one (.int .u32)), (20, .one (.ro (.cons (.int .u8) .nil))), (21, .one (.int .i64)), (22, .one (.int .i64))], [(0, .foldA (.cons (.c (.int .u32)) (.cons (.c (.int .i32)) (.cons (.c (.int .u32)) .nil))) (.int .u32) 256 (.cons (.c (.int .u64)) (.cons (.c (.int .u64)) .nil)))], 3⟩)]⟩) (fuel := n) (c := Try.f53.body.getD .skip) (rs := Try.f53.results.toList) tt_ok mix (FsOK.cons (ok63 n) (FsOK.cons (ok62 n) (FsOK.cons (ok54 n) (FsOK.nil)))) Try.func53 (by kernel_rfl) (by kernel_rfl) rfl (by kernel_rfl) rfl rfl (by kernel_rfl)
-- (*watchfire/crc.Table).Sum
def sig42 : Sig := ⟨(.cons (.one (.ptrA (.cons (.c (.int .u32)) (.cons (.c (.int .i32)) (.cons (.c (.int .u32)) .nil))) (.int .u32) 256 (.cons (.c (.int .u64)) (.cons (.c (.int .u64)) .nil)))) (.cons (.one (.c (.ro (.cons (.ro (.cons (.int .u8) .nil)) .nil)))) .nil)), (.cons (.one (.c (.int .u32))) .nil)⟩
def F42_L61 : Nat →
  Arr
      [PT.int IntKind.u32, PT.list (CTs.cons (CT.ro (CTs.cons (CT.int IntKind.u8) CTs.nil)) CTs.nil),
        PT.int IntKind.i64, PT.int IntKind.i64,
        PT.optA
          (OTs.cons (OT.c (CT.int IntKind.u32))
            (OTs.cons (OT.c (CT.int IntKind.i32)) (OTs.cons (OT.c (CT.int IntKind.u32)) OTs.nil)))
          (CT.int IntKind.u32) (OTs.cons (OT.c (CT.int IntKind.u64)) (OTs.cons (OT.c (CT.int IntKind.u64)) OTs.nil))]
      (Option (UInt32 × Option ((UInt32 × Int32 × UInt32) × List UInt32 × UInt64 × UInt64))) →
    UInt32 →
      List (List UInt8) →
        Int64 →
          Int64 →
            Option ((UInt32 × Int32 × UInt32) × List UInt32 × UInt64 × UInt64) →
              Option (UInt32 × Option ((UInt32 × Int32 × UInt32) × List UInt32 × UInt64 × UInt64)) := fun (n : Nat)
    (rec :
      Arr
        [PT.int IntKind.u32, PT.list (CTs.cons (CT.ro (CTs.cons (CT.int IntKind.u8) CTs.nil)) CTs.nil),
          PT.int IntKind.i64, PT.int IntKind.i64,
          PT.optA
            (OTs.cons (OT.c (CT.int IntKind.u32))
              (OTs.cons (OT.c (CT.int IntKind.i32)) (OTs.cons (OT.c (CT.int IntKind.u32)) OTs.nil)))
            (CT.int IntKind.u32) (OTs.cons (OT.c (CT.int IntKind.u64)) (OTs.cons (OT.c (CT.int IntKind.u64)) OTs.nil))]
        (Option (UInt32 × Option ((UInt32 × Int32 × UInt32) × List UInt32 × UInt64 × UInt64))))
    (n_ : UInt32) (t : List (List UInt8)) (t_1 t_2 : Int64)
    (t_3 : Option ((UInt32 × Int32 × UInt32) × List UInt32 × UInt64 × UInt64)) =>
  oite (decide (t_2 < t_1))
    (obind (at? t (Int64.toInt t_2)) fun (x_2 : List UInt8) =>
      obind (F53 n (t_3, n_, x_2))
        fun (x_3 : UInt32 × Option ((UInt32 × Int32 × UInt32) × List UInt32 × UInt64 × UInt64)) =>
        rec (Prod.fst x_3) t t_1 (t_2 + (1 : Int64)) (Prod.snd x_3))
    (obind t_3 fun (x_2 : (UInt32 × Int32 × UInt32) × List UInt32 × UInt64 × UInt64) =>
      some
        (n_,
          some
            ((Prod.fst (Prod.fst x_2), Prod.fst (Prod.snd (Prod.fst x_2)), Prod.snd (Prod.snd (Prod.fst x_2))),
              Prod.fst (Prod.snd x_2), Prod.fst (Prod.snd (Prod.snd x_2)) + (1 : UInt64),
              Prod.snd (Prod.snd (Prod.snd x_2)))))
def F42_R61 : Nat →
  Nat →
    PT.T (PT.int IntKind.u32) →
      List (List UInt8) →
        Int64 →
          Int64 →
            Option ((UInt32 × Int32 × UInt32) × List UInt32 × UInt64 × UInt64) →
              Option (UInt32 × Option ((UInt32 × Int32 × UInt32) × List UInt32 × UInt64 × UInt64)) := fun (n : Nat) =>
  ofixA (61 : Nat)
    [PT.int IntKind.u32, PT.list (CTs.cons (CT.ro (CTs.cons (CT.int IntKind.u8) CTs.nil)) CTs.nil), PT.int IntKind.i64,
      PT.int IntKind.i64,
      PT.optA
        (OTs.cons (OT.c (CT.int IntKind.u32))
          (OTs.cons (OT.c (CT.int IntKind.i32)) (OTs.cons (OT.c (CT.int IntKind.u32)) OTs.nil)))
        (CT.int IntKind.u32) (OTs.cons (OT.c (CT.int IntKind.u64)) (OTs.cons (OT.c (CT.int IntKind.u64)) OTs.nil))]
    (F42_L61 n)
def F42 : Nat →
  Option ((UInt32 × Int32 × UInt32) × List UInt32 × UInt64 × UInt64) × List (List UInt8) →
    Option (UInt32 × Option ((UInt32 × Int32 × UInt32) × List UInt32 × UInt64 × UInt64)) := fun (n : Nat) (x : Option ((UInt32 × Int32 × UInt32) × List UInt32 × UInt64 × UInt64) × List (List UInt8)) =>
  oelim (Prod.fst x) (some ((0 : UInt32), none))
    fun (x_1 : (UInt32 × Int32 × UInt32) × List UInt32 × UInt64 × UInt64) =>
    F42_R61 n n (0 : UInt32) (Prod.snd x) (Int64.ofInt ↑(List.length (Prod.snd x))) (0 : Int64)
      (some
        ((Prod.fst (Prod.fst x_1), Prod.fst (Prod.snd (Prod.fst x_1)), Prod.snd (Prod.snd (Prod.fst x_1))),
          Prod.fst (Prod.snd x_1), Prod.fst (Prod.snd (Prod.snd x_1)), Prod.snd (Prod.snd (Prod.snd x_1))))
theorem F42_R61_s (n : Nat) (m_ : Nat) : F42_R61 n (m_ + 1) = F42_L61 n (F42_R61 n m_) := rfl
theorem ok42 (n : Nat) : FunOK Try.prog ⟨42, sig42, F42 n⟩ :=
  fun_ok (hints := ⟨[], [(61, ⟨[(0, .one (.own 0)), (5, .one (.int .u32)), (10, .one (.ro (.cons (.ro (.cons (.int .u8) .nil)) .nil))), (11, .one (.int .i64)), (12, .one (.int .i64))], [(0, .foldA (.cons (.c (.int .u32)) (.cons (.c (.int .i32)) (.cons (.c (.int .u32)) .nil))) (.int .u32) 256 (.cons (.c (.int .u64)) (.cons (.c (.int .u64)) .nil)))], 2⟩)]⟩) (fuel := n) (c := Try.f42.body.getD .skip) (rs := Try.f42.results.toList) tt_ok mix (FsOK.cons (ok53 n) (FsOK.cons (ok54 n) (FsOK.nil))) Try.func42 (by kernel_rfl) (by kernel_rfl) rfl (by kernel_rfl) rfl rfl (by kernel_rfl)
-- watchfire/crc.Put
def sig41 : Sig := ⟨(.cons (.one (.c (.int .u32))) .nil), (.cons (.agg (.cons (.int .u8) (.cons (.int .u8) (.cons (.int .u8) (.cons (.int .u8) .nil))))) .nil)⟩
def F41 : Nat → UInt32 → Option ((UInt8 × UInt8 × UInt8 × UInt8) × Unit) := fun (n : Nat) (x : UInt32) =>
  some
    ((UInt8.ofInt ↑(UInt32.toNat x), UInt8.ofInt ↑(UInt32.toNat (IK.shr IntKind.u32 x ↑(UInt64.toNat (8 : UInt64)))),
        UInt8.ofInt ↑(UInt32.toNat (IK.shr IntKind.u32 x ↑(UInt64.toNat (16 : UInt64)))),
        UInt8.ofInt ↑(UInt32.toNat (IK.shr IntKind.u32 x ↑(UInt64.toNat (24 : UInt64))))),
      ())
theorem ok41 (n : Nat) : FunOK Try.prog ⟨41, sig41, F41 n⟩ :=
  fun_ok (hints := ⟨[], []⟩) (fuel := n) (c := Try.f41.body.getD .skip) (rs := Try.f41.results.toList) tt_ok mix (FsOK.nil) Try.func41 (by kernel_rfl) (by kernel_rfl) rfl (by kernel_rfl) rfl rfl (by kernel_rfl)
-- (*watchfire/crc.Table).Seal
def sig23 : Sig := ⟨(.cons (.one (.ptrA (.cons (.c (.int .u32)) (.cons (.c (.int .i32)) (.cons (.c (.int .u32)) .nil))) (.int .u32) 256 (.cons (.c (.int .u64)) (.cons (.c (.int .u64)) .nil)))) (.cons (.one (.c (.ro (.cons (.int .u8) .nil)))) .nil)), (.cons (.one (.row (.cons (.int .u8) .nil))) .nil)⟩
def F23 : Nat →
  Option ((UInt32 × Int32 × UInt32) × List UInt32 × UInt64 × UInt64) × List UInt8 →
    Option (List UInt8 × Option ((UInt32 × Int32 × UInt32) × List UInt32 × UInt64 × UInt64)) := fun (n : Nat) (x : Option ((UInt32 × Int32 × UInt32) × List UInt32 × UInt64 × UInt64) × List UInt8) =>
  obind (F42 n (Prod.fst x, [Prod.snd x]))
    fun (x_1 : UInt32 × Option ((UInt32 × Int32 × UInt32) × List UInt32 × UInt64 × UInt64)) =>
    obind (F41 n (Prod.fst x_1)) fun (x_2 : (UInt8 × UInt8 × UInt8 × UInt8) × Unit) =>
      oite (Nat.ble ((0 : Nat) + List.length (Prod.snd x)) (4294967296 : Nat))
        (oite
          (Nat.ble
            (List.length ([] ++ Prod.snd x) +
              List.length
                [Prod.fst (Prod.fst x_2), Prod.fst (Prod.snd (Prod.fst x_2)),
                  Prod.fst (Prod.snd (Prod.snd (Prod.fst x_2))), Prod.snd (Prod.snd (Prod.snd (Prod.fst x_2)))])
            (4294967296 : Nat))
          (some
            ([] ++ Prod.snd x ++
                [Prod.fst (Prod.fst x_2), Prod.fst (Prod.snd (Prod.fst x_2)),
                  Prod.fst (Prod.snd (Prod.snd (Prod.fst x_2))), Prod.snd (Prod.snd (Prod.snd (Prod.fst x_2)))],
              Prod.snd x_1))
          none)
        none
theorem ok23 (n : Nat) : FunOK Try.prog ⟨23, sig23, F23 n⟩ :=
  fun_ok (hints := ⟨[], []⟩) (fuel := n) (c := Try.f23.body.getD .skip) (rs := Try.f23.results.toList) tt_ok mix (FsOK.cons (ok42 n) (FsOK.cons (ok41 n) (FsOK.nil))) Try.func23 (by kernel_rfl) (by kernel_rfl) rfl (by kernel_rfl) rfl rfl (by kernel_rfl)
-- watchfire/frame.Encode
def sig11 : Sig := ⟨(.cons (.one (.ptrA (.cons (.c (.int .u32)) (.cons (.c (.int .i32)) (.cons (.c (.int .u32)) .nil))) (.int .u32) 256 (.cons (.c (.int .u64)) (.cons (.c (.int .u64)) .nil)))) (.cons (.agg (.cons (.int .u8) (.cons (.int .u8) (.cons (.int .u8) (.cons (.int .u64) (.cons (.int .u64) (.cons .bool (.cons (.int .u8) (.cons (.int .u64) (.cons (.int .u64) (.cons .str (.cons (.ro (.cons .str (.cons .str .nil))) (.cons (.int .u8) (.cons (.int .u8) (.cons (.int .i64) (.cons (.int .u8) (.cons (.int .u8) (.cons (.int .u64) (.cons (.int .u64) (.cons (.int .u64) (.cons (.int .u64) (.cons (.int .u64) .nil)))))))))))))))))))))) .nil)), (.cons (.one (.row (.cons (.int .u8) .nil))) (.cons (.one (.c (.int .i64))) .nil))⟩
def F11_J511 : Nat →
  List UInt32 →
    UInt32 →
      Int32 →
        UInt32 →
          UInt64 →
            UInt64 →
              Option (List UInt8) →
                Option ((List UInt8 × Int64) × Option ((UInt32 × Int32 × UInt32) × List UInt32 × UInt64 × UInt64)) := fun (n : Nat) (ta : List UInt32) (t0 : UInt32) (t1 : Int32) (t2 : UInt32) (t3 t4 : UInt64) (w : Option (List UInt8)) =>
  obind (F24 n w) fun (x_7 : List UInt8 × Option (List UInt8)) =>
    obind (F23 n (some ((t0, t1, t2), ta, t3, t4), Prod.fst x_7))
      fun (x_8 : List UInt8 × Option ((UInt32 × Int32 × UInt32) × List UInt32 × UInt64 × UInt64)) =>
      some ((Prod.fst x_8, (0 : Int64)), Prod.snd x_8)
def F11 : Nat →
  Option ((UInt32 × Int32 × UInt32) × List UInt32 × UInt64 × UInt64) ×
      UInt8 ×
        UInt8 ×
          UInt8 ×
            UInt64 ×
              UInt64 ×
                Bool ×
                  UInt8 ×
                    UInt64 ×
                      UInt64 ×
                        List UInt8 ×
                          List (List UInt8 × List UInt8) ×
                            UInt8 × UInt8 × Int64 × UInt8 × UInt8 × UInt64 × UInt64 × UInt64 × UInt64 × UInt64 →
    Option ((List UInt8 × Int64) × Option ((UInt32 × Int32 × UInt32) × List UInt32 × UInt64 × UInt64)) := fun (n : Nat)
    (x :
      Option ((UInt32 × Int32 × UInt32) × List UInt32 × UInt64 × UInt64) ×
        UInt8 ×
          UInt8 ×
            UInt8 ×
              UInt64 ×
                UInt64 ×
                  Bool ×
                    UInt8 ×
                      UInt64 ×
                        UInt64 ×
                          List UInt8 ×
                            List (List UInt8 × List UInt8) ×
                              UInt8 × UInt8 × Int64 × UInt8 × UInt8 × UInt64 × UInt64 × UInt64 × UInt64 × UInt64) =>
  oelim (Prod.fst x) (some (([], (1 : Int64)), none))
    fun (x_1 : (UInt32 × Int32 × UInt32) × List UInt32 × UInt64 × UInt64) =>
    obind
      (F19 n
        (Prod.fst (Prod.snd x), Prod.fst (Prod.snd (Prod.snd x)), Prod.fst (Prod.snd (Prod.snd (Prod.snd x))),
          Prod.fst (Prod.snd (Prod.snd (Prod.snd (Prod.snd x)))),
          Prod.fst (Prod.snd (Prod.snd (Prod.snd (Prod.snd (Prod.snd x))))),
          Prod.fst (Prod.snd (Prod.snd (Prod.snd (Prod.snd (Prod.snd (Prod.snd x)))))),
          Prod.fst (Prod.snd (Prod.snd (Prod.snd (Prod.snd (Prod.snd (Prod.snd (Prod.snd x))))))),
          Prod.fst (Prod.snd (Prod.snd (Prod.snd (Prod.snd (Prod.snd (Prod.snd (Prod.snd (Prod.snd x)))))))),
          Prod.fst (Prod.snd (Prod.snd (Prod.snd (Prod.snd (Prod.snd (Prod.snd (Prod.snd (Prod.snd (Prod.snd x))))))))),
          Prod.fst
            (Prod.snd
              (Prod.snd (Prod.snd (Prod.snd (Prod.snd (Prod.snd (Prod.snd (Prod.snd (Prod.snd (Prod.snd x)))))))))),
          Prod.fst
            (Prod.snd
              (Prod.snd
                (Prod.snd (Prod.snd (Prod.snd (Prod.snd (Prod.snd (Prod.snd (Prod.snd (Prod.snd (Prod.snd x))))))))))),
          Prod.fst
            (Prod.snd
              (Prod.snd
                (Prod.snd
                  (Prod.snd
                    (Prod.snd (Prod.snd (Prod.snd (Prod.snd (Prod.snd (Prod.snd (Prod.snd (Prod.snd x)))))))))))),
          Prod.fst
            (Prod.snd
              (Prod.snd
                (Prod.snd
                  (Prod.snd
                    (Prod.snd
                      (Prod.snd (Prod.snd (Prod.snd (Prod.snd (Prod.snd (Prod.snd (Prod.snd (Prod.snd x))))))))))))),
          Prod.fst
            (Prod.snd
              (Prod.snd
                (Prod.snd
                  (Prod.snd
                    (Prod.snd
                      (Prod.snd
                        (Prod.snd (Prod.snd (Prod.snd (Prod.snd (Prod.snd (Prod.snd (Prod.snd (Prod.snd x)))))))))))))),
          Prod.fst
            (Prod.snd
              (Prod.snd
                (Prod.snd
                  (Prod.snd
                    (Prod.snd
                      (Prod.snd
                        (Prod.snd
                          (Prod.snd
                            (Prod.snd (Prod.snd (Prod.snd (Prod.snd (Prod.snd (Prod.snd (Prod.snd x))))))))))))))),
          Prod.fst
            (Prod.snd
              (Prod.snd
                (Prod.snd
                  (Prod.snd
                    (Prod.snd
                      (Prod.snd
                        (Prod.snd
                          (Prod.snd
                            (Prod.snd
                              (Prod.snd (Prod.snd (Prod.snd (Prod.snd (Prod.snd (Prod.snd (Prod.snd x)))))))))))))))),
          Prod.fst
            (Prod.snd
              (Prod.snd
                (Prod.snd
                  (Prod.snd
                    (Prod.snd
                      (Prod.snd
                        (Prod.snd
                          (Prod.snd
                            (Prod.snd
                              (Prod.snd
                                (Prod.snd
                                  (Prod.snd (Prod.snd (Prod.snd (Prod.snd (Prod.snd (Prod.snd x))))))))))))))))),
          Prod.fst
            (Prod.snd
              (Prod.snd
                (Prod.snd
                  (Prod.snd
                    (Prod.snd
                      (Prod.snd
                        (Prod.snd
                          (Prod.snd
                            (Prod.snd
                              (Prod.snd
                                (Prod.snd
                                  (Prod.snd
                                    (Prod.snd (Prod.snd (Prod.snd (Prod.snd (Prod.snd (Prod.snd x)))))))))))))))))),
          Prod.fst
            (Prod.snd
              (Prod.snd
                (Prod.snd
                  (Prod.snd
                    (Prod.snd
                      (Prod.snd
                        (Prod.snd
                          (Prod.snd
                            (Prod.snd
                              (Prod.snd
                                (Prod.snd
                                  (Prod.snd
                                    (Prod.snd
                                      (Prod.snd (Prod.snd (Prod.snd (Prod.snd (Prod.snd (Prod.snd x))))))))))))))))))),
          Prod.fst
            (Prod.snd
              (Prod.snd
                (Prod.snd
                  (Prod.snd
                    (Prod.snd
                      (Prod.snd
                        (Prod.snd
                          (Prod.snd
                            (Prod.snd
                              (Prod.snd
                                (Prod.snd
                                  (Prod.snd
                                    (Prod.snd
                                      (Prod.snd
                                        (Prod.snd
                                          (Prod.snd (Prod.snd (Prod.snd (Prod.snd (Prod.snd x)))))))))))))))))))),
          Prod.snd
            (Prod.snd
              (Prod.snd
                (Prod.snd
                  (Prod.snd
                    (Prod.snd
                      (Prod.snd
                        (Prod.snd
                          (Prod.snd
                            (Prod.snd
                              (Prod.snd
                                (Prod.snd
                                  (Prod.snd
                                    (Prod.snd
                                      (Prod.snd
                                        (Prod.snd
                                          (Prod.snd (Prod.snd (Prod.snd (Prod.snd (Prod.snd x))))))))))))))))))))))
      fun (x_2 : Int64 × Unit) =>
      oite (!decide (Prod.fst x_2 = (0 : Int64)))
        (some
          (([], Prod.fst x_2),
            some
              ((Prod.fst (Prod.fst x_1), Prod.fst (Prod.snd (Prod.fst x_1)), Prod.snd (Prod.snd (Prod.fst x_1))),
                Prod.fst (Prod.snd x_1), Prod.fst (Prod.snd (Prod.snd x_1)), Prod.snd (Prod.snd (Prod.snd x_1)))))
        (obind (F20 n (some [], (183 : UInt8))) fun (x_3 : Unit × Option (List UInt8)) =>
          obind (F20 n (Prod.snd x_3, Prod.fst (Prod.snd x))) fun (x_4 : Unit × Option (List UInt8)) =>
            obind (F20 n (Prod.snd x_4, Prod.fst (Prod.snd (Prod.snd x)))) fun (x_5 : Unit × Option (List UInt8)) =>
              obind (F20 n (Prod.snd x_5, Prod.fst (Prod.snd (Prod.snd (Prod.snd x)))))
                fun (x_6 : Unit × Option (List UInt8)) =>
                ojoinA (511 : Nat)
                  [PT.list1 (CT.int IntKind.u32), PT.int IntKind.u32, PT.int IntKind.i32, PT.int IntKind.u32,
                    PT.int IntKind.u64, PT.int IntKind.u64,
                    PT.opt (OTs.cons (OT.row (CTs.cons (CT.int IntKind.u8) CTs.nil)) OTs.nil)]
                  (fun
                      (J :
                        Arr
                          [PT.list1 (CT.int IntKind.u32), PT.int IntKind.u32, PT.int IntKind.i32, PT.int IntKind.u32,
                            PT.int IntKind.u64, PT.int IntKind.u64,
                            PT.opt (OTs.cons (OT.row (CTs.cons (CT.int IntKind.u8) CTs.nil)) OTs.nil)]
                          (Option
                            ((List UInt8 × Int64) ×
                              Option ((UInt32 × Int32 × UInt32) × List UInt32 × UInt64 × UInt64)))) =>
                    oite (decide (Prod.fst (Prod.snd x) = (1 : UInt8)))
                      (obind (F21 n (Prod.snd x_6, Prod.fst (Prod.snd (Prod.snd (Prod.snd (Prod.snd x))))))
                        fun (x_7 : Unit × Option (List UInt8)) =>
                        obind (F21 n (Prod.snd x_7, Prod.fst (Prod.snd (Prod.snd (Prod.snd (Prod.snd (Prod.snd x)))))))
                          fun (x_8 : Unit × Option (List UInt8)) =>
                          obind
                            (F22 n
                              (Prod.snd x_8,
                                Prod.fst (Prod.snd (Prod.snd (Prod.snd (Prod.snd (Prod.snd (Prod.snd x)))))),
                                Prod.fst (Prod.snd (Prod.snd (Prod.snd (Prod.snd (Prod.snd (Prod.snd (Prod.snd x))))))),
                                Prod.fst
                                  (Prod.snd
                                    (Prod.snd (Prod.snd (Prod.snd (Prod.snd (Prod.snd (Prod.snd (Prod.snd x)))))))),
                                Prod.fst
                                  (Prod.snd
                                    (Prod.snd
                                      (Prod.snd (Prod.snd (Prod.snd (Prod.snd (Prod.snd (Prod.snd (Prod.snd x))))))))),
                                Prod.fst
                                  (Prod.snd
                                    (Prod.snd
                                      (Prod.snd
                                        (Prod.snd
                                          (Prod.snd (Prod.snd (Prod.snd (Prod.snd (Prod.snd (Prod.snd x)))))))))),
                                Prod.fst
                                  (Prod.snd
                                    (Prod.snd
                                      (Prod.snd
                                        (Prod.snd
                                          (Prod.snd
                                            (Prod.snd (Prod.snd (Prod.snd (Prod.snd (Prod.snd (Prod.snd x))))))))))),
                                Prod.fst
                                  (Prod.snd
                                    (Prod.snd
                                      (Prod.snd
                                        (Prod.snd
                                          (Prod.snd
                                            (Prod.snd
                                              (Prod.snd (Prod.snd (Prod.snd (Prod.snd (Prod.snd (Prod.snd x)))))))))))),
                                Prod.fst
                                  (Prod.snd
                                    (Prod.snd
                                      (Prod.snd
                                        (Prod.snd
                                          (Prod.snd
                                            (Prod.snd
                                              (Prod.snd
                                                (Prod.snd
                                                  (Prod.snd (Prod.snd (Prod.snd (Prod.snd (Prod.snd x))))))))))))),
                                Prod.fst
                                  (Prod.snd
                                    (Prod.snd
                                      (Prod.snd
                                        (Prod.snd
                                          (Prod.snd
                                            (Prod.snd
                                              (Prod.snd
                                                (Prod.snd
                                                  (Prod.snd
                                                    (Prod.snd (Prod.snd (Prod.snd (Prod.snd (Prod.snd x)))))))))))))),
                                Prod.fst
                                  (Prod.snd
                                    (Prod.snd
                                      (Prod.snd
                                        (Prod.snd
                                          (Prod.snd
                                            (Prod.snd
                                              (Prod.snd
                                                (Prod.snd
                                                  (Prod.snd
                                                    (Prod.snd
                                                      (Prod.snd
                                                        (Prod.snd (Prod.snd (Prod.snd (Prod.snd x))))))))))))))),
                                Prod.fst
                                  (Prod.snd
                                    (Prod.snd
                                      (Prod.snd
                                        (Prod.snd
                                          (Prod.snd
                                            (Prod.snd
                                              (Prod.snd
                                                (Prod.snd
                                                  (Prod.snd
                                                    (Prod.snd
                                                      (Prod.snd
                                                        (Prod.snd
                                                          (Prod.snd (Prod.snd (Prod.snd (Prod.snd x)))))))))))))))),
                                Prod.fst
                                  (Prod.snd
                                    (Prod.snd
                                      (Prod.snd
                                        (Prod.snd
                                          (Prod.snd
                                            (Prod.snd
                                              (Prod.snd
                                                (Prod.snd
                                                  (Prod.snd
                                                    (Prod.snd
                                                      (Prod.snd
                                                        (Prod.snd
                                                          (Prod.snd
                                                            (Prod.snd (Prod.snd (Prod.snd (Prod.snd x))))))))))))))))),
                                Prod.fst
                                  (Prod.snd
                                    (Prod.snd
                                      (Prod.snd
                                        (Prod.snd
                                          (Prod.snd
                                            (Prod.snd
                                              (Prod.snd
                                                (Prod.snd
                                                  (Prod.snd
                                                    (Prod.snd
                                                      (Prod.snd
                                                        (Prod.snd
                                                          (Prod.snd
                                                            (Prod.snd
                                                              (Prod.snd
                                                                (Prod.snd (Prod.snd (Prod.snd x))))))))))))))))))))
                            fun (x_9 : Unit × Option (List UInt8)) =>
                            J (Prod.fst (Prod.snd x_1)) (Prod.fst (Prod.fst x_1)) (Prod.fst (Prod.snd (Prod.fst x_1)))
                              (Prod.snd (Prod.snd (Prod.fst x_1))) (Prod.fst (Prod.snd (Prod.snd x_1)))
                              (Prod.snd (Prod.snd (Prod.snd x_1))) (Prod.snd x_9))
                      (oite (decide (Prod.fst (Prod.snd x) = (2 : UInt8)))
                        (obind (F21 n (Prod.snd x_6, Prod.fst (Prod.snd (Prod.snd (Prod.snd (Prod.snd x))))))
                          fun (x_7 : Unit × Option (List UInt8)) =>
                          obind
                            (F21 n
                              (Prod.snd x_7,
                                Prod.fst
                                  (Prod.snd
                                    (Prod.snd
                                      (Prod.snd
                                        (Prod.snd
                                          (Prod.snd
                                            (Prod.snd
                                              (Prod.snd
                                                (Prod.snd
                                                  (Prod.snd
                                                    (Prod.snd
                                                      (Prod.snd
                                                        (Prod.snd
                                                          (Prod.snd
                                                            (Prod.snd
                                                              (Prod.snd
                                                                (Prod.snd
                                                                  (Prod.snd (Prod.snd (Prod.snd x)))))))))))))))))))))
                            fun (x_8 : Unit × Option (List UInt8)) =>
                            obind
                              (F21 n
                                (Prod.snd x_8,
                                  Prod.fst
                                    (Prod.snd
                                      (Prod.snd
                                        (Prod.snd
                                          (Prod.snd
                                            (Prod.snd
                                              (Prod.snd
                                                (Prod.snd
                                                  (Prod.snd
                                                    (Prod.snd
                                                      (Prod.snd
                                                        (Prod.snd
                                                          (Prod.snd
                                                            (Prod.snd
                                                              (Prod.snd
                                                                (Prod.snd
                                                                  (Prod.snd
                                                                    (Prod.snd
                                                                      (Prod.snd
                                                                        (Prod.snd (Prod.snd x))))))))))))))))))))))
                              fun (x_9 : Unit × Option (List UInt8)) =>
                              obind
                                (F21 n
                                  (Prod.snd x_9,
                                    Prod.snd
                                      (Prod.snd
                                        (Prod.snd
                                          (Prod.snd
                                            (Prod.snd
                                              (Prod.snd
                                                (Prod.snd
                                                  (Prod.snd
                                                    (Prod.snd
                                                      (Prod.snd
                                                        (Prod.snd
                                                          (Prod.snd
                                                            (Prod.snd
                                                              (Prod.snd
                                                                (Prod.snd
                                                                  (Prod.snd
                                                                    (Prod.snd
                                                                      (Prod.snd
                                                                        (Prod.snd
                                                                          (Prod.snd (Prod.snd x))))))))))))))))))))))
                                fun (x_10 : Unit × Option (List UInt8)) =>
                                J (Prod.fst (Prod.snd x_1)) (Prod.fst (Prod.fst x_1))
                                  (Prod.fst (Prod.snd (Prod.fst x_1))) (Prod.snd (Prod.snd (Prod.fst x_1)))
                                  (Prod.fst (Prod.snd (Prod.snd x_1))) (Prod.snd (Prod.snd (Prod.snd x_1)))
                                  (Prod.snd x_10))
                        (J (Prod.fst (Prod.snd x_1)) (Prod.fst (Prod.fst x_1)) (Prod.fst (Prod.snd (Prod.fst x_1)))
                          (Prod.snd (Prod.snd (Prod.fst x_1))) (Prod.fst (Prod.snd (Prod.snd x_1)))
                          (Prod.snd (Prod.snd (Prod.snd x_1))) (Prod.snd x_6))))
                  (F11_J511 n))
theorem ok11 (n : Nat) : FunOK Try.prog ⟨11, sig11, F11 n⟩ :=
  fun_ok (hints := ⟨[(511, ⟨[(0, .one (.own 0)), (7, .one (.own 2))], [(0, .cellsA [.int .u32, .int .i32, .int .u32] (.int .u32) 256 [.int .u64, .int .u64]), (2, .fold (.cons (.row (.cons (.int .u8) .nil)) .nil))], 3⟩)], []⟩) (fuel := n) (c := Try.f11.body.getD .skip) (rs := Try.f11.results.toList) tt_ok mix (FsOK.cons (ok19 n) (FsOK.cons (ok20 n) (FsOK.cons (ok21 n) (FsOK.cons (ok22 n) (FsOK.cons (ok24 n) (FsOK.cons (ok23 n) (FsOK.nil))))))) Try.func11 (by kernel_rfl) (by kernel_rfl) rfl (by kernel_rfl) rfl rfl (by kernel_rfl)
-- watchfire/watchfirelaw05.Awake
def sig6 : Sig := ⟨.nil, (.cons (.one (.c .bool)) .nil)⟩
def F6 : Nat → Unit → Option (Bool × Unit) := fun (n : Nat) (x : Unit) =>
  obind (F10 n ()) fun (x_1 : Option ((UInt32 × Int32 × UInt32) × List UInt32 × UInt64 × UInt64) × Unit) =>
    obind
      (F11 n
        (Prod.fst x_1, (3 : UInt8), (2 : UInt8), (1 : UInt8), (0 : UInt64), (0 : UInt64), false, (0 : UInt8),
          (0 : UInt64), (0 : UInt64), [], [], (0 : UInt8), (0 : UInt8), (0 : Int64), (0 : UInt8), (0 : UInt8),
          (0 : UInt64), (0 : UInt64), (0 : UInt64), (0 : UInt64), (0 : UInt64)))
      fun (x_2 : (List UInt8 × Int64) × Option ((UInt32 × Int32 × UInt32) × List UInt32 × UInt64 × UInt64)) =>
      oite (decide (Prod.snd (Prod.fst x_2) = (0 : Int64)))
        (oite (decide (Int64.ofInt ↑(List.length (Prod.fst (Prod.fst x_2))) = (8 : Int64)))
          (oite (Nat.ble (Int.toNat (Int64.toInt (4 : Int64))) (List.length (Prod.fst (Prod.fst x_2))) && true)
            (some
              (List.take (Int.toNat (Int64.toInt (4 : Int64)) - (0 : Nat))
                    (List.drop (0 : Nat) (Prod.fst (Prod.fst x_2))) ==
                  [(183 : UInt8), (3 : UInt8), (2 : UInt8), (1 : UInt8)],
                ()))
            none)
          (some (false, ())))
        (some (false, ()))
theorem ok6 (n : Nat) : FunOK Try.prog ⟨6, sig6, F6 n⟩ :=
  fun_ok (hints := ⟨[], []⟩) (fuel := n) (c := Try.f6.body.getD .skip) (rs := Try.f6.results.toList) tt_ok mix (FsOK.cons (ok10 n) (FsOK.cons (ok11 n) (FsOK.nil))) Try.func6 (by kernel_rfl) (by kernel_rfl) rfl (by kernel_rfl) rfl rfl (by kernel_rfl)
-- watchfire/item.Gap
def sig31 : Sig := ⟨(.cons (.one (.c (.int .u8))) (.cons (.one (.c (.int .u64))) (.cons (.one (.c (.int .u64))) .nil))), (.cons (.agg (.cons .bool (.cons (.int .u8) (.cons (.int .u64) (.cons (.int .u64) (.cons .str (.cons (.ro (.cons .str (.cons .str .nil))) (.cons (.int .u8) (.cons (.int .u8) (.cons (.int .i64) (.cons (.int .u8) (.cons (.int .u8) (.cons (.int .u64) (.cons (.int .u64) .nil)))))))))))))) .nil)⟩
def F31 : Nat →
  UInt8 × UInt64 × UInt64 →
    Option
      ((Bool ×
          UInt8 ×
            UInt64 ×
              UInt64 ×
                List UInt8 × List (List UInt8 × List UInt8) × UInt8 × UInt8 × Int64 × UInt8 × UInt8 × UInt64 × UInt64) ×
        Unit) := fun (n : Nat) (x : UInt8 × UInt64 × UInt64) =>
  some
    ((true, (0 : UInt8), (0 : UInt64), (0 : UInt64), [], [], (0 : UInt8), (0 : UInt8), (0 : Int64), (0 : UInt8),
        Prod.fst x, Prod.fst (Prod.snd x), Prod.snd (Prod.snd x)),
      ())
theorem ok31 (n : Nat) : FunOK Try.prog ⟨31, sig31, F31 n⟩ :=
  fun_ok (hints := ⟨[], []⟩) (fuel := n) (c := Try.f31.body.getD .skip) (rs := Try.f31.results.toList) tt_ok mix (FsOK.nil) Try.func31 (by kernel_rfl) (by kernel_rfl) rfl (by kernel_rfl) rfl rfl (by kernel_rfl)
-- watchfire/item.Of
def sig32 : Sig := ⟨(.cons (.agg (.cons (.int .u8) (.cons (.int .u64) (.cons (.int .u64) (.cons .str (.cons (.ro (.cons .str (.cons .str .nil))) (.cons (.int .u8) (.cons (.int .u8) (.cons (.int .i64) (.cons (.int .u8) .nil)))))))))) .nil), (.cons (.agg (.cons .bool (.cons (.int .u8) (.cons (.int .u64) (.cons (.int .u64) (.cons .str (.cons (.ro (.cons .str (.cons .str .nil))) (.cons (.int .u8) (.cons (.int .u8) (.cons (.int .i64) (.cons (.int .u8) (.cons (.int .u8) (.cons (.int .u64) (.cons (.int .u64) .nil)))))))))))))) .nil)⟩
def F32 : Nat →
  UInt8 × UInt64 × UInt64 × List UInt8 × List (List UInt8 × List UInt8) × UInt8 × UInt8 × Int64 × UInt8 →
    Option
      ((Bool ×
          UInt8 ×
            UInt64 ×
              UInt64 ×
                List UInt8 × List (List UInt8 × List UInt8) × UInt8 × UInt8 × Int64 × UInt8 × UInt8 × UInt64 × UInt64) ×
        Unit) := fun (n : Nat)
    (x : UInt8 × UInt64 × UInt64 × List UInt8 × List (List UInt8 × List UInt8) × UInt8 × UInt8 × Int64 × UInt8) =>
  some
    ((false, Prod.fst x, Prod.fst (Prod.snd x), Prod.fst (Prod.snd (Prod.snd x)),
        Prod.fst (Prod.snd (Prod.snd (Prod.snd x))), Prod.fst (Prod.snd (Prod.snd (Prod.snd (Prod.snd x)))),
        Prod.fst (Prod.snd (Prod.snd (Prod.snd (Prod.snd (Prod.snd x))))),
        Prod.fst (Prod.snd (Prod.snd (Prod.snd (Prod.snd (Prod.snd (Prod.snd x)))))),
        Prod.fst (Prod.snd (Prod.snd (Prod.snd (Prod.snd (Prod.snd (Prod.snd (Prod.snd x))))))),
        Prod.snd (Prod.snd (Prod.snd (Prod.snd (Prod.snd (Prod.snd (Prod.snd (Prod.snd x))))))), (0 : UInt8),
        (0 : UInt64), (0 : UInt64)),
      ())
theorem ok32 (n : Nat) : FunOK Try.prog ⟨32, sig32, F32 n⟩ :=
  fun_ok (hints := ⟨[], []⟩) (fuel := n) (c := Try.f32.body.getD .skip) (rs := Try.f32.results.toList) tt_ok mix (FsOK.nil) Try.func32 (by kernel_rfl) (by kernel_rfl) rfl (by kernel_rfl) rfl rfl (by kernel_rfl)
-- (watchfire/watchfirelaw04.Small).Item
def sig13 : Sig := ⟨(.cons (.agg (.cons .bool (.cons (.int .u8) (.cons (.int .u8) (.cons (.int .u8) (.cons (.int .u16) (.cons (.int .u16) (.cons (.int .u16) (.cons (.int .u8) (.cons (.int .u8) (.cons (.int .u8) (.cons .bool .nil)))))))))))) .nil), (.cons (.agg (.cons .bool (.cons (.int .u8) (.cons (.int .u64) (.cons (.int .u64) (.cons .str (.cons (.ro (.cons .str (.cons .str .nil))) (.cons (.int .u8) (.cons (.int .u8) (.cons (.int .i64) (.cons (.int .u8) (.cons (.int .u8) (.cons (.int .u64) (.cons (.int .u64) .nil)))))))))))))) .nil)⟩
def F13_L1021 : Nat →
  Arr
      [PT.int IntKind.u8, PT.int IntKind.u8, PT.bool, PT.int IntKind.u8, PT.int IntKind.u8, PT.int IntKind.u8,
        PT.int IntKind.u16, PT.int IntKind.u16, PT.int IntKind.u16, PT.int IntKind.u8, PT.int IntKind.u8,
        PT.int IntKind.u8, PT.bool, PT.bool, PT.int IntKind.u8, PT.int IntKind.u64, PT.int IntKind.u64, PT.bytes,
        PT.int IntKind.u8, PT.int IntKind.u8, PT.int IntKind.i64, PT.int IntKind.u8, PT.int IntKind.u8,
        PT.int IntKind.u64, PT.int IntKind.u64, PT.int IntKind.u8, PT.int IntKind.u64, PT.int IntKind.u64, PT.bytes,
        PT.int IntKind.u8, PT.int IntKind.u8, PT.int IntKind.i64, PT.int IntKind.u8,
        PT.list (CTs.cons CT.str (CTs.cons CT.str CTs.nil))]
      (Option
        ((Bool ×
            UInt8 ×
              UInt64 ×
                UInt64 ×
                  List UInt8 ×
                    List (List UInt8 × List UInt8) × UInt8 × UInt8 × Int64 × UInt8 × UInt8 × UInt64 × UInt64) ×
          Unit)) →
    UInt8 →
      UInt8 →
        Bool →
          UInt8 →
            UInt8 →
              UInt8 →
                UInt16 →
                  UInt16 →
                    UInt16 →
                      UInt8 →
                        UInt8 →
                          UInt8 →
                            Bool →
                              Bool →
                                UInt8 →
                                  UInt64 →
                                    UInt64 →
                                      List UInt8 →
                                        UInt8 →
                                          UInt8 →
                                            Int64 →
                                              UInt8 →
                                                UInt8 →
                                                  UInt64 →
                                                    UInt64 →
                                                      UInt8 →
                                                        UInt64 →
                                                          UInt64 →
                                                            List UInt8 →
                                                              UInt8 →
                                                                UInt8 →
                                                                  Int64 →
                                                                    UInt8 →
                                                                      List (List UInt8 × List UInt8) →
                                                                        Option
                                                                          ((Bool ×
                                                                              UInt8 ×
                                                                                UInt64 ×
                                                                                  UInt64 ×
                                                                                    List UInt8 ×
                                                                                      List (List UInt8 × List UInt8) ×
                                                                                        UInt8 ×
                                                                                          UInt8 ×
                                                                                            Int64 ×
                                                                                              UInt8 ×
                                                                                                UInt8 ×
                                                                                                  UInt64 × UInt64) ×
                                                                            Unit) := fun (n : Nat)
    (rec :
      Arr
        [PT.int IntKind.u8, PT.int IntKind.u8, PT.bool, PT.int IntKind.u8, PT.int IntKind.u8, PT.int IntKind.u8,
          PT.int IntKind.u16, PT.int IntKind.u16, PT.int IntKind.u16, PT.int IntKind.u8, PT.int IntKind.u8,
          PT.int IntKind.u8, PT.bool, PT.bool, PT.int IntKind.u8, PT.int IntKind.u64, PT.int IntKind.u64, PT.bytes,
          PT.int IntKind.u8, PT.int IntKind.u8, PT.int IntKind.i64, PT.int IntKind.u8, PT.int IntKind.u8,
          PT.int IntKind.u64, PT.int IntKind.u64, PT.int IntKind.u8, PT.int IntKind.u64, PT.int IntKind.u64, PT.bytes,
          PT.int IntKind.u8, PT.int IntKind.u8, PT.int IntKind.i64, PT.int IntKind.u8,
          PT.list (CTs.cons CT.str (CTs.cons CT.str CTs.nil))]
        (Option
          ((Bool ×
              UInt8 ×
                UInt64 ×
                  UInt64 ×
                    List UInt8 ×
                      List (List UInt8 × List UInt8) × UInt8 × UInt8 × Int64 × UInt8 × UInt8 × UInt64 × UInt64) ×
            Unit)))
    (t t_1 : UInt8) (s0_2 : Bool) (s1_2 s2_2 s3_2 : UInt8) (s4_2 s5_2 s6_2 : UInt16) (s7_2 s8_2 s9_2 : UInt8)
    (s10_2 t0_2 : Bool) (t1_2 : UInt8) (t2_2 t3_2 : UInt64) (t4_2 : List UInt8) (t6_2 t7_2 : UInt8) (t8_2 : Int64)
    (t9_2 t10_2 : UInt8) (t11_2 t12_2 : UInt64) (v0_2 : UInt8) (v1_2 v2_2 : UInt64) (v3_2 : List UInt8)
    (v5_2 v6_2 : UInt8) (v7_2 : Int64) (v8_2 : UInt8) (vl : List (List UInt8 × List UInt8)) =>
  oite (decide (t_1 < t))
    (oite
      (Nat.ble
        (List.length vl + List.length [([(97 : UInt8) + t_1], [(48 : UInt8) + s8_2 / (4 : UInt8) % (10 : UInt8)])])
        (4294967296 : Nat))
      (rec t (t_1 + (1 : UInt8)) s0_2 s1_2 s2_2 s3_2 s4_2 s5_2 s6_2 s7_2 s8_2 s9_2 s10_2 t0_2 t1_2 t2_2 t3_2 t4_2 t6_2
        t7_2 t8_2 t9_2 t10_2 t11_2 t12_2 v0_2 v1_2 v2_2 v3_2 v5_2 v6_2 v7_2 v8_2
        (vl ++ [([(97 : UInt8) + t_1], [(48 : UInt8) + s8_2 / (4 : UInt8) % (10 : UInt8)])]))
      none)
    (obind (F32 n (v0_2, v1_2, v2_2, v3_2, vl, v5_2, v6_2, v7_2, v8_2))
      fun
        (x_2 :
          (Bool ×
              UInt8 ×
                UInt64 ×
                  UInt64 ×
                    List UInt8 ×
                      List (List UInt8 × List UInt8) × UInt8 × UInt8 × Int64 × UInt8 × UInt8 × UInt64 × UInt64) ×
            Unit) =>
      some
        ((Prod.fst (Prod.fst x_2), Prod.fst (Prod.snd (Prod.fst x_2)), Prod.fst (Prod.snd (Prod.snd (Prod.fst x_2))),
            Prod.fst (Prod.snd (Prod.snd (Prod.snd (Prod.fst x_2)))),
            Prod.fst (Prod.snd (Prod.snd (Prod.snd (Prod.snd (Prod.fst x_2))))),
            Prod.fst (Prod.snd (Prod.snd (Prod.snd (Prod.snd (Prod.snd (Prod.fst x_2)))))),
            Prod.fst (Prod.snd (Prod.snd (Prod.snd (Prod.snd (Prod.snd (Prod.snd (Prod.fst x_2))))))),
            Prod.fst (Prod.snd (Prod.snd (Prod.snd (Prod.snd (Prod.snd (Prod.snd (Prod.snd (Prod.fst x_2)))))))),
            Prod.fst
              (Prod.snd (Prod.snd (Prod.snd (Prod.snd (Prod.snd (Prod.snd (Prod.snd (Prod.snd (Prod.fst x_2))))))))),
            Prod.fst
              (Prod.snd
                (Prod.snd (Prod.snd (Prod.snd (Prod.snd (Prod.snd (Prod.snd (Prod.snd (Prod.snd (Prod.fst x_2)))))))))),
            Prod.fst
              (Prod.snd
                (Prod.snd
                  (Prod.snd
                    (Prod.snd (Prod.snd (Prod.snd (Prod.snd (Prod.snd (Prod.snd (Prod.snd (Prod.fst x_2))))))))))),
            Prod.fst
              (Prod.snd
                (Prod.snd
                  (Prod.snd
                    (Prod.snd
                      (Prod.snd (Prod.snd (Prod.snd (Prod.snd (Prod.snd (Prod.snd (Prod.snd (Prod.fst x_2)))))))))))),
            Prod.snd
              (Prod.snd
                (Prod.snd
                  (Prod.snd
                    (Prod.snd
                      (Prod.snd (Prod.snd (Prod.snd (Prod.snd (Prod.snd (Prod.snd (Prod.snd (Prod.fst x_2))))))))))))),
          ()))
def F13_R1021 : Nat →
  Nat →
    PT.T (PT.int IntKind.u8) →
      UInt8 →
        Bool →
          UInt8 →
            UInt8 →
              UInt8 →
                UInt16 →
                  UInt16 →
                    UInt16 →
                      UInt8 →
                        UInt8 →
                          UInt8 →
                            Bool →
                              Bool →
                                UInt8 →
                                  UInt64 →
                                    UInt64 →
                                      List UInt8 →
                                        UInt8 →
                                          UInt8 →
                                            Int64 →
                                              UInt8 →
                                                UInt8 →
                                                  UInt64 →
                                                    UInt64 →
                                                      UInt8 →
                                                        UInt64 →
                                                          UInt64 →
                                                            List UInt8 →
                                                              UInt8 →
                                                                UInt8 →
                                                                  Int64 →
                                                                    UInt8 →
                                                                      List (List UInt8 × List UInt8) →
                                                                        Option
                                                                          ((Bool ×
                                                                              UInt8 ×
                                                                                UInt64 ×
                                                                                  UInt64 ×
                                                                                    List UInt8 ×
                                                                                      List (List UInt8 × List UInt8) ×
                                                                                        UInt8 ×
                                                                                          UInt8 ×
                                                                                            Int64 ×
                                                                                              UInt8 ×
                                                                                                UInt8 ×
                                                                                                  UInt64 × UInt64) ×
                                                                            Unit) := fun (n : Nat) =>
  ofixA (1021 : Nat)
    [PT.int IntKind.u8, PT.int IntKind.u8, PT.bool, PT.int IntKind.u8, PT.int IntKind.u8, PT.int IntKind.u8,
      PT.int IntKind.u16, PT.int IntKind.u16, PT.int IntKind.u16, PT.int IntKind.u8, PT.int IntKind.u8,
      PT.int IntKind.u8, PT.bool, PT.bool, PT.int IntKind.u8, PT.int IntKind.u64, PT.int IntKind.u64, PT.bytes,
      PT.int IntKind.u8, PT.int IntKind.u8, PT.int IntKind.i64, PT.int IntKind.u8, PT.int IntKind.u8,
      PT.int IntKind.u64, PT.int IntKind.u64, PT.int IntKind.u8, PT.int IntKind.u64, PT.int IntKind.u64, PT.bytes,
      PT.int IntKind.u8, PT.int IntKind.u8, PT.int IntKind.i64, PT.int IntKind.u8,
      PT.list (CTs.cons CT.str (CTs.cons CT.str CTs.nil))]
    (F13_L1021 n)
def F13_J127 : Nat →
  Bool →
    UInt8 →
      UInt8 →
        UInt8 →
          UInt16 →
            UInt16 →
              UInt16 →
                UInt8 →
                  UInt8 →
                    UInt8 →
                      Bool →
                        Bool →
                          UInt8 →
                            UInt64 →
                              UInt64 →
                                List UInt8 →
                                  UInt8 →
                                    UInt8 →
                                      Int64 →
                                        UInt8 →
                                          UInt8 →
                                            UInt64 →
                                              UInt64 →
                                                UInt8 →
                                                  UInt64 →
                                                    UInt64 →
                                                      List UInt8 →
                                                        UInt8 →
                                                          UInt8 →
                                                            Int64 →
                                                              UInt8 →
                                                                Option
                                                                  ((Bool ×
                                                                      UInt8 ×
                                                                        UInt64 ×
                                                                          UInt64 ×
                                                                            List UInt8 ×
                                                                              List (List UInt8 × List UInt8) ×
                                                                                UInt8 ×
                                                                                  UInt8 ×
                                                                                    Int64 ×
                                                                                      UInt8 × UInt8 × UInt64 × UInt64) ×
                                                                    Unit) := fun (n : Nat) (s0_1 : Bool) (s1_1 s2_1 s3_1 : UInt8) (s4_1 s5_1 s6_1 : UInt16) (s7_1 s8_1 s9_1 : UInt8)
    (s10_1 t0_1 : Bool) (t1_1 : UInt8) (t2_1 t3_1 : UInt64) (t4_1 : List UInt8) (t6_1 t7_1 : UInt8) (t8_1 : Int64)
    (t9_1 t10_1 : UInt8) (t11_1 t12_1 : UInt64) (v0_1 : UInt8) (v1_1 v2_1 : UInt64) (v3_1 : List UInt8)
    (v5_1 v6_1 : UInt8) (v7_1 : Int64) (v8_1 : UInt8) =>
  F13_R1021 n n (s8_1 % (4 : UInt8)) (0 : UInt8) s0_1 s1_1 s2_1 s3_1 s4_1 s5_1 s6_1 s7_1 s8_1 s9_1 s10_1 t0_1 t1_1 t2_1
    t3_1 t4_1 t6_1 t7_1 t8_1 t9_1 t10_1 t11_1 t12_1 v0_1 v1_1 v2_1 v3_1 v5_1 v6_1 v7_1 v8_1 []
def F13_J63 : Nat →
  Bool →
    UInt8 →
      UInt8 →
        UInt8 →
          UInt16 →
            UInt16 →
              UInt16 →
                UInt8 →
                  UInt8 →
                    UInt8 →
                      Bool →
                        Bool →
                          UInt8 →
                            UInt64 →
                              UInt64 →
                                List UInt8 →
                                  UInt8 →
                                    UInt8 →
                                      Int64 →
                                        UInt8 →
                                          UInt8 →
                                            UInt64 →
                                              UInt64 →
                                                UInt8 →
                                                  UInt64 →
                                                    UInt64 →
                                                      List UInt8 →
                                                        UInt8 →
                                                          UInt8 →
                                                            Int64 →
                                                              UInt8 →
                                                                Option
                                                                  ((Bool ×
                                                                      UInt8 ×
                                                                        UInt64 ×
                                                                          UInt64 ×
                                                                            List UInt8 ×
                                                                              List (List UInt8 × List UInt8) ×
                                                                                UInt8 ×
                                                                                  UInt8 ×
                                                                                    Int64 ×
                                                                                      UInt8 × UInt8 × UInt64 × UInt64) ×
                                                                    Unit) := fun (n : Nat) (s0 : Bool) (s1 s2 s3 : UInt8) (s4 s5 s6 : UInt16) (s7 s8 s9 : UInt8) (s10 t0 : Bool) (t1 : UInt8)
    (t2 t3 : UInt64) (t4 : List UInt8) (t6 t7 : UInt8) (t8 : Int64) (t9 t10 : UInt8) (t11 t12 : UInt64) (v0 : UInt8)
    (v1 v2 : UInt64) (v3 : List UInt8) (v5 v6 : UInt8) (v7 : Int64) (v8 : UInt8) =>
  ojoinA (127 : Nat)
    [PT.bool, PT.int IntKind.u8, PT.int IntKind.u8, PT.int IntKind.u8, PT.int IntKind.u16, PT.int IntKind.u16,
      PT.int IntKind.u16, PT.int IntKind.u8, PT.int IntKind.u8, PT.int IntKind.u8, PT.bool, PT.bool, PT.int IntKind.u8,
      PT.int IntKind.u64, PT.int IntKind.u64, PT.bytes, PT.int IntKind.u8, PT.int IntKind.u8, PT.int IntKind.i64,
      PT.int IntKind.u8, PT.int IntKind.u8, PT.int IntKind.u64, PT.int IntKind.u64, PT.int IntKind.u8,
      PT.int IntKind.u64, PT.int IntKind.u64, PT.bytes, PT.int IntKind.u8, PT.int IntKind.u8, PT.int IntKind.i64,
      PT.int IntKind.u8]
    (fun
        (J :
          Arr
            [PT.bool, PT.int IntKind.u8, PT.int IntKind.u8, PT.int IntKind.u8, PT.int IntKind.u16, PT.int IntKind.u16,
              PT.int IntKind.u16, PT.int IntKind.u8, PT.int IntKind.u8, PT.int IntKind.u8, PT.bool, PT.bool,
              PT.int IntKind.u8, PT.int IntKind.u64, PT.int IntKind.u64, PT.bytes, PT.int IntKind.u8, PT.int IntKind.u8,
              PT.int IntKind.i64, PT.int IntKind.u8, PT.int IntKind.u8, PT.int IntKind.u64, PT.int IntKind.u64,
              PT.int IntKind.u8, PT.int IntKind.u64, PT.int IntKind.u64, PT.bytes, PT.int IntKind.u8, PT.int IntKind.u8,
              PT.int IntKind.i64, PT.int IntKind.u8]
            (Option
              ((Bool ×
                  UInt8 ×
                    UInt64 ×
                      UInt64 ×
                        List UInt8 ×
                          List (List UInt8 × List UInt8) × UInt8 × UInt8 × Int64 × UInt8 × UInt8 × UInt64 × UInt64) ×
                Unit))) =>
      oite (decide (s3 % (8 : UInt8) = (7 : UInt8)))
        (J s0 s1 s2 s3 s4 s5 s6 s7 s8 s9 s10 t0 t1 t2 t3 t4 t6 t7 t8 t9 t10 t11 t12 v0 v1 v2
          [(111 : UInt8), (119 : UInt8), (110 : UInt8), (46 : UInt8), (120 : UInt8)] v5 v6 v7
          ((1 : UInt8) + s3 / (8 : UInt8) % (2 : UInt8)))
        (J s0 s1 s2 s3 s4 s5 s6 s7 s8 s9 s10 t0 t1 t2 t3 t4 t6 t7 t8 t9 t10 t11 t12 v0 v1 v2 v3 v5 v6 v7 v8))
    (F13_J127 n)
def F13 : Nat →
  Bool × UInt8 × UInt8 × UInt8 × UInt16 × UInt16 × UInt16 × UInt8 × UInt8 × UInt8 × Bool →
    Option
      ((Bool ×
          UInt8 ×
            UInt64 ×
              UInt64 ×
                List UInt8 × List (List UInt8 × List UInt8) × UInt8 × UInt8 × Int64 × UInt8 × UInt8 × UInt64 × UInt64) ×
        Unit) := fun (n : Nat) (x : Bool × UInt8 × UInt8 × UInt8 × UInt16 × UInt16 × UInt16 × UInt8 × UInt8 × UInt8 × Bool) =>
  oite (Prod.fst x)
    (obind
      (F31 n
        (Prod.fst (Prod.snd x) % (32 : UInt8),
          (1 : UInt64) + UInt64.ofInt ↑(UInt16.toNat (Prod.fst (Prod.snd (Prod.snd (Prod.snd (Prod.snd x)))))),
          (1 : UInt64) + UInt64.ofInt ↑(UInt16.toNat (Prod.fst (Prod.snd (Prod.snd (Prod.snd (Prod.snd x)))))) +
            UInt64.ofInt ↑(UInt16.toNat (Prod.fst (Prod.snd (Prod.snd (Prod.snd (Prod.snd (Prod.snd x)))))))))
      fun
        (x_1 :
          (Bool ×
              UInt8 ×
                UInt64 ×
                  UInt64 ×
                    List UInt8 ×
                      List (List UInt8 × List UInt8) × UInt8 × UInt8 × Int64 × UInt8 × UInt8 × UInt64 × UInt64) ×
            Unit) =>
      some
        ((Prod.fst (Prod.fst x_1), Prod.fst (Prod.snd (Prod.fst x_1)), Prod.fst (Prod.snd (Prod.snd (Prod.fst x_1))),
            Prod.fst (Prod.snd (Prod.snd (Prod.snd (Prod.fst x_1)))),
            Prod.fst (Prod.snd (Prod.snd (Prod.snd (Prod.snd (Prod.fst x_1))))),
            Prod.fst (Prod.snd (Prod.snd (Prod.snd (Prod.snd (Prod.snd (Prod.fst x_1)))))),
            Prod.fst (Prod.snd (Prod.snd (Prod.snd (Prod.snd (Prod.snd (Prod.snd (Prod.fst x_1))))))),
            Prod.fst (Prod.snd (Prod.snd (Prod.snd (Prod.snd (Prod.snd (Prod.snd (Prod.snd (Prod.fst x_1)))))))),
            Prod.fst
              (Prod.snd (Prod.snd (Prod.snd (Prod.snd (Prod.snd (Prod.snd (Prod.snd (Prod.snd (Prod.fst x_1))))))))),
            Prod.fst
              (Prod.snd
                (Prod.snd (Prod.snd (Prod.snd (Prod.snd (Prod.snd (Prod.snd (Prod.snd (Prod.snd (Prod.fst x_1)))))))))),
            Prod.fst
              (Prod.snd
                (Prod.snd
                  (Prod.snd
                    (Prod.snd (Prod.snd (Prod.snd (Prod.snd (Prod.snd (Prod.snd (Prod.snd (Prod.fst x_1))))))))))),
            Prod.fst
              (Prod.snd
                (Prod.snd
                  (Prod.snd
                    (Prod.snd
                      (Prod.snd (Prod.snd (Prod.snd (Prod.snd (Prod.snd (Prod.snd (Prod.snd (Prod.fst x_1)))))))))))),
            Prod.snd
              (Prod.snd
                (Prod.snd
                  (Prod.snd
                    (Prod.snd
                      (Prod.snd (Prod.snd (Prod.snd (Prod.snd (Prod.snd (Prod.snd (Prod.snd (Prod.fst x_1))))))))))))),
          ()))
    (oite
      (decide
          ((0 : Int) ≤
            ↑(UInt8.toNat
                (Prod.fst (Prod.snd (Prod.snd (Prod.snd (Prod.snd (Prod.snd (Prod.snd (Prod.snd x))))))) %
                  (4 : UInt8)))) &&
        Nat.blt
          (Int.toNat
            ↑(UInt8.toNat
                (Prod.fst (Prod.snd (Prod.snd (Prod.snd (Prod.snd (Prod.snd (Prod.snd (Prod.snd x))))))) %
                  (4 : UInt8))))
          (List.length
            [[(104 : UInt8), (111 : UInt8), (116 : UInt8)], [(99 : UInt8), (111 : UInt8), (108 : UInt8), (100 : UInt8)],
              [(100 : UInt8), (105 : UInt8), (115 : UInt8), (107 : UInt8), (46 : UInt8), (102 : UInt8), (117 : UInt8),
                (108 : UInt8), (108 : UInt8)],
              [(120 : UInt8)]]))
      (obind
        [[(104 : UInt8), (111 : UInt8), (116 : UInt8)], [(99 : UInt8), (111 : UInt8), (108 : UInt8), (100 : UInt8)],
            [(100 : UInt8), (105 : UInt8), (115 : UInt8), (107 : UInt8), (46 : UInt8), (102 : UInt8), (117 : UInt8),
              (108 : UInt8), (108 : UInt8)],
            [(120 :
                UInt8)]][Int.toNat
            ↑(UInt8.toNat
                (Prod.fst (Prod.snd (Prod.snd (Prod.snd (Prod.snd (Prod.snd (Prod.snd (Prod.snd x))))))) %
                  (4 : UInt8)))]?
        fun (x_1 : List UInt8) =>
        ojoinA (63 : Nat)
          [PT.bool, PT.int IntKind.u8, PT.int IntKind.u8, PT.int IntKind.u8, PT.int IntKind.u16, PT.int IntKind.u16,
            PT.int IntKind.u16, PT.int IntKind.u8, PT.int IntKind.u8, PT.int IntKind.u8, PT.bool, PT.bool,
            PT.int IntKind.u8, PT.int IntKind.u64, PT.int IntKind.u64, PT.bytes, PT.int IntKind.u8, PT.int IntKind.u8,
            PT.int IntKind.i64, PT.int IntKind.u8, PT.int IntKind.u8, PT.int IntKind.u64, PT.int IntKind.u64,
            PT.int IntKind.u8, PT.int IntKind.u64, PT.int IntKind.u64, PT.bytes, PT.int IntKind.u8, PT.int IntKind.u8,
            PT.int IntKind.i64, PT.int IntKind.u8]
          (fun
              (J :
                Arr
                  [PT.bool, PT.int IntKind.u8, PT.int IntKind.u8, PT.int IntKind.u8, PT.int IntKind.u16,
                    PT.int IntKind.u16, PT.int IntKind.u16, PT.int IntKind.u8, PT.int IntKind.u8, PT.int IntKind.u8,
                    PT.bool, PT.bool, PT.int IntKind.u8, PT.int IntKind.u64, PT.int IntKind.u64, PT.bytes,
                    PT.int IntKind.u8, PT.int IntKind.u8, PT.int IntKind.i64, PT.int IntKind.u8, PT.int IntKind.u8,
                    PT.int IntKind.u64, PT.int IntKind.u64, PT.int IntKind.u8, PT.int IntKind.u64, PT.int IntKind.u64,
                    PT.bytes, PT.int IntKind.u8, PT.int IntKind.u8, PT.int IntKind.i64, PT.int IntKind.u8]
                  (Option
                    ((Bool ×
                        UInt8 ×
                          UInt64 ×
                            UInt64 ×
                              List UInt8 ×
                                List (List UInt8 × List UInt8) ×
                                  UInt8 × UInt8 × Int64 × UInt8 × UInt8 × UInt64 × UInt64) ×
                      Unit))) =>
            oite
              (Prod.snd
                (Prod.snd (Prod.snd (Prod.snd (Prod.snd (Prod.snd (Prod.snd (Prod.snd (Prod.snd (Prod.snd x))))))))))
              (J (Prod.fst x) (Prod.fst (Prod.snd x)) (Prod.fst (Prod.snd (Prod.snd x)))
                (Prod.fst (Prod.snd (Prod.snd (Prod.snd x)))) (Prod.fst (Prod.snd (Prod.snd (Prod.snd (Prod.snd x)))))
                (Prod.fst (Prod.snd (Prod.snd (Prod.snd (Prod.snd (Prod.snd x))))))
                (Prod.fst (Prod.snd (Prod.snd (Prod.snd (Prod.snd (Prod.snd (Prod.snd x)))))))
                (Prod.fst (Prod.snd (Prod.snd (Prod.snd (Prod.snd (Prod.snd (Prod.snd (Prod.snd x))))))))
                (Prod.fst (Prod.snd (Prod.snd (Prod.snd (Prod.snd (Prod.snd (Prod.snd (Prod.snd (Prod.snd x)))))))))
                (Prod.fst
                  (Prod.snd (Prod.snd (Prod.snd (Prod.snd (Prod.snd (Prod.snd (Prod.snd (Prod.snd (Prod.snd x))))))))))
                (Prod.snd
                  (Prod.snd (Prod.snd (Prod.snd (Prod.snd (Prod.snd (Prod.snd (Prod.snd (Prod.snd (Prod.snd x))))))))))
                false (0 : UInt8) (0 : UInt64) (0 : UInt64) [] (0 : UInt8) (0 : UInt8) (0 : Int64) (0 : UInt8)
                (0 : UInt8) (0 : UInt64) (0 : UInt64) (Prod.fst (Prod.snd x) % (32 : UInt8))
                ((1 : UInt64) + UInt64.ofInt ↑(UInt16.toNat (Prod.fst (Prod.snd (Prod.snd (Prod.snd (Prod.snd x)))))))
                (UInt64.ofInt
                  ↑(UInt16.toNat (Prod.fst (Prod.snd (Prod.snd (Prod.snd (Prod.snd (Prod.snd (Prod.snd x)))))))))
                x_1 (2 : UInt8) (Prod.fst (Prod.snd (Prod.snd x)) % (8 : UInt8))
                (Int64.ofInt
                    ↑(UInt8.toNat
                        (Prod.fst
                          (Prod.snd
                            (Prod.snd
                              (Prod.snd (Prod.snd (Prod.snd (Prod.snd (Prod.snd (Prod.snd (Prod.snd x))))))))))) -
                  (100 : Int64))
                (0 : UInt8))
              (J (Prod.fst x) (Prod.fst (Prod.snd x)) (Prod.fst (Prod.snd (Prod.snd x)))
                (Prod.fst (Prod.snd (Prod.snd (Prod.snd x)))) (Prod.fst (Prod.snd (Prod.snd (Prod.snd (Prod.snd x)))))
                (Prod.fst (Prod.snd (Prod.snd (Prod.snd (Prod.snd (Prod.snd x))))))
                (Prod.fst (Prod.snd (Prod.snd (Prod.snd (Prod.snd (Prod.snd (Prod.snd x)))))))
                (Prod.fst (Prod.snd (Prod.snd (Prod.snd (Prod.snd (Prod.snd (Prod.snd (Prod.snd x))))))))
                (Prod.fst (Prod.snd (Prod.snd (Prod.snd (Prod.snd (Prod.snd (Prod.snd (Prod.snd (Prod.snd x)))))))))
                (Prod.fst
                  (Prod.snd (Prod.snd (Prod.snd (Prod.snd (Prod.snd (Prod.snd (Prod.snd (Prod.snd (Prod.snd x))))))))))
                (Prod.snd
                  (Prod.snd (Prod.snd (Prod.snd (Prod.snd (Prod.snd (Prod.snd (Prod.snd (Prod.snd (Prod.snd x))))))))))
                false (0 : UInt8) (0 : UInt64) (0 : UInt64) [] (0 : UInt8) (0 : UInt8) (0 : Int64) (0 : UInt8)
                (0 : UInt8) (0 : UInt64) (0 : UInt64) (Prod.fst (Prod.snd x) % (32 : UInt8))
                ((1 : UInt64) + UInt64.ofInt ↑(UInt16.toNat (Prod.fst (Prod.snd (Prod.snd (Prod.snd (Prod.snd x)))))))
                (UInt64.ofInt
                  ↑(UInt16.toNat (Prod.fst (Prod.snd (Prod.snd (Prod.snd (Prod.snd (Prod.snd (Prod.snd x)))))))))
                x_1 (0 : UInt8) (Prod.fst (Prod.snd (Prod.snd x)) % (8 : UInt8))
                (Int64.ofInt
                    ↑(UInt8.toNat
                        (Prod.fst
                          (Prod.snd
                            (Prod.snd
                              (Prod.snd (Prod.snd (Prod.snd (Prod.snd (Prod.snd (Prod.snd (Prod.snd x))))))))))) -
                  (100 : Int64))
                (0 : UInt8)))
          (F13_J63 n))
      none)
theorem F13_R1021_s (n : Nat) (m_ : Nat) : F13_R1021 n (m_ + 1) = F13_L1021 n (F13_R1021 n m_) := rfl
theorem ok13 (n : Nat) : FunOK Try.prog ⟨13, sig13, F13 n⟩ :=
  fun_ok (hints := ⟨[(63, ⟨[(1, .one (.own 1)), (2, .one (.own 2)), (5, .one (.own 3))], [(1, .cells [.bool, .int .u8, .int .u8, .int .u8, .int .u16, .int .u16, .int .u16, .int .u8, .int .u8, .int .u8, .bool]), (2, .cells [.bool, .int .u8, .int .u64, .int .u64, .str, .nils, .int .u8, .int .u8, .int .i64, .int .u8, .int .u8, .int .u64, .int .u64]), (3, .cells [.int .u8, .int .u64, .int .u64, .str, .nils, .int .u8, .int .u8, .int .i64, .int .u8])], 4⟩), (127, ⟨[(1, .one (.own 1)), (2, .one (.own 2)), (5, .one (.own 3))], [(1, .cells [.bool, .int .u8, .int .u8, .int .u8, .int .u16, .int .u16, .int .u16, .int .u8, .int .u8, .int .u8, .bool]), (2, .cells [.bool, .int .u8, .int .u64, .int .u64, .str, .nils, .int .u8, .int .u8, .int .i64, .int .u8, .int .u8, .int .u64, .int .u64]), (3, .cells [.int .u8, .int .u64, .int .u64, .str, .nils, .int .u8, .int .u8, .int .i64, .int .u8])], 4⟩)], [(1021, ⟨[(1, .one (.own 1)), (2, .one (.own 2)), (5, .one (.own 3)), (59, .one (.int .u8)), (60, .one (.int .u8))], [(1, .cells [.bool, .int .u8, .int .u8, .int .u8, .int .u16, .int .u16, .int .u16, .int .u8, .int .u8, .int .u8, .bool]), (2, .cells [.bool, .int .u8, .int .u64, .int .u64, .str, .nils, .int .u8, .int .u8, .int .i64, .int .u8, .int .u8, .int .u64, .int .u64]), (3, .cells [.int .u8, .int .u64, .int .u64, .str, .own 4, .int .u8, .int .u8, .int .i64, .int .u8]), (4, .row (.cons .str (.cons .str .nil)))], 5⟩)]⟩) (fuel := n) (c := Try.f13.body.getD .skip) (rs := Try.f13.results.toList) tt_ok mix (FsOK.cons (ok31 n) (FsOK.cons (ok32 n) (FsOK.nil))) Try.func13 (by kernel_rfl) (by kernel_rfl) rfl (by kernel_rfl) rfl rfl (by kernel_rfl)
end Go.Proofs.Ytgknjddbbehboaa
