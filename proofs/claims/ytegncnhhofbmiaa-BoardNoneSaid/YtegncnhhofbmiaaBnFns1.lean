/- What the functions of this seat compute, found by walking their code symbolically: each F is what the walk finds, each ok says that the Go function keeps it as a contract. Printed by a program of this repo's. -/
import Derived.Test.YtegncnhhofbmiaaBnList
import Derived.Test.YtegncnhhofbmiaaSxClone
open Go Go.Sx
namespace Go.Proofs.Ytegncnhhofbmiaa
set_option maxRecDepth 100000
set_option linter.unusedVariables false
-- watchfire/item.Of
def sig18 : Sig := ⟨(.cons (.agg (.cons (.int .u8) (.cons (.int .u64) (.cons (.int .u64) (.cons .str (.cons (.ro (.cons .str (.cons .str .nil))) (.cons (.int .u8) (.cons (.int .u8) (.cons (.int .i64) (.cons (.int .u8) .nil)))))))))) .nil), (.cons (.agg (.cons .bool (.cons (.int .u8) (.cons (.int .u64) (.cons (.int .u64) (.cons .str (.cons (.ro (.cons .str (.cons .str .nil))) (.cons (.int .u8) (.cons (.int .u8) (.cons (.int .i64) (.cons (.int .u8) (.cons (.int .u8) (.cons (.int .u64) (.cons (.int .u64) .nil)))))))))))))) .nil)⟩
def F18 : Nat →
 UInt8 × UInt64 × UInt64 × List UInt8 × List (List UInt8 × List UInt8) × UInt8 × UInt8 × Int64 × UInt8 →
 Option
 ((Bool ×
 UInt8 ×
 UInt64 ×
 UInt64 ×
 List UInt8 × List (List UInt8 × List UInt8) × UInt8 × UInt8 × Int64 × UInt8 × UInt8 × UInt64 × UInt64) ×
 Unit) := fun (n : Nat)
 (x : UInt8 × UInt64 × UInt64 × List UInt8 × List (List UInt8 × List UInt8) × UInt8 × UInt8 × Int64 × UInt8) =>
 some
 ((false, Prod.fst x, Prod.fst (Prod.snd x), Prod.fst (Prod.snd (Prod.snd x)),
 Prod.fst (Prod.snd (Prod.snd (Prod.snd x))), Prod.fst (Prod.snd (Prod.snd (Prod.snd (Prod.snd x)))),
 Prod.fst (Prod.snd (Prod.snd (Prod.snd (Prod.snd (Prod.snd x))))),
 Prod.fst (Prod.snd (Prod.snd (Prod.snd (Prod.snd (Prod.snd (Prod.snd x)))))),
 Prod.fst (Prod.snd (Prod.snd (Prod.snd (Prod.snd (Prod.snd (Prod.snd (Prod.snd x))))))),
 Prod.snd (Prod.snd (Prod.snd (Prod.snd (Prod.snd (Prod.snd (Prod.snd (Prod.snd x))))))), (0 : UInt8),
 (0 : UInt64), (0 : UInt64)),
 ())
theorem ok18 (n : Nat) : FunOK Try.prog ⟨18, sig18, F18 n⟩ :=
 fun_ok (hints := ⟨[], []⟩) (fuel := n) (c := Try.f18.body.getD .skip) (rs := Try.f18.results.toList) tt_ok mix (FsOK.nil) Try.func18 (by kernel_rfl) (by kernel_rfl) rfl (by kernel_rfl) rfl rfl (by kernel_rfl)
-- watchfire/item.Gap
def sig10 : Sig := ⟨(.cons (.one (.c (.int .u8))) (.cons (.one (.c (.int .u64))) (.cons (.one (.c (.int .u64))) .nil))), (.cons (.agg (.cons .bool (.cons (.int .u8) (.cons (.int .u64) (.cons (.int .u64) (.cons .str (.cons (.ro (.cons .str (.cons .str .nil))) (.cons (.int .u8) (.cons (.int .u8) (.cons (.int .i64) (.cons (.int .u8) (.cons (.int .u8) (.cons (.int .u64) (.cons (.int .u64) .nil)))))))))))))) .nil)⟩
def F10 : Nat →
 UInt8 × UInt64 × UInt64 →
 Option
 ((Bool ×
 UInt8 ×
 UInt64 ×
 UInt64 ×
 List UInt8 × List (List UInt8 × List UInt8) × UInt8 × UInt8 × Int64 × UInt8 × UInt8 × UInt64 × UInt64) ×
 Unit) := fun (n : Nat) (x : UInt8 × UInt64 × UInt64) =>
 some
 ((true, (0 : UInt8), (0 : UInt64), (0 : UInt64), @List.nil UInt8, @List.nil (List UInt8 × List UInt8), (0 : UInt8),
 (0 : UInt8), (0 : Int64), (0 : UInt8), Prod.fst x, Prod.fst (Prod.snd x), Prod.snd (Prod.snd x)),
 ())
theorem ok10 (n : Nat) : FunOK Try.prog ⟨10, sig10, F10 n⟩ :=
 fun_ok (hints := ⟨[], []⟩) (fuel := n) (c := Try.f10.body.getD .skip) (rs := Try.f10.results.toList) tt_ok mix (FsOK.nil) Try.func10 (by kernel_rfl) (by kernel_rfl) rfl (by kernel_rfl) rfl rfl (by kernel_rfl)
-- watchfire/board.New
def sig6 : Sig := ⟨.nil, (.cons (.one (.ptrA (.cons (.map (.agg (.cons (.int .u8) (.cons .str (.cons .str (.cons (.int .u8) .nil))))) (.agg (.cons (.int .u8) (.cons .str (.cons (.ro (.cons .str (.cons .str .nil))) (.cons (.int .u8) (.cons (.int .u64) (.cons (.int .u8) (.cons (.int .i64) .nil))))))))) .nil) (.int .u64) 32 .nil)) .nil)⟩
def F6 : Nat →
 Unit →
 Option
 (Option
 (List
 ((UInt8 × List UInt8 × List UInt8 × UInt8) ×
 UInt8 × List UInt8 × List (List UInt8 × List UInt8) × UInt8 × UInt64 × UInt8 × Int64) ×
 List UInt64 × Unit) ×
 Unit) := fun (n : Nat) (x : Unit) =>
 some
 (some
 (@List.nil
 ((UInt8 × List UInt8 × List UInt8 × UInt8) ×
 UInt8 × List UInt8 × List (List UInt8 × List UInt8) × UInt8 × UInt64 × UInt8 × Int64),
 List.replicate (32 : Nat) (0 : UInt64), ()),
 ())
theorem ok6 (n : Nat) : FunOK Try.prog ⟨6, sig6, F6 n⟩ :=
 fun_ok (hints := ⟨[], []⟩) (fuel := n) (c := Try.f6.body.getD .skip) (rs := Try.f6.results.toList) tt_ok mix (FsOK.nil) Try.func6 (by kernel_rfl) (by kernel_rfl) rfl (by kernel_rfl) rfl rfl (by kernel_rfl)
-- watchfire/item.number
def sig40 : Sig := ⟨(.cons (.one (.c (.int .u64))) .nil), (.cons (.one (.c .bool)) .nil)⟩
def F40 : Nat → UInt64 → Option (Bool × Unit) := fun (n : Nat) (x : UInt64) => some (decide (x ≤ (1099511627776 : UInt64)), ())
theorem ok40 (n : Nat) : FunOK Try.prog ⟨40, sig40, F40 n⟩ :=
 fun_ok (hints := ⟨[], []⟩) (fuel := n) (c := Try.f40.body.getD .skip) (rs := Try.f40.results.toList) tt_ok mix (FsOK.nil) Try.func40 (by kernel_rfl) (by kernel_rfl) rfl (by kernel_rfl) rfl rfl (by kernel_rfl)
-- watchfire/item.gap
def sig28 : Sig := ⟨(.cons (.agg (.cons (.int .u8) (.cons (.int .u64) (.cons (.int .u64) .nil)))) .nil), (.cons (.one (.c (.int .i64))) .nil)⟩
def F28 : Nat → UInt8 × UInt64 × UInt64 → Option (Int64 × Unit) := fun (n : Nat) (x : UInt8 × UInt64 × UInt64) =>
 oite (decide ((32 : UInt8) ≤ Prod.fst x)) (some ((6 : Int64), ()))
 (oite (decide (Prod.fst (Prod.snd x) < (1 : UInt64))) (some ((6 : Int64), ()))
 (oite (decide (Prod.snd (Prod.snd x) < Prod.fst (Prod.snd x))) (some ((6 : Int64), ()))
 (obind (F40 n (Prod.snd (Prod.snd x))) fun (x_1 : Bool × Unit) =>
 oite (!Prod.fst x_1) (some ((6 : Int64), ())) (some ((0 : Int64), ())))))
theorem ok28 (n : Nat) : FunOK Try.prog ⟨28, sig28, F28 n⟩ :=
 fun_ok (hints := ⟨[], []⟩) (fuel := n) (c := Try.f28.body.getD .skip) (rs := Try.f28.results.toList) tt_ok mix (FsOK.cons (ok40 n) (FsOK.nil)) Try.func28 (by kernel_rfl) (by kernel_rfl) rfl (by kernel_rfl) rfl rfl (by kernel_rfl)
-- watchfire/lab.word
def sig58 : Sig := ⟨(.cons (.one (.c .str)) (.cons (.one (.c (.int .i64))) (.cons (.one (.c .bool)) .nil))), (.cons (.one (.c .bool)) .nil)⟩
def F58_J471 : Arr [PT.bool, PT.bytes, PT.nat] (Option (Bool × Unit)) → Bool → Int32 → Bool → List UInt8 → Nat → Option (Bool × Unit) := fun (rec : Arr [PT.bool, PT.bytes, PT.nat] (Option (Bool × Unit))) (also_1 : Bool) (c : Int32) (t_1 : Bool)
 (t_1_1 : List UInt8) (x_2 : Nat) =>
 oite t_1 (rec also_1 t_1_1 x_2)
 (oite also_1
 (oite (decide ((48 : Int32) ≤ c))
 (oite (decide (c ≤ (57 : Int32))) (rec also_1 t_1_1 x_2)
 (oite (decide (c = (46 : Int32))) (rec also_1 t_1_1 x_2)
 (oite (decide (c = (95 : Int32))) (rec also_1 t_1_1 x_2)
 (oite (decide (c = (45 : Int32))) (rec also_1 t_1_1 x_2) (some (false, ()))))))
 (oite (decide (c = (46 : Int32))) (rec also_1 t_1_1 x_2)
 (oite (decide (c = (95 : Int32))) (rec also_1 t_1_1 x_2)
 (oite (decide (c = (45 : Int32))) (rec also_1 t_1_1 x_2) (some (false, ()))))))
 (some (false, ())))
def F58_L29 : Arr [PT.bool, PT.bytes, PT.nat] (Option (Bool × Unit)) → Bool → List UInt8 → Nat → Option (Bool × Unit) := fun (rec : Arr [PT.bool, PT.bytes, PT.nat] (Option (Bool × Unit))) (also : Bool) (t : List UInt8) (x_1 : Nat) =>
 oite (Nat.blt x_1 (List.length t))
 (ojoinA (471 : Nat) [PT.bool, PT.int IntKind.i32, PT.bool, PT.bytes, PT.nat]
 (fun (J : Arr [PT.bool, PT.int IntKind.i32, PT.bool, PT.bytes, PT.nat] (Option (Bool × Unit))) =>
 oite (decide ((97 : Int32) ≤ Int32.ofInt ↑(runeAt t x_1)))
 (J also (Int32.ofInt ↑(runeAt t x_1)) (decide (Int32.ofInt ↑(runeAt t x_1) ≤ (122 : Int32))) t
 (x_1 + runeLen t x_1))
 (J also (Int32.ofInt ↑(runeAt t x_1)) false t (x_1 + runeLen t x_1)))
 (F58_J471 rec))
 (some (true, ()))
def F58_R29 : Nat → PT.T PT.bool → List UInt8 → Nat → Option (Bool × Unit) := ofixA (29 : Nat) [PT.bool, PT.bytes, PT.nat] F58_L29
def F58 : Nat → List UInt8 × Int64 × Bool → Option (Bool × Unit) := fun (n : Nat) (x : List UInt8 × Int64 × Bool) =>
 oite (decide (Int64.ofInt ↑(List.length (Prod.fst x)) < (1 : Int64))) (some (false, ()))
 (oite (decide (Prod.fst (Prod.snd x) < Int64.ofInt ↑(List.length (Prod.fst x)))) (some (false, ()))
 (F58_R29 n (Prod.snd (Prod.snd x)) (Prod.fst x) (0 : Nat)))
theorem F58_R29_s  (m_ : Nat) : F58_R29  (m_ + 1) = F58_L29  (F58_R29  m_) := rfl
theorem ok58 (n : Nat) : FunOK Try.prog ⟨58, sig58, F58 n⟩ :=
 fun_ok (hints := ⟨[(471, ⟨[(2, .one (.bool)), (8, .one (.int .i32)), (19, .one (.own 3)), (23, .one (.bool))], [(3, .iter)], 4⟩)], [(29, ⟨[(2, .one (.bool)), (19, .one (.own 3))], [(3, .iter)], 4⟩)]⟩) (fuel := n) (c := Try.f58.body.getD .skip) (rs := Try.f58.results.toList) tt_ok mix (FsOK.nil) Try.func58 (by kernel_rfl) (by kernel_rfl) rfl (by kernel_rfl) rfl rfl (by kernel_rfl)
-- watchfire/lab.Name
def sig41 : Sig := ⟨(.cons (.one (.c .str)) .nil), (.cons (.one (.c .bool)) .nil)⟩
def F41 : Nat → List UInt8 → Option (Bool × Unit) := fun (n : Nat) (x : List UInt8) =>
 obind (F58 n (x, (12 : Int64), true)) fun (x_1 : Bool × Unit) =>
 oite (Prod.fst x_1)
 (obind (at? x (Int64.toInt (0 : Int64))) fun (x_2 : UInt8) =>
 oite (decide ((97 : UInt8) ≤ x_2))
 (obind (at? x (Int64.toInt (0 : Int64))) fun (x_3 : UInt8) => some (decide (x_3 ≤ (122 : UInt8)), ()))
 (some (false, ())))
 (some (false, ()))
theorem ok41 (n : Nat) : FunOK Try.prog ⟨41, sig41, F41 n⟩ :=
 fun_ok (hints := ⟨[], []⟩) (fuel := n) (c := Try.f41.body.getD .skip) (rs := Try.f41.results.toList) tt_ok mix (FsOK.cons (ok58 n) (FsOK.nil)) Try.func41 (by kernel_rfl) (by kernel_rfl) rfl (by kernel_rfl) rfl rfl (by kernel_rfl)
-- internal/stringslite.HasPrefix
def sig39 : Sig := ⟨(.cons (.one (.c .str)) (.cons (.one (.c .str)) .nil)), (.cons (.one (.c .bool)) .nil)⟩
def F39 : Nat → List UInt8 × List UInt8 → Option (Bool × Unit) := fun (n : Nat) (x : List UInt8 × List UInt8) =>
 oite (decide (Int64.ofInt ↑(List.length (Prod.snd x)) ≤ Int64.ofInt ↑(List.length (Prod.fst x))))
 (oite
 (decide ((0 : Int) ≤ Int64.toInt (Int64.ofInt ↑(List.length (Prod.snd x)))) &&
 Nat.ble (Int.toNat (Int64.toInt (Int64.ofInt ↑(List.length (Prod.snd x))))) (List.length (Prod.fst x)) &&
 true)
 (some
 (List.drop (0 : Nat)
 (List.take (Int.toNat (Int64.toInt (Int64.ofInt ↑(List.length (Prod.snd x))))) (Prod.fst x)) ==
 Prod.snd x,
 ()))
 none)
 (some (false, ()))
theorem ok39 (n : Nat) : FunOK Try.prog ⟨39, sig39, F39 n⟩ :=
 fun_ok (hints := ⟨[], []⟩) (fuel := n) (c := Try.f39.body.getD .skip) (rs := Try.f39.results.toList) tt_ok mix (FsOK.nil) Try.func39 (by kernel_rfl) (by kernel_rfl) rfl (by kernel_rfl) rfl rfl (by kernel_rfl)
-- strings.HasPrefix
def sig26 : Sig := ⟨(.cons (.one (.c .str)) (.cons (.one (.c .str)) .nil)), (.cons (.one (.c .bool)) .nil)⟩
def F26 : Nat → List UInt8 × List UInt8 → Option (Bool × Unit) := fun (n : Nat) (x : List UInt8 × List UInt8) =>
 obind (F39 n (Prod.fst x, Prod.snd x)) fun (x_1 : Bool × Unit) => some (Prod.fst x_1, ())
theorem ok26 (n : Nat) : FunOK Try.prog ⟨26, sig26, F26 n⟩ :=
 fun_ok (hints := ⟨[], []⟩) (fuel := n) (c := Try.f26.body.getD .skip) (rs := Try.f26.results.toList) tt_ok mix (FsOK.cons (ok39 n) (FsOK.nil)) Try.func26 (by kernel_rfl) (by kernel_rfl) rfl (by kernel_rfl) rfl rfl (by kernel_rfl)
-- watchfire/item.Own
def sig11 : Sig := ⟨(.cons (.one (.c .str)) .nil), (.cons (.one (.c .bool)) .nil)⟩
def F11 : Nat → List UInt8 → Option (Bool × Unit) := fun (n : Nat) (x : List UInt8) =>
 obind (F26 n (x, [(111 : UInt8), (119 : UInt8), (110 : UInt8), (46 : UInt8)])) fun (x_1 : Bool × Unit) =>
 some (Prod.fst x_1, ())
theorem ok11 (n : Nat) : FunOK Try.prog ⟨11, sig11, F11 n⟩ :=
 fun_ok (hints := ⟨[], []⟩) (fuel := n) (c := Try.f11.body.getD .skip) (rs := Try.f11.results.toList) tt_ok mix (FsOK.cons (ok26 n) (FsOK.nil)) Try.func11 (by kernel_rfl) (by kernel_rfl) rfl (by kernel_rfl) rfl rfl (by kernel_rfl)
-- watchfire/lab.Key
def sig59 : Sig := ⟨(.cons (.one (.c .str)) .nil), (.cons (.one (.c .bool)) .nil)⟩
def F59 : Nat → List UInt8 → Option (Bool × Unit) := fun (n : Nat) (x : List UInt8) =>
 obind (F58 n (x, (8 : Int64), false)) fun (x_1 : Bool × Unit) => some (Prod.fst x_1, ())
theorem ok59 (n : Nat) : FunOK Try.prog ⟨59, sig59, F59 n⟩ :=
 fun_ok (hints := ⟨[], []⟩) (fuel := n) (c := Try.f59.body.getD .skip) (rs := Try.f59.results.toList) tt_ok mix (FsOK.cons (ok58 n) (FsOK.nil)) Try.func59 (by kernel_rfl) (by kernel_rfl) rfl (by kernel_rfl) rfl rfl (by kernel_rfl)
-- watchfire/lab.Value
def sig60 : Sig := ⟨(.cons (.one (.c .str)) .nil), (.cons (.one (.c .bool)) .nil)⟩
def F60 : Nat → List UInt8 → Option (Bool × Unit) := fun (n : Nat) (x : List UInt8) =>
 obind (F58 n (x, (16 : Int64), true)) fun (x_1 : Bool × Unit) => some (Prod.fst x_1, ())
theorem ok60 (n : Nat) : FunOK Try.prog ⟨60, sig60, F60 n⟩ :=
 fun_ok (hints := ⟨[], []⟩) (fuel := n) (c := Try.f60.body.getD .skip) (rs := Try.f60.results.toList) tt_ok mix (FsOK.cons (ok58 n) (FsOK.nil)) Try.func60 (by kernel_rfl) (by kernel_rfl) rfl (by kernel_rfl) rfl rfl (by kernel_rfl)
-- watchfire/lab.Check
def sig42 : Sig := ⟨(.cons (.one (.c (.ro (.cons .str (.cons .str .nil))))) .nil), (.cons (.one (.c (.int .i64))) .nil)⟩
def F42_J3767 : Arr
 [PT.list (CTs.cons CT.str (CTs.cons CT.str CTs.nil)), PT.list (CTs.cons CT.str (CTs.cons CT.str CTs.nil)),
 PT.int IntKind.i64, PT.int IntKind.i64]
 (Option (Int64 × Unit)) →
 List (List UInt8 × List UInt8) →
 Int64 → List (List UInt8 × List UInt8) → Int64 → Int64 → Bool → List UInt8 → List UInt8 → Option (Int64 × Unit) := fun
 (rec :
 Arr
 [PT.list (CTs.cons CT.str (CTs.cons CT.str CTs.nil)), PT.list (CTs.cons CT.str (CTs.cons CT.str CTs.nil)),
 PT.int IntKind.i64, PT.int IntKind.i64]
 (Option (Int64 × Unit)))
 (l_1 : List (List UInt8 × List UInt8)) (i : Int64) (t_3 : List (List UInt8 × List UInt8)) (t_1_1 t_2_1 : Int64)
 (t_3_1 : Bool) (p0 p1 : List UInt8) =>
 oite t_3_1 (some ((7 : Int64), ()))
 (oite (decide ((0 : Int64) < i))
 (obind (at? l_1 (Int64.toInt (i - (1 : Int64)))) fun (x_4 : List UInt8 × List UInt8) =>
 oite (!(bytesLt (Prod.fst x_4) p0 || Prod.fst x_4 == p0)) (some ((9 : Int64), ()))
 (rec l_1 t_3 t_1_1 (t_2_1 + (1 : Int64))))
 (rec l_1 t_3 t_1_1 (t_2_1 + (1 : Int64))))
def F42_L29 : Nat →
 Arr
 [PT.list (CTs.cons CT.str (CTs.cons CT.str CTs.nil)), PT.list (CTs.cons CT.str (CTs.cons CT.str CTs.nil)),
 PT.int IntKind.i64, PT.int IntKind.i64]
 (Option (Int64 × Unit)) →
 List (List UInt8 × List UInt8) → List (List UInt8 × List UInt8) → Int64 → Int64 → Option (Int64 × Unit) := fun (n : Nat)
 (rec :
 Arr
 [PT.list (CTs.cons CT.str (CTs.cons CT.str CTs.nil)), PT.list (CTs.cons CT.str (CTs.cons CT.str CTs.nil)),
 PT.int IntKind.i64, PT.int IntKind.i64]
 (Option (Int64 × Unit)))
 (l t : List (List UInt8 × List UInt8)) (t_1 t_2 : Int64) =>
 oite (decide (t_2 < t_1))
 (obind (at? t (Int64.toInt t_2)) fun (x_1 : List UInt8 × List UInt8) =>
 obind (F59 n (Prod.fst x_1)) fun (x_2 : Bool × Unit) =>
 oite (!Prod.fst x_2) (some ((8 : Int64), ()))
 (obind (F60 n (Prod.snd x_1)) fun (x_3 : Bool × Unit) =>
 oite (!Prod.fst x_3) (some ((8 : Int64), ()))
 (ojoinA (3767 : Nat)
 [PT.list (CTs.cons CT.str (CTs.cons CT.str CTs.nil)), PT.int IntKind.i64,
 PT.list (CTs.cons CT.str (CTs.cons CT.str CTs.nil)), PT.int IntKind.i64, PT.int IntKind.i64, PT.bool,
 PT.bytes, PT.bytes]
 (fun
 (J :
 Arr
 [PT.list (CTs.cons CT.str (CTs.cons CT.str CTs.nil)), PT.int IntKind.i64,
 PT.list (CTs.cons CT.str (CTs.cons CT.str CTs.nil)), PT.int IntKind.i64, PT.int IntKind.i64,
 PT.bool, PT.bytes, PT.bytes]
 (Option (Int64 × Unit))) =>
 oite (decide ((0 : Int64) < t_2))
 (obind (at? l (Int64.toInt (t_2 - (1 : Int64)))) fun (x_4 : List UInt8 × List UInt8) =>
 J l t_2 t t_1 t_2 (Prod.fst x_4 == Prod.fst x_1) (Prod.fst x_1) (Prod.snd x_1))
 (J l t_2 t t_1 t_2 false (Prod.fst x_1) (Prod.snd x_1)))
 (F42_J3767 rec))))
 (some ((0 : Int64), ()))
def F42_R29 : Nat →
 Nat →
 PT.T (PT.list (CTs.cons CT.str (CTs.cons CT.str CTs.nil))) →
 List (List UInt8 × List UInt8) → Int64 → Int64 → Option (Int64 × Unit) := fun (n : Nat) =>
 ofixA (29 : Nat)
 [PT.list (CTs.cons CT.str (CTs.cons CT.str CTs.nil)), PT.list (CTs.cons CT.str (CTs.cons CT.str CTs.nil)),
 PT.int IntKind.i64, PT.int IntKind.i64]
 (F42_L29 n)
def F42 : Nat → List (List UInt8 × List UInt8) → Option (Int64 × Unit) := fun (n : Nat) (x : List (List UInt8 × List UInt8)) =>
 oite (decide ((8 : Int64) < Int64.ofInt ↑(List.length x))) (some ((5 : Int64), ()))
 (F42_R29 n n x x (Int64.ofInt ↑(List.length x)) (0 : Int64))
theorem F42_R29_s (n : Nat) (m_ : Nat) : F42_R29 n (m_ + 1) = F42_L29 n (F42_R29 n m_) := rfl
theorem ok42 (n : Nat) : FunOK Try.prog ⟨42, sig42, F42 n⟩ :=
 fun_ok (hints := ⟨[(3767, ⟨[(0, .one (.ro (.cons .str (.cons .str .nil)))), (3, .one (.int .i64)), (4, .one (.own 1)), (8, .one (.ro (.cons .str (.cons .str .nil)))), (9, .one (.int .i64)), (10, .one (.int .i64)), (26, .one (.bool))], [(1, .cells [.str, .str])], 2⟩)], [(29, ⟨[(0, .one (.ro (.cons .str (.cons .str .nil)))), (8, .one (.ro (.cons .str (.cons .str .nil)))), (9, .one (.int .i64)), (10, .one (.int .i64))], [], 1⟩)]⟩) (fuel := n) (c := Try.f42.body.getD .skip) (rs := Try.f42.results.toList) tt_ok mix (FsOK.cons (ok59 n) (FsOK.cons (ok60 n) (FsOK.nil))) Try.func42 (by kernel_rfl) (by kernel_rfl) rfl (by kernel_rfl) rfl rfl (by kernel_rfl)
-- watchfire/item.event
def sig29 : Sig := ⟨(.cons (.agg (.cons (.int .u8) (.cons (.int .u64) (.cons (.int .u64) (.cons .str (.cons (.ro (.cons .str (.cons .str .nil))) (.cons (.int .u8) (.cons (.int .u8) (.cons (.int .i64) (.cons (.int .u8) .nil)))))))))) .nil), (.cons (.one (.c (.int .i64))) .nil)⟩
def F29_J111 : Nat →
 Bool →
 UInt8 →
 UInt64 →
 UInt64 → List UInt8 → List (List UInt8 × List UInt8) → UInt8 → UInt8 → Int64 → UInt8 → Option (Int64 × Unit) := fun (n : Nat) (t : Bool) (v0 : UInt8) (v1 v2 : UInt64) (v3 : List UInt8) (v4 : List (List UInt8 × List UInt8))
 (v5 v6 : UInt8) (v7 : Int64) (v8 : UInt8) =>
 oite t (some ((12 : Int64), ()))
 (obind (F11 n v3) fun (x_4 : Bool × Unit) =>
 oite (!(!decide (v8 = (0 : UInt8))) == Prod.fst x_4) (some ((27 : Int64), ()))
 (obind (F42 n v4) fun (x_5 : Int64 × Unit) => some (Prod.fst x_5, ())))
def F29 : Nat →
 UInt8 × UInt64 × UInt64 × List UInt8 × List (List UInt8 × List UInt8) × UInt8 × UInt8 × Int64 × UInt8 →
 Option (Int64 × Unit) := fun (n : Nat)
 (x : UInt8 × UInt64 × UInt64 × List UInt8 × List (List UInt8 × List UInt8) × UInt8 × UInt8 × Int64 × UInt8) =>
 oite (decide ((32 : UInt8) ≤ Prod.fst x)) (some ((6 : Int64), ()))
 (oite (decide (Prod.fst (Prod.snd x) < (1 : UInt64))) (some ((6 : Int64), ()))
 (obind (F40 n (Prod.fst (Prod.snd x))) fun (x_1 : Bool × Unit) =>
 oite (!Prod.fst x_1) (some ((6 : Int64), ()))
 (obind (F40 n (Prod.fst (Prod.snd (Prod.snd x)))) fun (x_2 : Bool × Unit) =>
 oite (!Prod.fst x_2) (some ((6 : Int64), ()))
 (oite
 (decide ((7 : UInt8) < Prod.fst (Prod.snd (Prod.snd (Prod.snd (Prod.snd (Prod.snd (Prod.snd x))))))))
 (some ((6 : Int64), ()))
 (obind (F41 n (Prod.fst (Prod.snd (Prod.snd (Prod.snd x))))) fun (x_3 : Bool × Unit) =>
 oite (!Prod.fst x_3) (some ((8 : Int64), ()))
 (ojoinA (111 : Nat)
 [PT.bool, PT.int IntKind.u8, PT.int IntKind.u64, PT.int IntKind.u64, PT.bytes,
 PT.list (CTs.cons CT.str (CTs.cons CT.str CTs.nil)), PT.int IntKind.u8, PT.int IntKind.u8,
 PT.int IntKind.i64, PT.int IntKind.u8]
 (fun
 (J :
 Arr
 [PT.bool, PT.int IntKind.u8, PT.int IntKind.u64, PT.int IntKind.u64, PT.bytes,
 PT.list (CTs.cons CT.str (CTs.cons CT.str CTs.nil)), PT.int IntKind.u8,
 PT.int IntKind.u8, PT.int IntKind.i64, PT.int IntKind.u8]
 (Option (Int64 × Unit))) =>
 oite (!decide (Prod.fst (Prod.snd (Prod.snd (Prod.snd (Prod.snd (Prod.snd x))))) = (0 : UInt8)))
 (oite
 (!decide (Prod.fst (Prod.snd (Prod.snd (Prod.snd (Prod.snd (Prod.snd x))))) = (2 : UInt8)))
 (J true (Prod.fst x) (Prod.fst (Prod.snd x)) (Prod.fst (Prod.snd (Prod.snd x)))
 (Prod.fst (Prod.snd (Prod.snd (Prod.snd x))))
 (Prod.fst (Prod.snd (Prod.snd (Prod.snd (Prod.snd x)))))
 (Prod.fst (Prod.snd (Prod.snd (Prod.snd (Prod.snd (Prod.snd x))))))
 (Prod.fst (Prod.snd (Prod.snd (Prod.snd (Prod.snd (Prod.snd (Prod.snd x)))))))
 (Prod.fst (Prod.snd (Prod.snd (Prod.snd (Prod.snd (Prod.snd (Prod.snd (Prod.snd x))))))))
 (Prod.snd (Prod.snd (Prod.snd (Prod.snd (Prod.snd (Prod.snd (Prod.snd (Prod.snd x)))))))))
 (J
 (decide
 ((2 : UInt8) <
 Prod.snd
 (Prod.snd (Prod.snd (Prod.snd (Prod.snd (Prod.snd (Prod.snd (Prod.snd x)))))))))
 (Prod.fst x) (Prod.fst (Prod.snd x)) (Prod.fst (Prod.snd (Prod.snd x)))
 (Prod.fst (Prod.snd (Prod.snd (Prod.snd x))))
 (Prod.fst (Prod.snd (Prod.snd (Prod.snd (Prod.snd x)))))
 (Prod.fst (Prod.snd (Prod.snd (Prod.snd (Prod.snd (Prod.snd x))))))
 (Prod.fst (Prod.snd (Prod.snd (Prod.snd (Prod.snd (Prod.snd (Prod.snd x)))))))
 (Prod.fst (Prod.snd (Prod.snd (Prod.snd (Prod.snd (Prod.snd (Prod.snd (Prod.snd x))))))))
 (Prod.snd
 (Prod.snd (Prod.snd (Prod.snd (Prod.snd (Prod.snd (Prod.snd (Prod.snd x))))))))))
 (J
 (decide
 ((2 : UInt8) <
 Prod.snd
 (Prod.snd (Prod.snd (Prod.snd (Prod.snd (Prod.snd (Prod.snd (Prod.snd x)))))))))
 (Prod.fst x) (Prod.fst (Prod.snd x)) (Prod.fst (Prod.snd (Prod.snd x)))
 (Prod.fst (Prod.snd (Prod.snd (Prod.snd x))))
 (Prod.fst (Prod.snd (Prod.snd (Prod.snd (Prod.snd x)))))
 (Prod.fst (Prod.snd (Prod.snd (Prod.snd (Prod.snd (Prod.snd x))))))
 (Prod.fst (Prod.snd (Prod.snd (Prod.snd (Prod.snd (Prod.snd (Prod.snd x)))))))
 (Prod.fst (Prod.snd (Prod.snd (Prod.snd (Prod.snd (Prod.snd (Prod.snd (Prod.snd x))))))))
 (Prod.snd (Prod.snd (Prod.snd (Prod.snd (Prod.snd (Prod.snd (Prod.snd (Prod.snd x))))))))))
 (F29_J111 n)))))))
theorem ok29 (n : Nat) : FunOK Try.prog ⟨29, sig29, F29 n⟩ :=
 fun_ok (hints := ⟨[(111, ⟨[(1, .one (.own 1)), (34, .one (.bool))], [(1, .cells [.int .u8, .int .u64, .int .u64, .str, .ro (.cons .str (.cons .str .nil)), .int .u8, .int .u8, .int .i64, .int .u8])], 2⟩)], []⟩) (fuel := n) (c := Try.f29.body.getD .skip) (rs := Try.f29.results.toList) tt_ok mix (FsOK.cons (ok40 n) (FsOK.cons (ok41 n) (FsOK.cons (ok11 n) (FsOK.cons (ok42 n) (FsOK.nil))))) Try.func29 (by kernel_rfl) (by kernel_rfl) rfl (by kernel_rfl) rfl rfl (by kernel_rfl)
-- watchfire/item.Check
def sig19 : Sig := ⟨(.cons (.agg (.cons .bool (.cons (.int .u8) (.cons (.int .u64) (.cons (.int .u64) (.cons .str (.cons (.ro (.cons .str (.cons .str .nil))) (.cons (.int .u8) (.cons (.int .u8) (.cons (.int .i64) (.cons (.int .u8) (.cons (.int .u8) (.cons (.int .u64) (.cons (.int .u64) .nil)))))))))))))) .nil), (.cons (.one (.c (.int .i64))) .nil)⟩
def F19 : Nat →
 Bool ×
 UInt8 ×
 UInt64 ×
 UInt64 ×
 List UInt8 × List (List UInt8 × List UInt8) × UInt8 × UInt8 × Int64 × UInt8 × UInt8 × UInt64 × UInt64 →
 Option (Int64 × Unit) := fun (n : Nat)
 (x :
 Bool ×
 UInt8 ×
 UInt64 ×
 UInt64 ×
 List UInt8 × List (List UInt8 × List UInt8) × UInt8 × UInt8 × Int64 × UInt8 × UInt8 × UInt64 × UInt64) =>
 oite (Prod.fst x)
 (obind
 (F28 n
 (Prod.fst
 (Prod.snd
 (Prod.snd (Prod.snd (Prod.snd (Prod.snd (Prod.snd (Prod.snd (Prod.snd (Prod.snd (Prod.snd x)))))))))),
 Prod.fst
 (Prod.snd
 (Prod.snd
 (Prod.snd (Prod.snd (Prod.snd (Prod.snd (Prod.snd (Prod.snd (Prod.snd (Prod.snd (Prod.snd x))))))))))),
 Prod.snd
 (Prod.snd
 (Prod.snd
 (Prod.snd (Prod.snd (Prod.snd (Prod.snd (Prod.snd (Prod.snd (Prod.snd (Prod.snd (Prod.snd x)))))))))))))
 fun (x_1 : Int64 × Unit) => some (Prod.fst x_1, ()))
 (obind
 (F29 n
 (Prod.fst (Prod.snd x), Prod.fst (Prod.snd (Prod.snd x)), Prod.fst (Prod.snd (Prod.snd (Prod.snd x))),
 Prod.fst (Prod.snd (Prod.snd (Prod.snd (Prod.snd x)))),
 Prod.fst (Prod.snd (Prod.snd (Prod.snd (Prod.snd (Prod.snd x))))),
 Prod.fst (Prod.snd (Prod.snd (Prod.snd (Prod.snd (Prod.snd (Prod.snd x)))))),
 Prod.fst (Prod.snd (Prod.snd (Prod.snd (Prod.snd (Prod.snd (Prod.snd (Prod.snd x))))))),
 Prod.fst (Prod.snd (Prod.snd (Prod.snd (Prod.snd (Prod.snd (Prod.snd (Prod.snd (Prod.snd x)))))))),
 Prod.fst
 (Prod.snd (Prod.snd (Prod.snd (Prod.snd (Prod.snd (Prod.snd (Prod.snd (Prod.snd (Prod.snd x)))))))))))
 fun (x_1 : Int64 × Unit) => some (Prod.fst x_1, ()))
theorem ok19 (n : Nat) : FunOK Try.prog ⟨19, sig19, F19 n⟩ :=
 fun_ok (hints := ⟨[], []⟩) (fuel := n) (c := Try.f19.body.getD .skip) (rs := Try.f19.results.toList) tt_ok mix (FsOK.cons (ok28 n) (FsOK.cons (ok29 n) (FsOK.nil))) Try.func19 (by kernel_rfl) (by kernel_rfl) rfl (by kernel_rfl) rfl rfl (by kernel_rfl)
-- (*watchfire/board.Board).doubt
def sig20 : Sig := ⟨(.cons (.one (.ptrA (.cons (.map (.agg (.cons (.int .u8) (.cons .str (.cons .str (.cons (.int .u8) .nil))))) (.agg (.cons (.int .u8) (.cons .str (.cons (.ro (.cons .str (.cons .str .nil))) (.cons (.int .u8) (.cons (.int .u64) (.cons (.int .u8) (.cons (.int .i64) .nil))))))))) .nil) (.int .u64) 32 .nil)) (.cons (.agg (.cons (.int .u8) (.cons (.int .u64) (.cons (.int .u64) .nil)))) (.cons (.one (.c (.int .u64))) .nil))), .nil⟩
noncomputable def F20_L15 : Arr
 [PT.int IntKind.u64, PT.list1 (CT.int IntKind.u64), PT.int IntKind.u8, PT.int IntKind.u64, PT.int IntKind.u64,
 PT.ents
 (VT.agg
 (CTs.cons (CT.int IntKind.u8) (CTs.cons CT.str (CTs.cons CT.str (CTs.cons (CT.int IntKind.u8) CTs.nil)))))
 (VT.agg
 (CTs.cons (CT.int IntKind.u8)
 (CTs.cons CT.str
 (CTs.cons (CT.ro (CTs.cons CT.str (CTs.cons CT.str CTs.nil)))
 (CTs.cons (CT.int IntKind.u8)
 (CTs.cons (CT.int IntKind.u64)
 (CTs.cons (CT.int IntKind.u8) (CTs.cons (CT.int IntKind.i64) CTs.nil)))))))),
 PT.ents
 (VT.agg
 (CTs.cons (CT.int IntKind.u8) (CTs.cons CT.str (CTs.cons CT.str (CTs.cons (CT.int IntKind.u8) CTs.nil)))))
 (VT.agg
 (CTs.cons (CT.int IntKind.u8)
 (CTs.cons CT.str
 (CTs.cons (CT.ro (CTs.cons CT.str (CTs.cons CT.str CTs.nil)))
 (CTs.cons (CT.int IntKind.u8)
 (CTs.cons (CT.int IntKind.u64)
 (CTs.cons (CT.int IntKind.u8) (CTs.cons (CT.int IntKind.i64) CTs.nil))))))))]
 (Option
 (Unit ×
 Option
 (List
 ((UInt8 × List UInt8 × List UInt8 × UInt8) ×
 UInt8 × List UInt8 × List (List UInt8 × List UInt8) × UInt8 × UInt64 × UInt8 × Int64) ×
 List UInt64 × Unit))) →
 UInt64 →
 List UInt64 →
 UInt8 →
 UInt64 →
 UInt64 →
 List
 ((UInt8 × List UInt8 × List UInt8 × UInt8) ×
 UInt8 × List UInt8 × List (List UInt8 × List UInt8) × UInt8 × UInt64 × UInt8 × Int64) →
 List
 ((UInt8 × List UInt8 × List UInt8 × UInt8) ×
 UInt8 × List UInt8 × List (List UInt8 × List UInt8) × UInt8 × UInt64 × UInt8 × Int64) →
 Option
 (Unit ×
 Option
 (List
 ((UInt8 × List UInt8 × List UInt8 × UInt8) ×
 UInt8 × List UInt8 × List (List UInt8 × List UInt8) × UInt8 × UInt64 × UInt8 × Int64) ×
 List UInt64 × Unit)) := fun
 (rec :
 Arr
 [PT.int IntKind.u64, PT.list1 (CT.int IntKind.u64), PT.int IntKind.u8, PT.int IntKind.u64, PT.int IntKind.u64,
 PT.ents
 (VT.agg
 (CTs.cons (CT.int IntKind.u8) (CTs.cons CT.str (CTs.cons CT.str (CTs.cons (CT.int IntKind.u8) CTs.nil)))))
 (VT.agg
 (CTs.cons (CT.int IntKind.u8)
 (CTs.cons CT.str
 (CTs.cons (CT.ro (CTs.cons CT.str (CTs.cons CT.str CTs.nil)))
 (CTs.cons (CT.int IntKind.u8)
 (CTs.cons (CT.int IntKind.u64)
 (CTs.cons (CT.int IntKind.u8) (CTs.cons (CT.int IntKind.i64) CTs.nil)))))))),
 PT.ents
 (VT.agg
 (CTs.cons (CT.int IntKind.u8) (CTs.cons CT.str (CTs.cons CT.str (CTs.cons (CT.int IntKind.u8) CTs.nil)))))
 (VT.agg
 (CTs.cons (CT.int IntKind.u8)
 (CTs.cons CT.str
 (CTs.cons (CT.ro (CTs.cons CT.str (CTs.cons CT.str CTs.nil)))
 (CTs.cons (CT.int IntKind.u8)
 (CTs.cons (CT.int IntKind.u64)
 (CTs.cons (CT.int IntKind.u8) (CTs.cons (CT.int IntKind.i64) CTs.nil))))))))]
 (Option
 (Unit ×
 Option
 (List
 ((UInt8 × List UInt8 × List UInt8 × UInt8) ×
 UInt8 × List UInt8 × List (List UInt8 × List UInt8) × UInt8 × UInt64 × UInt8 × Int64) ×
 List UInt64 × Unit))))
 (now : UInt64) (ba : List UInt64) (g0 : UInt8) (g1 g2 : UInt64)
 (tm tr :
 List
 ((UInt8 × List UInt8 × List UInt8 × UInt8) ×
 UInt8 × List UInt8 × List (List UInt8 × List UInt8) × UInt8 × UInt64 × UInt8 × Int64)) =>
 oite (Nat.blt (0 : Nat) (List.length tr))
 (oallN (List.length tr) fun (j : Nat) =>
 obind tr[j]?
 fun
 (p :
 (UInt8 × List UInt8 × List UInt8 × UInt8) ×
 UInt8 × List UInt8 × List (List UInt8 × List UInt8) × UInt8 × UInt64 × UInt8 × Int64) =>
 oite (decide (Prod.fst (Prod.fst p) = g0))
 (oite (decide (Prod.snd (Prod.snd (Prod.snd (Prod.fst p))) = (0 : UInt8)))
 (oite (decide (Prod.fst (Prod.snd (Prod.snd (Prod.snd (Prod.snd p)))) = (2 : UInt8)))
 (oite
 (Option.isSome
 (mget
 (VT.agg
 (CTs.cons (CT.int IntKind.u8)
 (CTs.cons CT.str (CTs.cons CT.str (CTs.cons (CT.int IntKind.u8) CTs.nil)))))
 (VT.agg
 (CTs.cons (CT.int IntKind.u8)
 (CTs.cons CT.str
 (CTs.cons (CT.ro (CTs.cons CT.str (CTs.cons CT.str CTs.nil)))
 (CTs.cons (CT.int IntKind.u8)
 (CTs.cons (CT.int IntKind.u64)
 (CTs.cons (CT.int IntKind.u8) (CTs.cons (CT.int IntKind.i64) CTs.nil))))))))
 (Prod.fst (Prod.fst p), Prod.fst (Prod.snd (Prod.fst p)),
 Prod.fst (Prod.snd (Prod.snd (Prod.fst p))), Prod.snd (Prod.snd (Prod.snd (Prod.fst p))))
 tm) &&
 Option.isNone
 (mget
 (VT.agg
 (CTs.cons (CT.int IntKind.u8)
 (CTs.cons CT.str (CTs.cons CT.str (CTs.cons (CT.int IntKind.u8) CTs.nil)))))
 (VT.agg
 (CTs.cons (CT.int IntKind.u8)
 (CTs.cons CT.str
 (CTs.cons (CT.ro (CTs.cons CT.str (CTs.cons CT.str CTs.nil)))
 (CTs.cons (CT.int IntKind.u8)
 (CTs.cons (CT.int IntKind.u64)
 (CTs.cons (CT.int IntKind.u8) (CTs.cons (CT.int IntKind.i64) CTs.nil))))))))
 (Prod.fst (Prod.fst p), Prod.fst (Prod.snd (Prod.fst p)),
 Prod.fst (Prod.snd (Prod.snd (Prod.fst p))), Prod.snd (Prod.snd (Prod.snd (Prod.fst p))))
 (List.eraseIdx tr j)))
 (rec now ba g0 g1 g2
 (mput
 (VT.agg
 (CTs.cons (CT.int IntKind.u8)
 (CTs.cons CT.str (CTs.cons CT.str (CTs.cons (CT.int IntKind.u8) CTs.nil)))))
 (VT.agg
 (CTs.cons (CT.int IntKind.u8)
 (CTs.cons CT.str
 (CTs.cons (CT.ro (CTs.cons CT.str (CTs.cons CT.str CTs.nil)))
 (CTs.cons (CT.int IntKind.u8)
 (CTs.cons (CT.int IntKind.u64)
 (CTs.cons (CT.int IntKind.u8) (CTs.cons (CT.int IntKind.i64) CTs.nil))))))))
 (Prod.fst (Prod.fst p), Prod.fst (Prod.snd (Prod.fst p)),
 Prod.fst (Prod.snd (Prod.snd (Prod.fst p))), Prod.snd (Prod.snd (Prod.snd (Prod.fst p))))
 (Prod.fst (Prod.snd p), Prod.fst (Prod.snd (Prod.snd p)),
 Prod.fst (Prod.snd (Prod.snd (Prod.snd p))), (3 : UInt8), now,
 Prod.fst (Prod.snd (Prod.snd (Prod.snd (Prod.snd (Prod.snd (Prod.snd p)))))),
 Prod.snd (Prod.snd (Prod.snd (Prod.snd (Prod.snd (Prod.snd (Prod.snd p)))))))
 tm)
 (List.eraseIdx tr j))
 none)
 (rec now ba g0 g1 g2 tm (List.eraseIdx tr j)))
 (rec now ba g0 g1 g2 tm (List.eraseIdx tr j)))
 (rec now ba g0 g1 g2 tm (List.eraseIdx tr j)))
 (some ((), some (tm, ba, ())))
noncomputable def F20_R15 : Nat →
 PT.T (PT.int IntKind.u64) →
 List UInt64 →
 UInt8 →
 UInt64 →
 UInt64 →
 List
 ((UInt8 × List UInt8 × List UInt8 × UInt8) ×
 UInt8 × List UInt8 × List (List UInt8 × List UInt8) × UInt8 × UInt64 × UInt8 × Int64) →
 List
 ((UInt8 × List UInt8 × List UInt8 × UInt8) ×
 UInt8 × List UInt8 × List (List UInt8 × List UInt8) × UInt8 × UInt64 × UInt8 × Int64) →
 Option
 (Unit ×
 Option
 (List
 ((UInt8 × List UInt8 × List UInt8 × UInt8) ×
 UInt8 × List UInt8 × List (List UInt8 × List UInt8) × UInt8 × UInt64 × UInt8 × Int64) ×
 List UInt64 × Unit)) := ofixA (15 : Nat)
 [PT.int IntKind.u64, PT.list1 (CT.int IntKind.u64), PT.int IntKind.u8, PT.int IntKind.u64, PT.int IntKind.u64,
 PT.ents
 (VT.agg (CTs.cons (CT.int IntKind.u8) (CTs.cons CT.str (CTs.cons CT.str (CTs.cons (CT.int IntKind.u8) CTs.nil)))))
 (VT.agg
 (CTs.cons (CT.int IntKind.u8)
 (CTs.cons CT.str
 (CTs.cons (CT.ro (CTs.cons CT.str (CTs.cons CT.str CTs.nil)))
 (CTs.cons (CT.int IntKind.u8)
 (CTs.cons (CT.int IntKind.u64)
 (CTs.cons (CT.int IntKind.u8) (CTs.cons (CT.int IntKind.i64) CTs.nil)))))))),
 PT.ents
 (VT.agg (CTs.cons (CT.int IntKind.u8) (CTs.cons CT.str (CTs.cons CT.str (CTs.cons (CT.int IntKind.u8) CTs.nil)))))
 (VT.agg
 (CTs.cons (CT.int IntKind.u8)
 (CTs.cons CT.str
 (CTs.cons (CT.ro (CTs.cons CT.str (CTs.cons CT.str CTs.nil)))
 (CTs.cons (CT.int IntKind.u8)
 (CTs.cons (CT.int IntKind.u64)
 (CTs.cons (CT.int IntKind.u8) (CTs.cons (CT.int IntKind.i64) CTs.nil))))))))]
 F20_L15
noncomputable def F20 : Nat →
 Option
 (List
 ((UInt8 × List UInt8 × List UInt8 × UInt8) ×
 UInt8 × List UInt8 × List (List UInt8 × List UInt8) × UInt8 × UInt64 × UInt8 × Int64) ×
 List UInt64 × Unit) ×
 (UInt8 × UInt64 × UInt64) × UInt64 →
 Option
 (Unit ×
 Option
 (List
 ((UInt8 × List UInt8 × List UInt8 × UInt8) ×
 UInt8 × List UInt8 × List (List UInt8 × List UInt8) × UInt8 × UInt64 × UInt8 × Int64) ×
 List UInt64 × Unit)) := fun (n : Nat)
 (x :
 Option
 (List
 ((UInt8 × List UInt8 × List UInt8 × UInt8) ×
 UInt8 × List UInt8 × List (List UInt8 × List UInt8) × UInt8 × UInt64 × UInt8 × Int64) ×
 List UInt64 × Unit) ×
 (UInt8 × UInt64 × UInt64) × UInt64) =>
 obind (Prod.fst x)
 fun
 (x_1 :
 List
 ((UInt8 × List UInt8 × List UInt8 × UInt8) ×
 UInt8 × List UInt8 × List (List UInt8 × List UInt8) × UInt8 × UInt64 × UInt8 × Int64) ×
 List UInt64 × Unit) =>
 oite (decide ((0 : Int) ≤ ↑(UInt8.toNat (Prod.fst (Prod.fst (Prod.snd x))))))
 (oite (Nat.blt (Int.toNat ↑(UInt8.toNat (Prod.fst (Prod.fst (Prod.snd x))))) (32 : Nat))
 (obind (Prod.fst (Prod.snd x_1))[Int.toNat ↑(UInt8.toNat (Prod.fst (Prod.fst (Prod.snd x)))) * (1 : Nat)]?
 fun (x_2 : UInt64) =>
 oite (decide ((0 : Int) ≤ ↑(UInt8.toNat (Prod.fst (Prod.fst (Prod.snd x))))))
 (oite (Nat.blt (Int.toNat ↑(UInt8.toNat (Prod.fst (Prod.fst (Prod.snd x))))) (32 : Nat))
 (oite
 (Nat.blt (Int.toNat ↑(UInt8.toNat (Prod.fst (Prod.fst (Prod.snd x)))) * (1 : Nat))
 (List.length (Prod.fst (Prod.snd x_1))))
 (F20_R15 n (Prod.snd (Prod.snd x))
 (List.set (Prod.fst (Prod.snd x_1))
 (Int.toNat ↑(UInt8.toNat (Prod.fst (Prod.fst (Prod.snd x)))) * (1 : Nat))
 (x_2 +
 (Prod.snd (Prod.snd (Prod.fst (Prod.snd x))) - Prod.fst (Prod.snd (Prod.fst (Prod.snd x))) +
 (1 : UInt64))))
 (Prod.fst (Prod.fst (Prod.snd x))) (Prod.fst (Prod.snd (Prod.fst (Prod.snd x))))
 (Prod.snd (Prod.snd (Prod.fst (Prod.snd x)))) (Prod.fst x_1) (Prod.fst x_1))
 none)
 none)
 none)
 none)
 none
theorem F20_R15_s  (m_ : Nat) : F20_R15  (m_ + 1) = F20_L15  (F20_R15  m_) := rfl
theorem ok20 (n : Nat) : FunOK Try.prog ⟨20, sig20, F20 n⟩ :=
 fun_ok (hints := ⟨[], [(15, ⟨[(0, .one (.own 0)), (2, .one (.int .u64)), (4, .one (.own 3)), (29, .one (.own 4))], [(0, .cellsA [.own 5] (.int .u64) 32 []), (3, .cells [.int .u8, .int .u64, .int .u64]), (4, .miter 5 (.agg (.cons (.int .u8) (.cons .str (.cons .str (.cons (.int .u8) .nil))))) (.agg (.cons (.int .u8) (.cons .str (.cons (.ro (.cons .str (.cons .str .nil))) (.cons (.int .u8) (.cons (.int .u64) (.cons (.int .u8) (.cons (.int .i64) .nil))))))))), (5, .ranged 4)], 6⟩)]⟩) (fuel := n) (c := Try.f20.body.getD .skip) (rs := Try.f20.results.toList) tt_ok mix (FsOK.nil) Try.func20 (by kernel_rfl) (by kernel_rfl) rfl (by kernel_rfl) rfl rfl (by kernel_rfl)
-- (*watchfire/board.Board).Apply
def sig7 : Sig := ⟨(.cons (.one (.ptrA (.cons (.map (.agg (.cons (.int .u8) (.cons .str (.cons .str (.cons (.int .u8) .nil))))) (.agg (.cons (.int .u8) (.cons .str (.cons (.ro (.cons .str (.cons .str .nil))) (.cons (.int .u8) (.cons (.int .u64) (.cons (.int .u8) (.cons (.int .i64) .nil))))))))) .nil) (.int .u64) 32 .nil)) (.cons (.agg (.cons (.int .u64) (.cons .bool (.cons (.int .u8) (.cons (.int .u64) (.cons (.int .u64) (.cons .str (.cons (.ro (.cons .str (.cons .str .nil))) (.cons (.int .u8) (.cons (.int .u8) (.cons (.int .i64) (.cons (.int .u8) (.cons (.int .u8) (.cons (.int .u64) (.cons (.int .u64) .nil))))))))))))))) .nil)), (.cons (.one (.c (.int .i64))) .nil)⟩
noncomputable def F7_J255 : Nat →
 List UInt64 →
 UInt8 →
 UInt64 →
 UInt64 →
 List UInt8 →
 List (List UInt8 × List UInt8) →
 UInt8 →
 UInt8 →
 Int64 →
 UInt8 →
 UInt8 →
 List UInt8 →
 List UInt8 →
 UInt8 →
 UInt8 →
 List UInt8 →
 List (List UInt8 × List UInt8) →
 UInt8 →
 UInt64 →
 UInt8 →
 Int64 →
 List
 ((UInt8 × List UInt8 × List UInt8 × UInt8) ×
 UInt8 ×
 List UInt8 ×
 List (List UInt8 × List UInt8) × UInt8 × UInt64 × UInt8 × Int64) →
 Option
 (Int64 ×
 Option
 (List
 ((UInt8 × List UInt8 × List UInt8 × UInt8) ×
 UInt8 ×
 List UInt8 ×
 List (List UInt8 × List UInt8) ×
 UInt8 × UInt64 × UInt8 × Int64) ×
 List UInt64 × Unit)) := fun (n : Nat) (ba : List UInt64) (v0 : UInt8) (v1 v2 : UInt64) (v3 : List UInt8) (v4 : List (List UInt8 × List UInt8))
 (v5 v6 : UInt8) (v7 : Int64) (v8 k0 : UInt8) (k1 k2 : List UInt8) (k3 a0 : UInt8) (a1 : List UInt8)
 (a2 : List (List UInt8 × List UInt8)) (a3 : UInt8) (a4 : UInt64) (a5 : UInt8) (a6 : Int64)
 (bl :
 List
 ((UInt8 × List UInt8 × List UInt8 × UInt8) ×
 UInt8 × List UInt8 × List (List UInt8 × List UInt8) × UInt8 × UInt64 × UInt8 × Int64)) =>
 obind (F22 n v4) fun (x_4 : List (List UInt8 × List UInt8) × Unit) =>
 some
 ((0 : Int64),
 some
 (mput
 (VT.agg
 (CTs.cons (CT.int IntKind.u8)
 (CTs.cons CT.str (CTs.cons CT.str (CTs.cons (CT.int IntKind.u8) CTs.nil)))))
 (VT.agg
 (CTs.cons (CT.int IntKind.u8)
 (CTs.cons CT.str
 (CTs.cons (CT.ro (CTs.cons CT.str (CTs.cons CT.str CTs.nil)))
 (CTs.cons (CT.int IntKind.u8)
 (CTs.cons (CT.int IntKind.u64)
 (CTs.cons (CT.int IntKind.u8) (CTs.cons (CT.int IntKind.i64) CTs.nil))))))))
 (k0, k1, k2, k3) (v0, v3, Prod.fst x_4, a3, a4, v6, v7) bl,
 ba, ()))
noncomputable def F7 : Nat →
 Option
 (List
 ((UInt8 × List UInt8 × List UInt8 × UInt8) ×
 UInt8 × List UInt8 × List (List UInt8 × List UInt8) × UInt8 × UInt64 × UInt8 × Int64) ×
 List UInt64 × Unit) ×
 UInt64 ×
 Bool ×
 UInt8 ×
 UInt64 ×
 UInt64 ×
 List UInt8 × List (List UInt8 × List UInt8) × UInt8 × UInt8 × Int64 × UInt8 × UInt8 × UInt64 × UInt64 →
 Option
 (Int64 ×
 Option
 (List
 ((UInt8 × List UInt8 × List UInt8 × UInt8) ×
 UInt8 × List UInt8 × List (List UInt8 × List UInt8) × UInt8 × UInt64 × UInt8 × Int64) ×
 List UInt64 × Unit)) := fun (n : Nat)
 (x :
 Option
 (List
 ((UInt8 × List UInt8 × List UInt8 × UInt8) ×
 UInt8 × List UInt8 × List (List UInt8 × List UInt8) × UInt8 × UInt64 × UInt8 × Int64) ×
 List UInt64 × Unit) ×
 UInt64 ×
 Bool ×
 UInt8 ×
 UInt64 ×
 UInt64 ×
 List UInt8 ×
 List (List UInt8 × List UInt8) × UInt8 × UInt8 × Int64 × UInt8 × UInt8 × UInt64 × UInt64) =>
 oelim (Prod.fst x) (some ((1 : Int64), none))
 fun
 (x_1 :
 List
 ((UInt8 × List UInt8 × List UInt8 × UInt8) ×
 UInt8 × List UInt8 × List (List UInt8 × List UInt8) × UInt8 × UInt64 × UInt8 × Int64) ×
 List UInt64 × Unit) =>
 obind
 (F19 n
 (Prod.fst (Prod.snd (Prod.snd x)), Prod.fst (Prod.snd (Prod.snd (Prod.snd x))),
 Prod.fst (Prod.snd (Prod.snd (Prod.snd (Prod.snd x)))),
 Prod.fst (Prod.snd (Prod.snd (Prod.snd (Prod.snd (Prod.snd x))))),
 Prod.fst (Prod.snd (Prod.snd (Prod.snd (Prod.snd (Prod.snd (Prod.snd x)))))),
 Prod.fst (Prod.snd (Prod.snd (Prod.snd (Prod.snd (Prod.snd (Prod.snd (Prod.snd x))))))),
 Prod.fst (Prod.snd (Prod.snd (Prod.snd (Prod.snd (Prod.snd (Prod.snd (Prod.snd (Prod.snd x)))))))),
 Prod.fst (Prod.snd (Prod.snd (Prod.snd (Prod.snd (Prod.snd (Prod.snd (Prod.snd (Prod.snd (Prod.snd x))))))))),
 Prod.fst
 (Prod.snd
 (Prod.snd (Prod.snd (Prod.snd (Prod.snd (Prod.snd (Prod.snd (Prod.snd (Prod.snd (Prod.snd x)))))))))),
 Prod.fst
 (Prod.snd
 (Prod.snd
 (Prod.snd (Prod.snd (Prod.snd (Prod.snd (Prod.snd (Prod.snd (Prod.snd (Prod.snd (Prod.snd x))))))))))),
 Prod.fst
 (Prod.snd
 (Prod.snd
 (Prod.snd
 (Prod.snd
 (Prod.snd (Prod.snd (Prod.snd (Prod.snd (Prod.snd (Prod.snd (Prod.snd (Prod.snd x)))))))))))),
 Prod.fst
 (Prod.snd
 (Prod.snd
 (Prod.snd
 (Prod.snd
 (Prod.snd
 (Prod.snd (Prod.snd (Prod.snd (Prod.snd (Prod.snd (Prod.snd (Prod.snd (Prod.snd x))))))))))))),
 Prod.snd
 (Prod.snd
 (Prod.snd
 (Prod.snd
 (Prod.snd
 (Prod.snd
 (Prod.snd (Prod.snd (Prod.snd (Prod.snd (Prod.snd (Prod.snd (Prod.snd (Prod.snd x)))))))))))))))
 fun (x_2 : Int64 × Unit) =>
 oite (!decide (Prod.fst x_2 = (0 : Int64)))
 (some (Prod.fst x_2, some (Prod.fst x_1, Prod.fst (Prod.snd x_1), ())))
 (oite (Prod.fst (Prod.snd (Prod.snd x)))
 (obind
 (F20 n
 (some (Prod.fst x_1, Prod.fst (Prod.snd x_1), ()),
 (Prod.fst
 (Prod.snd
 (Prod.snd
 (Prod.snd
 (Prod.snd
 (Prod.snd
 (Prod.snd (Prod.snd (Prod.snd (Prod.snd (Prod.snd (Prod.snd (Prod.snd x)))))))))))),
 Prod.fst
 (Prod.snd
 (Prod.snd
 (Prod.snd
 (Prod.snd
 (Prod.snd
 (Prod.snd
 (Prod.snd (Prod.snd (Prod.snd (Prod.snd (Prod.snd (Prod.snd (Prod.snd x))))))))))))),
 Prod.snd
 (Prod.snd
 (Prod.snd
 (Prod.snd
 (Prod.snd
 (Prod.snd
 (Prod.snd
 (Prod.snd (Prod.snd (Prod.snd (Prod.snd (Prod.snd (Prod.snd (Prod.snd x)))))))))))))),
 Prod.fst (Prod.snd x)))
 fun
 (x_3 :
 Unit ×
 Option
 (List
 ((UInt8 × List UInt8 × List UInt8 × UInt8) ×
 UInt8 × List UInt8 × List (List UInt8 × List UInt8) × UInt8 × UInt64 × UInt8 × Int64) ×
 List UInt64 × Unit)) =>
 some ((0 : Int64), Prod.snd x_3))
 (obind (F21 n (Prod.fst (Prod.snd (Prod.snd (Prod.snd (Prod.snd (Prod.snd (Prod.snd (Prod.snd x)))))))))
 fun (x_3 : List UInt8 × Unit) =>
 ojoinA (255 : Nat)
 [PT.list1 (CT.int IntKind.u64), PT.int IntKind.u8, PT.int IntKind.u64, PT.int IntKind.u64, PT.bytes,
 PT.list (CTs.cons CT.str (CTs.cons CT.str CTs.nil)), PT.int IntKind.u8, PT.int IntKind.u8,
 PT.int IntKind.i64, PT.int IntKind.u8, PT.int IntKind.u8, PT.bytes, PT.bytes, PT.int IntKind.u8,
 PT.int IntKind.u8, PT.bytes, PT.list (CTs.cons CT.str (CTs.cons CT.str CTs.nil)), PT.int IntKind.u8,
 PT.int IntKind.u64, PT.int IntKind.u8, PT.int IntKind.i64,
 PT.ents
 (VT.agg
 (CTs.cons (CT.int IntKind.u8)
 (CTs.cons CT.str (CTs.cons CT.str (CTs.cons (CT.int IntKind.u8) CTs.nil)))))
 (VT.agg
 (CTs.cons (CT.int IntKind.u8)
 (CTs.cons CT.str
 (CTs.cons (CT.ro (CTs.cons CT.str (CTs.cons CT.str CTs.nil)))
 (CTs.cons (CT.int IntKind.u8)
 (CTs.cons (CT.int IntKind.u64)
 (CTs.cons (CT.int IntKind.u8) (CTs.cons (CT.int IntKind.i64) CTs.nil))))))))]
 (fun
 (J :
 Arr
 [PT.list1 (CT.int IntKind.u64), PT.int IntKind.u8, PT.int IntKind.u64, PT.int IntKind.u64,
 PT.bytes, PT.list (CTs.cons CT.str (CTs.cons CT.str CTs.nil)), PT.int IntKind.u8,
 PT.int IntKind.u8, PT.int IntKind.i64, PT.int IntKind.u8, PT.int IntKind.u8, PT.bytes, PT.bytes,
 PT.int IntKind.u8, PT.int IntKind.u8, PT.bytes,
 PT.list (CTs.cons CT.str (CTs.cons CT.str CTs.nil)), PT.int IntKind.u8, PT.int IntKind.u64,
 PT.int IntKind.u8, PT.int IntKind.i64,
 PT.ents
 (VT.agg
 (CTs.cons (CT.int IntKind.u8)
 (CTs.cons CT.str (CTs.cons CT.str (CTs.cons (CT.int IntKind.u8) CTs.nil)))))
 (VT.agg
 (CTs.cons (CT.int IntKind.u8)
 (CTs.cons CT.str
 (CTs.cons (CT.ro (CTs.cons CT.str (CTs.cons CT.str CTs.nil)))
 (CTs.cons (CT.int IntKind.u8)
 (CTs.cons (CT.int IntKind.u64)
 (CTs.cons (CT.int IntKind.u8) (CTs.cons (CT.int IntKind.i64) CTs.nil))))))))]
 (Option
 (Int64 ×
 Option
 (List
 ((UInt8 × List UInt8 × List UInt8 × UInt8) ×
 UInt8 ×
 List UInt8 × List (List UInt8 × List UInt8) × UInt8 × UInt64 × UInt8 × Int64) ×
 List UInt64 × Unit)))) =>
 oite
 (!Option.isSome
 (mget
 (VT.agg
 (CTs.cons (CT.int IntKind.u8)
 (CTs.cons CT.str (CTs.cons CT.str (CTs.cons (CT.int IntKind.u8) CTs.nil)))))
 (VT.agg
 (CTs.cons (CT.int IntKind.u8)
 (CTs.cons CT.str
 (CTs.cons (CT.ro (CTs.cons CT.str (CTs.cons CT.str CTs.nil)))
 (CTs.cons (CT.int IntKind.u8)
 (CTs.cons (CT.int IntKind.u64)
 (CTs.cons (CT.int IntKind.u8) (CTs.cons (CT.int IntKind.i64) CTs.nil))))))))
 (Prod.fst (Prod.snd (Prod.snd (Prod.snd x))),
 Prod.fst (Prod.snd (Prod.snd (Prod.snd (Prod.snd (Prod.snd (Prod.snd x)))))), Prod.fst x_3,
 Prod.fst
 (Prod.snd
 (Prod.snd
 (Prod.snd
 (Prod.snd
 (Prod.snd (Prod.snd (Prod.snd (Prod.snd (Prod.snd (Prod.snd (Prod.snd x))))))))))))
 (Prod.fst x_1)))
 (J (Prod.fst (Prod.snd x_1)) (Prod.fst (Prod.snd (Prod.snd (Prod.snd x))))
 (Prod.fst (Prod.snd (Prod.snd (Prod.snd (Prod.snd x)))))
 (Prod.fst (Prod.snd (Prod.snd (Prod.snd (Prod.snd (Prod.snd x))))))
 (Prod.fst (Prod.snd (Prod.snd (Prod.snd (Prod.snd (Prod.snd (Prod.snd x)))))))
 (Prod.fst (Prod.snd (Prod.snd (Prod.snd (Prod.snd (Prod.snd (Prod.snd (Prod.snd x))))))))
 (Prod.fst (Prod.snd (Prod.snd (Prod.snd (Prod.snd (Prod.snd (Prod.snd (Prod.snd (Prod.snd x)))))))))
 (Prod.fst
 (Prod.snd
 (Prod.snd (Prod.snd (Prod.snd (Prod.snd (Prod.snd (Prod.snd (Prod.snd (Prod.snd x))))))))))
 (Prod.fst
 (Prod.snd
 (Prod.snd
 (Prod.snd (Prod.snd (Prod.snd (Prod.snd (Prod.snd (Prod.snd (Prod.snd (Prod.snd x)))))))))))
 (Prod.fst
 (Prod.snd
 (Prod.snd
 (Prod.snd
 (Prod.snd
 (Prod.snd (Prod.snd (Prod.snd (Prod.snd (Prod.snd (Prod.snd (Prod.snd x))))))))))))
 (Prod.fst (Prod.snd (Prod.snd (Prod.snd x))))
 (Prod.fst (Prod.snd (Prod.snd (Prod.snd (Prod.snd (Prod.snd (Prod.snd x))))))) (Prod.fst x_3)
 (Prod.fst
 (Prod.snd
 (Prod.snd
 (Prod.snd
 (Prod.snd
 (Prod.snd (Prod.snd (Prod.snd (Prod.snd (Prod.snd (Prod.snd (Prod.snd x))))))))))))
 (Prod.fst
 (Option.getD
 (mget
 (VT.agg
 (CTs.cons (CT.int IntKind.u8)
 (CTs.cons CT.str (CTs.cons CT.str (CTs.cons (CT.int IntKind.u8) CTs.nil)))))
 (VT.agg
 (CTs.cons (CT.int IntKind.u8)
 (CTs.cons CT.str
 (CTs.cons (CT.ro (CTs.cons CT.str (CTs.cons CT.str CTs.nil)))
 (CTs.cons (CT.int IntKind.u8)
 (CTs.cons (CT.int IntKind.u64)
 (CTs.cons (CT.int IntKind.u8) (CTs.cons (CT.int IntKind.i64) CTs.nil))))))))
 (Prod.fst (Prod.snd (Prod.snd (Prod.snd x))),
 Prod.fst (Prod.snd (Prod.snd (Prod.snd (Prod.snd (Prod.snd (Prod.snd x)))))), Prod.fst x_3,
 Prod.fst
 (Prod.snd
 (Prod.snd
 (Prod.snd
 (Prod.snd
 (Prod.snd
 (Prod.snd (Prod.snd (Prod.snd (Prod.snd (Prod.snd (Prod.snd x))))))))))))
 (Prod.fst x_1))
 ((0 : UInt8), @List.nil UInt8, @List.nil (List UInt8 × List UInt8), (0 : UInt8), (0 : UInt64),
 (0 : UInt8), (0 : Int64))))
 (Prod.fst
 (Prod.snd
 (Option.getD
 (mget
 (VT.agg
 (CTs.cons (CT.int IntKind.u8)
 (CTs.cons CT.str (CTs.cons CT.str (CTs.cons (CT.int IntKind.u8) CTs.nil)))))
 (VT.agg
 (CTs.cons (CT.int IntKind.u8)
 (CTs.cons CT.str
 (CTs.cons (CT.ro (CTs.cons CT.str (CTs.cons CT.str CTs.nil)))
 (CTs.cons (CT.int IntKind.u8)
 (CTs.cons (CT.int IntKind.u64)
 (CTs.cons (CT.int IntKind.u8) (CTs.cons (CT.int IntKind.i64) CTs.nil))))))))
 (Prod.fst (Prod.snd (Prod.snd (Prod.snd x))),
 Prod.fst (Prod.snd (Prod.snd (Prod.snd (Prod.snd (Prod.snd (Prod.snd x)))))),
 Prod.fst x_3,
 Prod.fst
 (Prod.snd
 (Prod.snd
 (Prod.snd
 (Prod.snd
 (Prod.snd
 (Prod.snd (Prod.snd (Prod.snd (Prod.snd (Prod.snd (Prod.snd x))))))))))))
 (Prod.fst x_1))
 ((0 : UInt8), @List.nil UInt8, @List.nil (List UInt8 × List UInt8), (0 : UInt8), (0 : UInt64),
 (0 : UInt8), (0 : Int64)))))
 (Prod.fst
 (Prod.snd
 (Prod.snd
 (Option.getD
 (mget
 (VT.agg
 (CTs.cons (CT.int IntKind.u8)
 (CTs.cons CT.str (CTs.cons CT.str (CTs.cons (CT.int IntKind.u8) CTs.nil)))))
 (VT.agg
 (CTs.cons (CT.int IntKind.u8)
 (CTs.cons CT.str
 (CTs.cons (CT.ro (CTs.cons CT.str (CTs.cons CT.str CTs.nil)))
 (CTs.cons (CT.int IntKind.u8)
 (CTs.cons (CT.int IntKind.u64)
 (CTs.cons (CT.int IntKind.u8) (CTs.cons (CT.int IntKind.i64) CTs.nil))))))))
 (Prod.fst (Prod.snd (Prod.snd (Prod.snd x))),
 Prod.fst (Prod.snd (Prod.snd (Prod.snd (Prod.snd (Prod.snd (Prod.snd x)))))),
 Prod.fst x_3,
 Prod.fst
 (Prod.snd
 (Prod.snd
 (Prod.snd
 (Prod.snd
 (Prod.snd
 (Prod.snd (Prod.snd (Prod.snd (Prod.snd (Prod.snd (Prod.snd x))))))))))))
 (Prod.fst x_1))
 ((0 : UInt8), @List.nil UInt8, @List.nil (List UInt8 × List UInt8), (0 : UInt8),
 (0 : UInt64), (0 : UInt8), (0 : Int64))))))
 (Prod.fst (Prod.snd (Prod.snd (Prod.snd (Prod.snd (Prod.snd (Prod.snd (Prod.snd (Prod.snd x)))))))))
 (Prod.fst (Prod.snd x))
 (Prod.fst
 (Prod.snd
 (Prod.snd
 (Prod.snd
 (Prod.snd
 (Prod.snd
 (Option.getD
 (mget
 (VT.agg
 (CTs.cons (CT.int IntKind.u8)
 (CTs.cons CT.str (CTs.cons CT.str (CTs.cons (CT.int IntKind.u8) CTs.nil)))))
 (VT.agg
 (CTs.cons (CT.int IntKind.u8)
 (CTs.cons CT.str
 (CTs.cons (CT.ro (CTs.cons CT.str (CTs.cons CT.str CTs.nil)))
 (CTs.cons (CT.int IntKind.u8)
 (CTs.cons (CT.int IntKind.u64)
 (CTs.cons (CT.int IntKind.u8)
 (CTs.cons (CT.int IntKind.i64) CTs.nil))))))))
 (Prod.fst (Prod.snd (Prod.snd (Prod.snd x))),
 Prod.fst (Prod.snd (Prod.snd (Prod.snd (Prod.snd (Prod.snd (Prod.snd x)))))),
 Prod.fst x_3,
 Prod.fst
 (Prod.snd
 (Prod.snd
 (Prod.snd
 (Prod.snd
 (Prod.snd
 (Prod.snd
 (Prod.snd (Prod.snd (Prod.snd (Prod.snd (Prod.snd x))))))))))))
 (Prod.fst x_1))
 ((0 : UInt8), @List.nil UInt8, @List.nil (List UInt8 × List UInt8), (0 : UInt8),
 (0 : UInt64), (0 : UInt8), (0 : Int64)))))))))
 (Prod.snd
 (Prod.snd
 (Prod.snd
 (Prod.snd
 (Prod.snd
 (Prod.snd
 (Option.getD
 (mget
 (VT.agg
 (CTs.cons (CT.int IntKind.u8)
 (CTs.cons CT.str (CTs.cons CT.str (CTs.cons (CT.int IntKind.u8) CTs.nil)))))
 (VT.agg
 (CTs.cons (CT.int IntKind.u8)
 (CTs.cons CT.str
 (CTs.cons (CT.ro (CTs.cons CT.str (CTs.cons CT.str CTs.nil)))
 (CTs.cons (CT.int IntKind.u8)
 (CTs.cons (CT.int IntKind.u64)
 (CTs.cons (CT.int IntKind.u8)
 (CTs.cons (CT.int IntKind.i64) CTs.nil))))))))
 (Prod.fst (Prod.snd (Prod.snd (Prod.snd x))),
 Prod.fst (Prod.snd (Prod.snd (Prod.snd (Prod.snd (Prod.snd (Prod.snd x)))))),
 Prod.fst x_3,
 Prod.fst
 (Prod.snd
 (Prod.snd
 (Prod.snd
 (Prod.snd
 (Prod.snd
 (Prod.snd
 (Prod.snd (Prod.snd (Prod.snd (Prod.snd (Prod.snd x))))))))))))
 (Prod.fst x_1))
 ((0 : UInt8), @List.nil UInt8, @List.nil (List UInt8 × List UInt8), (0 : UInt8),
 (0 : UInt64), (0 : UInt8), (0 : Int64)))))))))
 (Prod.fst x_1))
 (oite
 (!decide
 (Prod.fst
 (Prod.snd
 (Prod.snd
 (Prod.snd
 (Option.getD
 (mget
 (VT.agg
 (CTs.cons (CT.int IntKind.u8)
 (CTs.cons CT.str (CTs.cons CT.str (CTs.cons (CT.int IntKind.u8) CTs.nil)))))
 (VT.agg
 (CTs.cons (CT.int IntKind.u8)
 (CTs.cons CT.str
 (CTs.cons (CT.ro (CTs.cons CT.str (CTs.cons CT.str CTs.nil)))
 (CTs.cons (CT.int IntKind.u8)
 (CTs.cons (CT.int IntKind.u64)
 (CTs.cons (CT.int IntKind.u8)
 (CTs.cons (CT.int IntKind.i64) CTs.nil))))))))
 (Prod.fst (Prod.snd (Prod.snd (Prod.snd x))),
 Prod.fst (Prod.snd (Prod.snd (Prod.snd (Prod.snd (Prod.snd (Prod.snd x)))))),
 Prod.fst x_3,
 Prod.fst
 (Prod.snd
 (Prod.snd
 (Prod.snd
 (Prod.snd
 (Prod.snd
 (Prod.snd
 (Prod.snd (Prod.snd (Prod.snd (Prod.snd (Prod.snd x))))))))))))
 (Prod.fst x_1))
 ((0 : UInt8), @List.nil UInt8, @List.nil (List UInt8 × List UInt8), (0 : UInt8),
 (0 : UInt64), (0 : UInt8), (0 : Int64)))))) =
 Prod.fst
 (Prod.snd (Prod.snd (Prod.snd (Prod.snd (Prod.snd (Prod.snd (Prod.snd (Prod.snd x))))))))))
 (J (Prod.fst (Prod.snd x_1)) (Prod.fst (Prod.snd (Prod.snd (Prod.snd x))))
 (Prod.fst (Prod.snd (Prod.snd (Prod.snd (Prod.snd x)))))
 (Prod.fst (Prod.snd (Prod.snd (Prod.snd (Prod.snd (Prod.snd x))))))
 (Prod.fst (Prod.snd (Prod.snd (Prod.snd (Prod.snd (Prod.snd (Prod.snd x)))))))
 (Prod.fst (Prod.snd (Prod.snd (Prod.snd (Prod.snd (Prod.snd (Prod.snd (Prod.snd x))))))))
 (Prod.fst
 (Prod.snd (Prod.snd (Prod.snd (Prod.snd (Prod.snd (Prod.snd (Prod.snd (Prod.snd x)))))))))
 (Prod.fst
 (Prod.snd
 (Prod.snd (Prod.snd (Prod.snd (Prod.snd (Prod.snd (Prod.snd (Prod.snd (Prod.snd x))))))))))
 (Prod.fst
 (Prod.snd
 (Prod.snd
 (Prod.snd (Prod.snd (Prod.snd (Prod.snd (Prod.snd (Prod.snd (Prod.snd (Prod.snd x)))))))))))
 (Prod.fst
 (Prod.snd
 (Prod.snd
 (Prod.snd
 (Prod.snd
 (Prod.snd (Prod.snd (Prod.snd (Prod.snd (Prod.snd (Prod.snd (Prod.snd x))))))))))))
 (Prod.fst (Prod.snd (Prod.snd (Prod.snd x))))
 (Prod.fst (Prod.snd (Prod.snd (Prod.snd (Prod.snd (Prod.snd (Prod.snd x))))))) (Prod.fst x_3)
 (Prod.fst
 (Prod.snd
 (Prod.snd
 (Prod.snd
 (Prod.snd
 (Prod.snd (Prod.snd (Prod.snd (Prod.snd (Prod.snd (Prod.snd (Prod.snd x))))))))))))
 (Prod.fst
 (Option.getD
 (mget
 (VT.agg
 (CTs.cons (CT.int IntKind.u8)
 (CTs.cons CT.str (CTs.cons CT.str (CTs.cons (CT.int IntKind.u8) CTs.nil)))))
 (VT.agg
 (CTs.cons (CT.int IntKind.u8)
 (CTs.cons CT.str
 (CTs.cons (CT.ro (CTs.cons CT.str (CTs.cons CT.str CTs.nil)))
 (CTs.cons (CT.int IntKind.u8)
 (CTs.cons (CT.int IntKind.u64)
 (CTs.cons (CT.int IntKind.u8) (CTs.cons (CT.int IntKind.i64) CTs.nil))))))))
 (Prod.fst (Prod.snd (Prod.snd (Prod.snd x))),
 Prod.fst (Prod.snd (Prod.snd (Prod.snd (Prod.snd (Prod.snd (Prod.snd x)))))),
 Prod.fst x_3,
 Prod.fst
 (Prod.snd
 (Prod.snd
 (Prod.snd
 (Prod.snd
 (Prod.snd
 (Prod.snd (Prod.snd (Prod.snd (Prod.snd (Prod.snd (Prod.snd x))))))))))))
 (Prod.fst x_1))
 ((0 : UInt8), @List.nil UInt8, @List.nil (List UInt8 × List UInt8), (0 : UInt8), (0 : UInt64),
 (0 : UInt8), (0 : Int64))))
 (Prod.fst
 (Prod.snd
 (Option.getD
 (mget
 (VT.agg
 (CTs.cons (CT.int IntKind.u8)
 (CTs.cons CT.str (CTs.cons CT.str (CTs.cons (CT.int IntKind.u8) CTs.nil)))))
 (VT.agg
 (CTs.cons (CT.int IntKind.u8)
 (CTs.cons CT.str
 (CTs.cons (CT.ro (CTs.cons CT.str (CTs.cons CT.str CTs.nil)))
 (CTs.cons (CT.int IntKind.u8)
 (CTs.cons (CT.int IntKind.u64)
 (CTs.cons (CT.int IntKind.u8) (CTs.cons (CT.int IntKind.i64) CTs.nil))))))))
 (Prod.fst (Prod.snd (Prod.snd (Prod.snd x))),
 Prod.fst (Prod.snd (Prod.snd (Prod.snd (Prod.snd (Prod.snd (Prod.snd x)))))),
 Prod.fst x_3,
 Prod.fst
 (Prod.snd
 (Prod.snd
 (Prod.snd
 (Prod.snd
 (Prod.snd
 (Prod.snd (Prod.snd (Prod.snd (Prod.snd (Prod.snd (Prod.snd x))))))))))))
 (Prod.fst x_1))
 ((0 : UInt8), @List.nil UInt8, @List.nil (List UInt8 × List UInt8), (0 : UInt8),
 (0 : UInt64), (0 : UInt8), (0 : Int64)))))
 (Prod.fst
 (Prod.snd
 (Prod.snd
 (Option.getD
 (mget
 (VT.agg
 (CTs.cons (CT.int IntKind.u8)
 (CTs.cons CT.str (CTs.cons CT.str (CTs.cons (CT.int IntKind.u8) CTs.nil)))))
 (VT.agg
 (CTs.cons (CT.int IntKind.u8)
 (CTs.cons CT.str
 (CTs.cons (CT.ro (CTs.cons CT.str (CTs.cons CT.str CTs.nil)))
 (CTs.cons (CT.int IntKind.u8)
 (CTs.cons (CT.int IntKind.u64)
 (CTs.cons (CT.int IntKind.u8) (CTs.cons (CT.int IntKind.i64) CTs.nil))))))))
 (Prod.fst (Prod.snd (Prod.snd (Prod.snd x))),
 Prod.fst (Prod.snd (Prod.snd (Prod.snd (Prod.snd (Prod.snd (Prod.snd x)))))),
 Prod.fst x_3,
 Prod.fst
 (Prod.snd
 (Prod.snd
 (Prod.snd
 (Prod.snd
 (Prod.snd
 (Prod.snd (Prod.snd (Prod.snd (Prod.snd (Prod.snd (Prod.snd x))))))))))))
 (Prod.fst x_1))
 ((0 : UInt8), @List.nil UInt8, @List.nil (List UInt8 × List UInt8), (0 : UInt8),
 (0 : UInt64), (0 : UInt8), (0 : Int64))))))
 (Prod.fst
 (Prod.snd (Prod.snd (Prod.snd (Prod.snd (Prod.snd (Prod.snd (Prod.snd (Prod.snd x)))))))))
 (Prod.fst (Prod.snd x))
 (Prod.fst
 (Prod.snd
 (Prod.snd
 (Prod.snd
 (Prod.snd
 (Prod.snd
 (Option.getD
 (mget
 (VT.agg
 (CTs.cons (CT.int IntKind.u8)
 (CTs.cons CT.str (CTs.cons CT.str (CTs.cons (CT.int IntKind.u8) CTs.nil)))))
 (VT.agg
 (CTs.cons (CT.int IntKind.u8)
 (CTs.cons CT.str
 (CTs.cons (CT.ro (CTs.cons CT.str (CTs.cons CT.str CTs.nil)))
 (CTs.cons (CT.int IntKind.u8)
 (CTs.cons (CT.int IntKind.u64)
 (CTs.cons (CT.int IntKind.u8)
 (CTs.cons (CT.int IntKind.i64) CTs.nil))))))))
 (Prod.fst (Prod.snd (Prod.snd (Prod.snd x))),
 Prod.fst (Prod.snd (Prod.snd (Prod.snd (Prod.snd (Prod.snd (Prod.snd x)))))),
 Prod.fst x_3,
 Prod.fst
 (Prod.snd
 (Prod.snd
 (Prod.snd
 (Prod.snd
 (Prod.snd
 (Prod.snd
 (Prod.snd (Prod.snd (Prod.snd (Prod.snd (Prod.snd x))))))))))))
 (Prod.fst x_1))
 ((0 : UInt8), @List.nil UInt8, @List.nil (List UInt8 × List UInt8), (0 : UInt8),
 (0 : UInt64), (0 : UInt8), (0 : Int64)))))))))
 (Prod.snd
 (Prod.snd
 (Prod.snd
 (Prod.snd
 (Prod.snd
 (Prod.snd
 (Option.getD
 (mget
 (VT.agg
 (CTs.cons (CT.int IntKind.u8)
 (CTs.cons CT.str (CTs.cons CT.str (CTs.cons (CT.int IntKind.u8) CTs.nil)))))
 (VT.agg
 (CTs.cons (CT.int IntKind.u8)
 (CTs.cons CT.str
 (CTs.cons (CT.ro (CTs.cons CT.str (CTs.cons CT.str CTs.nil)))
 (CTs.cons (CT.int IntKind.u8)
 (CTs.cons (CT.int IntKind.u64)
 (CTs.cons (CT.int IntKind.u8)
 (CTs.cons (CT.int IntKind.i64) CTs.nil))))))))
 (Prod.fst (Prod.snd (Prod.snd (Prod.snd x))),
 Prod.fst (Prod.snd (Prod.snd (Prod.snd (Prod.snd (Prod.snd (Prod.snd x)))))),
 Prod.fst x_3,
 Prod.fst
 (Prod.snd
 (Prod.snd
 (Prod.snd
 (Prod.snd
 (Prod.snd
 (Prod.snd
 (Prod.snd (Prod.snd (Prod.snd (Prod.snd (Prod.snd x))))))))))))
 (Prod.fst x_1))
 ((0 : UInt8), @List.nil UInt8, @List.nil (List UInt8 × List UInt8), (0 : UInt8),
 (0 : UInt64), (0 : UInt8), (0 : Int64)))))))))
 (Prod.fst x_1))
 (J (Prod.fst (Prod.snd x_1)) (Prod.fst (Prod.snd (Prod.snd (Prod.snd x))))
 (Prod.fst (Prod.snd (Prod.snd (Prod.snd (Prod.snd x)))))
 (Prod.fst (Prod.snd (Prod.snd (Prod.snd (Prod.snd (Prod.snd x))))))
 (Prod.fst (Prod.snd (Prod.snd (Prod.snd (Prod.snd (Prod.snd (Prod.snd x)))))))
 (Prod.fst (Prod.snd (Prod.snd (Prod.snd (Prod.snd (Prod.snd (Prod.snd (Prod.snd x))))))))
 (Prod.fst
 (Prod.snd (Prod.snd (Prod.snd (Prod.snd (Prod.snd (Prod.snd (Prod.snd (Prod.snd x)))))))))
 (Prod.fst
 (Prod.snd
 (Prod.snd (Prod.snd (Prod.snd (Prod.snd (Prod.snd (Prod.snd (Prod.snd (Prod.snd x))))))))))
 (Prod.fst
 (Prod.snd
 (Prod.snd
 (Prod.snd (Prod.snd (Prod.snd (Prod.snd (Prod.snd (Prod.snd (Prod.snd (Prod.snd x)))))))))))
 (Prod.fst
 (Prod.snd
 (Prod.snd
 (Prod.snd
 (Prod.snd
 (Prod.snd (Prod.snd (Prod.snd (Prod.snd (Prod.snd (Prod.snd (Prod.snd x))))))))))))
 (Prod.fst (Prod.snd (Prod.snd (Prod.snd x))))
 (Prod.fst (Prod.snd (Prod.snd (Prod.snd (Prod.snd (Prod.snd (Prod.snd x))))))) (Prod.fst x_3)
 (Prod.fst
 (Prod.snd
 (Prod.snd
 (Prod.snd
 (Prod.snd
 (Prod.snd (Prod.snd (Prod.snd (Prod.snd (Prod.snd (Prod.snd (Prod.snd x))))))))))))
 (Prod.fst
 (Option.getD
 (mget
 (VT.agg
 (CTs.cons (CT.int IntKind.u8)
 (CTs.cons CT.str (CTs.cons CT.str (CTs.cons (CT.int IntKind.u8) CTs.nil)))))
 (VT.agg
 (CTs.cons (CT.int IntKind.u8)
 (CTs.cons CT.str
 (CTs.cons (CT.ro (CTs.cons CT.str (CTs.cons CT.str CTs.nil)))
 (CTs.cons (CT.int IntKind.u8)
 (CTs.cons (CT.int IntKind.u64)
 (CTs.cons (CT.int IntKind.u8) (CTs.cons (CT.int IntKind.i64) CTs.nil))))))))
 (Prod.fst (Prod.snd (Prod.snd (Prod.snd x))),
 Prod.fst (Prod.snd (Prod.snd (Prod.snd (Prod.snd (Prod.snd (Prod.snd x)))))),
 Prod.fst x_3,
 Prod.fst
 (Prod.snd
 (Prod.snd
 (Prod.snd
 (Prod.snd
 (Prod.snd
 (Prod.snd (Prod.snd (Prod.snd (Prod.snd (Prod.snd (Prod.snd x))))))))))))
 (Prod.fst x_1))
 ((0 : UInt8), @List.nil UInt8, @List.nil (List UInt8 × List UInt8), (0 : UInt8), (0 : UInt64),
 (0 : UInt8), (0 : Int64))))
 (Prod.fst
 (Prod.snd
 (Option.getD
 (mget
 (VT.agg
 (CTs.cons (CT.int IntKind.u8)
 (CTs.cons CT.str (CTs.cons CT.str (CTs.cons (CT.int IntKind.u8) CTs.nil)))))
 (VT.agg
 (CTs.cons (CT.int IntKind.u8)
 (CTs.cons CT.str
 (CTs.cons (CT.ro (CTs.cons CT.str (CTs.cons CT.str CTs.nil)))
 (CTs.cons (CT.int IntKind.u8)
 (CTs.cons (CT.int IntKind.u64)
 (CTs.cons (CT.int IntKind.u8) (CTs.cons (CT.int IntKind.i64) CTs.nil))))))))
 (Prod.fst (Prod.snd (Prod.snd (Prod.snd x))),
 Prod.fst (Prod.snd (Prod.snd (Prod.snd (Prod.snd (Prod.snd (Prod.snd x)))))),
 Prod.fst x_3,
 Prod.fst
 (Prod.snd
 (Prod.snd
 (Prod.snd
 (Prod.snd
 (Prod.snd
 (Prod.snd (Prod.snd (Prod.snd (Prod.snd (Prod.snd (Prod.snd x))))))))))))
 (Prod.fst x_1))
 ((0 : UInt8), @List.nil UInt8, @List.nil (List UInt8 × List UInt8), (0 : UInt8),
 (0 : UInt64), (0 : UInt8), (0 : Int64)))))
 (Prod.fst
 (Prod.snd
 (Prod.snd
 (Option.getD
 (mget
 (VT.agg
 (CTs.cons (CT.int IntKind.u8)
 (CTs.cons CT.str (CTs.cons CT.str (CTs.cons (CT.int IntKind.u8) CTs.nil)))))
 (VT.agg
 (CTs.cons (CT.int IntKind.u8)
 (CTs.cons CT.str
 (CTs.cons (CT.ro (CTs.cons CT.str (CTs.cons CT.str CTs.nil)))
 (CTs.cons (CT.int IntKind.u8)
 (CTs.cons (CT.int IntKind.u64)
 (CTs.cons (CT.int IntKind.u8) (CTs.cons (CT.int IntKind.i64) CTs.nil))))))))
 (Prod.fst (Prod.snd (Prod.snd (Prod.snd x))),
 Prod.fst (Prod.snd (Prod.snd (Prod.snd (Prod.snd (Prod.snd (Prod.snd x)))))),
 Prod.fst x_3,
 Prod.fst
 (Prod.snd
 (Prod.snd
 (Prod.snd
 (Prod.snd
 (Prod.snd
 (Prod.snd (Prod.snd (Prod.snd (Prod.snd (Prod.snd (Prod.snd x))))))))))))
 (Prod.fst x_1))
 ((0 : UInt8), @List.nil UInt8, @List.nil (List UInt8 × List UInt8), (0 : UInt8),
 (0 : UInt64), (0 : UInt8), (0 : Int64))))))
 (Prod.fst
 (Prod.snd
 (Prod.snd
 (Prod.snd
 (Option.getD
 (mget
 (VT.agg
 (CTs.cons (CT.int IntKind.u8)
 (CTs.cons CT.str (CTs.cons CT.str (CTs.cons (CT.int IntKind.u8) CTs.nil)))))
 (VT.agg
 (CTs.cons (CT.int IntKind.u8)
 (CTs.cons CT.str
 (CTs.cons (CT.ro (CTs.cons CT.str (CTs.cons CT.str CTs.nil)))
 (CTs.cons (CT.int IntKind.u8)
 (CTs.cons (CT.int IntKind.u64)
 (CTs.cons (CT.int IntKind.u8)
 (CTs.cons (CT.int IntKind.i64) CTs.nil))))))))
 (Prod.fst (Prod.snd (Prod.snd (Prod.snd x))),
 Prod.fst (Prod.snd (Prod.snd (Prod.snd (Prod.snd (Prod.snd (Prod.snd x)))))),
 Prod.fst x_3,
 Prod.fst
 (Prod.snd
 (Prod.snd
 (Prod.snd
 (Prod.snd
 (Prod.snd
 (Prod.snd
 (Prod.snd (Prod.snd (Prod.snd (Prod.snd (Prod.snd x))))))))))))
 (Prod.fst x_1))
 ((0 : UInt8), @List.nil UInt8, @List.nil (List UInt8 × List UInt8), (0 : UInt8),
 (0 : UInt64), (0 : UInt8), (0 : Int64)))))))
 (Prod.fst
 (Prod.snd
 (Prod.snd
 (Prod.snd
 (Prod.snd
 (Option.getD
 (mget
 (VT.agg
 (CTs.cons (CT.int IntKind.u8)
 (CTs.cons CT.str (CTs.cons CT.str (CTs.cons (CT.int IntKind.u8) CTs.nil)))))
 (VT.agg
 (CTs.cons (CT.int IntKind.u8)
 (CTs.cons CT.str
 (CTs.cons (CT.ro (CTs.cons CT.str (CTs.cons CT.str CTs.nil)))
 (CTs.cons (CT.int IntKind.u8)
 (CTs.cons (CT.int IntKind.u64)
 (CTs.cons (CT.int IntKind.u8)
 (CTs.cons (CT.int IntKind.i64) CTs.nil))))))))
 (Prod.fst (Prod.snd (Prod.snd (Prod.snd x))),
 Prod.fst (Prod.snd (Prod.snd (Prod.snd (Prod.snd (Prod.snd (Prod.snd x)))))),
 Prod.fst x_3,
 Prod.fst
 (Prod.snd
 (Prod.snd
 (Prod.snd
 (Prod.snd
 (Prod.snd
 (Prod.snd
 (Prod.snd (Prod.snd (Prod.snd (Prod.snd (Prod.snd x))))))))))))
 (Prod.fst x_1))
 ((0 : UInt8), @List.nil UInt8, @List.nil (List UInt8 × List UInt8), (0 : UInt8),
 (0 : UInt64), (0 : UInt8), (0 : Int64))))))))
 (Prod.fst
 (Prod.snd
 (Prod.snd
 (Prod.snd
 (Prod.snd
 (Prod.snd
 (Option.getD
 (mget
 (VT.agg
 (CTs.cons (CT.int IntKind.u8)
 (CTs.cons CT.str (CTs.cons CT.str (CTs.cons (CT.int IntKind.u8) CTs.nil)))))
 (VT.agg
 (CTs.cons (CT.int IntKind.u8)
 (CTs.cons CT.str
 (CTs.cons (CT.ro (CTs.cons CT.str (CTs.cons CT.str CTs.nil)))
 (CTs.cons (CT.int IntKind.u8)
 (CTs.cons (CT.int IntKind.u64)
 (CTs.cons (CT.int IntKind.u8)
 (CTs.cons (CT.int IntKind.i64) CTs.nil))))))))
 (Prod.fst (Prod.snd (Prod.snd (Prod.snd x))),
 Prod.fst (Prod.snd (Prod.snd (Prod.snd (Prod.snd (Prod.snd (Prod.snd x)))))),
 Prod.fst x_3,
 Prod.fst
 (Prod.snd
 (Prod.snd
 (Prod.snd
 (Prod.snd
 (Prod.snd
 (Prod.snd
 (Prod.snd (Prod.snd (Prod.snd (Prod.snd (Prod.snd x))))))))))))
 (Prod.fst x_1))
 ((0 : UInt8), @List.nil UInt8, @List.nil (List UInt8 × List UInt8), (0 : UInt8),
 (0 : UInt64), (0 : UInt8), (0 : Int64)))))))))
 (Prod.snd
 (Prod.snd
 (Prod.snd
 (Prod.snd
 (Prod.snd
 (Prod.snd
 (Option.getD
 (mget
 (VT.agg
 (CTs.cons (CT.int IntKind.u8)
 (CTs.cons CT.str (CTs.cons CT.str (CTs.cons (CT.int IntKind.u8) CTs.nil)))))
 (VT.agg
 (CTs.cons (CT.int IntKind.u8)
 (CTs.cons CT.str
 (CTs.cons (CT.ro (CTs.cons CT.str (CTs.cons CT.str CTs.nil)))
 (CTs.cons (CT.int IntKind.u8)
 (CTs.cons (CT.int IntKind.u64)
 (CTs.cons (CT.int IntKind.u8)
 (CTs.cons (CT.int IntKind.i64) CTs.nil))))))))
 (Prod.fst (Prod.snd (Prod.snd (Prod.snd x))),
 Prod.fst (Prod.snd (Prod.snd (Prod.snd (Prod.snd (Prod.snd (Prod.snd x)))))),
 Prod.fst x_3,
 Prod.fst
 (Prod.snd
 (Prod.snd
 (Prod.snd
 (Prod.snd
 (Prod.snd
 (Prod.snd
 (Prod.snd (Prod.snd (Prod.snd (Prod.snd (Prod.snd x))))))))))))
 (Prod.fst x_1))
 ((0 : UInt8), @List.nil UInt8, @List.nil (List UInt8 × List UInt8), (0 : UInt8),
 (0 : UInt64), (0 : UInt8), (0 : Int64)))))))))
 (Prod.fst x_1))))
 (F7_J255 n)))
theorem ok7 (n : Nat) : FunOK Try.prog ⟨7, sig7, F7 n⟩ :=
 fun_ok (hints := ⟨[(255, ⟨[(0, .one (.own 0)), (6, .one (.own 2)), (7, .one (.own 3)), (8, .one (.own 4))], [(0, .cellsA [.own 5] (.int .u64) 32 []), (2, .cells [.int .u8, .int .u64, .int .u64, .str, .ro (.cons .str (.cons .str .nil)), .int .u8, .int .u8, .int .i64, .int .u8]), (3, .cells [.int .u8, .str, .str, .int .u8]), (4, .cells [.int .u8, .str, .ro (.cons .str (.cons .str .nil)), .int .u8, .int .u64, .int .u8, .int .i64]), (5, .map (.agg (.cons (.int .u8) (.cons .str (.cons .str (.cons (.int .u8) .nil))))) (.agg (.cons (.int .u8) (.cons .str (.cons (.ro (.cons .str (.cons .str .nil))) (.cons (.int .u8) (.cons (.int .u64) (.cons (.int .u8) (.cons (.int .i64) .nil)))))))))], 6⟩)], []⟩) (fuel := n) (c := Try.f7.body.getD .skip) (rs := Try.f7.results.toList) tt_ok mix (FsOK.cons (ok19 n) (FsOK.cons (ok20 n) (FsOK.cons (ok21 n) (FsOK.cons (ok22 n) (FsOK.nil))))) Try.func7 (by kernel_rfl) (by kernel_rfl) rfl (by kernel_rfl) rfl rfl (by kernel_rfl)
-- watchfire/board.Of
def sig17 : Sig := ⟨(.cons (.one (.c (.ro (.cons (.int .u64) (.cons .bool (.cons (.int .u8) (.cons (.int .u64) (.cons (.int .u64) (.cons .str (.cons (.ro (.cons .str (.cons .str .nil))) (.cons (.int .u8) (.cons (.int .u8) (.cons (.int .i64) (.cons (.int .u8) (.cons (.int .u8) (.cons (.int .u64) (.cons (.int .u64) .nil))))))))))))))))) .nil), (.cons (.one (.ptrA (.cons (.map (.agg (.cons (.int .u8) (.cons .str (.cons .str (.cons (.int .u8) .nil))))) (.agg (.cons (.int .u8) (.cons .str (.cons (.ro (.cons .str (.cons .str .nil))) (.cons (.int .u8) (.cons (.int .u64) (.cons (.int .u8) (.cons (.int .i64) .nil))))))))) .nil) (.int .u64) 32 .nil)) (.cons (.one (.c (.int .i64))) .nil))⟩
noncomputable def F17_L29 : Nat →
 Arr
 [PT.list
 (CTs.cons (CT.int IntKind.u64)
 (CTs.cons CT.bool
 (CTs.cons (CT.int IntKind.u8)
 (CTs.cons (CT.int IntKind.u64)
 (CTs.cons (CT.int IntKind.u64)
 (CTs.cons CT.str
 (CTs.cons (CT.ro (CTs.cons CT.str (CTs.cons CT.str CTs.nil)))
 (CTs.cons (CT.int IntKind.u8)
 (CTs.cons (CT.int IntKind.u8)
 (CTs.cons (CT.int IntKind.i64)
 (CTs.cons (CT.int IntKind.u8)
 (CTs.cons (CT.int IntKind.u8)
 (CTs.cons (CT.int IntKind.u64) (CTs.cons (CT.int IntKind.u64) CTs.nil)))))))))))))),
 PT.int IntKind.i64, PT.int IntKind.i64,
 PT.optA
 (OTs.cons
 (OT.map
 (VT.agg
 (CTs.cons (CT.int IntKind.u8)
 (CTs.cons CT.str (CTs.cons CT.str (CTs.cons (CT.int IntKind.u8) CTs.nil)))))
 (VT.agg
 (CTs.cons (CT.int IntKind.u8)
 (CTs.cons CT.str
 (CTs.cons (CT.ro (CTs.cons CT.str (CTs.cons CT.str CTs.nil)))
 (CTs.cons (CT.int IntKind.u8)
 (CTs.cons (CT.int IntKind.u64)
 (CTs.cons (CT.int IntKind.u8) (CTs.cons (CT.int IntKind.i64) CTs.nil)))))))))
 OTs.nil)
 (CT.int IntKind.u64) OTs.nil]
 (Option
 ((Option
 (List
 ((UInt8 × List UInt8 × List UInt8 × UInt8) ×
 UInt8 × List UInt8 × List (List UInt8 × List UInt8) × UInt8 × UInt64 × UInt8 × Int64) ×
 List UInt64 × Unit) ×
 Int64) ×
 Unit)) →
 List
 (UInt64 ×
 Bool ×
 UInt8 ×
 UInt64 ×
 UInt64 ×
 List UInt8 ×
 List (List UInt8 × List UInt8) × UInt8 × UInt8 × Int64 × UInt8 × UInt8 × UInt64 × UInt64) →
 Int64 →
 Int64 →
 Option
 (List
 ((UInt8 × List UInt8 × List UInt8 × UInt8) ×
 UInt8 × List UInt8 × List (List UInt8 × List UInt8) × UInt8 × UInt64 × UInt8 × Int64) ×
 List UInt64 × Unit) →
 Option
 ((Option
 (List
 ((UInt8 × List UInt8 × List UInt8 × UInt8) ×
 UInt8 × List UInt8 × List (List UInt8 × List UInt8) × UInt8 × UInt64 × UInt8 × Int64) ×
 List UInt64 × Unit) ×
 Int64) ×
 Unit) := fun (n : Nat)
 (rec :
 Arr
 [PT.list
 (CTs.cons (CT.int IntKind.u64)
 (CTs.cons CT.bool
 (CTs.cons (CT.int IntKind.u8)
 (CTs.cons (CT.int IntKind.u64)
 (CTs.cons (CT.int IntKind.u64)
 (CTs.cons CT.str
 (CTs.cons (CT.ro (CTs.cons CT.str (CTs.cons CT.str CTs.nil)))
 (CTs.cons (CT.int IntKind.u8)
 (CTs.cons (CT.int IntKind.u8)
 (CTs.cons (CT.int IntKind.i64)
 (CTs.cons (CT.int IntKind.u8)
 (CTs.cons (CT.int IntKind.u8)
 (CTs.cons (CT.int IntKind.u64) (CTs.cons (CT.int IntKind.u64) CTs.nil)))))))))))))),
 PT.int IntKind.i64, PT.int IntKind.i64,
 PT.optA
 (OTs.cons
 (OT.map
 (VT.agg
 (CTs.cons (CT.int IntKind.u8)
 (CTs.cons CT.str (CTs.cons CT.str (CTs.cons (CT.int IntKind.u8) CTs.nil)))))
 (VT.agg
 (CTs.cons (CT.int IntKind.u8)
 (CTs.cons CT.str
 (CTs.cons (CT.ro (CTs.cons CT.str (CTs.cons CT.str CTs.nil)))
 (CTs.cons (CT.int IntKind.u8)
 (CTs.cons (CT.int IntKind.u64)
 (CTs.cons (CT.int IntKind.u8) (CTs.cons (CT.int IntKind.i64) CTs.nil)))))))))
 OTs.nil)
 (CT.int IntKind.u64) OTs.nil]
 (Option
 ((Option
 (List
 ((UInt8 × List UInt8 × List UInt8 × UInt8) ×
 UInt8 × List UInt8 × List (List UInt8 × List UInt8) × UInt8 × UInt64 × UInt8 × Int64) ×
 List UInt64 × Unit) ×
 Int64) ×
 Unit)))
 (t :
 List
 (UInt64 ×
 Bool ×
 UInt8 ×
 UInt64 ×
 UInt64 ×
 List UInt8 ×
 List (List UInt8 × List UInt8) × UInt8 × UInt8 × Int64 × UInt8 × UInt8 × UInt64 × UInt64))
 (t_1 t_2 : Int64)
 (b :
 Option
 (List
 ((UInt8 × List UInt8 × List UInt8 × UInt8) ×
 UInt8 × List UInt8 × List (List UInt8 × List UInt8) × UInt8 × UInt64 × UInt8 × Int64) ×
 List UInt64 × Unit)) =>
 oite (decide (t_2 < t_1))
 (obind (at? t (Int64.toInt t_2))
 fun
 (x_2 :
 UInt64 ×
 Bool ×
 UInt8 ×
 UInt64 ×
 UInt64 ×
 List UInt8 ×
 List (List UInt8 × List UInt8) × UInt8 × UInt8 × Int64 × UInt8 × UInt8 × UInt64 × UInt64) =>
 obind
 (F7 n
 (b, Prod.fst x_2, Prod.fst (Prod.snd x_2), Prod.fst (Prod.snd (Prod.snd x_2)),
 Prod.fst (Prod.snd (Prod.snd (Prod.snd x_2))), Prod.fst (Prod.snd (Prod.snd (Prod.snd (Prod.snd x_2)))),
 Prod.fst (Prod.snd (Prod.snd (Prod.snd (Prod.snd (Prod.snd x_2))))),
 Prod.fst (Prod.snd (Prod.snd (Prod.snd (Prod.snd (Prod.snd (Prod.snd x_2)))))),
 Prod.fst (Prod.snd (Prod.snd (Prod.snd (Prod.snd (Prod.snd (Prod.snd (Prod.snd x_2))))))),
 Prod.fst (Prod.snd (Prod.snd (Prod.snd (Prod.snd (Prod.snd (Prod.snd (Prod.snd (Prod.snd x_2)))))))),
 Prod.fst
 (Prod.snd (Prod.snd (Prod.snd (Prod.snd (Prod.snd (Prod.snd (Prod.snd (Prod.snd (Prod.snd x_2))))))))),
 Prod.fst
 (Prod.snd
 (Prod.snd (Prod.snd (Prod.snd (Prod.snd (Prod.snd (Prod.snd (Prod.snd (Prod.snd (Prod.snd x_2)))))))))),
 Prod.fst
 (Prod.snd
 (Prod.snd
 (Prod.snd
 (Prod.snd (Prod.snd (Prod.snd (Prod.snd (Prod.snd (Prod.snd (Prod.snd (Prod.snd x_2))))))))))),
 Prod.fst
 (Prod.snd
 (Prod.snd
 (Prod.snd
 (Prod.snd
 (Prod.snd (Prod.snd (Prod.snd (Prod.snd (Prod.snd (Prod.snd (Prod.snd (Prod.snd x_2)))))))))))),
 Prod.snd
 (Prod.snd
 (Prod.snd
 (Prod.snd
 (Prod.snd
 (Prod.snd (Prod.snd (Prod.snd (Prod.snd (Prod.snd (Prod.snd (Prod.snd (Prod.snd x_2))))))))))))))
 fun
 (x_3 :
 Int64 ×
 Option
 (List
 ((UInt8 × List UInt8 × List UInt8 × UInt8) ×
 UInt8 × List UInt8 × List (List UInt8 × List UInt8) × UInt8 × UInt64 × UInt8 × Int64) ×
 List UInt64 × Unit)) =>
 oite (!decide (Prod.fst x_3 = (0 : Int64))) (some ((none, Prod.fst x_3), ()))
 (rec t t_1 (t_2 + (1 : Int64)) (Prod.snd x_3)))
 (some ((b, (0 : Int64)), ()))
noncomputable def F17_R29 : Nat →
 Nat →
 PT.T
 (PT.list
 (CTs.cons (CT.int IntKind.u64)
 (CTs.cons CT.bool
 (CTs.cons (CT.int IntKind.u8)
 (CTs.cons (CT.int IntKind.u64)
 (CTs.cons (CT.int IntKind.u64)
 (CTs.cons CT.str
 (CTs.cons (CT.ro (CTs.cons CT.str (CTs.cons CT.str CTs.nil)))
 (CTs.cons (CT.int IntKind.u8)
 (CTs.cons (CT.int IntKind.u8)
 (CTs.cons (CT.int IntKind.i64)
 (CTs.cons (CT.int IntKind.u8)
 (CTs.cons (CT.int IntKind.u8)
 (CTs.cons (CT.int IntKind.u64) (CTs.cons (CT.int IntKind.u64) CTs.nil))))))))))))))) →
 Int64 →
 Int64 →
 Option
 (List
 ((UInt8 × List UInt8 × List UInt8 × UInt8) ×
 UInt8 × List UInt8 × List (List UInt8 × List UInt8) × UInt8 × UInt64 × UInt8 × Int64) ×
 List UInt64 × Unit) →
 Option
 ((Option
 (List
 ((UInt8 × List UInt8 × List UInt8 × UInt8) ×
 UInt8 × List UInt8 × List (List UInt8 × List UInt8) × UInt8 × UInt64 × UInt8 × Int64) ×
 List UInt64 × Unit) ×
 Int64) ×
 Unit) := fun (n : Nat) =>
 ofixA (29 : Nat)
 [PT.list
 (CTs.cons (CT.int IntKind.u64)
 (CTs.cons CT.bool
 (CTs.cons (CT.int IntKind.u8)
 (CTs.cons (CT.int IntKind.u64)
 (CTs.cons (CT.int IntKind.u64)
 (CTs.cons CT.str
 (CTs.cons (CT.ro (CTs.cons CT.str (CTs.cons CT.str CTs.nil)))
 (CTs.cons (CT.int IntKind.u8)
 (CTs.cons (CT.int IntKind.u8)
 (CTs.cons (CT.int IntKind.i64)
 (CTs.cons (CT.int IntKind.u8)
 (CTs.cons (CT.int IntKind.u8)
 (CTs.cons (CT.int IntKind.u64) (CTs.cons (CT.int IntKind.u64) CTs.nil)))))))))))))),
 PT.int IntKind.i64, PT.int IntKind.i64,
 PT.optA
 (OTs.cons
 (OT.map
 (VT.agg
 (CTs.cons (CT.int IntKind.u8) (CTs.cons CT.str (CTs.cons CT.str (CTs.cons (CT.int IntKind.u8) CTs.nil)))))
 (VT.agg
 (CTs.cons (CT.int IntKind.u8)
 (CTs.cons CT.str
 (CTs.cons (CT.ro (CTs.cons CT.str (CTs.cons CT.str CTs.nil)))
 (CTs.cons (CT.int IntKind.u8)
 (CTs.cons (CT.int IntKind.u64)
 (CTs.cons (CT.int IntKind.u8) (CTs.cons (CT.int IntKind.i64) CTs.nil)))))))))
 OTs.nil)
 (CT.int IntKind.u64) OTs.nil]
 (F17_L29 n)
noncomputable def F17 : Nat →
 List
 (UInt64 ×
 Bool ×
 UInt8 ×
 UInt64 ×
 UInt64 ×
 List UInt8 × List (List UInt8 × List UInt8) × UInt8 × UInt8 × Int64 × UInt8 × UInt8 × UInt64 × UInt64) →
 Option
 ((Option
 (List
 ((UInt8 × List UInt8 × List UInt8 × UInt8) ×
 UInt8 × List UInt8 × List (List UInt8 × List UInt8) × UInt8 × UInt64 × UInt8 × Int64) ×
 List UInt64 × Unit) ×
 Int64) ×
 Unit) := fun (n : Nat)
 (x :
 List
 (UInt64 ×
 Bool ×
 UInt8 ×
 UInt64 ×
 UInt64 ×
 List UInt8 ×
 List (List UInt8 × List UInt8) × UInt8 × UInt8 × Int64 × UInt8 × UInt8 × UInt64 × UInt64)) =>
 obind (F6 n ())
 fun
 (x_1 :
 Option
 (List
 ((UInt8 × List UInt8 × List UInt8 × UInt8) ×
 UInt8 × List UInt8 × List (List UInt8 × List UInt8) × UInt8 × UInt64 × UInt8 × Int64) ×
 List UInt64 × Unit) ×
 Unit) =>
 F17_R29 n n x (Int64.ofInt ↑(List.length x)) (0 : Int64) (Prod.fst x_1)
theorem F17_R29_s (n : Nat) (m_ : Nat) : F17_R29 n (m_ + 1) = F17_L29 n (F17_R29 n m_) := rfl
theorem ok17 (n : Nat) : FunOK Try.prog ⟨17, sig17, F17 n⟩ :=
 fun_ok (hints := ⟨[], [(29, ⟨[(4, .one (.own 1)), (9, .one (.ro (.cons (.int .u64) (.cons .bool (.cons (.int .u8) (.cons (.int .u64) (.cons (.int .u64) (.cons .str (.cons (.ro (.cons .str (.cons .str .nil))) (.cons (.int .u8) (.cons (.int .u8) (.cons (.int .i64) (.cons (.int .u8) (.cons (.int .u8) (.cons (.int .u64) (.cons (.int .u64) .nil)))))))))))))))), (10, .one (.int .i64)), (11, .one (.int .i64))], [(1, .foldA (.cons (.map (.agg (.cons (.int .u8) (.cons .str (.cons .str (.cons (.int .u8) .nil))))) (.agg (.cons (.int .u8) (.cons .str (.cons (.ro (.cons .str (.cons .str .nil))) (.cons (.int .u8) (.cons (.int .u64) (.cons (.int .u8) (.cons (.int .i64) .nil))))))))) .nil) (.int .u64) 32 .nil)], 2⟩)]⟩) (fuel := n) (c := Try.f17.body.getD .skip) (rs := Try.f17.results.toList) tt_ok mix (FsOK.cons (ok6 n) (FsOK.cons (ok7 n) (FsOK.nil))) Try.func17 (by kernel_rfl) (by kernel_rfl) rfl (by kernel_rfl) rfl rfl (by kernel_rfl)
-- (*watchfire/board.Board).Get
def sig13 : Sig := ⟨(.cons (.one (.ptrA (.cons (.map (.agg (.cons (.int .u8) (.cons .str (.cons .str (.cons (.int .u8) .nil))))) (.agg (.cons (.int .u8) (.cons .str (.cons (.ro (.cons .str (.cons .str .nil))) (.cons (.int .u8) (.cons (.int .u64) (.cons (.int .u8) (.cons (.int .i64) .nil))))))))) .nil) (.int .u64) 32 .nil)) (.cons (.one (.c (.int .u8))) (.cons (.one (.c .str)) (.cons (.one (.c (.ro (.cons .str (.cons .str .nil))))) (.cons (.one (.c (.int .u8))) .nil))))), (.cons (.agg (.cons (.int .u8) (.cons .str (.cons (.ro (.cons .str (.cons .str .nil))) (.cons (.int .u8) (.cons (.int .u64) (.cons (.int .u8) (.cons (.int .i64) .nil)))))))) (.cons (.one (.c .bool)) .nil))⟩
noncomputable def F13 : Nat →
 Option
 (List
 ((UInt8 × List UInt8 × List UInt8 × UInt8) ×
 UInt8 × List UInt8 × List (List UInt8 × List UInt8) × UInt8 × UInt64 × UInt8 × Int64) ×
 List UInt64 × Unit) ×
 UInt8 × List UInt8 × List (List UInt8 × List UInt8) × UInt8 →
 Option
 (((UInt8 × List UInt8 × List (List UInt8 × List UInt8) × UInt8 × UInt64 × UInt8 × Int64) × Bool) ×
 Option
 (List
 ((UInt8 × List UInt8 × List UInt8 × UInt8) ×
 UInt8 × List UInt8 × List (List UInt8 × List UInt8) × UInt8 × UInt64 × UInt8 × Int64) ×
 List UInt64 × Unit)) := fun (n : Nat)
 (x :
 Option
 (List
 ((UInt8 × List UInt8 × List UInt8 × UInt8) ×
 UInt8 × List UInt8 × List (List UInt8 × List UInt8) × UInt8 × UInt64 × UInt8 × Int64) ×
 List UInt64 × Unit) ×
 UInt8 × List UInt8 × List (List UInt8 × List UInt8) × UInt8) =>
 oelim (Prod.fst x)
 (some
 ((((0 : UInt8), @List.nil UInt8, @List.nil (List UInt8 × List UInt8), (0 : UInt8), (0 : UInt64), (0 : UInt8),
 (0 : Int64)),
 false),
 none))
 fun
 (x_1 :
 List
 ((UInt8 × List UInt8 × List UInt8 × UInt8) ×
 UInt8 × List UInt8 × List (List UInt8 × List UInt8) × UInt8 × UInt64 × UInt8 × Int64) ×
 List UInt64 × Unit) =>
 obind (F21 n (Prod.fst (Prod.snd (Prod.snd (Prod.snd x))))) fun (x_2 : List UInt8 × Unit) =>
 obind
 (F22 n
 (Prod.fst
 (Prod.snd
 (Prod.snd
 (Option.getD
 (mget
 (VT.agg
 (CTs.cons (CT.int IntKind.u8)
 (CTs.cons CT.str (CTs.cons CT.str (CTs.cons (CT.int IntKind.u8) CTs.nil)))))
 (VT.agg
 (CTs.cons (CT.int IntKind.u8)
 (CTs.cons CT.str
 (CTs.cons (CT.ro (CTs.cons CT.str (CTs.cons CT.str CTs.nil)))
 (CTs.cons (CT.int IntKind.u8)
 (CTs.cons (CT.int IntKind.u64)
 (CTs.cons (CT.int IntKind.u8) (CTs.cons (CT.int IntKind.i64) CTs.nil))))))))
 (Prod.fst (Prod.snd x), Prod.fst (Prod.snd (Prod.snd x)), Prod.fst x_2,
 Prod.snd (Prod.snd (Prod.snd (Prod.snd x))))
 (Prod.fst x_1))
 ((0 : UInt8), @List.nil UInt8, @List.nil (List UInt8 × List UInt8), (0 : UInt8), (0 : UInt64),
 (0 : UInt8), (0 : Int64)))))))
 fun (x_3 : List (List UInt8 × List UInt8) × Unit) =>
 some
 (((Prod.fst
 (Option.getD
 (mget
 (VT.agg
 (CTs.cons (CT.int IntKind.u8)
 (CTs.cons CT.str (CTs.cons CT.str (CTs.cons (CT.int IntKind.u8) CTs.nil)))))
 (VT.agg
 (CTs.cons (CT.int IntKind.u8)
 (CTs.cons CT.str
 (CTs.cons (CT.ro (CTs.cons CT.str (CTs.cons CT.str CTs.nil)))
 (CTs.cons (CT.int IntKind.u8)
 (CTs.cons (CT.int IntKind.u64)
 (CTs.cons (CT.int IntKind.u8) (CTs.cons (CT.int IntKind.i64) CTs.nil))))))))
 (Prod.fst (Prod.snd x), Prod.fst (Prod.snd (Prod.snd x)), Prod.fst x_2,
 Prod.snd (Prod.snd (Prod.snd (Prod.snd x))))
 (Prod.fst x_1))
 ((0 : UInt8), @List.nil UInt8, @List.nil (List UInt8 × List UInt8), (0 : UInt8), (0 : UInt64),
 (0 : UInt8), (0 : Int64))),
 Prod.fst
 (Prod.snd
 (Option.getD
 (mget
 (VT.agg
 (CTs.cons (CT.int IntKind.u8)
 (CTs.cons CT.str (CTs.cons CT.str (CTs.cons (CT.int IntKind.u8) CTs.nil)))))
 (VT.agg
 (CTs.cons (CT.int IntKind.u8)
 (CTs.cons CT.str
 (CTs.cons (CT.ro (CTs.cons CT.str (CTs.cons CT.str CTs.nil)))
 (CTs.cons (CT.int IntKind.u8)
 (CTs.cons (CT.int IntKind.u64)
 (CTs.cons (CT.int IntKind.u8) (CTs.cons (CT.int IntKind.i64) CTs.nil))))))))
 (Prod.fst (Prod.snd x), Prod.fst (Prod.snd (Prod.snd x)), Prod.fst x_2,
 Prod.snd (Prod.snd (Prod.snd (Prod.snd x))))
 (Prod.fst x_1))
 ((0 : UInt8), @List.nil UInt8, @List.nil (List UInt8 × List UInt8), (0 : UInt8), (0 : UInt64),
 (0 : UInt8), (0 : Int64)))),
 Prod.fst x_3,
 Prod.fst
 (Prod.snd
 (Prod.snd
 (Prod.snd
 (Option.getD
 (mget
 (VT.agg
 (CTs.cons (CT.int IntKind.u8)
 (CTs.cons CT.str (CTs.cons CT.str (CTs.cons (CT.int IntKind.u8) CTs.nil)))))
 (VT.agg
 (CTs.cons (CT.int IntKind.u8)
 (CTs.cons CT.str
 (CTs.cons (CT.ro (CTs.cons CT.str (CTs.cons CT.str CTs.nil)))
 (CTs.cons (CT.int IntKind.u8)
 (CTs.cons (CT.int IntKind.u64)
 (CTs.cons (CT.int IntKind.u8) (CTs.cons (CT.int IntKind.i64) CTs.nil))))))))
 (Prod.fst (Prod.snd x), Prod.fst (Prod.snd (Prod.snd x)), Prod.fst x_2,
 Prod.snd (Prod.snd (Prod.snd (Prod.snd x))))
 (Prod.fst x_1))
 ((0 : UInt8), @List.nil UInt8, @List.nil (List UInt8 × List UInt8), (0 : UInt8), (0 : UInt64),
 (0 : UInt8), (0 : Int64)))))),
 Prod.fst
 (Prod.snd
 (Prod.snd
 (Prod.snd
 (Prod.snd
 (Option.getD
 (mget
 (VT.agg
 (CTs.cons (CT.int IntKind.u8)
 (CTs.cons CT.str (CTs.cons CT.str (CTs.cons (CT.int IntKind.u8) CTs.nil)))))
 (VT.agg
 (CTs.cons (CT.int IntKind.u8)
 (CTs.cons CT.str
 (CTs.cons (CT.ro (CTs.cons CT.str (CTs.cons CT.str CTs.nil)))
 (CTs.cons (CT.int IntKind.u8)
 (CTs.cons (CT.int IntKind.u64)
 (CTs.cons (CT.int IntKind.u8) (CTs.cons (CT.int IntKind.i64) CTs.nil))))))))
 (Prod.fst (Prod.snd x), Prod.fst (Prod.snd (Prod.snd x)), Prod.fst x_2,
 Prod.snd (Prod.snd (Prod.snd (Prod.snd x))))
 (Prod.fst x_1))
 ((0 : UInt8), @List.nil UInt8, @List.nil (List UInt8 × List UInt8), (0 : UInt8),
 (0 : UInt64), (0 : UInt8), (0 : Int64))))))),
 Prod.fst
 (Prod.snd
 (Prod.snd
 (Prod.snd
 (Prod.snd
 (Prod.snd
 (Option.getD
 (mget
 (VT.agg
 (CTs.cons (CT.int IntKind.u8)
 (CTs.cons CT.str (CTs.cons CT.str (CTs.cons (CT.int IntKind.u8) CTs.nil)))))
 (VT.agg
 (CTs.cons (CT.int IntKind.u8)
 (CTs.cons CT.str
 (CTs.cons (CT.ro (CTs.cons CT.str (CTs.cons CT.str CTs.nil)))
 (CTs.cons (CT.int IntKind.u8)
 (CTs.cons (CT.int IntKind.u64)
 (CTs.cons (CT.int IntKind.u8) (CTs.cons (CT.int IntKind.i64) CTs.nil))))))))
 (Prod.fst (Prod.snd x), Prod.fst (Prod.snd (Prod.snd x)), Prod.fst x_2,
 Prod.snd (Prod.snd (Prod.snd (Prod.snd x))))
 (Prod.fst x_1))
 ((0 : UInt8), @List.nil UInt8, @List.nil (List UInt8 × List UInt8), (0 : UInt8),
 (0 : UInt64), (0 : UInt8), (0 : Int64)))))))),
 Prod.snd
 (Prod.snd
 (Prod.snd
 (Prod.snd
 (Prod.snd
 (Prod.snd
 (Option.getD
 (mget
 (VT.agg
 (CTs.cons (CT.int IntKind.u8)
 (CTs.cons CT.str (CTs.cons CT.str (CTs.cons (CT.int IntKind.u8) CTs.nil)))))
 (VT.agg
 (CTs.cons (CT.int IntKind.u8)
 (CTs.cons CT.str
 (CTs.cons (CT.ro (CTs.cons CT.str (CTs.cons CT.str CTs.nil)))
 (CTs.cons (CT.int IntKind.u8)
 (CTs.cons (CT.int IntKind.u64)
 (CTs.cons (CT.int IntKind.u8) (CTs.cons (CT.int IntKind.i64) CTs.nil))))))))
 (Prod.fst (Prod.snd x), Prod.fst (Prod.snd (Prod.snd x)), Prod.fst x_2,
 Prod.snd (Prod.snd (Prod.snd (Prod.snd x))))
 (Prod.fst x_1))
 ((0 : UInt8), @List.nil UInt8, @List.nil (List UInt8 × List UInt8), (0 : UInt8),
 (0 : UInt64), (0 : UInt8), (0 : Int64))))))))),
 Option.isSome
 (mget
 (VT.agg
 (CTs.cons (CT.int IntKind.u8)
 (CTs.cons CT.str (CTs.cons CT.str (CTs.cons (CT.int IntKind.u8) CTs.nil)))))
 (VT.agg
 (CTs.cons (CT.int IntKind.u8)
 (CTs.cons CT.str
 (CTs.cons (CT.ro (CTs.cons CT.str (CTs.cons CT.str CTs.nil)))
 (CTs.cons (CT.int IntKind.u8)
 (CTs.cons (CT.int IntKind.u64)
 (CTs.cons (CT.int IntKind.u8) (CTs.cons (CT.int IntKind.i64) CTs.nil))))))))
 (Prod.fst (Prod.snd x), Prod.fst (Prod.snd (Prod.snd x)), Prod.fst x_2,
 Prod.snd (Prod.snd (Prod.snd (Prod.snd x))))
 (Prod.fst x_1))),
 some (Prod.fst x_1, Prod.fst (Prod.snd x_1), ()))
theorem ok13 (n : Nat) : FunOK Try.prog ⟨13, sig13, F13 n⟩ :=
 fun_ok (hints := ⟨[], []⟩) (fuel := n) (c := Try.f13.body.getD .skip) (rs := Try.f13.results.toList) tt_ok mix (FsOK.cons (ok21 n) (FsOK.cons (ok22 n) (FsOK.nil))) Try.func13 (by kernel_rfl) (by kernel_rfl) rfl (by kernel_rfl) rfl rfl (by kernel_rfl)
-- (*watchfire/board.Board).Lost
def sig15 : Sig := ⟨(.cons (.one (.ptrA (.cons (.map (.agg (.cons (.int .u8) (.cons .str (.cons .str (.cons (.int .u8) .nil))))) (.agg (.cons (.int .u8) (.cons .str (.cons (.ro (.cons .str (.cons .str .nil))) (.cons (.int .u8) (.cons (.int .u64) (.cons (.int .u8) (.cons (.int .i64) .nil))))))))) .nil) (.int .u64) 32 .nil)) (.cons (.one (.c (.int .u8))) .nil)), (.cons (.one (.c (.int .u64))) .nil)⟩
def F15 : Nat →
 Option
 (List
 ((UInt8 × List UInt8 × List UInt8 × UInt8) ×
 UInt8 × List UInt8 × List (List UInt8 × List UInt8) × UInt8 × UInt64 × UInt8 × Int64) ×
 List UInt64 × Unit) ×
 UInt8 →
 Option
 (UInt64 ×
 Option
 (List
 ((UInt8 × List UInt8 × List UInt8 × UInt8) ×
 UInt8 × List UInt8 × List (List UInt8 × List UInt8) × UInt8 × UInt64 × UInt8 × Int64) ×
 List UInt64 × Unit)) := fun (n : Nat)
 (x :
 Option
 (List
 ((UInt8 × List UInt8 × List UInt8 × UInt8) ×
 UInt8 × List UInt8 × List (List UInt8 × List UInt8) × UInt8 × UInt64 × UInt8 × Int64) ×
 List UInt64 × Unit) ×
 UInt8) =>
 oelim (Prod.fst x) (some ((0 : UInt64), none))
 fun
 (x_1 :
 List
 ((UInt8 × List UInt8 × List UInt8 × UInt8) ×
 UInt8 × List UInt8 × List (List UInt8 × List UInt8) × UInt8 × UInt64 × UInt8 × Int64) ×
 List UInt64 × Unit) =>
 oite (decide ((32 : UInt8) ≤ Prod.snd x))
 (some ((0 : UInt64), some (Prod.fst x_1, Prod.fst (Prod.snd x_1), ())))
 (oite (decide ((0 : Int) ≤ ↑(UInt8.toNat (Prod.snd x))))
 (oite (Nat.blt (Int.toNat ↑(UInt8.toNat (Prod.snd x))) (32 : Nat))
 (obind (Prod.fst (Prod.snd x_1))[Int.toNat ↑(UInt8.toNat (Prod.snd x)) * (1 : Nat)]? fun (x_2 : UInt64) =>
 some (x_2, some (Prod.fst x_1, Prod.fst (Prod.snd x_1), ())))
 none)
 none)
theorem ok15 (n : Nat) : FunOK Try.prog ⟨15, sig15, F15 n⟩ :=
 fun_ok (hints := ⟨[], []⟩) (fuel := n) (c := Try.f15.body.getD .skip) (rs := Try.f15.results.toList) tt_ok mix (FsOK.nil) Try.func15 (by kernel_rfl) (by kernel_rfl) rfl (by kernel_rfl) rfl rfl (by kernel_rfl)
-- watchfire/watchfirelaw23.Awake
def sig5 : Sig := ⟨.nil, (.cons (.one (.c .bool)) .nil)⟩
noncomputable def F5 : Nat → Unit → Option (Bool × Unit) := fun (n : Nat) (x : Unit) =>
 obind
 (F18 n
 ((0 : UInt8), (1 : UInt64), (0 : UInt64), [(120 : UInt8)], @List.nil (List UInt8 × List UInt8), (2 : UInt8),
 (0 : UInt8), (0 : Int64), (0 : UInt8)))
 fun
 (x_1 :
 (Bool ×
 UInt8 ×
 UInt64 ×
 UInt64 ×
 List UInt8 ×
 List (List UInt8 × List UInt8) × UInt8 × UInt8 × Int64 × UInt8 × UInt8 × UInt64 × UInt64) ×
 Unit) =>
 obind (F10 n ((0 : UInt8), (2 : UInt64), (4 : UInt64)))
 fun
 (x_2 :
 (Bool ×
 UInt8 ×
 UInt64 ×
 UInt64 ×
 List UInt8 ×
 List (List UInt8 × List UInt8) × UInt8 × UInt8 × Int64 × UInt8 × UInt8 × UInt64 × UInt64) ×
 Unit) =>
 obind
 (F17 n
 [((1 : UInt64), Prod.fst (Prod.fst x_1), Prod.fst (Prod.snd (Prod.fst x_1)),
 Prod.fst (Prod.snd (Prod.snd (Prod.fst x_1))), Prod.fst (Prod.snd (Prod.snd (Prod.snd (Prod.fst x_1)))),
 Prod.fst (Prod.snd (Prod.snd (Prod.snd (Prod.snd (Prod.fst x_1))))),
 Prod.fst (Prod.snd (Prod.snd (Prod.snd (Prod.snd (Prod.snd (Prod.fst x_1)))))),
 Prod.fst (Prod.snd (Prod.snd (Prod.snd (Prod.snd (Prod.snd (Prod.snd (Prod.fst x_1))))))),
 Prod.fst (Prod.snd (Prod.snd (Prod.snd (Prod.snd (Prod.snd (Prod.snd (Prod.snd (Prod.fst x_1)))))))),
 Prod.fst
 (Prod.snd (Prod.snd (Prod.snd (Prod.snd (Prod.snd (Prod.snd (Prod.snd (Prod.snd (Prod.fst x_1))))))))),
 Prod.fst
 (Prod.snd
 (Prod.snd
 (Prod.snd (Prod.snd (Prod.snd (Prod.snd (Prod.snd (Prod.snd (Prod.snd (Prod.fst x_1)))))))))),
 Prod.fst
 (Prod.snd
 (Prod.snd
 (Prod.snd
 (Prod.snd (Prod.snd (Prod.snd (Prod.snd (Prod.snd (Prod.snd (Prod.snd (Prod.fst x_1))))))))))),
 Prod.fst
 (Prod.snd
 (Prod.snd
 (Prod.snd
 (Prod.snd
 (Prod.snd (Prod.snd (Prod.snd (Prod.snd (Prod.snd (Prod.snd (Prod.snd (Prod.fst x_1)))))))))))),
 Prod.snd
 (Prod.snd
 (Prod.snd
 (Prod.snd
 (Prod.snd
 (Prod.snd
 (Prod.snd (Prod.snd (Prod.snd (Prod.snd (Prod.snd (Prod.snd (Prod.fst x_1))))))))))))),
 ((2 : UInt64), Prod.fst (Prod.fst x_2), Prod.fst (Prod.snd (Prod.fst x_2)),
 Prod.fst (Prod.snd (Prod.snd (Prod.fst x_2))), Prod.fst (Prod.snd (Prod.snd (Prod.snd (Prod.fst x_2)))),
 Prod.fst (Prod.snd (Prod.snd (Prod.snd (Prod.snd (Prod.fst x_2))))),
 Prod.fst (Prod.snd (Prod.snd (Prod.snd (Prod.snd (Prod.snd (Prod.fst x_2)))))),
 Prod.fst (Prod.snd (Prod.snd (Prod.snd (Prod.snd (Prod.snd (Prod.snd (Prod.fst x_2))))))),
 Prod.fst (Prod.snd (Prod.snd (Prod.snd (Prod.snd (Prod.snd (Prod.snd (Prod.snd (Prod.fst x_2)))))))),
 Prod.fst
 (Prod.snd (Prod.snd (Prod.snd (Prod.snd (Prod.snd (Prod.snd (Prod.snd (Prod.snd (Prod.fst x_2))))))))),
 Prod.fst
 (Prod.snd
 (Prod.snd
 (Prod.snd (Prod.snd (Prod.snd (Prod.snd (Prod.snd (Prod.snd (Prod.snd (Prod.fst x_2)))))))))),
 Prod.fst
 (Prod.snd
 (Prod.snd
 (Prod.snd
 (Prod.snd (Prod.snd (Prod.snd (Prod.snd (Prod.snd (Prod.snd (Prod.snd (Prod.fst x_2))))))))))),
 Prod.fst
 (Prod.snd
 (Prod.snd
 (Prod.snd
 (Prod.snd
 (Prod.snd (Prod.snd (Prod.snd (Prod.snd (Prod.snd (Prod.snd (Prod.snd (Prod.fst x_2)))))))))))),
 Prod.snd
 (Prod.snd
 (Prod.snd
 (Prod.snd
 (Prod.snd
 (Prod.snd
 (Prod.snd (Prod.snd (Prod.snd (Prod.snd (Prod.snd (Prod.snd (Prod.fst x_2)))))))))))))])
 fun
 (x_3 :
 (Option
 (List
 ((UInt8 × List UInt8 × List UInt8 × UInt8) ×
 UInt8 × List UInt8 × List (List UInt8 × List UInt8) × UInt8 × UInt64 × UInt8 × Int64) ×
 List UInt64 × Unit) ×
 Int64) ×
 Unit) =>
 obind
 (F13 n
 (Prod.fst (Prod.fst x_3), (0 : UInt8), [(120 : UInt8)], @List.nil (List UInt8 × List UInt8), (0 : UInt8)))
 fun
 (x_4 :
 ((UInt8 × List UInt8 × List (List UInt8 × List UInt8) × UInt8 × UInt64 × UInt8 × Int64) × Bool) ×
 Option
 (List
 ((UInt8 × List UInt8 × List UInt8 × UInt8) ×
 UInt8 × List UInt8 × List (List UInt8 × List UInt8) × UInt8 × UInt64 × UInt8 × Int64) ×
 List UInt64 × Unit)) =>
 oite (decide (Prod.snd (Prod.fst x_3) = (0 : Int64)))
 (oite (Prod.snd (Prod.fst x_4))
 (oite (decide (Prod.fst (Prod.snd (Prod.snd (Prod.snd (Prod.fst (Prod.fst x_4))))) = (3 : UInt8)))
 (oite
 (decide
 (Prod.fst (Prod.snd (Prod.snd (Prod.snd (Prod.snd (Prod.fst (Prod.fst x_4)))))) = (2 : UInt64)))
 (obind (F15 n (Prod.snd x_4, (0 : UInt8)))
 fun
 (x_5 :
 UInt64 ×
 Option
 (List
 ((UInt8 × List UInt8 × List UInt8 × UInt8) ×
 UInt8 ×
 List UInt8 × List (List UInt8 × List UInt8) × UInt8 × UInt64 × UInt8 × Int64) ×
 List UInt64 × Unit)) =>
 some (decide (Prod.fst x_5 = (3 : UInt64)), ()))
 (some (false, ())))
 (some (false, ())))
 (some (false, ())))
 (some (false, ()))
theorem ok5 (n : Nat) : FunOK Try.prog ⟨5, sig5, F5 n⟩ :=
 fun_ok (hints := ⟨[], []⟩) (fuel := n) (c := Try.f5.body.getD .skip) (rs := Try.f5.results.toList) tt_ok mix (FsOK.cons (ok18 n) (FsOK.cons (ok10 n) (FsOK.cons (ok17 n) (FsOK.cons (ok13 n) (FsOK.cons (ok15 n) (FsOK.nil)))))) Try.func5 (by kernel_rfl) (by kernel_rfl) rfl (by kernel_rfl) rfl rfl (by kernel_rfl)
-- (watchfire/watchfirelaw04.Small).Item
def sig8 : Sig := ⟨(.cons (.agg (.cons .bool (.cons (.int .u8) (.cons (.int .u8) (.cons (.int .u8) (.cons (.int .u16) (.cons (.int .u16) (.cons (.int .u16) (.cons (.int .u8) (.cons (.int .u8) (.cons (.int .u8) (.cons .bool .nil)))))))))))) .nil), (.cons (.agg (.cons .bool (.cons (.int .u8) (.cons (.int .u64) (.cons (.int .u64) (.cons .str (.cons (.ro (.cons .str (.cons .str .nil))) (.cons (.int .u8) (.cons (.int .u8) (.cons (.int .i64) (.cons (.int .u8) (.cons (.int .u8) (.cons (.int .u64) (.cons (.int .u64) .nil)))))))))))))) .nil)⟩
def F8_L1021 : Nat →
 Arr
 [PT.int IntKind.u8, PT.int IntKind.u8, PT.bool, PT.int IntKind.u8, PT.int IntKind.u8, PT.int IntKind.u8,
 PT.int IntKind.u16, PT.int IntKind.u16, PT.int IntKind.u16, PT.int IntKind.u8, PT.int IntKind.u8,
 PT.int IntKind.u8, PT.bool, PT.bool, PT.int IntKind.u8, PT.int IntKind.u64, PT.int IntKind.u64, PT.bytes,
 PT.int IntKind.u8, PT.int IntKind.u8, PT.int IntKind.i64, PT.int IntKind.u8, PT.int IntKind.u8,
 PT.int IntKind.u64, PT.int IntKind.u64, PT.int IntKind.u8, PT.int IntKind.u64, PT.int IntKind.u64, PT.bytes,
 PT.int IntKind.u8, PT.int IntKind.u8, PT.int IntKind.i64, PT.int IntKind.u8,
 PT.list (CTs.cons CT.str (CTs.cons CT.str CTs.nil))]
 (Option
 ((Bool ×
 UInt8 ×
 UInt64 ×
 UInt64 ×
 List UInt8 ×
 List (List UInt8 × List UInt8) × UInt8 × UInt8 × Int64 × UInt8 × UInt8 × UInt64 × UInt64) ×
 Unit)) →
 UInt8 →
 UInt8 →
 Bool →
 UInt8 →
 UInt8 →
 UInt8 →
 UInt16 →
 UInt16 →
 UInt16 →
 UInt8 →
 UInt8 →
 UInt8 →
 Bool →
 Bool →
 UInt8 →
 UInt64 →
 UInt64 →
 List UInt8 →
 UInt8 →
 UInt8 →
 Int64 →
 UInt8 →
 UInt8 →
 UInt64 →
 UInt64 →
 UInt8 →
 UInt64 →
 UInt64 →
 List UInt8 →
 UInt8 →
 UInt8 →
 Int64 →
 UInt8 →
 List (List UInt8 × List UInt8) →
 Option
 ((Bool ×
 UInt8 ×
 UInt64 ×
 UInt64 ×
 List UInt8 ×
 List (List UInt8 × List UInt8) ×
 UInt8 ×
 UInt8 ×
 Int64 ×
 UInt8 ×
 UInt8 ×
 UInt64 × UInt64) ×
 Unit) := fun (n : Nat)
 (rec :
 Arr
 [PT.int IntKind.u8, PT.int IntKind.u8, PT.bool, PT.int IntKind.u8, PT.int IntKind.u8, PT.int IntKind.u8,
 PT.int IntKind.u16, PT.int IntKind.u16, PT.int IntKind.u16, PT.int IntKind.u8, PT.int IntKind.u8,
 PT.int IntKind.u8, PT.bool, PT.bool, PT.int IntKind.u8, PT.int IntKind.u64, PT.int IntKind.u64, PT.bytes,
 PT.int IntKind.u8, PT.int IntKind.u8, PT.int IntKind.i64, PT.int IntKind.u8, PT.int IntKind.u8,
 PT.int IntKind.u64, PT.int IntKind.u64, PT.int IntKind.u8, PT.int IntKind.u64, PT.int IntKind.u64, PT.bytes,
 PT.int IntKind.u8, PT.int IntKind.u8, PT.int IntKind.i64, PT.int IntKind.u8,
 PT.list (CTs.cons CT.str (CTs.cons CT.str CTs.nil))]
 (Option
 ((Bool ×
 UInt8 ×
 UInt64 ×
 UInt64 ×
 List UInt8 ×
 List (List UInt8 × List UInt8) × UInt8 × UInt8 × Int64 × UInt8 × UInt8 × UInt64 × UInt64) ×
 Unit)))
 (t t_1 : UInt8) (s0_2 : Bool) (s1_2 s2_2 s3_2 : UInt8) (s4_2 s5_2 s6_2 : UInt16) (s7_2 s8_2 s9_2 : UInt8)
 (s10_2 t0_2 : Bool) (t1_2 : UInt8) (t2_2 t3_2 : UInt64) (t4_2 : List UInt8) (t6_2 t7_2 : UInt8) (t8_2 : Int64)
 (t9_2 t10_2 : UInt8) (t11_2 t12_2 : UInt64) (v0_2 : UInt8) (v1_2 v2_2 : UInt64) (v3_2 : List UInt8)
 (v5_2 v6_2 : UInt8) (v7_2 : Int64) (v8_2 : UInt8) (vl : List (List UInt8 × List UInt8)) =>
 oite (decide (t_1 < t))
 (oite
 (Nat.ble
 (List.length vl + List.length [([(97 : UInt8) + t_1], [(48 : UInt8) + s8_2 / (4 : UInt8) % (10 : UInt8)])])
 (4294967296 : Nat))
 (rec t (t_1 + (1 : UInt8)) s0_2 s1_2 s2_2 s3_2 s4_2 s5_2 s6_2 s7_2 s8_2 s9_2 s10_2 t0_2 t1_2 t2_2 t3_2 t4_2 t6_2
 t7_2 t8_2 t9_2 t10_2 t11_2 t12_2 v0_2 v1_2 v2_2 v3_2 v5_2 v6_2 v7_2 v8_2
 (vl ++ [([(97 : UInt8) + t_1], [(48 : UInt8) + s8_2 / (4 : UInt8) % (10 : UInt8)])]))
 none)
 (obind (F18 n (v0_2, v1_2, v2_2, v3_2, vl, v5_2, v6_2, v7_2, v8_2))
 fun
 (x_2 :
 (Bool ×
 UInt8 ×
 UInt64 ×
 UInt64 ×
 List UInt8 ×
 List (List UInt8 × List UInt8) × UInt8 × UInt8 × Int64 × UInt8 × UInt8 × UInt64 × UInt64) ×
 Unit) =>
 some
 ((Prod.fst (Prod.fst x_2), Prod.fst (Prod.snd (Prod.fst x_2)), Prod.fst (Prod.snd (Prod.snd (Prod.fst x_2))),
 Prod.fst (Prod.snd (Prod.snd (Prod.snd (Prod.fst x_2)))),
 Prod.fst (Prod.snd (Prod.snd (Prod.snd (Prod.snd (Prod.fst x_2))))),
 Prod.fst (Prod.snd (Prod.snd (Prod.snd (Prod.snd (Prod.snd (Prod.fst x_2)))))),
 Prod.fst (Prod.snd (Prod.snd (Prod.snd (Prod.snd (Prod.snd (Prod.snd (Prod.fst x_2))))))),
 Prod.fst (Prod.snd (Prod.snd (Prod.snd (Prod.snd (Prod.snd (Prod.snd (Prod.snd (Prod.fst x_2)))))))),
 Prod.fst
 (Prod.snd (Prod.snd (Prod.snd (Prod.snd (Prod.snd (Prod.snd (Prod.snd (Prod.snd (Prod.fst x_2))))))))),
 Prod.fst
 (Prod.snd
 (Prod.snd (Prod.snd (Prod.snd (Prod.snd (Prod.snd (Prod.snd (Prod.snd (Prod.snd (Prod.fst x_2)))))))))),
 Prod.fst
 (Prod.snd
 (Prod.snd
 (Prod.snd
 (Prod.snd (Prod.snd (Prod.snd (Prod.snd (Prod.snd (Prod.snd (Prod.snd (Prod.fst x_2))))))))))),
 Prod.fst
 (Prod.snd
 (Prod.snd
 (Prod.snd
 (Prod.snd
 (Prod.snd (Prod.snd (Prod.snd (Prod.snd (Prod.snd (Prod.snd (Prod.snd (Prod.fst x_2)))))))))))),
 Prod.snd
 (Prod.snd
 (Prod.snd
 (Prod.snd
 (Prod.snd
 (Prod.snd (Prod.snd (Prod.snd (Prod.snd (Prod.snd (Prod.snd (Prod.snd (Prod.fst x_2))))))))))))),
 ()))
def F8_R1021 : Nat →
 Nat →
 PT.T (PT.int IntKind.u8) →
 UInt8 →
 Bool →
 UInt8 →
 UInt8 →
 UInt8 →
 UInt16 →
 UInt16 →
 UInt16 →
 UInt8 →
 UInt8 →
 UInt8 →
 Bool →
 Bool →
 UInt8 →
 UInt64 →
 UInt64 →
 List UInt8 →
 UInt8 →
 UInt8 →
 Int64 →
 UInt8 →
 UInt8 →
 UInt64 →
 UInt64 →
 UInt8 →
 UInt64 →
 UInt64 →
 List UInt8 →
 UInt8 →
 UInt8 →
 Int64 →
 UInt8 →
 List (List UInt8 × List UInt8) →
 Option
 ((Bool ×
 UInt8 ×
 UInt64 ×
 UInt64 ×
 List UInt8 ×
 List (List UInt8 × List UInt8) ×
 UInt8 ×
 UInt8 ×
 Int64 ×
 UInt8 ×
 UInt8 ×
 UInt64 × UInt64) ×
 Unit) := fun (n : Nat) =>
 ofixA (1021 : Nat)
 [PT.int IntKind.u8, PT.int IntKind.u8, PT.bool, PT.int IntKind.u8, PT.int IntKind.u8, PT.int IntKind.u8,
 PT.int IntKind.u16, PT.int IntKind.u16, PT.int IntKind.u16, PT.int IntKind.u8, PT.int IntKind.u8,
 PT.int IntKind.u8, PT.bool, PT.bool, PT.int IntKind.u8, PT.int IntKind.u64, PT.int IntKind.u64, PT.bytes,
 PT.int IntKind.u8, PT.int IntKind.u8, PT.int IntKind.i64, PT.int IntKind.u8, PT.int IntKind.u8,
 PT.int IntKind.u64, PT.int IntKind.u64, PT.int IntKind.u8, PT.int IntKind.u64, PT.int IntKind.u64, PT.bytes,
 PT.int IntKind.u8, PT.int IntKind.u8, PT.int IntKind.i64, PT.int IntKind.u8,
 PT.list (CTs.cons CT.str (CTs.cons CT.str CTs.nil))]
 (F8_L1021 n)
def F8_J127 : Nat →
 Bool →
 UInt8 →
 UInt8 →
 UInt8 →
 UInt16 →
 UInt16 →
 UInt16 →
 UInt8 →
 UInt8 →
 UInt8 →
 Bool →
 Bool →
 UInt8 →
 UInt64 →
 UInt64 →
 List UInt8 →
 UInt8 →
 UInt8 →
 Int64 →
 UInt8 →
 UInt8 →
 UInt64 →
 UInt64 →
 UInt8 →
 UInt64 →
 UInt64 →
 List UInt8 →
 UInt8 →
 UInt8 →
 Int64 →
 UInt8 →
 Option
 ((Bool ×
 UInt8 ×
 UInt64 ×
 UInt64 ×
 List UInt8 ×
 List (List UInt8 × List UInt8) ×
 UInt8 ×
 UInt8 ×
 Int64 ×
 UInt8 × UInt8 × UInt64 × UInt64) ×
 Unit) := fun (n : Nat) (s0_1 : Bool) (s1_1 s2_1 s3_1 : UInt8) (s4_1 s5_1 s6_1 : UInt16) (s7_1 s8_1 s9_1 : UInt8)
 (s10_1 t0_1 : Bool) (t1_1 : UInt8) (t2_1 t3_1 : UInt64) (t4_1 : List UInt8) (t6_1 t7_1 : UInt8) (t8_1 : Int64)
 (t9_1 t10_1 : UInt8) (t11_1 t12_1 : UInt64) (v0_1 : UInt8) (v1_1 v2_1 : UInt64) (v3_1 : List UInt8)
 (v5_1 v6_1 : UInt8) (v7_1 : Int64) (v8_1 : UInt8) =>
 F8_R1021 n n (s8_1 % (4 : UInt8)) (0 : UInt8) s0_1 s1_1 s2_1 s3_1 s4_1 s5_1 s6_1 s7_1 s8_1 s9_1 s10_1 t0_1 t1_1 t2_1
 t3_1 t4_1 t6_1 t7_1 t8_1 t9_1 t10_1 t11_1 t12_1 v0_1 v1_1 v2_1 v3_1 v5_1 v6_1 v7_1 v8_1 []
def F8_J63 : Nat →
 Bool →
 UInt8 →
 UInt8 →
 UInt8 →
 UInt16 →
 UInt16 →
 UInt16 →
 UInt8 →
 UInt8 →
 UInt8 →
 Bool →
 Bool →
 UInt8 →
 UInt64 →
 UInt64 →
 List UInt8 →
 UInt8 →
 UInt8 →
 Int64 →
 UInt8 →
 UInt8 →
 UInt64 →
 UInt64 →
 UInt8 →
 UInt64 →
 UInt64 →
 List UInt8 →
 UInt8 →
 UInt8 →
 Int64 →
 UInt8 →
 Option
 ((Bool ×
 UInt8 ×
 UInt64 ×
 UInt64 ×
 List UInt8 ×
 List (List UInt8 × List UInt8) ×
 UInt8 ×
 UInt8 ×
 Int64 ×
 UInt8 × UInt8 × UInt64 × UInt64) ×
 Unit) := fun (n : Nat) (s0 : Bool) (s1 s2 s3 : UInt8) (s4 s5 s6 : UInt16) (s7 s8 s9 : UInt8) (s10 t0 : Bool) (t1 : UInt8)
 (t2 t3 : UInt64) (t4 : List UInt8) (t6 t7 : UInt8) (t8 : Int64) (t9 t10 : UInt8) (t11 t12 : UInt64) (v0 : UInt8)
 (v1 v2 : UInt64) (v3 : List UInt8) (v5 v6 : UInt8) (v7 : Int64) (v8 : UInt8) =>
 ojoinA (127 : Nat)
 [PT.bool, PT.int IntKind.u8, PT.int IntKind.u8, PT.int IntKind.u8, PT.int IntKind.u16, PT.int IntKind.u16,
 PT.int IntKind.u16, PT.int IntKind.u8, PT.int IntKind.u8, PT.int IntKind.u8, PT.bool, PT.bool, PT.int IntKind.u8,
 PT.int IntKind.u64, PT.int IntKind.u64, PT.bytes, PT.int IntKind.u8, PT.int IntKind.u8, PT.int IntKind.i64,
 PT.int IntKind.u8, PT.int IntKind.u8, PT.int IntKind.u64, PT.int IntKind.u64, PT.int IntKind.u8,
 PT.int IntKind.u64, PT.int IntKind.u64, PT.bytes, PT.int IntKind.u8, PT.int IntKind.u8, PT.int IntKind.i64,
 PT.int IntKind.u8]
 (fun
 (J :
 Arr
 [PT.bool, PT.int IntKind.u8, PT.int IntKind.u8, PT.int IntKind.u8, PT.int IntKind.u16, PT.int IntKind.u16,
 PT.int IntKind.u16, PT.int IntKind.u8, PT.int IntKind.u8, PT.int IntKind.u8, PT.bool, PT.bool,
 PT.int IntKind.u8, PT.int IntKind.u64, PT.int IntKind.u64, PT.bytes, PT.int IntKind.u8, PT.int IntKind.u8,
 PT.int IntKind.i64, PT.int IntKind.u8, PT.int IntKind.u8, PT.int IntKind.u64, PT.int IntKind.u64,
 PT.int IntKind.u8, PT.int IntKind.u64, PT.int IntKind.u64, PT.bytes, PT.int IntKind.u8, PT.int IntKind.u8,
 PT.int IntKind.i64, PT.int IntKind.u8]
 (Option
 ((Bool ×
 UInt8 ×
 UInt64 ×
 UInt64 ×
 List UInt8 ×
 List (List UInt8 × List UInt8) × UInt8 × UInt8 × Int64 × UInt8 × UInt8 × UInt64 × UInt64) ×
 Unit))) =>
 oite (decide (s3 % (8 : UInt8) = (7 : UInt8)))
 (J s0 s1 s2 s3 s4 s5 s6 s7 s8 s9 s10 t0 t1 t2 t3 t4 t6 t7 t8 t9 t10 t11 t12 v0 v1 v2
 [(111 : UInt8), (119 : UInt8), (110 : UInt8), (46 : UInt8), (120 : UInt8)] v5 v6 v7
 ((1 : UInt8) + s3 / (8 : UInt8) % (2 : UInt8)))
 (J s0 s1 s2 s3 s4 s5 s6 s7 s8 s9 s10 t0 t1 t2 t3 t4 t6 t7 t8 t9 t10 t11 t12 v0 v1 v2 v3 v5 v6 v7 v8))
 (F8_J127 n)
def F8 : Nat →
 Bool × UInt8 × UInt8 × UInt8 × UInt16 × UInt16 × UInt16 × UInt8 × UInt8 × UInt8 × Bool →
 Option
 ((Bool ×
 UInt8 ×
 UInt64 ×
 UInt64 ×
 List UInt8 × List (List UInt8 × List UInt8) × UInt8 × UInt8 × Int64 × UInt8 × UInt8 × UInt64 × UInt64) ×
 Unit) := fun (n : Nat) (x : Bool × UInt8 × UInt8 × UInt8 × UInt16 × UInt16 × UInt16 × UInt8 × UInt8 × UInt8 × Bool) =>
 oite (Prod.fst x)
 (obind
 (F10 n
 (Prod.fst (Prod.snd x) % (32 : UInt8),
 (1 : UInt64) + UInt64.ofInt ↑(UInt16.toNat (Prod.fst (Prod.snd (Prod.snd (Prod.snd (Prod.snd x)))))),
 (1 : UInt64) + UInt64.ofInt ↑(UInt16.toNat (Prod.fst (Prod.snd (Prod.snd (Prod.snd (Prod.snd x)))))) +
 UInt64.ofInt ↑(UInt16.toNat (Prod.fst (Prod.snd (Prod.snd (Prod.snd (Prod.snd (Prod.snd x)))))))))
 fun
 (x_1 :
 (Bool ×
 UInt8 ×
 UInt64 ×
 UInt64 ×
 List UInt8 ×
 List (List UInt8 × List UInt8) × UInt8 × UInt8 × Int64 × UInt8 × UInt8 × UInt64 × UInt64) ×
 Unit) =>
 some
 ((Prod.fst (Prod.fst x_1), Prod.fst (Prod.snd (Prod.fst x_1)), Prod.fst (Prod.snd (Prod.snd (Prod.fst x_1))),
 Prod.fst (Prod.snd (Prod.snd (Prod.snd (Prod.fst x_1)))),
 Prod.fst (Prod.snd (Prod.snd (Prod.snd (Prod.snd (Prod.fst x_1))))),
 Prod.fst (Prod.snd (Prod.snd (Prod.snd (Prod.snd (Prod.snd (Prod.fst x_1)))))),
 Prod.fst (Prod.snd (Prod.snd (Prod.snd (Prod.snd (Prod.snd (Prod.snd (Prod.fst x_1))))))),
 Prod.fst (Prod.snd (Prod.snd (Prod.snd (Prod.snd (Prod.snd (Prod.snd (Prod.snd (Prod.fst x_1)))))))),
 Prod.fst
 (Prod.snd (Prod.snd (Prod.snd (Prod.snd (Prod.snd (Prod.snd (Prod.snd (Prod.snd (Prod.fst x_1))))))))),
 Prod.fst
 (Prod.snd
 (Prod.snd (Prod.snd (Prod.snd (Prod.snd (Prod.snd (Prod.snd (Prod.snd (Prod.snd (Prod.fst x_1)))))))))),
 Prod.fst
 (Prod.snd
 (Prod.snd
 (Prod.snd
 (Prod.snd (Prod.snd (Prod.snd (Prod.snd (Prod.snd (Prod.snd (Prod.snd (Prod.fst x_1))))))))))),
 Prod.fst
 (Prod.snd
 (Prod.snd
 (Prod.snd
 (Prod.snd
 (Prod.snd (Prod.snd (Prod.snd (Prod.snd (Prod.snd (Prod.snd (Prod.snd (Prod.fst x_1)))))))))))),
 Prod.snd
 (Prod.snd
 (Prod.snd
 (Prod.snd
 (Prod.snd
 (Prod.snd (Prod.snd (Prod.snd (Prod.snd (Prod.snd (Prod.snd (Prod.snd (Prod.fst x_1))))))))))))),
 ()))
 (oite
 (decide
 ((0 : Int) ≤
 ↑(UInt8.toNat
 (Prod.fst (Prod.snd (Prod.snd (Prod.snd (Prod.snd (Prod.snd (Prod.snd (Prod.snd x))))))) %
 (4 : UInt8)))) &&
 Nat.blt
 (Int.toNat
 ↑(UInt8.toNat
 (Prod.fst (Prod.snd (Prod.snd (Prod.snd (Prod.snd (Prod.snd (Prod.snd (Prod.snd x))))))) %
 (4 : UInt8))))
 (List.length
 [[(104 : UInt8), (111 : UInt8), (116 : UInt8)], [(99 : UInt8), (111 : UInt8), (108 : UInt8), (100 : UInt8)],
 [(100 : UInt8), (105 : UInt8), (115 : UInt8), (107 : UInt8), (46 : UInt8), (102 : UInt8), (117 : UInt8),
 (108 : UInt8), (108 : UInt8)],
 [(120 : UInt8)]]))
 (obind
 [[(104 : UInt8), (111 : UInt8), (116 : UInt8)], [(99 : UInt8), (111 : UInt8), (108 : UInt8), (100 : UInt8)],
 [(100 : UInt8), (105 : UInt8), (115 : UInt8), (107 : UInt8), (46 : UInt8), (102 : UInt8), (117 : UInt8),
 (108 : UInt8), (108 : UInt8)],
 [(120 :
 UInt8)]][Int.toNat
 ↑(UInt8.toNat
 (Prod.fst (Prod.snd (Prod.snd (Prod.snd (Prod.snd (Prod.snd (Prod.snd (Prod.snd x))))))) %
 (4 : UInt8)))]?
 fun (x_1 : List UInt8) =>
 ojoinA (63 : Nat)
 [PT.bool, PT.int IntKind.u8, PT.int IntKind.u8, PT.int IntKind.u8, PT.int IntKind.u16, PT.int IntKind.u16,
 PT.int IntKind.u16, PT.int IntKind.u8, PT.int IntKind.u8, PT.int IntKind.u8, PT.bool, PT.bool,
 PT.int IntKind.u8, PT.int IntKind.u64, PT.int IntKind.u64, PT.bytes, PT.int IntKind.u8, PT.int IntKind.u8,
 PT.int IntKind.i64, PT.int IntKind.u8, PT.int IntKind.u8, PT.int IntKind.u64, PT.int IntKind.u64,
 PT.int IntKind.u8, PT.int IntKind.u64, PT.int IntKind.u64, PT.bytes, PT.int IntKind.u8, PT.int IntKind.u8,
 PT.int IntKind.i64, PT.int IntKind.u8]
 (fun
 (J :
 Arr
 [PT.bool, PT.int IntKind.u8, PT.int IntKind.u8, PT.int IntKind.u8, PT.int IntKind.u16,
 PT.int IntKind.u16, PT.int IntKind.u16, PT.int IntKind.u8, PT.int IntKind.u8, PT.int IntKind.u8,
 PT.bool, PT.bool, PT.int IntKind.u8, PT.int IntKind.u64, PT.int IntKind.u64, PT.bytes,
 PT.int IntKind.u8, PT.int IntKind.u8, PT.int IntKind.i64, PT.int IntKind.u8, PT.int IntKind.u8,
 PT.int IntKind.u64, PT.int IntKind.u64, PT.int IntKind.u8, PT.int IntKind.u64, PT.int IntKind.u64,
 PT.bytes, PT.int IntKind.u8, PT.int IntKind.u8, PT.int IntKind.i64, PT.int IntKind.u8]
 (Option
 ((Bool ×
 UInt8 ×
 UInt64 ×
 UInt64 ×
 List UInt8 ×
 List (List UInt8 × List UInt8) ×
 UInt8 × UInt8 × Int64 × UInt8 × UInt8 × UInt64 × UInt64) ×
 Unit))) =>
 oite
 (Prod.snd
 (Prod.snd (Prod.snd (Prod.snd (Prod.snd (Prod.snd (Prod.snd (Prod.snd (Prod.snd (Prod.snd x))))))))))
 (J (Prod.fst x) (Prod.fst (Prod.snd x)) (Prod.fst (Prod.snd (Prod.snd x)))
 (Prod.fst (Prod.snd (Prod.snd (Prod.snd x)))) (Prod.fst (Prod.snd (Prod.snd (Prod.snd (Prod.snd x)))))
 (Prod.fst (Prod.snd (Prod.snd (Prod.snd (Prod.snd (Prod.snd x))))))
 (Prod.fst (Prod.snd (Prod.snd (Prod.snd (Prod.snd (Prod.snd (Prod.snd x)))))))
 (Prod.fst (Prod.snd (Prod.snd (Prod.snd (Prod.snd (Prod.snd (Prod.snd (Prod.snd x))))))))
 (Prod.fst (Prod.snd (Prod.snd (Prod.snd (Prod.snd (Prod.snd (Prod.snd (Prod.snd (Prod.snd x)))))))))
 (Prod.fst
 (Prod.snd (Prod.snd (Prod.snd (Prod.snd (Prod.snd (Prod.snd (Prod.snd (Prod.snd (Prod.snd x))))))))))
 (Prod.snd
 (Prod.snd (Prod.snd (Prod.snd (Prod.snd (Prod.snd (Prod.snd (Prod.snd (Prod.snd (Prod.snd x))))))))))
 false (0 : UInt8) (0 : UInt64) (0 : UInt64) [] (0 : UInt8) (0 : UInt8) (0 : Int64) (0 : UInt8)
 (0 : UInt8) (0 : UInt64) (0 : UInt64) (Prod.fst (Prod.snd x) % (32 : UInt8))
 ((1 : UInt64) + UInt64.ofInt ↑(UInt16.toNat (Prod.fst (Prod.snd (Prod.snd (Prod.snd (Prod.snd x)))))))
 (UInt64.ofInt
 ↑(UInt16.toNat (Prod.fst (Prod.snd (Prod.snd (Prod.snd (Prod.snd (Prod.snd (Prod.snd x)))))))))
 x_1 (2 : UInt8) (Prod.fst (Prod.snd (Prod.snd x)) % (8 : UInt8))
 (Int64.ofInt
 ↑(UInt8.toNat
 (Prod.fst
 (Prod.snd
 (Prod.snd
 (Prod.snd (Prod.snd (Prod.snd (Prod.snd (Prod.snd (Prod.snd (Prod.snd x))))))))))) -
 (100 : Int64))
 (0 : UInt8))
 (J (Prod.fst x) (Prod.fst (Prod.snd x)) (Prod.fst (Prod.snd (Prod.snd x)))
 (Prod.fst (Prod.snd (Prod.snd (Prod.snd x)))) (Prod.fst (Prod.snd (Prod.snd (Prod.snd (Prod.snd x)))))
 (Prod.fst (Prod.snd (Prod.snd (Prod.snd (Prod.snd (Prod.snd x))))))
 (Prod.fst (Prod.snd (Prod.snd (Prod.snd (Prod.snd (Prod.snd (Prod.snd x)))))))
 (Prod.fst (Prod.snd (Prod.snd (Prod.snd (Prod.snd (Prod.snd (Prod.snd (Prod.snd x))))))))
 (Prod.fst (Prod.snd (Prod.snd (Prod.snd (Prod.snd (Prod.snd (Prod.snd (Prod.snd (Prod.snd x)))))))))
 (Prod.fst
 (Prod.snd (Prod.snd (Prod.snd (Prod.snd (Prod.snd (Prod.snd (Prod.snd (Prod.snd (Prod.snd x))))))))))
 (Prod.snd
 (Prod.snd (Prod.snd (Prod.snd (Prod.snd (Prod.snd (Prod.snd (Prod.snd (Prod.snd (Prod.snd x))))))))))
 false (0 : UInt8) (0 : UInt64) (0 : UInt64) [] (0 : UInt8) (0 : UInt8) (0 : Int64) (0 : UInt8)
 (0 : UInt8) (0 : UInt64) (0 : UInt64) (Prod.fst (Prod.snd x) % (32 : UInt8))
 ((1 : UInt64) + UInt64.ofInt ↑(UInt16.toNat (Prod.fst (Prod.snd (Prod.snd (Prod.snd (Prod.snd x)))))))
 (UInt64.ofInt
 ↑(UInt16.toNat (Prod.fst (Prod.snd (Prod.snd (Prod.snd (Prod.snd (Prod.snd (Prod.snd x)))))))))
 x_1 (0 : UInt8) (Prod.fst (Prod.snd (Prod.snd x)) % (8 : UInt8))
 (Int64.ofInt
 ↑(UInt8.toNat
 (Prod.fst
 (Prod.snd
 (Prod.snd
 (Prod.snd (Prod.snd (Prod.snd (Prod.snd (Prod.snd (Prod.snd (Prod.snd x))))))))))) -
 (100 : Int64))
 (0 : UInt8)))
 (F8_J63 n))
 none)
theorem F8_R1021_s (n : Nat) (m_ : Nat) : F8_R1021 n (m_ + 1) = F8_L1021 n (F8_R1021 n m_) := rfl
theorem ok8 (n : Nat) : FunOK Try.prog ⟨8, sig8, F8 n⟩ :=
 fun_ok (hints := ⟨[(63, ⟨[(1, .one (.own 1)), (2, .one (.own 2)), (5, .one (.own 3))], [(1, .cells [.bool, .int .u8, .int .u8, .int .u8, .int .u16, .int .u16, .int .u16, .int .u8, .int .u8, .int .u8, .bool]), (2, .cells [.bool, .int .u8, .int .u64, .int .u64, .str, .nils, .int .u8, .int .u8, .int .i64, .int .u8, .int .u8, .int .u64, .int .u64]), (3, .cells [.int .u8, .int .u64, .int .u64, .str, .nils, .int .u8, .int .u8, .int .i64, .int .u8])], 4⟩), (127, ⟨[(1, .one (.own 1)), (2, .one (.own 2)), (5, .one (.own 3))], [(1, .cells [.bool, .int .u8, .int .u8, .int .u8, .int .u16, .int .u16, .int .u16, .int .u8, .int .u8, .int .u8, .bool]), (2, .cells [.bool, .int .u8, .int .u64, .int .u64, .str, .nils, .int .u8, .int .u8, .int .i64, .int .u8, .int .u8, .int .u64, .int .u64]), (3, .cells [.int .u8, .int .u64, .int .u64, .str, .nils, .int .u8, .int .u8, .int .i64, .int .u8])], 4⟩)], [(1021, ⟨[(1, .one (.own 1)), (2, .one (.own 2)), (5, .one (.own 3)), (59, .one (.int .u8)), (60, .one (.int .u8))], [(1, .cells [.bool, .int .u8, .int .u8, .int .u8, .int .u16, .int .u16, .int .u16, .int .u8, .int .u8, .int .u8, .bool]), (2, .cells [.bool, .int .u8, .int .u64, .int .u64, .str, .nils, .int .u8, .int .u8, .int .i64, .int .u8, .int .u8, .int .u64, .int .u64]), (3, .cells [.int .u8, .int .u64, .int .u64, .str, .own 4, .int .u8, .int .u8, .int .i64, .int .u8]), (4, .row (.cons .str (.cons .str .nil)))], 5⟩)]⟩) (fuel := n) (c := Try.f8.body.getD .skip) (rs := Try.f8.results.toList) tt_ok mix (FsOK.cons (ok10 n) (FsOK.cons (ok18 n) (FsOK.nil))) Try.func8 (by kernel_rfl) (by kernel_rfl) rfl (by kernel_rfl) rfl rfl (by kernel_rfl)
-- watchfire/watchfireref01.Same
def sig16 : Sig := ⟨(.cons (.one (.c (.ro (.cons .str (.cons .str .nil))))) (.cons (.one (.c (.ro (.cons .str (.cons .str .nil))))) .nil)), (.cons (.one (.c .bool)) .nil)⟩
def F16_L29 : Arr
 [PT.list (CTs.cons CT.str (CTs.cons CT.str CTs.nil)), PT.list (CTs.cons CT.str (CTs.cons CT.str CTs.nil)),
 PT.int IntKind.i64]
 (Option (Bool × Unit)) →
 List (List UInt8 × List UInt8) → List (List UInt8 × List UInt8) → Int64 → Option (Bool × Unit) := fun
 (rec :
 Arr
 [PT.list (CTs.cons CT.str (CTs.cons CT.str CTs.nil)), PT.list (CTs.cons CT.str (CTs.cons CT.str CTs.nil)),
 PT.int IntKind.i64]
 (Option (Bool × Unit)))
 (a b : List (List UInt8 × List UInt8)) (i : Int64) =>
 oite (decide (i < Int64.ofInt ↑(List.length a)))
 (obind (at? a (Int64.toInt i)) fun (x_1 : List UInt8 × List UInt8) =>
 obind (at? b (Int64.toInt i)) fun (x_2 : List UInt8 × List UInt8) =>
 oite (!(Prod.fst x_1 == Prod.fst x_2 && (Prod.snd x_1 == Prod.snd x_2 && true))) (some (false, ()))
 (rec a b (i + (1 : Int64))))
 (some (true, ()))
def F16_R29 : Nat →
 PT.T (PT.list (CTs.cons CT.str (CTs.cons CT.str CTs.nil))) →
 List (List UInt8 × List UInt8) → Int64 → Option (Bool × Unit) := ofixA (29 : Nat)
 [PT.list (CTs.cons CT.str (CTs.cons CT.str CTs.nil)), PT.list (CTs.cons CT.str (CTs.cons CT.str CTs.nil)),
 PT.int IntKind.i64]
 F16_L29
def F16 : Nat → List (List UInt8 × List UInt8) × List (List UInt8 × List UInt8) → Option (Bool × Unit) := fun (n : Nat) (x : List (List UInt8 × List UInt8) × List (List UInt8 × List UInt8)) =>
 oite (!decide (Int64.ofInt ↑(List.length (Prod.fst x)) = Int64.ofInt ↑(List.length (Prod.snd x))))
 (some (false, ())) (F16_R29 n (Prod.fst x) (Prod.snd x) (0 : Int64))
theorem F16_R29_s  (m_ : Nat) : F16_R29  (m_ + 1) = F16_L29  (F16_R29  m_) := rfl
theorem ok16 (n : Nat) : FunOK Try.prog ⟨16, sig16, F16 n⟩ :=
 fun_ok (hints := ⟨[], [(29, ⟨[(0, .one (.ro (.cons .str (.cons .str .nil)))), (1, .one (.ro (.cons .str (.cons .str .nil)))), (5, .one (.int .i64))], [], 2⟩)]⟩) (fuel := n) (c := Try.f16.body.getD .skip) (rs := Try.f16.results.toList) tt_ok mix (FsOK.nil) Try.func16 (by kernel_rfl) (by kernel_rfl) rfl (by kernel_rfl) rfl rfl (by kernel_rfl)
-- (*watchfire/board.Board).Counts
def sig14 : Sig := ⟨(.cons (.one (.ptrA (.cons (.map (.agg (.cons (.int .u8) (.cons .str (.cons .str (.cons (.int .u8) .nil))))) (.agg (.cons (.int .u8) (.cons .str (.cons (.ro (.cons .str (.cons .str .nil))) (.cons (.int .u8) (.cons (.int .u64) (.cons (.int .u8) (.cons (.int .i64) .nil))))))))) .nil) (.int .u64) 32 .nil)) .nil), (.cons (.one (.c (.int .i64))) (.cons (.one (.c (.int .i64))) (.cons (.one (.c (.int .i64))) .nil)))⟩
noncomputable def F14_L13 : Arr
 [PT.int IntKind.i64, PT.int IntKind.i64, PT.int IntKind.i64, PT.nat, PT.int IntKind.i64, PT.int IntKind.i64,
 PT.optA
 (OTs.cons
 (OT.map
 (VT.agg
 (CTs.cons (CT.int IntKind.u8) (CTs.cons CT.str (CTs.cons CT.str (CTs.cons (CT.int IntKind.u8) CTs.nil)))))
 (VT.agg
 (CTs.cons (CT.int IntKind.u8)
 (CTs.cons CT.str
 (CTs.cons (CT.ro (CTs.cons CT.str (CTs.cons CT.str CTs.nil)))
 (CTs.cons (CT.int IntKind.u8)
 (CTs.cons (CT.int IntKind.u64)
 (CTs.cons (CT.int IntKind.u8) (CTs.cons (CT.int IntKind.i64) CTs.nil)))))))))
 OTs.nil)
 (CT.int IntKind.u64) OTs.nil,
 PT.list (CTs.cons CT.str (CTs.cons CT.str CTs.nil))]
 (Option
 ((Int64 × Int64 × Int64) ×
 Option
 (List
 ((UInt8 × List UInt8 × List UInt8 × UInt8) ×
 UInt8 × List UInt8 × List (List UInt8 × List UInt8) × UInt8 × UInt64 × UInt8 × Int64) ×
 List UInt64 × Unit))) →
 Int64 →
 Int64 →
 Int64 →
 Nat →
 Int64 →
 Int64 →
 Option
 (List
 ((UInt8 × List UInt8 × List UInt8 × UInt8) ×
 UInt8 × List UInt8 × List (List UInt8 × List UInt8) × UInt8 × UInt64 × UInt8 × Int64) ×
 List UInt64 × Unit) →
 List (List UInt8 × List UInt8) →
 Option
 ((Int64 × Int64 × Int64) ×
 Option
 (List
 ((UInt8 × List UInt8 × List UInt8 × UInt8) ×
 UInt8 × List UInt8 × List (List UInt8 × List UInt8) × UInt8 × UInt64 × UInt8 × Int64) ×
 List UInt64 × Unit)) := fun
 (rec :
 Arr
 [PT.int IntKind.i64, PT.int IntKind.i64, PT.int IntKind.i64, PT.nat, PT.int IntKind.i64, PT.int IntKind.i64,
 PT.optA
 (OTs.cons
 (OT.map
 (VT.agg
 (CTs.cons (CT.int IntKind.u8)
 (CTs.cons CT.str (CTs.cons CT.str (CTs.cons (CT.int IntKind.u8) CTs.nil)))))
 (VT.agg
 (CTs.cons (CT.int IntKind.u8)
 (CTs.cons CT.str
 (CTs.cons (CT.ro (CTs.cons CT.str (CTs.cons CT.str CTs.nil)))
 (CTs.cons (CT.int IntKind.u8)
 (CTs.cons (CT.int IntKind.u64)
 (CTs.cons (CT.int IntKind.u8) (CTs.cons (CT.int IntKind.i64) CTs.nil)))))))))
 OTs.nil)
 (CT.int IntKind.u64) OTs.nil,
 PT.list (CTs.cons CT.str (CTs.cons CT.str CTs.nil))]
 (Option
 ((Int64 × Int64 × Int64) ×
 Option
 (List
 ((UInt8 × List UInt8 × List UInt8 × UInt8) ×
 UInt8 × List UInt8 × List (List UInt8 × List UInt8) × UInt8 × UInt64 × UInt8 × Int64) ×
 List UInt64 × Unit))))
 (idle firing unknown : Int64) (tn : Nat) (t t_1 : Int64)
 (c0 :
 Option
 (List
 ((UInt8 × List UInt8 × List UInt8 × UInt8) ×
 UInt8 × List UInt8 × List (List UInt8 × List UInt8) × UInt8 × UInt64 × UInt8 × Int64) ×
 List UInt64 × Unit))
 (c1 : List (List UInt8 × List UInt8)) =>
 oite (decide (t_1 < t)) (oite (decide (Int64.toInt t_1 = (0 : Int)) && Nat.beq tn (1 : Nat)) none none)
 (some ((idle, firing, unknown), c0))
noncomputable def F14_R13 : Nat →
 PT.T (PT.int IntKind.i64) →
 Int64 →
 Int64 →
 Nat →
 Int64 →
 Int64 →
 Option
 (List
 ((UInt8 × List UInt8 × List UInt8 × UInt8) ×
 UInt8 × List UInt8 × List (List UInt8 × List UInt8) × UInt8 × UInt64 × UInt8 × Int64) ×
 List UInt64 × Unit) →
 List (List UInt8 × List UInt8) →
 Option
 ((Int64 × Int64 × Int64) ×
 Option
 (List
 ((UInt8 × List UInt8 × List UInt8 × UInt8) ×
 UInt8 × List UInt8 × List (List UInt8 × List UInt8) × UInt8 × UInt64 × UInt8 × Int64) ×
 List UInt64 × Unit)) := ofixA (13 : Nat)
 [PT.int IntKind.i64, PT.int IntKind.i64, PT.int IntKind.i64, PT.nat, PT.int IntKind.i64, PT.int IntKind.i64,
 PT.optA
 (OTs.cons
 (OT.map
 (VT.agg
 (CTs.cons (CT.int IntKind.u8) (CTs.cons CT.str (CTs.cons CT.str (CTs.cons (CT.int IntKind.u8) CTs.nil)))))
 (VT.agg
 (CTs.cons (CT.int IntKind.u8)
 (CTs.cons CT.str
 (CTs.cons (CT.ro (CTs.cons CT.str (CTs.cons CT.str CTs.nil)))
 (CTs.cons (CT.int IntKind.u8)
 (CTs.cons (CT.int IntKind.u64)
 (CTs.cons (CT.int IntKind.u8) (CTs.cons (CT.int IntKind.i64) CTs.nil)))))))))
 OTs.nil)
 (CT.int IntKind.u64) OTs.nil,
 PT.list (CTs.cons CT.str (CTs.cons CT.str CTs.nil))]
 F14_L13
noncomputable def F14 : Nat →
 Option
 (List
 ((UInt8 × List UInt8 × List UInt8 × UInt8) ×
 UInt8 × List UInt8 × List (List UInt8 × List UInt8) × UInt8 × UInt64 × UInt8 × Int64) ×
 List UInt64 × Unit) →
 Option
 ((Int64 × Int64 × Int64) ×
 Option
 (List
 ((UInt8 × List UInt8 × List UInt8 × UInt8) ×
 UInt8 × List UInt8 × List (List UInt8 × List UInt8) × UInt8 × UInt64 × UInt8 × Int64) ×
 List UInt64 × Unit)) := fun (n : Nat)
 (x :
 Option
 (List
 ((UInt8 × List UInt8 × List UInt8 × UInt8) ×
 UInt8 × List UInt8 × List (List UInt8 × List UInt8) × UInt8 × UInt64 × UInt8 × Int64) ×
 List UInt64 × Unit)) =>
 obind (F9 n x)
 fun
 (x_1 :
 (Nat × List (List UInt8 × List UInt8)) ×
 Option
 (List
 ((UInt8 × List UInt8 × List UInt8 × UInt8) ×
 UInt8 × List UInt8 × List (List UInt8 × List UInt8) × UInt8 × UInt64 × UInt8 × Int64) ×
 List UInt64 × Unit)) =>
 F14_R13 n (0 : Int64) (0 : Int64) (0 : Int64) (Prod.fst (Prod.fst x_1)) (Int64.ofInt ↑(Prod.fst (Prod.fst x_1)))
 (0 : Int64) (Prod.snd x_1) (Prod.snd (Prod.fst x_1))
theorem F14_R13_s  (m_ : Nat) : F14_R13  (m_ + 1) = F14_L13  (F14_R13  m_) := rfl
theorem ok14 (n : Nat) : FunOK Try.prog ⟨14, sig14, F14 n⟩ :=
 fun_ok (hints := ⟨[], [(13, ⟨[(2, .one (.int .i64)), (3, .one (.int .i64)), (4, .one (.int .i64)), (8, .one (.rs1 2 1)), (9, .one (.int .i64)), (10, .one (.int .i64))], [(0, .foldA (.cons (.map (.agg (.cons (.int .u8) (.cons .str (.cons .str (.cons (.int .u8) .nil))))) (.agg (.cons (.int .u8) (.cons .str (.cons (.ro (.cons .str (.cons .str .nil))) (.cons (.int .u8) (.cons (.int .u64) (.cons (.int .u8) (.cons (.int .i64) .nil))))))))) .nil) (.int .u64) 32 .nil), (1, .row (.cons .str (.cons .str .nil)))], 2⟩)]⟩) (fuel := n) (c := Try.f14.body.getD .skip) (rs := Try.f14.results.toList) tt_ok mix (FsOK.cons (ok9 n) (FsOK.nil)) Try.func14 (by kernel_rfl) (by kernel_rfl) rfl (by kernel_rfl) rfl rfl (by kernel_rfl)
end Go.Proofs.Ytegncnhhofbmiaa
