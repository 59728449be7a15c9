/- What the functions of this seat compute, found by walking their code symbolically: each F is what the walk finds, each ok says that the Go function keeps it as a contract. Printed by a program of this repo's. -/
import Derived.Test.YtcfckkmiaeegpaaProg
import Derived.KernelRfl
import Derived.Test.YtcfckkmiaeegpaaSxClone
import Derived.Test.YtcfckkmiaeegpaaHand
open Go Go.Sx
namespace Go.Proofs.Ytcfckkmiaeegpaa
abbrev zc0 : CTs := (CTs.cons (CT.int IntKind.u8) (CTs.cons CT.str (CTs.cons (CT.ro (CTs.cons CT.str (CTs.cons CT.str CTs.nil))) (CTs.cons (CT.int IntKind.u8) (CTs.cons (CT.int IntKind.u64) (CTs.cons (CT.int IntKind.u8) (CTs.cons (CT.int IntKind.i64) CTs.nil)))))))
abbrev zt1 : Type := (Option (List (List (List UInt8 × UInt8 × List UInt8) × List UInt8 × List (List UInt8) × UInt64 × UInt64 × UInt64 × Bool × Int64)) × List ((Int64 × List UInt8) × List (List UInt8 × List UInt8) × UInt64 × Bool × UInt64 × List ((UInt8 × List UInt8 × List UInt8) × UInt8 × List UInt8 × List (List UInt8 × List UInt8) × UInt8 × UInt64 × UInt8 × Int64)) × UInt64)
abbrev zc2 : CTs := (CTs.cons (CT.ro (CTs.cons CT.str (CTs.cons (CT.int IntKind.u8) (CTs.cons CT.str CTs.nil)))) (CTs.cons CT.str (CTs.cons (CT.ro (CTs.cons CT.str CTs.nil)) (CTs.cons (CT.int IntKind.u64) (CTs.cons (CT.int IntKind.u64) (CTs.cons (CT.int IntKind.u64) (CTs.cons CT.bool (CTs.cons (CT.int IntKind.i64) CTs.nil))))))))
abbrev zt3 : Type := (UInt8 × List UInt8 × List (List UInt8 × List UInt8) × UInt8 × UInt64 × UInt8 × Int64)
abbrev zc4 : CTs := (.cons (.int .u8) (.cons .str (.cons (.ro (.cons .str (.cons .str .nil))) (.cons (.int .u8) (.cons (.int .u64) (.cons (.int .u8) (.cons (.int .i64) .nil)))))))
abbrev zt5 : Type := (List (List UInt8 × UInt8 × List UInt8) × List UInt8 × List (List UInt8) × UInt64 × UInt64 × UInt64 × Bool × Int64)
abbrev zc6 : CTs := (CTs.cons CT.str (CTs.cons CT.str CTs.nil))
abbrev zt7 : Type := ((UInt8 × List UInt8 × List UInt8) × UInt8 × List UInt8 × List (List UInt8 × List UInt8) × UInt8 × UInt64 × UInt8 × Int64)
abbrev zc8 : CTs := (.cons (.ro (.cons .str (.cons (.int .u8) (.cons .str .nil)))) (.cons .str (.cons (.ro (.cons .str .nil)) (.cons (.int .u64) (.cons (.int .u64) (.cons (.int .u64) (.cons .bool (.cons (.int .i64) .nil))))))))
abbrev zc9 : CTs := (CTs.cons (CT.int IntKind.i64) (CTs.cons CT.str CTs.nil))
abbrev zt10 : Type := (List UInt8 × List UInt8)
abbrev zc11 : CTs := (CTs.cons (CT.ro (CTs.cons (CT.int IntKind.u8) (CTs.cons (CT.int IntKind.u8) (CTs.cons (CT.int IntKind.u8) CTs.nil)))) (CTs.cons (CT.int IntKind.u8) (CTs.cons (CT.int IntKind.u8) (CTs.cons (CT.int IntKind.u8) (CTs.cons (CT.int IntKind.u8) (CTs.cons (CT.int IntKind.u8) (CTs.cons CT.bool (CTs.cons (CT.int IntKind.u8) CTs.nil))))))))
abbrev zc12 : CTs := (.cons .str (.cons .str .nil))
abbrev zc13 : CTs := (CTs.cons CT.str (CTs.cons (CT.int IntKind.u8) (CTs.cons CT.str CTs.nil)))
abbrev zt14 : Type := (List UInt8 × UInt8 × List UInt8)
abbrev zc15 : CTs := (.cons (.int .i64) (.cons .str .nil))
abbrev zc16 : CTs := (.cons .str (.cons (.int .u8) (.cons .str .nil)))
abbrev zc17 : CTs := (CTs.cons (CT.int IntKind.i64) CTs.nil)
abbrev zc18 : CTs := (CTs.cons CT.str CTs.nil)
abbrev zt19 : Type := (List (UInt8 × UInt8 × UInt8) × UInt8 × UInt8 × UInt8 × UInt8 × UInt8 × Bool × UInt8)
abbrev zc20 : CTs := (.cons (.ro (.cons (.int .u8) (.cons (.int .u8) (.cons (.int .u8) .nil)))) (.cons (.int .u8) (.cons (.int .u8) (.cons (.int .u8) (.cons (.int .u8) (.cons (.int .u8) (.cons .bool (.cons (.int .u8) .nil))))))))
abbrev zc21 : CTs := (CTs.cons (CT.int IntKind.u64) CTs.nil)
set_option maxRecDepth 100000
set_option linter.unusedVariables false
def tt : TT := [(2, ⟨.int .i64, 1, 8, some (.int .i64 0), false⟩), (3, ⟨.int .i64, 1, 8, some (.int .i64 0), false⟩), (4, ⟨.bool, 1, 1, some (.bool false), false⟩), (5, ⟨.int .u8, 1, 1, some (.int .u8 0), false⟩), (9, ⟨.str, 1, 16, some (.string ⟨#[]⟩), false⟩), (21, ⟨.int .i32, 1, 4, some (.int .i32 0), false⟩), (22, ⟨.slice 66, 1, 24, some (.slice none 0 0), false⟩), (23, ⟨.int .u8, 1, 1, some (.int .u8 0), false⟩), (24, ⟨.int .u64, 1, 8, some (.int .u64 0), false⟩), (26, ⟨.struct [(0, 5, false), (1, 9, false), (2, 22, false), (3, 23, false), (4, 24, false), (5, 5, false), (6, 2, false)], 7, 80, some (.agg #[.int .u8 0, .string ⟨#[]⟩, .slice none 0 0, .int .u8 0, .int .u64 0, .int .u8 0, .int .i64 0]), false⟩), (28, ⟨.struct [(0, 5, false), (1, 5, false), (2, 5, false), (3, 5, false), (4, 5, false), (5, 5, false)], 6, 6, some (.agg #[.int .u8 0, .int .u8 0, .int .u8 0, .int .u8 0, .int .u8 0, .int .u8 0]), false⟩), (30, ⟨.arr 2 26, 14, 160, some (.agg #[.int .u8 0, .string ⟨#[]⟩, .slice none 0 0, .int .u8 0, .int .u64 0, .int .u8 0, .int .i64 0, .int .u8 0, .string ⟨#[]⟩, .slice none 0 0, .int .u8 0, .int .u64 0, .int .u8 0, .int .i64 0]), false⟩), (32, ⟨.slice 30, 1, 24, some (.slice none 0 0), false⟩), (37, ⟨.struct [(0, 24, false), (1, 24, false), (2, 24, false)], 3, 24, some (.agg #[.int .u64 0, .int .u64 0, .int .u64 0]), false⟩), (38, ⟨.ptr 73, 1, 8, some (.pointer none), false⟩), (39, ⟨.int .i64, 1, 8, some (.int .i64 0), false⟩), (42, ⟨.slice 9, 1, 24, some (.slice none 0 0), false⟩), (44, ⟨.slice 79, 1, 24, some (.slice none 0 0), false⟩), (46, ⟨.struct [(0, 44, false), (1, 9, false), (2, 42, false), (3, 37, false), (6, 4, false), (7, 3, false)], 8, 104, some (.agg #[.slice none 0 0, .string ⟨#[]⟩, .slice none 0 0, .int .u64 0, .int .u64 0, .int .u64 0, .bool false, .int .i64 0]), false⟩), (47, ⟨.slice 46, 1, 24, some (.slice none 0 0), false⟩), (48, ⟨.ptr 84, 1, 8, some (.pointer none), false⟩), (51, ⟨.slice 55, 1, 24, some (.slice none 0 0), false⟩), (53, ⟨.slice 26, 1, 24, some (.slice none 0 0), false⟩), (55, ⟨.struct [(0, 24, false), (1, 9, false), (2, 22, false), (3, 53, false)], 4, 72, some (.agg #[.int .u64 0, .string ⟨#[]⟩, .slice none 0 0, .slice none 0 0]), false⟩), (59, ⟨.slice 108, 1, 24, some (.slice none 0 0), false⟩), (62, ⟨.slice 24, 1, 24, some (.slice none 0 0), false⟩), (63, ⟨.slice 23, 1, 24, some (.slice none 0 0), false⟩), (64, ⟨.slice 5, 1, 24, some (.slice none 0 0), false⟩), (66, ⟨.struct [(0, 9, false), (1, 9, false)], 2, 32, some (.agg #[.string ⟨#[]⟩, .string ⟨#[]⟩]), false⟩), (73, ⟨.struct [(0, 47, false)], 1, 24, some (.agg #[.slice none 0 0]), false⟩), (77, ⟨.int .u8, 1, 1, some (.int .u8 0), false⟩), (79, ⟨.struct [(0, 9, false), (1, 77, false), (2, 9, false)], 3, 40, some (.agg #[.string ⟨#[]⟩, .int .u8 0, .string ⟨#[]⟩]), false⟩), (82, ⟨.map 89 94, 1, 8, some (.map none), false⟩), (84, ⟨.struct [(0, 38, false), (1, 82, false), (2, 24, false)], 3, 24, some (.agg #[.pointer none, .map none, .int .u64 0]), false⟩), (85, ⟨.map 89 53, 1, 8, some (.map none), false⟩), (86, ⟨.slice 91, 1, 24, some (.slice none 0 0), false⟩), (89, ⟨.struct [(0, 3, false), (1, 9, false)], 2, 24, some (.agg #[.int .i64 0, .string ⟨#[]⟩]), false⟩), (91, ⟨.struct [(0, 89, false), (2, 22, false), (3, 26, false)], 10, 128, some (.agg #[.int .i64 0, .string ⟨#[]⟩, .slice none 0 0, .int .u8 0, .string ⟨#[]⟩, .slice none 0 0, .int .u8 0, .int .u64 0, .int .u8 0, .int .i64 0]), false⟩), (92, ⟨.map 99 26, 1, 8, some (.map none), false⟩), (94, ⟨.struct [(0, 22, false), (1, 24, false), (2, 4, false), (3, 24, false), (4, 92, false)], 5, 56, some (.agg #[.slice none 0 0, .int .u64 0, .bool false, .int .u64 0, .map none]), false⟩), (99, ⟨.struct [(0, 5, false), (1, 9, false), (2, 9, false)], 3, 40, some (.agg #[.int .u8 0, .string ⟨#[]⟩, .string ⟨#[]⟩]), false⟩), (101, ⟨.slice 89, 1, 24, some (.slice none 0 0), false⟩), (105, ⟨.slice 3, 1, 24, some (.slice none 0 0), false⟩), (106, ⟨.slice 126, 1, 24, some (.slice none 0 0), false⟩), (108, ⟨.struct [(0, 106, false), (1, 5, false), (2, 5, false), (3, 5, false), (4, 5, false), (5, 5, false), (6, 4, false), (7, 5, false)], 8, 32, some (.agg #[.slice none 0 0, .int .u8 0, .int .u8 0, .int .u8 0, .int .u8 0, .int .u8 0, .bool false, .int .u8 0]), false⟩), (126, ⟨.struct [(0, 5, false), (1, 5, false), (2, 5, false)], 3, 3, some (.agg #[.int .u8 0, .int .u8 0, .int .u8 0]), false⟩), (142, ⟨.int .u64, 1, 8, some (.int .u64 0), false⟩), (154, ⟨.int .i64, 1, 8, some (.int .i64 0), false⟩), (162, ⟨.int .u32, 1, 4, some (.int .u32 0), false⟩), (168, ⟨.int .u64, 1, 8, some (.int .u64 0), false⟩), (177, ⟨.ptr 168, 1, 8, some (.pointer none), false⟩)]
theorem tt_ok : TTOK Try.prog tt := TTOK.of_rows (by kernel_rfl)
theorem mix : Try.prog.follows .mixedOrders = true := by kernel_rfl
-- watchfire/lab.word
def sig55 : Sig := ⟨(.cons (.one (.c .str)) (.cons (.one (.c (.int .i64))) (.cons (.one (.c .bool)) .nil))), (.cons (.one (.c .bool)) .nil)⟩
def F55_J471 : Arr [PT.bool, PT.bytes, PT.nat] (Option (Bool × Unit)) → Bool → Int32 → Bool → List UInt8 → Nat → Option (Bool × Unit) := fun (rec : Arr [PT.bool, PT.bytes, PT.nat] (Option (Bool × Unit))) (also_1 : Bool) (c : Int32) (t_1 : Bool)
 (t_1_1 : List UInt8) (x_2 : Nat) =>
 oite t_1 (rec also_1 t_1_1 x_2)
 (oite also_1
 (oite (decide ((48 : Int32) ≤ c))
 (oite (decide (c ≤ (57 : Int32))) (rec also_1 t_1_1 x_2)
 (oite (decide (c = (46 : Int32))) (rec also_1 t_1_1 x_2)
 (oite (decide (c = (95 : Int32))) (rec also_1 t_1_1 x_2)
 (oite (decide (c = (45 : Int32))) (rec also_1 t_1_1 x_2) (some (false, ()))))))
 (oite (decide (c = (46 : Int32))) (rec also_1 t_1_1 x_2)
 (oite (decide (c = (95 : Int32))) (rec also_1 t_1_1 x_2)
 (oite (decide (c = (45 : Int32))) (rec also_1 t_1_1 x_2) (some (false, ()))))))
 (some (false, ())))
def F55_L29 : Arr [PT.bool, PT.bytes, PT.nat] (Option (Bool × Unit)) → Bool → List UInt8 → Nat → Option (Bool × Unit) := fun (rec : Arr [PT.bool, PT.bytes, PT.nat] (Option (Bool × Unit))) (also : Bool) (t : List UInt8) (x_1 : Nat) =>
 oite (Nat.blt x_1 (List.length t))
 (ojoinA (471 : Nat) [PT.bool, PT.int IntKind.i32, PT.bool, PT.bytes, PT.nat]
 (fun (J : Arr [PT.bool, PT.int IntKind.i32, PT.bool, PT.bytes, PT.nat] (Option (Bool × Unit))) =>
 oite (decide ((97 : Int32) ≤ Int32.ofInt ↑(runeAt t x_1)))
 (J also (Int32.ofInt ↑(runeAt t x_1)) (decide (Int32.ofInt ↑(runeAt t x_1) ≤ (122 : Int32))) t
 (x_1 + runeLen t x_1))
 (J also (Int32.ofInt ↑(runeAt t x_1)) false t (x_1 + runeLen t x_1)))
 (F55_J471 rec))
 (some (true, ()))
def F55_R29 : Nat → PT.T PT.bool → List UInt8 → Nat → Option (Bool × Unit) := ofixA (29 : Nat) [PT.bool, PT.bytes, PT.nat] F55_L29
def F55 : Nat → List UInt8 × Int64 × Bool → Option (Bool × Unit) := fun (n : Nat) (x : List UInt8 × Int64 × Bool) =>
 oite (decide (Int64.ofInt ↑(List.length x.1) < (1 : Int64))) (some (false, ()))
 (oite (decide (x.2.1 < Int64.ofInt ↑(List.length x.1))) (some (false, ()))
 (F55_R29 n x.2.2 x.1 (0 : Nat)))
theorem F55_R29_s  (m_ : Nat) : F55_R29  (m_ + 1) = F55_L29  (F55_R29  m_) := rfl
theorem ok55 (n : Nat) : FunOK Try.prog ⟨55, sig55, F55 n⟩ :=
 fun_ok (hints := ⟨[(471, ⟨[(2, .one (.bool)), (8, .one (.int .i32)), (19, .one (.own 3)), (23, .one (.bool))], [(3, .iter)], 4⟩)], [(29, ⟨[(2, .one (.bool)), (19, .one (.own 3))], [(3, .iter)], 4⟩)]⟩) (fuel := n) (c := Try.f55.body.getD .skip) (rs := Try.f55.results.toList) tt_ok mix (FsOK.nil) Try.func55 (by kernel_rfl) (by kernel_rfl) rfl (by kernel_rfl) rfl rfl (by kernel_rfl)
-- watchfire/lab.Key
def sig42 : Sig := ⟨(.cons (.one (.c .str)) .nil), (.cons (.one (.c .bool)) .nil)⟩
def F42 : Nat → List UInt8 → Option (Bool × Unit) := fun (n : Nat) (x : List UInt8) =>
 obind (F55 n (x, (8 : Int64), false)) fun (x_1 : Bool × Unit) => some (x_1.1, ())
theorem ok42 (n : Nat) : FunOK Try.prog ⟨42, sig42, F42 n⟩ :=
 fun_ok (hints := ⟨[], []⟩) (fuel := n) (c := Try.f42.body.getD .skip) (rs := Try.f42.results.toList) tt_ok mix (FsOK.cons (ok55 n) (FsOK.nil)) Try.func42 (by kernel_rfl) (by kernel_rfl) rfl (by kernel_rfl) rfl rfl (by kernel_rfl)
-- watchfire/lab.Value
def sig67 : Sig := ⟨(.cons (.one (.c .str)) .nil), (.cons (.one (.c .bool)) .nil)⟩
def F67 : Nat → List UInt8 → Option (Bool × Unit) := fun (n : Nat) (x : List UInt8) =>
 obind (F55 n (x, (16 : Int64), true)) fun (x_1 : Bool × Unit) => some (x_1.1, ())
theorem ok67 (n : Nat) : FunOK Try.prog ⟨67, sig67, F67 n⟩ :=
 fun_ok (hints := ⟨[], []⟩) (fuel := n) (c := Try.f67.body.getD .skip) (rs := Try.f67.results.toList) tt_ok mix (FsOK.cons (ok55 n) (FsOK.nil)) Try.func67 (by kernel_rfl) (by kernel_rfl) rfl (by kernel_rfl) rfl rfl (by kernel_rfl)
-- (watchfire/match.Ask).Check
def sig54 : Sig := ⟨(.cons (.agg zc16) .nil), (.cons (.one (.c (.int .i64))) .nil)⟩
def F54 : Nat → List UInt8 × UInt8 × List UInt8 → Option (Int64 × Unit) := fun (n : Nat) (x : List UInt8 × UInt8 × List UInt8) =>
 obind (F42 n x.1) fun (x_1 : Bool × Unit) =>
 oite (!x_1.1) (some ((8 : Int64), ()))
 (oite (decide (x.2.1 < (1 : UInt8))) (some ((12 : Int64), ()))
 (oite (decide ((5 : UInt8) < x.2.1)) (some ((12 : Int64), ()))
 (oite (decide ((4 : UInt8) ≤ x.2.1))
 (oite (!x.2.2 == []) (some ((27 : Int64), ()))
 (oite (decide (x.2.1 < (4 : UInt8)))
 (obind (F67 n x.2.2) fun (x_2 : Bool × Unit) =>
 oite (!x_2.1) (some ((27 : Int64), ())) (some ((0 : Int64), ())))
 (some ((0 : Int64), ()))))
 (oite (decide (x.2.1 < (4 : UInt8)))
 (obind (F67 n x.2.2) fun (x_2 : Bool × Unit) =>
 oite (!x_2.1) (some ((27 : Int64), ())) (some ((0 : Int64), ())))
 (some ((0 : Int64), ()))))))
theorem ok54 (n : Nat) : FunOK Try.prog ⟨54, sig54, F54 n⟩ :=
 fun_ok (hints := ⟨[], []⟩) (fuel := n) (c := Try.f54.body.getD .skip) (rs := Try.f54.results.toList) tt_ok mix (FsOK.cons (ok42 n) (FsOK.cons (ok67 n) (FsOK.nil))) Try.func54 (by kernel_rfl) (by kernel_rfl) rfl (by kernel_rfl) rfl rfl (by kernel_rfl)
-- (watchfire/match.Asks).Check
def sig40 : Sig := ⟨(.cons (.one (.c (.ro zc16))) .nil), (.cons (.one (.c (.int .i64))) .nil)⟩
def F40_L29 : Nat →
 Arr
 [PT.list zc13, PT.int IntKind.i64,
 PT.int IntKind.i64]
 (Option (Int64 × Unit)) →
 List zt14 → Int64 → Int64 → Option (Int64 × Unit) := fun (n : Nat)
 (rec :
 Arr
 [PT.list zc13, PT.int IntKind.i64,
 PT.int IntKind.i64]
 (Option (Int64 × Unit)))
 (t : List zt14) (t_1 t_2 : Int64) =>
 oite (decide (t_2 < t_1))
 (obind (at? t (Int64.toInt t_2)) fun (x_1 : List UInt8 × UInt8 × List UInt8) =>
 obind (F54 n (x_1.1, x_1.2.1, x_1.2.2)) fun (x_2 : Int64 × Unit) =>
 oite (!decide (x_2.1 = (0 : Int64))) (some (x_2.1, ())) (rec t t_1 (t_2 + (1 : Int64))))
 (some ((0 : Int64), ()))
def F40_R29 : Nat →
 Nat →
 PT.T (PT.list zc13) →
 Int64 → Int64 → Option (Int64 × Unit) := fun (n : Nat) =>
 ofixA (29 : Nat)
 [PT.list zc13, PT.int IntKind.i64,
 PT.int IntKind.i64]
 (F40_L29 n)
def F40 : Nat → List zt14 → Option (Int64 × Unit) := fun (n : Nat) (x : List zt14) =>
 oite (decide ((8 : Int64) < Int64.ofInt ↑(List.length x))) (some ((5 : Int64), ()))
 (F40_R29 n n x (Int64.ofInt ↑(List.length x)) (0 : Int64))
theorem F40_R29_s (n : Nat) (m_ : Nat) : F40_R29 n (m_ + 1) = F40_L29 n (F40_R29 n m_) := rfl
theorem ok40 (n : Nat) : FunOK Try.prog ⟨40, sig40, F40 n⟩ :=
 fun_ok (hints := ⟨[], [(29, ⟨[(9, .one (.ro zc16)), (10, .one (.int .i64)), (11, .one (.int .i64))], [], 1⟩)]⟩) (fuel := n) (c := Try.f40.body.getD .skip) (rs := Try.f40.results.toList) tt_ok mix (FsOK.cons (ok54 n) (FsOK.nil)) Try.func40 (by kernel_rfl) (by kernel_rfl) rfl (by kernel_rfl) rfl rfl (by kernel_rfl)
-- watchfire/lab.Name
def sig41 : Sig := ⟨(.cons (.one (.c .str)) .nil), (.cons (.one (.c .bool)) .nil)⟩
def F41 : Nat → List UInt8 → Option (Bool × Unit) := fun (n : Nat) (x : List UInt8) =>
 obind (F55 n (x, (12 : Int64), true)) fun (x_1 : Bool × Unit) =>
 oite x_1.1
 (obind (at? x (Int64.toInt (0 : Int64))) fun (x_2 : UInt8) =>
 oite (decide ((97 : UInt8) ≤ x_2))
 (obind (at? x (Int64.toInt (0 : Int64))) fun (x_3 : UInt8) => some (decide (x_3 ≤ (122 : UInt8)), ()))
 (some (false, ())))
 (some (false, ()))
theorem ok41 (n : Nat) : FunOK Try.prog ⟨41, sig41, F41 n⟩ :=
 fun_ok (hints := ⟨[], []⟩) (fuel := n) (c := Try.f41.body.getD .skip) (rs := Try.f41.results.toList) tt_ok mix (FsOK.cons (ok55 n) (FsOK.nil)) Try.func41 (by kernel_rfl) (by kernel_rfl) rfl (by kernel_rfl) rfl rfl (by kernel_rfl)
-- (watchfire/route.Times).check
def sig43 : Sig := ⟨(.cons (.agg (.cons (.int .u64) (.cons (.int .u64) (.cons (.int .u64) .nil)))) .nil), (.cons (.one (.c (.int .i64))) .nil)⟩
def F43_L13 : Arr
 [PT.int IntKind.i64, PT.int IntKind.i64, PT.int IntKind.u64, PT.int IntKind.u64, PT.int IntKind.u64,
 PT.list zc21]
 (Option (Int64 × Unit)) →
 Int64 → Int64 → UInt64 → UInt64 → UInt64 → List UInt64 → Option (Int64 × Unit) := fun
 (rec :
 Arr
 [PT.int IntKind.i64, PT.int IntKind.i64, PT.int IntKind.u64, PT.int IntKind.u64, PT.int IntKind.u64,
 PT.list zc21]
 (Option (Int64 × Unit)))
 (t t_1 : Int64) (t0 t1 t2 : UInt64) (t_2 : List UInt64) =>
 oite (decide (t_1 < t))
 (oite (decide ((0 : Int) ≤ Int64.toInt t_1) && Nat.blt (Int.toNat (Int64.toInt t_1)) (List.length t_2))
 (obind t_2[Int.toNat (Int64.toInt t_1)]? fun (x_1 : UInt64) =>
 oite (decide ((1048576 : UInt64) < x_1)) (some ((6 : Int64), ()))
 (rec t (t_1 + (1 : Int64)) t0 t1 t2 t_2))
 none)
 (oite (decide (t1 < (1 : UInt64))) (some ((6 : Int64), ()))
 (oite (decide (t2 < t1)) (some ((6 : Int64), ())) (some ((0 : Int64), ()))))
def F43_R13 : Nat → PT.T (PT.int IntKind.i64) → Int64 → UInt64 → UInt64 → UInt64 → List UInt64 → Option (Int64 × Unit) := ofixA (13 : Nat)
 [PT.int IntKind.i64, PT.int IntKind.i64, PT.int IntKind.u64, PT.int IntKind.u64, PT.int IntKind.u64,
 PT.list zc21]
 F43_L13
def F43 : Nat → UInt64 × UInt64 × UInt64 → Option (Int64 × Unit) := fun (n : Nat) (x : UInt64 × UInt64 × UInt64) =>
 F43_R13 n (Int64.ofInt ↑(List.length [x.1, x.2.1, x.2.2])) (0 : Int64)
 x.1 x.2.1 x.2.2
 [x.1, x.2.1, x.2.2]
theorem F43_R13_s  (m_ : Nat) : F43_R13  (m_ + 1) = F43_L13  (F43_R13  m_) := rfl
theorem ok43 (n : Nat) : FunOK Try.prog ⟨43, sig43, F43 n⟩ :=
 fun_ok (hints := ⟨[], [(13, ⟨[(1, .one (.own 1)), (11, .one (.own 2)), (12, .one (.int .i64)), (13, .one (.int .i64))], [(1, .cells [.int .u64, .int .u64, .int .u64]), (2, .row (.cons (.int .u64) .nil))], 3⟩)]⟩) (fuel := n) (c := Try.f43.body.getD .skip) (rs := Try.f43.results.toList) tt_ok mix (FsOK.nil) Try.func43 (by kernel_rfl) (by kernel_rfl) rfl (by kernel_rfl) rfl rfl (by kernel_rfl)
-- (watchfire/route.Node).check
def sig24 : Sig := ⟨(.cons (.agg zc8) .nil), (.cons (.one (.c (.int .i64))) .nil)⟩
def F24_L125 : Nat →
 Arr
 [PT.list zc18, PT.int IntKind.i64, PT.int IntKind.i64,
 PT.list zc13, PT.bytes,
 PT.list zc18, PT.int IntKind.u64, PT.int IntKind.u64, PT.int IntKind.u64, PT.bool,
 PT.int IntKind.i64]
 (Option (Int64 × Unit)) →
 List (List UInt8) →
 Int64 →
 Int64 →
 List zt14 →
 List UInt8 → List (List UInt8) → UInt64 → UInt64 → UInt64 → Bool → Int64 → Option (Int64 × Unit) := fun (n : Nat)
 (rec :
 Arr
 [PT.list zc18, PT.int IntKind.i64, PT.int IntKind.i64,
 PT.list zc13, PT.bytes,
 PT.list zc18, PT.int IntKind.u64, PT.int IntKind.u64, PT.int IntKind.u64, PT.bool,
 PT.int IntKind.i64]
 (Option (Int64 × Unit)))
 (t : List (List UInt8)) (t_1 t_2 : Int64) (n0 : List zt14) (n1 : List UInt8)
 (n2 : List (List UInt8)) (n3 n4 n5 : UInt64) (n6 : Bool) (n7 : Int64) =>
 oite (decide (t_2 < t_1))
 (obind (at? t (Int64.toInt t_2)) fun (x_3 : List UInt8) =>
 obind (F42 n x_3) fun (x_4 : Bool × Unit) =>
 oite (!x_4.1) (some ((8 : Int64), ()))
 (oite (decide ((0 : Int64) < t_2))
 (obind (at? n2 (Int64.toInt (t_2 - (1 : Int64)))) fun (x_5 : List UInt8) =>
 oite (!bytesLt x_5 x_3) (some ((9 : Int64), ()))
 (rec t t_1 (t_2 + (1 : Int64)) n0 n1 n2 n3 n4 n5 n6 n7))
 (rec t t_1 (t_2 + (1 : Int64)) n0 n1 n2 n3 n4 n5 n6 n7)))
 (obind (F43 n (n3, n4, n5)) fun (x_3 : Int64 × Unit) => some (x_3.1, ()))
def F24_R125 : Nat →
 Nat →
 PT.T (PT.list zc18) →
 Int64 →
 Int64 →
 List zt14 →
 List UInt8 → List (List UInt8) → UInt64 → UInt64 → UInt64 → Bool → Int64 → Option (Int64 × Unit) := fun (n : Nat) =>
 ofixA (125 : Nat)
 [PT.list zc18, PT.int IntKind.i64, PT.int IntKind.i64,
 PT.list zc13, PT.bytes,
 PT.list zc18, PT.int IntKind.u64, PT.int IntKind.u64, PT.int IntKind.u64, PT.bool,
 PT.int IntKind.i64]
 (F24_L125 n)
def F24 : Nat →
 List zt14 × List UInt8 × List (List UInt8) × UInt64 × UInt64 × UInt64 × Bool × Int64 →
 Option (Int64 × Unit) := fun (n : Nat)
 (x :
 List zt14 ×
 List UInt8 × List (List UInt8) × UInt64 × UInt64 × UInt64 × Bool × Int64) =>
 obind (F40 n x.1) fun (x_1 : Int64 × Unit) =>
 oite (!decide (x_1.1 = (0 : Int64))) (some (x_1.1, ()))
 (obind (F41 n x.2.1) fun (x_2 : Bool × Unit) =>
 oite (!x_2.1) (some ((8 : Int64), ()))
 (oite (decide ((8 : Int64) < Int64.ofInt ↑(List.length x.2.2.1)))
 (some ((5 : Int64), ()))
 (F24_R125 n n x.2.2.1
 (Int64.ofInt ↑(List.length x.2.2.1)) (0 : Int64) x.1
 x.2.1 x.2.2.1 x.2.2.2.1
 x.2.2.2.2.1
 x.2.2.2.2.2.1
 x.2.2.2.2.2.2.1
 x.2.2.2.2.2.2.2)))
theorem F24_R125_s (n : Nat) (m_ : Nat) : F24_R125 n (m_ + 1) = F24_L125 n (F24_R125 n m_) := rfl
theorem ok24 (n : Nat) : FunOK Try.prog ⟨24, sig24, F24 n⟩ :=
 fun_ok (hints := ⟨[], [(125, ⟨[(1, .one (.own 1)), (21, .one (.ro (.cons .str .nil))), (22, .one (.int .i64)), (23, .one (.int .i64))], [(1, .cells [.ro zc16, .str, .ro (.cons .str .nil), .int .u64, .int .u64, .int .u64, .bool, .int .i64])], 2⟩)]⟩) (fuel := n) (c := Try.f24.body.getD .skip) (rs := Try.f24.results.toList) tt_ok mix (FsOK.cons (ok40 n) (FsOK.cons (ok41 n) (FsOK.cons (ok42 n) (FsOK.cons (ok43 n) (FsOK.nil))))) Try.func24 (by kernel_rfl) (by kernel_rfl) rfl (by kernel_rfl) rfl rfl (by kernel_rfl)
-- (*watchfire/route.Tree).depth
def sig25 : Sig := ⟨(.cons (.one (.ptr (.cons (.row zc8) .nil))) (.cons (.one (.c (.int .i64))) .nil)), (.cons (.one (.c (.int .i64))) .nil)⟩
def F25_L14 : Arr
 [PT.int IntKind.i64, PT.int IntKind.i64,
 PT.opt
 (OTs.cons
 (OT.row
 zc2)
 OTs.nil)]
 (Option
 (Int64 ×
 Option
 (List
 zt5))) →
 Int64 →
 Int64 →
 Option
 (List
 zt5) →
 Option
 (Int64 ×
 Option
 (List
 zt5)) := fun
 (rec :
 Arr
 [PT.int IntKind.i64, PT.int IntKind.i64,
 PT.opt
 (OTs.cons
 (OT.row
 zc2)
 OTs.nil)]
 (Option
 (Int64 ×
 Option
 (List
 zt5))))
 (i n_ : Int64)
 (t :
 Option
 (List
 zt5)) =>
 oite (decide ((0 : Int64) ≤ i))
 (obind t
 fun
 (x_1 :
 List
 zt5) =>
 oite (decide ((0 : Int) ≤ Int64.toInt i) && Nat.blt (Int.toNat (Int64.toInt i)) (List.length x_1))
 (obind x_1[Int.toNat (Int64.toInt i)]?
 fun
 (x_2 :
 List zt14 ×
 List UInt8 × List (List UInt8) × UInt64 × UInt64 × UInt64 × Bool × Int64) =>
 rec x_2.2.2.2.2.2.2.2 (n_ + (1 : Int64))
 (some x_1))
 none)
 (some (n_, t))
def F25_R14 : Nat →
 PT.T (PT.int IntKind.i64) →
 Int64 →
 Option
 (List
 zt5) →
 Option
 (Int64 ×
 Option
 (List
 zt5)) := ofixA (14 : Nat)
 [PT.int IntKind.i64, PT.int IntKind.i64,
 PT.opt
 (OTs.cons
 (OT.row
 zc2)
 OTs.nil)]
 F25_L14
def F25 : Nat →
 Option
 (List
 zt5) ×
 Int64 →
 Option
 (Int64 ×
 Option
 (List
 zt5)) := fun (n : Nat)
 (x :
 Option
 (List
 zt5) ×
 Int64) =>
 F25_R14 n x.2 (0 : Int64) x.1
theorem F25_R14_s  (m_ : Nat) : F25_R14  (m_ + 1) = F25_L14  (F25_R14  m_) := rfl
theorem ok25 (n : Nat) : FunOK Try.prog ⟨25, sig25, F25 n⟩ :=
 fun_ok (hints := ⟨[], [(14, ⟨[(0, .one (.own 0)), (1, .one (.int .i64)), (5, .one (.int .i64))], [(0, .fold (.cons (.row zc8) .nil))], 2⟩)]⟩) (fuel := n) (c := Try.f25.body.getD .skip) (rs := Try.f25.results.toList) tt_ok mix (FsOK.nil) Try.func25 (by kernel_rfl) (by kernel_rfl) rfl (by kernel_rfl) rfl rfl (by kernel_rfl)
-- slices.Clone[watchfire/match.Asks,watchfire/match.Ask]
def sig26 : Sig := ⟨(.cons (.one (.c (.ro zc16))) .nil), (.cons (.one (.row zc16)) .nil)⟩
def F26 (n : Nat) (xs : List (CTs.T zc16)) : Option (List (CTs.T zc16) × Unit) := cloneF zc16 xs
theorem ok26 (n : Nat) : FunOK Try.prog ⟨26, sig26, F26 n⟩ :=
 clone_ok (c := Try.f26.body.getD .skip) (rs := Try.f26.results.toList) tt_ok mix Try.func26 (by kernel_rfl) rfl (by kernel_rfl) rfl rfl ⟨rfl, rfl, rfl⟩ ⟨rfl, rfl, rfl⟩ ⟨rfl, rfl, rfl⟩ (by kernel_rfl) (by kernel_rfl) (fun xs => by kernel_rfl)
-- slices.Clone[[]string,string]
def sig27 : Sig := ⟨(.cons (.one (.c (.ro (.cons .str .nil)))) .nil), (.cons (.one (.row (.cons .str .nil))) .nil)⟩
def F27 (n : Nat) (xs : List (CTs.T (.cons .str .nil))) : Option (List (CTs.T (.cons .str .nil)) × Unit) := cloneF (.cons .str .nil) xs
theorem ok27 (n : Nat) : FunOK Try.prog ⟨27, sig27, F27 n⟩ :=
 clone_ok (c := Try.f27.body.getD .skip) (rs := Try.f27.results.toList) tt_ok mix Try.func27 (by kernel_rfl) rfl (by kernel_rfl) rfl rfl ⟨rfl, rfl, rfl⟩ ⟨rfl, rfl, rfl⟩ ⟨rfl, rfl, rfl⟩ (by kernel_rfl) (by kernel_rfl) (fun xs => by kernel_rfl)
-- watchfire/route.New
def sig11 : Sig := ⟨(.cons (.one (.c (.ro zc8))) .nil), (.cons (.one (.ptr (.cons (.row zc8) .nil))) (.cons (.one (.c (.int .i64))) .nil))⟩
def F11_J31451 : Nat →
 Arr
 [PT.list
 zc2,
 PT.int IntKind.i64, PT.int IntKind.i64,
 PT.list
 zc2]
 (Option
 ((Option
 (List
 zt5) ×
 Int64) ×
 Unit)) →
 List
 zt5 →
 Int64 →
 Int64 →
 Bool →
 List zt14 →
 List UInt8 →
 List (List UInt8) →
 UInt64 →
 UInt64 →
 UInt64 →
 Bool →
 Int64 →
 List
 zt5 →
 Option
 ((Option
 (List
 zt5) ×
 Int64) ×
 Unit) := fun (n : Nat)
 (rec :
 Arr
 [PT.list
 zc2,
 PT.int IntKind.i64, PT.int IntKind.i64,
 PT.list
 zc2]
 (Option
 ((Option
 (List
 zt5) ×
 Int64) ×
 Unit)))
 (t_4 :
 List
 zt5)
 (t_1_2 t_2_2 : Int64) (t_3_2 : Bool) (n0_1 : List zt14) (n1_1 : List UInt8)
 (n2_1 : List (List UInt8)) (n3_1 n4_1 n5_1 : UInt64) (n6_1 : Bool) (n7_1 : Int64)
 (tl_2 :
 List
 zt5) =>
 oite t_3_2 (some ((none, (24 : Int64)), ()))
 (obind (F25 n (some tl_2, n7_1))
 fun
 (x_3 :
 Int64 ×
 Option
 (List
 zt5)) =>
 oite (decide ((8 : Int64) ≤ x_3.1)) (some ((none, (5 : Int64)), ()))
 (obind (F26 n n0_1) fun (x_4 : List zt14 × Unit) =>
 obind (F27 n n2_1) fun (x_5 : List (List UInt8) × Unit) =>
 obind x_3.2
 fun
 (x_6 :
 List
 zt5) =>
 oite
 (Nat.ble
 (List.length x_6 + List.length [(x_4.1, n1_1, x_5.1, n3_1, n4_1, n5_1, n6_1, n7_1)])
 (4294967296 : Nat))
 (rec t_4 t_1_2 (t_2_2 + (1 : Int64))
 (x_6 ++ [(x_4.1, n1_1, x_5.1, n3_1, n4_1, n5_1, n6_1, n7_1)]))
 none))
def F11_J7862 : Nat →
 Arr
 [PT.list
 zc2,
 PT.int IntKind.i64, PT.int IntKind.i64,
 PT.list
 zc2]
 (Option
 ((Option
 (List
 zt5) ×
 Int64) ×
 Unit)) →
 Int64 →
 List
 zt5 →
 Int64 →
 Int64 →
 Bool →
 List zt14 →
 List UInt8 →
 List (List UInt8) →
 UInt64 →
 UInt64 →
 UInt64 →
 Bool →
 Int64 →
 List
 zt5 →
 Option
 ((Option
 (List
 zt5) ×
 Int64) ×
 Unit) := fun (n : Nat)
 (rec :
 Arr
 [PT.list
 zc2,
 PT.int IntKind.i64, PT.int IntKind.i64,
 PT.list
 zc2]
 (Option
 ((Option
 (List
 zt5) ×
 Int64) ×
 Unit)))
 (i : Int64)
 (t_3 :
 List
 zt5)
 (t_1_1 t_2_1 : Int64) (t_3_1 : Bool) (n0 : List zt14) (n1 : List UInt8)
 (n2 : List (List UInt8)) (n3 n4 n5 : UInt64) (n6 : Bool) (n7 : Int64)
 (tl_1 :
 List
 zt5) =>
 oite t_3_1 (some ((none, (24 : Int64)), ()))
 (ojoinA (31451 : Nat)
 [PT.list
 zc2,
 PT.int IntKind.i64, PT.int IntKind.i64, PT.bool,
 PT.list zc13, PT.bytes,
 PT.list zc18, PT.int IntKind.u64, PT.int IntKind.u64, PT.int IntKind.u64, PT.bool,
 PT.int IntKind.i64,
 PT.list
 zc2]
 (fun
 (J :
 Arr
 [PT.list
 zc2,
 PT.int IntKind.i64, PT.int IntKind.i64, PT.bool,
 PT.list zc13, PT.bytes,
 PT.list zc18, PT.int IntKind.u64, PT.int IntKind.u64, PT.int IntKind.u64, PT.bool,
 PT.int IntKind.i64,
 PT.list
 zc2]
 (Option
 ((Option
 (List
 zt5) ×
 Int64) ×
 Unit))) =>
 oite (decide ((0 : Int64) < i))
 (oite (decide (n7 < (0 : Int64))) (J t_3 t_1_1 t_2_1 true n0 n1 n2 n3 n4 n5 n6 n7 tl_1)
 (J t_3 t_1_1 t_2_1 (decide (i ≤ n7)) n0 n1 n2 n3 n4 n5 n6 n7 tl_1))
 (J t_3 t_1_1 t_2_1 false n0 n1 n2 n3 n4 n5 n6 n7 tl_1))
 (F11_J31451 n rec))
def F11_L61 : Nat →
 Arr
 [PT.list
 zc2,
 PT.int IntKind.i64, PT.int IntKind.i64,
 PT.list
 zc2]
 (Option
 ((Option
 (List
 zt5) ×
 Int64) ×
 Unit)) →
 List
 zt5 →
 Int64 →
 Int64 →
 List
 zt5 →
 Option
 ((Option
 (List
 zt5) ×
 Int64) ×
 Unit) := fun (n : Nat)
 (rec :
 Arr
 [PT.list
 zc2,
 PT.int IntKind.i64, PT.int IntKind.i64,
 PT.list
 zc2]
 (Option
 ((Option
 (List
 zt5) ×
 Int64) ×
 Unit)))
 (t :
 List
 zt5)
 (t_1 t_2 : Int64)
 (tl :
 List
 zt5) =>
 oite (decide (t_2 < t_1))
 (obind (at? t (Int64.toInt t_2))
 fun
 (x_1 :
 List zt14 ×
 List UInt8 × List (List UInt8) × UInt64 × UInt64 × UInt64 × Bool × Int64) =>
 obind
 (F24 n
 (x_1.1, x_1.2.1, x_1.2.2.1,
 x_1.2.2.2.1, x_1.2.2.2.2.1,
 x_1.2.2.2.2.2.1,
 x_1.2.2.2.2.2.2.1,
 x_1.2.2.2.2.2.2.2))
 fun (x_2 : Int64 × Unit) =>
 oite (!decide (x_2.1 = (0 : Int64))) (some ((none, x_2.1), ()))
 (ojoinA (7862 : Nat)
 [PT.int IntKind.i64,
 PT.list
 zc2,
 PT.int IntKind.i64, PT.int IntKind.i64, PT.bool,
 PT.list zc13, PT.bytes,
 PT.list zc18, PT.int IntKind.u64, PT.int IntKind.u64, PT.int IntKind.u64, PT.bool,
 PT.int IntKind.i64,
 PT.list
 zc2]
 (fun
 (J :
 Arr
 [PT.int IntKind.i64,
 PT.list
 zc2,
 PT.int IntKind.i64, PT.int IntKind.i64, PT.bool,
 PT.list zc13, PT.bytes,
 PT.list zc18, PT.int IntKind.u64, PT.int IntKind.u64, PT.int IntKind.u64,
 PT.bool, PT.int IntKind.i64,
 PT.list
 zc2]
 (Option
 ((Option
 (List
 zt5) ×
 Int64) ×
 Unit))) =>
 oite (decide (t_2 = (0 : Int64)))
 (oite
 (!decide
 (x_1.2.2.2.2.2.2.2 = (-1 : Int64)))
 (J t_2 t t_1 t_2 true x_1.1 x_1.2.1 x_1.2.2.1
 x_1.2.2.2.1
 x_1.2.2.2.2.1
 x_1.2.2.2.2.2.1
 x_1.2.2.2.2.2.2.1
 x_1.2.2.2.2.2.2.2 tl)
 (oite (decide ((0 : Int64) < Int64.ofInt ↑(List.length x_1.1)))
 (J t_2 t t_1 t_2 true x_1.1 x_1.2.1 x_1.2.2.1
 x_1.2.2.2.1
 x_1.2.2.2.2.1
 x_1.2.2.2.2.2.1
 x_1.2.2.2.2.2.2.1
 x_1.2.2.2.2.2.2.2 tl)
 (J t_2 t t_1 t_2 x_1.2.2.2.2.2.2.1
 x_1.1 x_1.2.1 x_1.2.2.1
 x_1.2.2.2.1
 x_1.2.2.2.2.1
 x_1.2.2.2.2.2.1
 x_1.2.2.2.2.2.2.1
 x_1.2.2.2.2.2.2.2 tl)))
 (J t_2 t t_1 t_2 false x_1.1 x_1.2.1 x_1.2.2.1
 x_1.2.2.2.1
 x_1.2.2.2.2.1
 x_1.2.2.2.2.2.1
 x_1.2.2.2.2.2.2.1
 x_1.2.2.2.2.2.2.2 tl))
 (F11_J7862 n rec)))
 (some ((some tl, (0 : Int64)), ()))
def F11_R61 : Nat →
 Nat →
 PT.T
 (PT.list
 zc2) →
 Int64 →
 Int64 →
 List
 zt5 →
 Option
 ((Option
 (List
 zt5) ×
 Int64) ×
 Unit) := fun (n : Nat) =>
 ofixA (61 : Nat)
 [PT.list
 zc2,
 PT.int IntKind.i64, PT.int IntKind.i64,
 PT.list
 zc2]
 (F11_L61 n)
def F11 : Nat →
 List
 zt5 →
 Option
 ((Option
 (List
 zt5) ×
 Int64) ×
 Unit) := fun (n : Nat)
 (x :
 List
 zt5) =>
 oite (decide (Int64.ofInt ↑(List.length x) = (0 : Int64))) (some ((none, (5 : Int64)), ()))
 (oite (decide ((32 : Int64) < Int64.ofInt ↑(List.length x))) (some ((none, (5 : Int64)), ()))
 (F11_R61 n n x (Int64.ofInt ↑(List.length x)) (0 : Int64) []))
theorem F11_R61_s (n : Nat) (m_ : Nat) : F11_R61 n (m_ + 1) = F11_L61 n (F11_R61 n m_) := rfl
theorem ok11 (n : Nat) : FunOK Try.prog ⟨11, sig11, F11 n⟩ :=
 fun_ok (hints := ⟨[(7862, ⟨[(4, .one (.own 1)), (5, .one (.int .i64)), (6, .one (.own 2)), (18, .one (.ro zc8)), (19, .one (.int .i64)), (20, .one (.int .i64)), (30, .one (.bool))], [(1, .cells [.own 3]), (2, .cells [.ro zc16, .str, .ro (.cons .str .nil), .int .u64, .int .u64, .int .u64, .bool, .int .i64]), (3, .row zc8)], 4⟩), (31451, ⟨[(4, .one (.own 1)), (6, .one (.own 2)), (18, .one (.ro zc8)), (19, .one (.int .i64)), (20, .one (.int .i64)), (48, .one (.bool))], [(1, .cells [.own 3]), (2, .cells [.ro zc16, .str, .ro (.cons .str .nil), .int .u64, .int .u64, .int .u64, .bool, .int .i64]), (3, .row zc8)], 4⟩)], [(61, ⟨[(4, .one (.own 1)), (18, .one (.ro zc8)), (19, .one (.int .i64)), (20, .one (.int .i64))], [(1, .cells [.own 2]), (2, .row zc8)], 3⟩)]⟩) (fuel := n) (c := Try.f11.body.getD .skip) (rs := Try.f11.results.toList) tt_ok mix (FsOK.cons (ok24 n) (FsOK.cons (ok25 n) (FsOK.cons (ok26 n) (FsOK.cons (ok27 n) (FsOK.nil))))) Try.func11 (by kernel_rfl) (by kernel_rfl) rfl (by kernel_rfl) rfl rfl (by kernel_rfl)
-- (*watchfire/route.Tree).Len
def sig28 : Sig := ⟨(.cons (.one (.c (.rop (.cons (.ro zc8) .nil)))) .nil), (.cons (.one (.c (.int .i64))) .nil)⟩
def F28 : Nat →
 Option
 (List
 zt5) →
 Option (Int64 × Unit) := fun (n : Nat)
 (x :
 Option
 (List
 zt5)) =>
 oite (Option.isNone x) (some ((0 : Int64), ()))
 (obind x
 fun
 (x_1 :
 List
 zt5) =>
 some (Int64.ofInt ↑(List.length x_1), ()))
theorem ok28 (n : Nat) : FunOK Try.prog ⟨28, sig28, F28 n⟩ :=
 fun_ok (hints := ⟨[], []⟩) (fuel := n) (c := Try.f28.body.getD .skip) (rs := Try.f28.results.toList) tt_ok mix (FsOK.nil) Try.func28 (by kernel_rfl) (by kernel_rfl) rfl (by kernel_rfl) rfl rfl (by kernel_rfl)
-- watchfire/group.New
def sig12 : Sig := ⟨(.cons (.one (.c (.rop (.cons (.ro zc8) .nil)))) .nil), (.cons (.one (.ptr (.cons (.c (.rop (.cons (.ro zc8) .nil))) (.cons (.map (.agg zc15) (.agg (.cons (.ro zc12) (.cons (.int .u64) (.cons .bool (.cons (.int .u64) (.cons (.rom (.cons (.int .u8) zc12) zc4) .nil))))))) (.cons (.c (.int .u64)) .nil))))) (.cons (.one (.c (.int .i64))) .nil))⟩
def F12 : Nat →
 Option
 (List
 zt5) →
 Option
 ((Option
 zt1 ×
 Int64) ×
 Unit) := fun (n : Nat)
 (x :
 Option
 (List
 zt5)) =>
 obind (F28 n x) fun (x_1 : Int64 × Unit) =>
 oite (decide (x_1.1 = (0 : Int64))) (some ((none, (1 : Int64)), ()))
 (some
 ((some
 (x,
 @List.nil
 ((Int64 × List UInt8) ×
 List zt10 ×
 UInt64 ×
 Bool ×
 UInt64 ×
 List
 zt7),
 (0 : UInt64)),
 (0 : Int64)),
 ()))
theorem ok12 (n : Nat) : FunOK Try.prog ⟨12, sig12, F12 n⟩ :=
 fun_ok (hints := ⟨[], []⟩) (fuel := n) (c := Try.f12.body.getD .skip) (rs := Try.f12.results.toList) tt_ok mix (FsOK.cons (ok28 n) (FsOK.nil)) Try.func12 (by kernel_rfl) (by kernel_rfl) rfl (by kernel_rfl) rfl rfl (by kernel_rfl)
-- watchfire/match.number
def sig69 : Sig := ⟨(.cons (.one (.c (.int .u8))) .nil), (.cons (.one (.c .str)) .nil)⟩
def G69 : Nat → (UInt8 → Option (List UInt8 × Unit)) → UInt8 → Option (List UInt8 × Unit) := fun (n : Nat) (rc : UInt8 → Option (List UInt8 × Unit)) (x : UInt8) =>
 oite (decide ((9 : UInt8) < x))
 (obind (rc (x / (10 : UInt8))) fun (x_1 : List UInt8 × Unit) =>
 obind (rc (x % (10 : UInt8))) fun (x_2 : List UInt8 × Unit) =>
 oite (Nat.ble (List.length x_1.1 + List.length x_2.1) (4294967296 : Nat))
 (some (x_1.1 ++ x_2.1, ())) none)
 (some ([(48 : UInt8) + x], ()))
theorem okG69 (n : Nat) (rc : sig69.In → Option sig69.Out) (h : FunOK Try.prog ⟨69, sig69, rc⟩) : FunOK Try.prog ⟨69, sig69, G69 n rc⟩ :=
 fun_ok (hints := ⟨[], []⟩) (fuel := n) (c := Try.f69.body.getD .skip) (rs := Try.f69.results.toList) tt_ok mix (FsOK.cons h (FsOK.nil)) Try.func69 (by kernel_rfl) (by kernel_rfl) rfl (by kernel_rfl) rfl rfl (by kernel_rfl)
def F69 (n : Nat) : UInt8 → Option (List UInt8 × Unit) := selfN (sig := sig69) (G69 n) n
theorem ok69 (n : Nat) : FunOK Try.prog ⟨69, sig69, F69 n⟩ :=
 self_ok (c := Try.f69.body.getD .skip) Try.func69 (by kernel_rfl) (by kernel_rfl) (fun F h => okG69 n F h) rfl n
-- watchfire/lab.Get
def sig70 : Sig := ⟨(.cons (.one (.c (.ro zc12))) (.cons (.one (.c .str)) .nil)), (.cons (.one (.c .str)) (.cons (.one (.c .bool)) .nil))⟩
def F70_L13 : Arr [PT.bytes, PT.list zc6, PT.int IntKind.i64, PT.int IntKind.i64]
 (Option ((List UInt8 × Bool) × Unit)) →
 List UInt8 → List zt10 → Int64 → Int64 → Option ((List UInt8 × Bool) × Unit) := fun
 (rec :
 Arr [PT.bytes, PT.list zc6, PT.int IntKind.i64, PT.int IntKind.i64]
 (Option ((List UInt8 × Bool) × Unit)))
 (key : List UInt8) (t : List zt10) (t_1 t_2 : Int64) =>
 oite (decide (t_2 < t_1))
 (obind (at? t (Int64.toInt t_2)) fun (x_1 : List UInt8 × List UInt8) =>
 oite (x_1.1 == key) (some ((x_1.2, true), ())) (rec key t t_1 (t_2 + (1 : Int64))))
 (some ((@List.nil UInt8, false), ()))
def F70_R13 : Nat → PT.T PT.bytes → List zt10 → Int64 → Int64 → Option ((List UInt8 × Bool) × Unit) := ofixA (13 : Nat) [PT.bytes, PT.list zc6, PT.int IntKind.i64, PT.int IntKind.i64]
 F70_L13
def F70 : Nat → List zt10 × List UInt8 → Option ((List UInt8 × Bool) × Unit) := fun (n : Nat) (x : List zt10 × List UInt8) =>
 F70_R13 n x.2 x.1 (Int64.ofInt ↑(List.length x.1)) (0 : Int64)
theorem F70_R13_s  (m_ : Nat) : F70_R13  (m_ + 1) = F70_L13  (F70_R13  m_) := rfl
theorem ok70 (n : Nat) : FunOK Try.prog ⟨70, sig70, F70 n⟩ :=
 fun_ok (hints := ⟨[], [(13, ⟨[(1, .one (.str)), (8, .one (.ro zc12)), (9, .one (.int .i64)), (10, .one (.int .i64))], [], 2⟩)]⟩) (fuel := n) (c := Try.f70.body.getD .skip) (rs := Try.f70.results.toList) tt_ok mix (FsOK.nil) Try.func70 (by kernel_rfl) (by kernel_rfl) rfl (by kernel_rfl) rfl rfl (by kernel_rfl)
-- watchfire/match.Names
def sig57 : Sig := ⟨(.cons (.agg zc4) .nil), (.cons (.one (.c (.ro zc12))) .nil)⟩
def F57_L29 : Nat →
 Arr
 [PT.int IntKind.i64, PT.int IntKind.i64, PT.int IntKind.u8, PT.bytes,
 PT.list zc6, PT.int IntKind.u8, PT.int IntKind.u64, PT.int IntKind.u8,
 PT.int IntKind.i64, PT.list zc6,
 PT.list zc6]
 (Option (List zt10 × Unit)) →
 Int64 →
 Int64 →
 UInt8 →
 List UInt8 →
 List zt10 →
 UInt8 →
 UInt64 →
 UInt8 →
 Int64 →
 List zt10 →
 List zt10 → Option (List zt10 × Unit) := fun (n : Nat)
 (rec :
 Arr
 [PT.int IntKind.i64, PT.int IntKind.i64, PT.int IntKind.u8, PT.bytes,
 PT.list zc6, PT.int IntKind.u8, PT.int IntKind.u64, PT.int IntKind.u8,
 PT.int IntKind.i64, PT.list zc6,
 PT.list zc6]
 (Option (List zt10 × Unit)))
 (t t_1 : Int64) (a0 : UInt8) (a1 : List UInt8) (a2 : List zt10) (a3 : UInt8) (a4 : UInt64)
 (a5 : UInt8) (a6 : Int64) (out t_2 : List zt10) =>
 oite (decide (t_1 < t))
 (oite (decide ((0 : Int) ≤ Int64.toInt t_1) && Nat.blt (Int.toNat (Int64.toInt t_1)) (List.length t_2))
 (obind t_2[Int.toNat (Int64.toInt t_1)]? fun (x_2 : List UInt8 × List UInt8) =>
 obind (F70 n (a2, x_2.1)) fun (x_3 : (List UInt8 × Bool) × Unit) =>
 oite (!x_3.1.2)
 (oite (Nat.ble (List.length out + List.length [(x_2.1, x_2.2)]) (4294967296 : Nat))
 (rec t (t_1 + (1 : Int64)) a0 a1 a2 a3 a4 a5 a6 (out ++ [(x_2.1, x_2.2)]) t_2) none)
 (rec t (t_1 + (1 : Int64)) a0 a1 a2 a3 a4 a5 a6 out t_2))
 none)
 (some (out, ()))
def F57_R29 : Nat →
 Nat →
 PT.T (PT.int IntKind.i64) →
 Int64 →
 UInt8 →
 List UInt8 →
 List zt10 →
 UInt8 →
 UInt64 →
 UInt8 →
 Int64 →
 List zt10 →
 List zt10 → Option (List zt10 × Unit) := fun (n : Nat) =>
 ofixA (29 : Nat)
 [PT.int IntKind.i64, PT.int IntKind.i64, PT.int IntKind.u8, PT.bytes,
 PT.list zc6, PT.int IntKind.u8, PT.int IntKind.u64, PT.int IntKind.u8,
 PT.int IntKind.i64, PT.list zc6,
 PT.list zc6]
 (F57_L29 n)
def F57 : Nat →
 UInt8 × List UInt8 × List zt10 × UInt8 × UInt64 × UInt8 × Int64 →
 Option (List zt10 × Unit) := fun (n : Nat) (x : UInt8 × List UInt8 × List zt10 × UInt8 × UInt64 × UInt8 × Int64) =>
 oite (Nat.ble ((0 : Nat) + List.length x.2.2.1) (4294967296 : Nat))
 (obind (F69 n x.1) fun (x_1 : List UInt8 × Unit) =>
 F57_R29 n n
 (Int64.ofInt
 ↑(List.length
 [([(114 : UInt8), (117 : UInt8), (108 : UInt8), (101 : UInt8)], x.2.1),
 ([(111 : UInt8), (114 : UInt8), (105 : UInt8), (103 : UInt8), (105 : UInt8), (110 : UInt8)],
 x_1.1)]))
 (0 : Int64) x.1 x.2.1 x.2.2.1
 x.2.2.2.1 x.2.2.2.2.1
 x.2.2.2.2.2.1
 x.2.2.2.2.2.2 ([] ++ x.2.2.1)
 [([(114 : UInt8), (117 : UInt8), (108 : UInt8), (101 : UInt8)], x.2.1),
 ([(111 : UInt8), (114 : UInt8), (105 : UInt8), (103 : UInt8), (105 : UInt8), (110 : UInt8)], x_1.1)])
 none
theorem F57_R29_s (n : Nat) (m_ : Nat) : F57_R29 n (m_ + 1) = F57_L29 n (F57_R29 n m_) := rfl
theorem ok57 (n : Nat) : FunOK Try.prog ⟨57, sig57, F57 n⟩ :=
 fun_ok (hints := ⟨[], [(29, ⟨[(1, .one (.own 1)), (3, .one (.own 2)), (19, .one (.own 3)), (20, .one (.int .i64)), (21, .one (.int .i64))], [(1, .cells [.int .u8, .str, .ro zc12, .int .u8, .int .u64, .int .u8, .int .i64]), (2, .row zc12), (3, .row zc12)], 4⟩)]⟩) (fuel := n) (c := Try.f57.body.getD .skip) (rs := Try.f57.results.toList) tt_ok mix (FsOK.cons (ok69 n) (FsOK.cons (ok70 n) (FsOK.nil))) Try.func57 (by kernel_rfl) (by kernel_rfl) rfl (by kernel_rfl) rfl rfl (by kernel_rfl)
-- internal/stringslite.HasPrefix
def sig97 : Sig := ⟨(.cons (.one (.c .str)) (.cons (.one (.c .str)) .nil)), (.cons (.one (.c .bool)) .nil)⟩
def F97 : Nat → List UInt8 × List UInt8 → Option (Bool × Unit) := fun (n : Nat) (x : List UInt8 × List UInt8) =>
 oite (decide (Int64.ofInt ↑(List.length x.2) ≤ Int64.ofInt ↑(List.length x.1)))
 (oite
 (decide ((0 : Int) ≤ Int64.toInt (Int64.ofInt ↑(List.length x.2))) &&
 Nat.ble (Int.toNat (Int64.toInt (Int64.ofInt ↑(List.length x.2)))) (List.length x.1) &&
 true)
 (some
 (List.drop (0 : Nat)
 (List.take (Int.toNat (Int64.toInt (Int64.ofInt ↑(List.length x.2)))) x.1) ==
 x.2,
 ()))
 none)
 (some (false, ()))
theorem ok97 (n : Nat) : FunOK Try.prog ⟨97, sig97, F97 n⟩ :=
 fun_ok (hints := ⟨[], []⟩) (fuel := n) (c := Try.f97.body.getD .skip) (rs := Try.f97.results.toList) tt_ok mix (FsOK.nil) Try.func97 (by kernel_rfl) (by kernel_rfl) rfl (by kernel_rfl) rfl rfl (by kernel_rfl)
-- strings.HasPrefix
def sig94 : Sig := ⟨(.cons (.one (.c .str)) (.cons (.one (.c .str)) .nil)), (.cons (.one (.c .bool)) .nil)⟩
def F94 : Nat → List UInt8 × List UInt8 → Option (Bool × Unit) := fun (n : Nat) (x : List UInt8 × List UInt8) =>
 obind (F97 n (x.1, x.2)) fun (x_1 : Bool × Unit) => some (x_1.1, ())
theorem ok94 (n : Nat) : FunOK Try.prog ⟨94, sig94, F94 n⟩ :=
 fun_ok (hints := ⟨[], []⟩) (fuel := n) (c := Try.f94.body.getD .skip) (rs := Try.f94.results.toList) tt_ok mix (FsOK.cons (ok97 n) (FsOK.nil)) Try.func94 (by kernel_rfl) (by kernel_rfl) rfl (by kernel_rfl) rfl rfl (by kernel_rfl)
-- (watchfire/match.Ask).Holds
def sig84 : Sig := ⟨(.cons (.agg zc16) (.cons (.one (.c (.ro zc12))) .nil)), (.cons (.one (.c .bool)) .nil)⟩
def F84 : Nat → zt14 × List zt10 → Option (Bool × Unit) := fun (n : Nat) (x : zt14 × List zt10) =>
 obind (F70 n (x.2, x.1.1)) fun (x_1 : (List UInt8 × Bool) × Unit) =>
 oite (decide (x.1.2.1 = (1 : UInt8)))
 (oite x_1.1.2 (some (x_1.1.1 == x.1.2.2, ()))
 (some (false, ())))
 (oite (decide (x.1.2.1 = (2 : UInt8)))
 (oite (!x_1.1.2) (some (true, ()))
 (some (!x_1.1.1 == x.1.2.2, ())))
 (oite (decide (x.1.2.1 = (3 : UInt8)))
 (oite x_1.1.2
 (obind (F94 n (x_1.1.1, x.1.2.2)) fun (x_2 : Bool × Unit) =>
 some (x_2.1, ()))
 (some (false, ())))
 (oite (decide (x.1.2.1 = (4 : UInt8))) (some (x_1.1.2, ()))
 (oite (decide (x.1.2.1 = (5 : UInt8)))
 (some (!x_1.1.2, ())) (some (false, ()))))))
theorem ok84 (n : Nat) : FunOK Try.prog ⟨84, sig84, F84 n⟩ :=
 fun_ok (hints := ⟨[], []⟩) (fuel := n) (c := Try.f84.body.getD .skip) (rs := Try.f84.results.toList) tt_ok mix (FsOK.cons (ok70 n) (FsOK.cons (ok94 n) (FsOK.nil))) Try.func84 (by kernel_rfl) (by kernel_rfl) rfl (by kernel_rfl) rfl rfl (by kernel_rfl)
-- (watchfire/match.Asks).Holds
def sig68 : Sig := ⟨(.cons (.one (.c (.ro zc16))) (.cons (.one (.c (.ro zc12))) .nil)), (.cons (.one (.c .bool)) .nil)⟩
def F68_L13 : Nat →
 Arr
 [PT.list zc6,
 PT.list zc13, PT.int IntKind.i64,
 PT.int IntKind.i64]
 (Option (Bool × Unit)) →
 List zt10 → List zt14 → Int64 → Int64 → Option (Bool × Unit) := fun (n : Nat)
 (rec :
 Arr
 [PT.list zc6,
 PT.list zc13, PT.int IntKind.i64,
 PT.int IntKind.i64]
 (Option (Bool × Unit)))
 (labels : List zt10) (t : List zt14) (t_1 t_2 : Int64) =>
 oite (decide (t_2 < t_1))
 (obind (at? t (Int64.toInt t_2)) fun (x_1 : List UInt8 × UInt8 × List UInt8) =>
 obind (F84 n ((x_1.1, x_1.2.1, x_1.2.2), labels))
 fun (x_2 : Bool × Unit) =>
 oite (!x_2.1) (some (false, ())) (rec labels t t_1 (t_2 + (1 : Int64))))
 (some (true, ()))
def F68_R13 : Nat →
 Nat →
 PT.T (PT.list zc6) →
 List zt14 → Int64 → Int64 → Option (Bool × Unit) := fun (n : Nat) =>
 ofixA (13 : Nat)
 [PT.list zc6,
 PT.list zc13, PT.int IntKind.i64,
 PT.int IntKind.i64]
 (F68_L13 n)
def F68 : Nat → List zt14 × List zt10 → Option (Bool × Unit) := fun (n : Nat) (x : List zt14 × List zt10) =>
 F68_R13 n n x.2 x.1 (Int64.ofInt ↑(List.length x.1)) (0 : Int64)
theorem F68_R13_s (n : Nat) (m_ : Nat) : F68_R13 n (m_ + 1) = F68_L13 n (F68_R13 n m_) := rfl
theorem ok68 (n : Nat) : FunOK Try.prog ⟨68, sig68, F68 n⟩ :=
 fun_ok (hints := ⟨[], [(13, ⟨[(1, .one (.ro zc12)), (7, .one (.ro zc16)), (8, .one (.int .i64)), (9, .one (.int .i64))], [], 2⟩)]⟩) (fuel := n) (c := Try.f68.body.getD .skip) (rs := Try.f68.results.toList) tt_ok mix (FsOK.cons (ok84 n) (FsOK.nil)) Try.func68 (by kernel_rfl) (by kernel_rfl) rfl (by kernel_rfl) rfl rfl (by kernel_rfl)
-- (*watchfire/route.Tree).walk
def sig56 : Sig := ⟨(.cons (.one (.c (.rop (.cons (.ro zc8) .nil)))) (.cons (.one (.c (.int .i64))) (.cons (.one (.c (.ro zc12))) .nil))), (.cons (.one (.row (.cons (.int .i64) .nil))) .nil)⟩
def G56_L29 : Nat →
 (Option
 (List
 zt5) ×
 Int64 × List zt10 →
 Option (List Int64 × Unit)) →
 Arr
 [PT.optC
 (CTs.cons
 (CT.ro
 zc2)
 CTs.nil),
 PT.int IntKind.i64, PT.list zc6, PT.int IntKind.i64,
 PT.list zc17]
 (Option (List Int64 × Unit)) →
 Option
 (List
 zt5) →
 Int64 → List zt10 → Int64 → List Int64 → Option (List Int64 × Unit) := fun (n : Nat)
 (rc :
 Option
 (List
 zt5) ×
 Int64 × List zt10 →
 Option (List Int64 × Unit))
 (rec :
 Arr
 [PT.optC
 (CTs.cons
 (CT.ro
 zc2)
 CTs.nil),
 PT.int IntKind.i64, PT.list zc6, PT.int IntKind.i64,
 PT.list zc17]
 (Option (List Int64 × Unit)))
 (t :
 Option
 (List
 zt5))
 (at_ : Int64) (l : List zt10) (i : Int64) (out : List Int64) =>
 obind t
 fun
 (x_1 :
 List
 zt5) =>
 oite (decide (i < Int64.ofInt ↑(List.length x_1)))
 (obind t
 fun
 (x_2 :
 List
 zt5) =>
 obind (at? x_2 (Int64.toInt i))
 fun
 (x_3 :
 List zt14 ×
 List UInt8 × List (List UInt8) × UInt64 × UInt64 × UInt64 × Bool × Int64) =>
 oite (!decide (x_3.2.2.2.2.2.2.2 = at_))
 (rec t at_ l (i + (1 : Int64)) out)
 (obind (F68 n (x_3.1, l)) fun (x_4 : Bool × Unit) =>
 oite (!x_4.1) (rec t at_ l (i + (1 : Int64)) out)
 (obind (rc (t, i, l)) fun (x_5 : List Int64 × Unit) =>
 oite (Nat.ble (List.length out + List.length x_5.1) (4294967296 : Nat))
 (oite (!x_3.2.2.2.2.2.2.1)
 (oite (decide (Int64.ofInt ↑(List.length (out ++ x_5.1)) = (0 : Int64)))
 (some ([at_], ())) (some (out ++ x_5.1, ())))
 (rec t at_ l (i + (1 : Int64)) (out ++ x_5.1)))
 none)))
 (oite (decide (Int64.ofInt ↑(List.length out) = (0 : Int64))) (some ([at_], ())) (some (out, ())))
def G56_R29 : Nat →
 (Option
 (List
 zt5) ×
 Int64 × List zt10 →
 Option (List Int64 × Unit)) →
 Nat →
 PT.T
 (PT.optC
 (CTs.cons
 (CT.ro
 zc2)
 CTs.nil)) →
 Int64 → List zt10 → Int64 → List Int64 → Option (List Int64 × Unit) := fun (n : Nat)
 (rc :
 Option
 (List
 zt5) ×
 Int64 × List zt10 →
 Option (List Int64 × Unit)) =>
 ofixA (29 : Nat)
 [PT.optC
 (CTs.cons
 (CT.ro
 zc2)
 CTs.nil),
 PT.int IntKind.i64, PT.list zc6, PT.int IntKind.i64,
 PT.list zc17]
 (G56_L29 n rc)
def G56 : Nat →
 (Option
 (List
 zt5) ×
 Int64 × List zt10 →
 Option (List Int64 × Unit)) →
 Option
 (List
 zt5) ×
 Int64 × List zt10 →
 Option (List Int64 × Unit) := fun (n : Nat)
 (rc :
 Option
 (List
 zt5) ×
 Int64 × List zt10 →
 Option (List Int64 × Unit))
 (x :
 Option
 (List
 zt5) ×
 Int64 × List zt10) =>
 G56_R29 n rc n x.1 x.2.1 x.2.2 (x.2.1 + (1 : Int64)) []
theorem G56_R29_s (n : Nat) (rc : Option (List zt5) × Int64 × List zt10 → Option (List Int64 × Unit)) (m_ : Nat) : G56_R29 n rc (m_ + 1) = G56_L29 n rc (G56_R29 n rc m_) := rfl
theorem okG56 (n : Nat) (rc : sig56.In → Option sig56.Out) (h : FunOK Try.prog ⟨56, sig56, rc⟩) : FunOK Try.prog ⟨56, sig56, G56 n rc⟩ :=
 fun_ok (hints := ⟨[], [(29, ⟨[(0, .one (.rop (.cons (.ro zc8) .nil))), (1, .one (.int .i64)), (2, .one (.ro zc12)), (7, .one (.own 3)), (8, .one (.int .i64))], [(3, .row (.cons (.int .i64) .nil))], 4⟩)]⟩) (fuel := n) (c := Try.f56.body.getD .skip) (rs := Try.f56.results.toList) tt_ok mix (FsOK.cons (ok68 n) (FsOK.cons h (FsOK.nil))) Try.func56 (by kernel_rfl) (by kernel_rfl) rfl (by kernel_rfl) rfl rfl (by kernel_rfl)
def F56 (n : Nat) : Option (List zt5) × Int64 × List zt10 → Option (List Int64 × Unit) := selfN (sig := sig56) (G56 n) n
theorem ok56 (n : Nat) : FunOK Try.prog ⟨56, sig56, F56 n⟩ :=
 self_ok (c := Try.f56.body.getD .skip) Try.func56 (by kernel_rfl) (by kernel_rfl) (fun F h => okG56 n F h) rfl n
-- (*watchfire/route.Tree).Find
def sig44 : Sig := ⟨(.cons (.one (.c (.rop (.cons (.ro zc8) .nil)))) (.cons (.agg zc4) .nil)), (.cons (.one (.row (.cons (.int .i64) .nil))) .nil)⟩
def F44 : Nat →
 Option
 (List
 zt5) ×
 UInt8 × List UInt8 × List zt10 × UInt8 × UInt64 × UInt8 × Int64 →
 Option (List Int64 × Unit) := fun (n : Nat)
 (x :
 Option
 (List
 zt5) ×
 UInt8 × List UInt8 × List zt10 × UInt8 × UInt64 × UInt8 × Int64) =>
 obind (F28 n x.1) fun (x_1 : Int64 × Unit) =>
 oite (decide (x_1.1 = (0 : Int64))) (some (@List.nil Int64, ()))
 (obind
 (F57 n
 (x.2.1, x.2.2.1, x.2.2.2.1,
 x.2.2.2.2.1,
 x.2.2.2.2.2.1,
 x.2.2.2.2.2.2.1,
 x.2.2.2.2.2.2.2))
 fun (x_2 : List zt10 × Unit) =>
 obind (F56 n (x.1, (0 : Int64), x_2.1)) fun (x_3 : List Int64 × Unit) =>
 some (x_3.1, ()))
theorem ok44 (n : Nat) : FunOK Try.prog ⟨44, sig44, F44 n⟩ :=
 fun_ok (hints := ⟨[], []⟩) (fuel := n) (c := Try.f44.body.getD .skip) (rs := Try.f44.results.toList) tt_ok mix (FsOK.cons (ok28 n) (FsOK.cons (ok57 n) (FsOK.cons (ok56 n) (FsOK.nil)))) Try.func44 (by kernel_rfl) (by kernel_rfl) rfl (by kernel_rfl) rfl rfl (by kernel_rfl)
-- (*watchfire/route.Tree).Node
def sig30 : Sig := ⟨(.cons (.one (.c (.rop (.cons (.ro zc8) .nil)))) (.cons (.one (.c (.int .i64))) .nil)), (.cons (.agg zc8) (.cons (.one (.c .bool)) .nil))⟩
def F30 : Nat →
 Option
 (List
 zt5) ×
 Int64 →
 Option
 ((zt5 ×
 Bool) ×
 Unit) := fun (n : Nat)
 (x :
 Option
 (List
 zt5) ×
 Int64) =>
 oite (decide (x.2 < (0 : Int64)))
 (some
 (((@List.nil zt14, @List.nil UInt8, @List.nil (List UInt8), (0 : UInt64),
 (0 : UInt64), (0 : UInt64), false, (0 : Int64)),
 false),
 ()))
 (obind (F28 n x.1) fun (x_1 : Int64 × Unit) =>
 oite (decide (x_1.1 ≤ x.2))
 (some
 (((@List.nil zt14, @List.nil UInt8, @List.nil (List UInt8), (0 : UInt64),
 (0 : UInt64), (0 : UInt64), false, (0 : Int64)),
 false),
 ()))
 (obind x.1
 fun
 (x_2 :
 List
 zt5) =>
 obind (at? x_2 (Int64.toInt x.2))
 fun
 (x_3 :
 List zt14 ×
 List UInt8 × List (List UInt8) × UInt64 × UInt64 × UInt64 × Bool × Int64) =>
 obind (F26 n x_3.1) fun (x_4 : List zt14 × Unit) =>
 obind (F27 n x_3.2.2.1) fun (x_5 : List (List UInt8) × Unit) =>
 some
 (((x_4.1, x_3.2.1, x_5.1, x_3.2.2.2.1,
 x_3.2.2.2.2.1,
 x_3.2.2.2.2.2.1,
 x_3.2.2.2.2.2.2.1,
 x_3.2.2.2.2.2.2.2),
 true),
 ())))
theorem ok30 (n : Nat) : FunOK Try.prog ⟨30, sig30, F30 n⟩ :=
 fun_ok (hints := ⟨[], []⟩) (fuel := n) (c := Try.f30.body.getD .skip) (rs := Try.f30.results.toList) tt_ok mix (FsOK.cons (ok28 n) (FsOK.cons (ok26 n) (FsOK.cons (ok27 n) (FsOK.nil)))) Try.func30 (by kernel_rfl) (by kernel_rfl) rfl (by kernel_rfl) rfl rfl (by kernel_rfl)
-- slices.Index[[]string,string]
def sig85 : Sig := ⟨(.cons (.one (.c (.ro (.cons .str .nil)))) (.cons (.one (.c .str)) .nil)), (.cons (.one (.c (.int .i64))) .nil)⟩
def F85_L13 : Arr [PT.list zc18, PT.bytes, PT.int IntKind.i64, PT.int IntKind.i64] (Option (Int64 × Unit)) →
 List (List UInt8) → List UInt8 → Int64 → Int64 → Option (Int64 × Unit) := fun
 (rec :
 Arr [PT.list zc18, PT.bytes, PT.int IntKind.i64, PT.int IntKind.i64]
 (Option (Int64 × Unit)))
 (s : List (List UInt8)) (v : List UInt8) (t t_1 : Int64) =>
 oite (decide (t_1 < t))
 (obind (at? s (Int64.toInt t_1)) fun (x_1 : List UInt8) =>
 oite (v == x_1) (some (t_1, ())) (rec s v t (t_1 + (1 : Int64))))
 (some ((-1 : Int64), ()))
def F85_R13 : Nat → PT.T (PT.list zc18) → List UInt8 → Int64 → Int64 → Option (Int64 × Unit) := ofixA (13 : Nat) [PT.list zc18, PT.bytes, PT.int IntKind.i64, PT.int IntKind.i64] F85_L13
def F85 : Nat → List (List UInt8) × List UInt8 → Option (Int64 × Unit) := fun (n : Nat) (x : List (List UInt8) × List UInt8) =>
 F85_R13 n x.1 x.2 (Int64.ofInt ↑(List.length x.1)) (0 : Int64)
theorem F85_R13_s  (m_ : Nat) : F85_R13  (m_ + 1) = F85_L13  (F85_R13  m_) := rfl
theorem ok85 (n : Nat) : FunOK Try.prog ⟨85, sig85, F85 n⟩ :=
 fun_ok (hints := ⟨[], [(13, ⟨[(0, .one (.ro (.cons .str .nil))), (1, .one (.str)), (7, .one (.int .i64)), (8, .one (.int .i64))], [], 2⟩)]⟩) (fuel := n) (c := Try.f85.body.getD .skip) (rs := Try.f85.results.toList) tt_ok mix (FsOK.nil) Try.func85 (by kernel_rfl) (by kernel_rfl) rfl (by kernel_rfl) rfl rfl (by kernel_rfl)
-- slices.Contains[[]string,string]
def sig71 : Sig := ⟨(.cons (.one (.c (.ro (.cons .str .nil)))) (.cons (.one (.c .str)) .nil)), (.cons (.one (.c .bool)) .nil)⟩
def F71 : Nat → List (List UInt8) × List UInt8 → Option (Bool × Unit) := fun (n : Nat) (x : List (List UInt8) × List UInt8) =>
 obind (F85 n (x.1, x.2)) fun (x_1 : Int64 × Unit) =>
 some (decide ((0 : Int64) ≤ x_1.1), ())
theorem ok71 (n : Nat) : FunOK Try.prog ⟨71, sig71, F71 n⟩ :=
 fun_ok (hints := ⟨[], []⟩) (fuel := n) (c := Try.f71.body.getD .skip) (rs := Try.f71.results.toList) tt_ok mix (FsOK.cons (ok85 n) (FsOK.nil)) Try.func71 (by kernel_rfl) (by kernel_rfl) rfl (by kernel_rfl) rfl rfl (by kernel_rfl)
-- watchfire/lab.Only
def sig58 : Sig := ⟨(.cons (.one (.c (.ro zc12))) (.cons (.one (.c (.ro (.cons .str .nil)))) .nil)), (.cons (.one (.c (.ro zc12))) .nil)⟩
def F58_L29 : Nat →
 Arr
 [PT.list zc18, PT.list zc6, PT.int IntKind.i64,
 PT.int IntKind.i64, PT.list zc6]
 (Option (List zt10 × Unit)) →
 List (List UInt8) →
 List zt10 →
 Int64 → Int64 → List zt10 → Option (List zt10 × Unit) := fun (n : Nat)
 (rec :
 Arr
 [PT.list zc18, PT.list zc6, PT.int IntKind.i64,
 PT.int IntKind.i64, PT.list zc6]
 (Option (List zt10 × Unit)))
 (keys : List (List UInt8)) (t : List zt10) (t_1 t_2 : Int64)
 (out : List zt10) =>
 oite (decide (t_2 < t_1))
 (obind (at? t (Int64.toInt t_2)) fun (x_1 : List UInt8 × List UInt8) =>
 obind (F71 n (keys, x_1.1)) fun (x_2 : Bool × Unit) =>
 oite x_2.1
 (oite (Nat.ble (List.length out + List.length [(x_1.1, x_1.2)]) (4294967296 : Nat))
 (rec keys t t_1 (t_2 + (1 : Int64)) (out ++ [(x_1.1, x_1.2)])) none)
 (rec keys t t_1 (t_2 + (1 : Int64)) out))
 (some (out, ()))
def F58_R29 : Nat →
 Nat →
 PT.T (PT.list zc18) →
 List zt10 →
 Int64 → Int64 → List zt10 → Option (List zt10 × Unit) := fun (n : Nat) =>
 ofixA (29 : Nat)
 [PT.list zc18, PT.list zc6, PT.int IntKind.i64,
 PT.int IntKind.i64, PT.list zc6]
 (F58_L29 n)
def F58 : Nat → List zt10 × List (List UInt8) → Option (List zt10 × Unit) := fun (n : Nat) (x : List zt10 × List (List UInt8)) =>
 F58_R29 n n x.2 x.1 (Int64.ofInt ↑(List.length x.1)) (0 : Int64) []
theorem F58_R29_s (n : Nat) (m_ : Nat) : F58_R29 n (m_ + 1) = F58_L29 n (F58_R29 n m_) := rfl
theorem ok58 (n : Nat) : FunOK Try.prog ⟨58, sig58, F58 n⟩ :=
 fun_ok (hints := ⟨[], [(29, ⟨[(1, .one (.ro (.cons .str .nil))), (5, .one (.own 2)), (8, .one (.ro zc12)), (9, .one (.int .i64)), (10, .one (.int .i64))], [(2, .row zc12)], 3⟩)]⟩) (fuel := n) (c := Try.f58.body.getD .skip) (rs := Try.f58.results.toList) tt_ok mix (FsOK.cons (ok71 n) (FsOK.nil)) Try.func58 (by kernel_rfl) (by kernel_rfl) rfl (by kernel_rfl) rfl rfl (by kernel_rfl)
-- (watchfire/route.Node).Group
def sig45 : Sig := ⟨(.cons (.agg zc8) (.cons (.agg zc4) .nil)), (.cons (.one (.c (.ro zc12))) .nil)⟩
def F45 : Nat →
 zt5 ×
 UInt8 × List UInt8 × List zt10 × UInt8 × UInt64 × UInt8 × Int64 →
 Option (List zt10 × Unit) := fun (n : Nat)
 (x :
 zt5 ×
 UInt8 × List UInt8 × List zt10 × UInt8 × UInt64 × UInt8 × Int64) =>
 obind
 (F57 n
 (x.2.1, x.2.2.1, x.2.2.2.1,
 x.2.2.2.2.1,
 x.2.2.2.2.2.1,
 x.2.2.2.2.2.2.1,
 x.2.2.2.2.2.2.2))
 fun (x_1 : List zt10 × Unit) =>
 obind (F58 n (x_1.1, x.1.2.2.1))
 fun (x_2 : List zt10 × Unit) => some (x_2.1, ())
theorem ok45 (n : Nat) : FunOK Try.prog ⟨45, sig45, F45 n⟩ :=
 fun_ok (hints := ⟨[], []⟩) (fuel := n) (c := Try.f45.body.getD .skip) (rs := Try.f45.results.toList) tt_ok mix (FsOK.cons (ok57 n) (FsOK.cons (ok58 n) (FsOK.nil))) Try.func45 (by kernel_rfl) (by kernel_rfl) rfl (by kernel_rfl) rfl rfl (by kernel_rfl)
-- (*watchfire/group.Groups).members
def sig29 : Sig := ⟨(.cons (.one (.ptr (.cons (.c (.rop (.cons (.ro zc8) .nil))) (.cons (.map (.agg zc15) (.agg (.cons (.ro zc12) (.cons (.int .u64) (.cons .bool (.cons (.int .u64) (.cons (.rom (.cons (.int .u8) zc12) zc4) .nil))))))) (.cons (.c (.int .u64)) .nil))))) (.cons (.one (.c (.ro zc4))) .nil)), (.cons (.one (.c (.ro (.cons (.int .i64) (.cons .str (.cons (.ro zc12) zc4)))))) .nil)⟩
noncomputable def F29_L3767 : Nat →
 Arr
 [PT.list
 zc0,
 PT.int IntKind.i64, PT.int IntKind.i64,
 PT.opt
 (OTs.cons
 (OT.c
 (CT.rop
 (CTs.cons
 (CT.ro
 zc2)
 CTs.nil)))
 (OTs.cons
 (OT.map (VT.agg zc9)
 (VT.agg
 (CTs.cons (CT.ro zc6)
 (CTs.cons (CT.int IntKind.u64)
 (CTs.cons CT.bool
 (CTs.cons (CT.int IntKind.u64)
 (CTs.cons
 (CT.rom (CTs.cons (CT.int IntKind.u8) zc6)
 zc0)
 CTs.nil)))))))
 (OTs.cons (OT.c (CT.int IntKind.u64)) OTs.nil))),
 PT.list
 (CTs.cons (CT.int IntKind.i64)
 (CTs.cons CT.str
 (CTs.cons (CT.ro zc6)
 zc0)))]
 (Option
 (List
 (Int64 ×
 List UInt8 ×
 List zt10 ×
 UInt8 × List UInt8 × List zt10 × UInt8 × UInt64 × UInt8 × Int64) ×
 Option
 zt1)) →
 Arr
 [PT.list
 zc0,
 PT.int IntKind.i64, PT.int IntKind.i64, PT.int IntKind.i64, PT.int IntKind.i64,
 PT.optC
 (CTs.cons
 (CT.ro
 zc2)
 CTs.nil),
 PT.int IntKind.u64,
 PT.list
 (CTs.cons (CT.int IntKind.i64)
 (CTs.cons CT.str
 (CTs.cons (CT.ro zc6)
 zc0))),
 PT.int IntKind.u8, PT.bytes, PT.list zc6, PT.int IntKind.u8,
 PT.int IntKind.u64, PT.int IntKind.u8, PT.int IntKind.i64, PT.list zc17,
 PT.ents (VT.agg zc9)
 (VT.agg
 (CTs.cons (CT.ro zc6)
 (CTs.cons (CT.int IntKind.u64)
 (CTs.cons CT.bool
 (CTs.cons (CT.int IntKind.u64)
 (CTs.cons
 (CT.rom (CTs.cons (CT.int IntKind.u8) zc6)
 zc0)
 CTs.nil))))))]
 (Option
 (List
 (Int64 ×
 List UInt8 ×
 List zt10 ×
 UInt8 × List UInt8 × List zt10 × UInt8 × UInt64 × UInt8 × Int64) ×
 Option
 zt1)) →
 List zt3 →
 Int64 →
 Int64 →
 Int64 →
 Int64 →
 Option
 (List
 zt5) →
 UInt64 →
 List
 (Int64 ×
 List UInt8 ×
 List zt10 ×
 UInt8 × List UInt8 × List zt10 × UInt8 × UInt64 × UInt8 × Int64) →
 UInt8 →
 List UInt8 →
 List zt10 →
 UInt8 →
 UInt64 →
 UInt8 →
 Int64 →
 List Int64 →
 List
 ((Int64 × List UInt8) ×
 List zt10 ×
 UInt64 ×
 Bool ×
 UInt64 ×
 List
 zt7) →
 Option
 (List
 (Int64 ×
 List UInt8 ×
 List zt10 ×
 UInt8 ×
 List UInt8 ×
 List zt10 ×
 UInt8 × UInt64 × UInt8 × Int64) ×
 Option
 zt1) := fun (n : Nat)
 (rec :
 Arr
 [PT.list
 zc0,
 PT.int IntKind.i64, PT.int IntKind.i64,
 PT.opt
 (OTs.cons
 (OT.c
 (CT.rop
 (CTs.cons
 (CT.ro
 zc2)
 CTs.nil)))
 (OTs.cons
 (OT.map (VT.agg zc9)
 (VT.agg
 (CTs.cons (CT.ro zc6)
 (CTs.cons (CT.int IntKind.u64)
 (CTs.cons CT.bool
 (CTs.cons (CT.int IntKind.u64)
 (CTs.cons
 (CT.rom (CTs.cons (CT.int IntKind.u8) zc6)
 zc0)
 CTs.nil)))))))
 (OTs.cons (OT.c (CT.int IntKind.u64)) OTs.nil))),
 PT.list
 (CTs.cons (CT.int IntKind.i64)
 (CTs.cons CT.str
 (CTs.cons (CT.ro zc6)
 zc0)))]
 (Option
 (List
 (Int64 ×
 List UInt8 ×
 List zt10 ×
 UInt8 × List UInt8 × List zt10 × UInt8 × UInt64 × UInt8 × Int64) ×
 Option
 zt1)))
 (rec_1 :
 Arr
 [PT.list
 zc0,
 PT.int IntKind.i64, PT.int IntKind.i64, PT.int IntKind.i64, PT.int IntKind.i64,
 PT.optC
 (CTs.cons
 (CT.ro
 zc2)
 CTs.nil),
 PT.int IntKind.u64,
 PT.list
 (CTs.cons (CT.int IntKind.i64)
 (CTs.cons CT.str
 (CTs.cons (CT.ro zc6)
 zc0))),
 PT.int IntKind.u8, PT.bytes, PT.list zc6, PT.int IntKind.u8,
 PT.int IntKind.u64, PT.int IntKind.u8, PT.int IntKind.i64, PT.list zc17,
 PT.ents (VT.agg zc9)
 (VT.agg
 (CTs.cons (CT.ro zc6)
 (CTs.cons (CT.int IntKind.u64)
 (CTs.cons CT.bool
 (CTs.cons (CT.int IntKind.u64)
 (CTs.cons
 (CT.rom (CTs.cons (CT.int IntKind.u8) zc6)
 zc0)
 CTs.nil))))))]
 (Option
 (List
 (Int64 ×
 List UInt8 ×
 List zt10 ×
 UInt8 × List UInt8 × List zt10 × UInt8 × UInt64 × UInt8 × Int64) ×
 Option
 zt1)))
 (t_3 : List zt3)
 (t_1_1 t_2_1 t_3_1 t_4 : Int64)
 (g0 :
 Option
 (List
 zt5))
 (g2 : UInt64)
 (out_1 :
 List
 (Int64 ×
 List UInt8 ×
 List zt10 ×
 UInt8 × List UInt8 × List zt10 × UInt8 × UInt64 × UInt8 × Int64))
 (a0 : UInt8) (a1 : List UInt8) (a2 : List zt10) (a3 : UInt8) (a4 : UInt64) (a5 : UInt8)
 (a6 : Int64) (t_5 : List Int64)
 (gl :
 List
 ((Int64 × List UInt8) ×
 List zt10 ×
 UInt64 ×
 Bool ×
 UInt64 ×
 List
 zt7)) =>
 oite (decide (t_4 < t_3_1))
 (oite (decide ((0 : Int) ≤ Int64.toInt t_4) && Nat.blt (Int.toNat (Int64.toInt t_4)) (List.length t_5))
 (obind t_5[Int.toNat (Int64.toInt t_4)]? fun (x_4 : Int64) =>
 obind (F30 n (g0, x_4))
 fun
 (x_5 :
 (zt5 ×
 Bool) ×
 Unit) =>
 obind
 (F45 n
 ((x_5.1.1.1, x_5.1.1.2.1,
 x_5.1.1.2.2.1,
 x_5.1.1.2.2.2.1,
 x_5.1.1.2.2.2.2.1,
 x_5.1.1.2.2.2.2.2.1,
 x_5.1.1.2.2.2.2.2.2.1,
 x_5.1.1.2.2.2.2.2.2.2),
 a0, a1, a2, a3, a4, a5, a6))
 fun (x_6 : List zt10 × Unit) =>
 obind (F46 n x_6.1) fun (x_7 : List UInt8 × Unit) =>
 oite
 (Nat.ble
 (List.length out_1 + List.length [(x_4, x_7.1, x_6.1, a0, a1, a2, a3, a4, a5, a6)])
 (4294967296 : Nat))
 (rec_1 t_3 t_1_1 t_2_1 t_3_1 (t_4 + (1 : Int64)) g0 g2
 (out_1 ++ [(x_4, x_7.1, x_6.1, a0, a1, a2, a3, a4, a5, a6)]) a0 a1 a2 a3 a4 a5 a6 t_5
 gl)
 none)
 none)
 (rec t_3 t_1_1 (t_2_1 + (1 : Int64)) (some (g0, gl, g2)) out_1)
noncomputable def F29_R3767 : Nat →
 Arr
 [PT.list
 zc0,
 PT.int IntKind.i64, PT.int IntKind.i64,
 PT.opt
 (OTs.cons
 (OT.c
 (CT.rop
 (CTs.cons
 (CT.ro
 zc2)
 CTs.nil)))
 (OTs.cons
 (OT.map (VT.agg zc9)
 (VT.agg
 (CTs.cons (CT.ro zc6)
 (CTs.cons (CT.int IntKind.u64)
 (CTs.cons CT.bool
 (CTs.cons (CT.int IntKind.u64)
 (CTs.cons
 (CT.rom (CTs.cons (CT.int IntKind.u8) zc6)
 zc0)
 CTs.nil)))))))
 (OTs.cons (OT.c (CT.int IntKind.u64)) OTs.nil))),
 PT.list
 (CTs.cons (CT.int IntKind.i64)
 (CTs.cons CT.str
 (CTs.cons (CT.ro zc6)
 zc0)))]
 (Option
 (List
 (Int64 ×
 List UInt8 ×
 List zt10 ×
 UInt8 × List UInt8 × List zt10 × UInt8 × UInt64 × UInt8 × Int64) ×
 Option
 zt1)) →
 Nat →
 PT.T
 (PT.list
 zc0) →
 Int64 →
 Int64 →
 Int64 →
 Int64 →
 Option
 (List
 zt5) →
 UInt64 →
 List
 (Int64 ×
 List UInt8 ×
 List zt10 ×
 UInt8 × List UInt8 × List zt10 × UInt8 × UInt64 × UInt8 × Int64) →
 UInt8 →
 List UInt8 →
 List zt10 →
 UInt8 →
 UInt64 →
 UInt8 →
 Int64 →
 List Int64 →
 List
 ((Int64 × List UInt8) ×
 List zt10 ×
 UInt64 ×
 Bool ×
 UInt64 ×
 List
 zt7) →
 Option
 (List
 (Int64 ×
 List UInt8 ×
 List zt10 ×
 UInt8 ×
 List UInt8 ×
 List zt10 ×
 UInt8 × UInt64 × UInt8 × Int64) ×
 Option
 zt1) := fun (n : Nat)
 (rec :
 Arr
 [PT.list
 zc0,
 PT.int IntKind.i64, PT.int IntKind.i64,
 PT.opt
 (OTs.cons
 (OT.c
 (CT.rop
 (CTs.cons
 (CT.ro
 zc2)
 CTs.nil)))
 (OTs.cons
 (OT.map (VT.agg zc9)
 (VT.agg
 (CTs.cons (CT.ro zc6)
 (CTs.cons (CT.int IntKind.u64)
 (CTs.cons CT.bool
 (CTs.cons (CT.int IntKind.u64)
 (CTs.cons
 (CT.rom (CTs.cons (CT.int IntKind.u8) zc6)
 zc0)
 CTs.nil)))))))
 (OTs.cons (OT.c (CT.int IntKind.u64)) OTs.nil))),
 PT.list
 (CTs.cons (CT.int IntKind.i64)
 (CTs.cons CT.str
 (CTs.cons (CT.ro zc6)
 zc0)))]
 (Option
 (List
 (Int64 ×
 List UInt8 ×
 List zt10 ×
 UInt8 × List UInt8 × List zt10 × UInt8 × UInt64 × UInt8 × Int64) ×
 Option
 zt1))) =>
 ofixA (3767 : Nat)
 [PT.list
 zc0,
 PT.int IntKind.i64, PT.int IntKind.i64, PT.int IntKind.i64, PT.int IntKind.i64,
 PT.optC
 (CTs.cons
 (CT.ro
 zc2)
 CTs.nil),
 PT.int IntKind.u64,
 PT.list
 (CTs.cons (CT.int IntKind.i64)
 (CTs.cons CT.str
 (CTs.cons (CT.ro zc6)
 zc0))),
 PT.int IntKind.u8, PT.bytes, PT.list zc6, PT.int IntKind.u8,
 PT.int IntKind.u64, PT.int IntKind.u8, PT.int IntKind.i64, PT.list zc17,
 PT.ents (VT.agg zc9)
 (VT.agg
 (CTs.cons (CT.ro zc6)
 (CTs.cons (CT.int IntKind.u64)
 (CTs.cons CT.bool
 (CTs.cons (CT.int IntKind.u64)
 (CTs.cons
 (CT.rom (CTs.cons (CT.int IntKind.u8) zc6)
 zc0)
 CTs.nil))))))]
 (F29_L3767 n rec)
noncomputable def F29_L29 : Nat →
 Arr
 [PT.list
 zc0,
 PT.int IntKind.i64, PT.int IntKind.i64,
 PT.opt
 (OTs.cons
 (OT.c
 (CT.rop
 (CTs.cons
 (CT.ro
 zc2)
 CTs.nil)))
 (OTs.cons
 (OT.map (VT.agg zc9)
 (VT.agg
 (CTs.cons (CT.ro zc6)
 (CTs.cons (CT.int IntKind.u64)
 (CTs.cons CT.bool
 (CTs.cons (CT.int IntKind.u64)
 (CTs.cons
 (CT.rom (CTs.cons (CT.int IntKind.u8) zc6)
 zc0)
 CTs.nil)))))))
 (OTs.cons (OT.c (CT.int IntKind.u64)) OTs.nil))),
 PT.list
 (CTs.cons (CT.int IntKind.i64)
 (CTs.cons CT.str
 (CTs.cons (CT.ro zc6)
 zc0)))]
 (Option
 (List
 (Int64 ×
 List UInt8 ×
 List zt10 ×
 UInt8 × List UInt8 × List zt10 × UInt8 × UInt64 × UInt8 × Int64) ×
 Option
 zt1)) →
 List zt3 →
 Int64 →
 Int64 →
 Option
 zt1 →
 List
 (Int64 ×
 List UInt8 ×
 List zt10 ×
 UInt8 × List UInt8 × List zt10 × UInt8 × UInt64 × UInt8 × Int64) →
 Option
 (List
 (Int64 ×
 List UInt8 ×
 List zt10 ×
 UInt8 × List UInt8 × List zt10 × UInt8 × UInt64 × UInt8 × Int64) ×
 Option
 zt1) := fun (n : Nat)
 (rec :
 Arr
 [PT.list
 zc0,
 PT.int IntKind.i64, PT.int IntKind.i64,
 PT.opt
 (OTs.cons
 (OT.c
 (CT.rop
 (CTs.cons
 (CT.ro
 zc2)
 CTs.nil)))
 (OTs.cons
 (OT.map (VT.agg zc9)
 (VT.agg
 (CTs.cons (CT.ro zc6)
 (CTs.cons (CT.int IntKind.u64)
 (CTs.cons CT.bool
 (CTs.cons (CT.int IntKind.u64)
 (CTs.cons
 (CT.rom (CTs.cons (CT.int IntKind.u8) zc6)
 zc0)
 CTs.nil)))))))
 (OTs.cons (OT.c (CT.int IntKind.u64)) OTs.nil))),
 PT.list
 (CTs.cons (CT.int IntKind.i64)
 (CTs.cons CT.str
 (CTs.cons (CT.ro zc6)
 zc0)))]
 (Option
 (List
 (Int64 ×
 List UInt8 ×
 List zt10 ×
 UInt8 × List UInt8 × List zt10 × UInt8 × UInt64 × UInt8 × Int64) ×
 Option
 zt1)))
 (t : List zt3) (t_1 t_2 : Int64)
 (g :
 Option
 zt1)
 (out :
 List
 (Int64 ×
 List UInt8 ×
 List zt10 ×
 UInt8 × List UInt8 × List zt10 × UInt8 × UInt64 × UInt8 × Int64)) =>
 oite (decide (t_2 < t_1))
 (obind (at? t (Int64.toInt t_2))
 fun (x_1 : UInt8 × List UInt8 × List zt10 × UInt8 × UInt64 × UInt8 × Int64) =>
 oite (decide (x_1.2.2.2.1 = (0 : UInt8))) (rec t t_1 (t_2 + (1 : Int64)) g out)
 (obind g
 fun
 (x_2 :
 Option
 (List
 zt5) ×
 List
 ((Int64 × List UInt8) ×
 List zt10 ×
 UInt64 ×
 Bool ×
 UInt64 ×
 List
 zt7) ×
 UInt64) =>
 obind
 (F44 n
 (x_2.1, x_1.1, x_1.2.1, x_1.2.2.1,
 x_1.2.2.2.1, x_1.2.2.2.2.1,
 x_1.2.2.2.2.2.1,
 x_1.2.2.2.2.2.2))
 fun (x_3 : List Int64 × Unit) =>
 F29_R3767 n rec n t t_1 t_2 (Int64.ofInt ↑(List.length x_3.1)) (0 : Int64) x_2.1
 x_2.2.2 out x_1.1 x_1.2.1
 x_1.2.2.1 x_1.2.2.2.1
 x_1.2.2.2.2.1
 x_1.2.2.2.2.2.1
 x_1.2.2.2.2.2.2 x_3.1
 x_2.2.1))
 (some (out, g))
noncomputable def F29_R29 : Nat →
 Nat →
 PT.T
 (PT.list
 zc0) →
 Int64 →
 Int64 →
 Option
 zt1 →
 List
 (Int64 ×
 List UInt8 ×
 List zt10 ×
 UInt8 × List UInt8 × List zt10 × UInt8 × UInt64 × UInt8 × Int64) →
 Option
 (List
 (Int64 ×
 List UInt8 ×
 List zt10 ×
 UInt8 × List UInt8 × List zt10 × UInt8 × UInt64 × UInt8 × Int64) ×
 Option
 zt1) := fun (n : Nat) =>
 ofixA (29 : Nat)
 [PT.list
 zc0,
 PT.int IntKind.i64, PT.int IntKind.i64,
 PT.opt
 (OTs.cons
 (OT.c
 (CT.rop
 (CTs.cons
 (CT.ro
 zc2)
 CTs.nil)))
 (OTs.cons
 (OT.map (VT.agg zc9)
 (VT.agg
 (CTs.cons (CT.ro zc6)
 (CTs.cons (CT.int IntKind.u64)
 (CTs.cons CT.bool
 (CTs.cons (CT.int IntKind.u64)
 (CTs.cons
 (CT.rom (CTs.cons (CT.int IntKind.u8) zc6)
 zc0)
 CTs.nil)))))))
 (OTs.cons (OT.c (CT.int IntKind.u64)) OTs.nil))),
 PT.list
 (CTs.cons (CT.int IntKind.i64)
 (CTs.cons CT.str
 (CTs.cons (CT.ro zc6)
 zc0)))]
 (F29_L29 n)
noncomputable def F29 : Nat →
 Option
 zt1 ×
 List zt3 →
 Option
 (List
 (Int64 ×
 List UInt8 ×
 List zt10 ×
 UInt8 × List UInt8 × List zt10 × UInt8 × UInt64 × UInt8 × Int64) ×
 Option
 zt1) := fun (n : Nat)
 (x :
 Option
 zt1 ×
 List zt3) =>
 F29_R29 n n x.2 (Int64.ofInt ↑(List.length x.2)) (0 : Int64) x.1 []
theorem F29_R3767_s (n : Nat) (rec : Arr [PT.list zc0, PT.int IntKind.i64, PT.int IntKind.i64, PT.opt (OTs.cons (OT.c (CT.rop (CTs.cons (CT.ro zc2) CTs.nil))) (OTs.cons (OT.map (VT.agg zc9) (VT.agg (CTs.cons (CT.ro zc6) (CTs.cons (CT.int IntKind.u64) (CTs.cons CT.bool (CTs.cons (CT.int IntKind.u64) (CTs.cons (CT.rom (CTs.cons (CT.int IntKind.u8) zc6) zc0) CTs.nil))))))) (OTs.cons (OT.c (CT.int IntKind.u64)) OTs.nil))), PT.list (CTs.cons (CT.int IntKind.i64) (CTs.cons CT.str (CTs.cons (CT.ro zc6) zc0)))] (Option (List (Int64 × List UInt8 × List zt10 × UInt8 × List UInt8 × List zt10 × UInt8 × UInt64 × UInt8 × Int64) × Option zt1))) (m_ : Nat) : F29_R3767 n rec (m_ + 1) = F29_L3767 n rec (F29_R3767 n rec m_) := rfl
theorem F29_R29_s (n : Nat) (m_ : Nat) : F29_R29 n (m_ + 1) = F29_L29 n (F29_R29 n m_) := rfl
theorem ok29 (n : Nat) : FunOK Try.prog ⟨29, sig29, F29 n⟩ :=
 fun_ok (hints := ⟨[], [(29, ⟨[(0, .one (.own 0)), (5, .one (.own 2)), (13, .one (.ro zc4)), (14, .one (.int .i64)), (15, .one (.int .i64))], [(0, .fold (.cons (.c (.rop (.cons (.ro zc8) .nil))) (.cons (.map (.agg zc15) (.agg (.cons (.ro zc12) (.cons (.int .u64) (.cons .bool (.cons (.int .u64) (.cons (.rom (.cons (.int .u8) zc12) zc4) .nil))))))) (.cons (.c (.int .u64)) .nil)))), (2, .row (.cons (.int .i64) (.cons .str (.cons (.ro zc12) zc4))))], 3⟩), (3767, ⟨[(0, .one (.own 0)), (5, .one (.own 2)), (7, .one (.own 3)), (13, .one (.ro zc4)), (14, .one (.int .i64)), (15, .one (.int .i64)), (27, .one (.own 4)), (28, .one (.int .i64)), (29, .one (.int .i64))], [(0, .cells [.rop (.cons (.ro zc8) .nil), .own 5, .int .u64]), (2, .row (.cons (.int .i64) (.cons .str (.cons (.ro zc12) zc4)))), (3, .cells [.int .u8, .str, .ro zc12, .int .u8, .int .u64, .int .u8, .int .i64]), (4, .row (.cons (.int .i64) .nil)), (5, .map (.agg zc15) (.agg (.cons (.ro zc12) (.cons (.int .u64) (.cons .bool (.cons (.int .u64) (.cons (.rom (.cons (.int .u8) zc12) zc4) .nil)))))))], 6⟩)]⟩) (fuel := n) (c := Try.f29.body.getD .skip) (rs := Try.f29.results.toList) tt_ok mix (FsOK.cons (ok44 n) (FsOK.cons (ok30 n) (FsOK.cons (ok45 n) (FsOK.cons (ok46 n) (FsOK.nil))))) Try.func29 (by kernel_rfl) (by kernel_rfl) rfl (by kernel_rfl) rfl rfl (by kernel_rfl)
-- watchfire/group.of
def sig31 : Sig := ⟨(.cons (.agg zc4) .nil), (.cons (.agg (.cons (.int .u8) zc12)) .nil)⟩
noncomputable def F31 : Nat →
 UInt8 × List UInt8 × List zt10 × UInt8 × UInt64 × UInt8 × Int64 →
 Option ((UInt8 × List UInt8 × List UInt8) × Unit) := fun (n : Nat) (x : UInt8 × List UInt8 × List zt10 × UInt8 × UInt64 × UInt8 × Int64) =>
 obind (F46 n x.2.2.1) fun (x_1 : List UInt8 × Unit) =>
 some ((x.1, x.2.1, x_1.1), ())
theorem ok31 (n : Nat) : FunOK Try.prog ⟨31, sig31, F31 n⟩ :=
 fun_ok (hints := ⟨[], []⟩) (fuel := n) (c := Try.f31.body.getD .skip) (rs := Try.f31.results.toList) tt_ok mix (FsOK.cons (ok46 n) (FsOK.nil)) Try.func31 (by kernel_rfl) (by kernel_rfl) rfl (by kernel_rfl) rfl rfl (by kernel_rfl)
-- cmp.isNaN[int]
def sig64 : Sig := ⟨(.cons (.one (.c (.int .i64))) .nil), (.cons (.one (.c .bool)) .nil)⟩
def F64 : Nat → Int64 → Option (Bool × Unit) := fun (n : Nat) (x : Int64) => some (!decide (x = x), ())
theorem ok64 (n : Nat) : FunOK Try.prog ⟨64, sig64, F64 n⟩ :=
 fun_ok (hints := ⟨[], []⟩) (fuel := n) (c := Try.f64.body.getD .skip) (rs := Try.f64.results.toList) tt_ok mix (FsOK.nil) Try.func64 (by kernel_rfl) (by kernel_rfl) rfl (by kernel_rfl) rfl rfl (by kernel_rfl)
-- cmp.Compare[int]
def sig49 : Sig := ⟨(.cons (.one (.c (.int .i64))) (.cons (.one (.c (.int .i64))) .nil)), (.cons (.one (.c (.int .i64))) .nil)⟩
def F49 : Nat → Int64 × Int64 → Option (Int64 × Unit) := fun (n : Nat) (x : Int64 × Int64) =>
 obind (F64 n x.1) fun (x_1 : Bool × Unit) =>
 obind (F64 n x.2) fun (x_2 : Bool × Unit) =>
 oite x_1.1 (oite x_2.1 (some ((0 : Int64), ())) (some ((-1 : Int64), ())))
 (oite x_2.1 (some ((1 : Int64), ()))
 (oite (decide (x.1 < x.2)) (some ((-1 : Int64), ()))
 (oite (decide (x.2 < x.1)) (some ((1 : Int64), ()))
 (some ((0 : Int64), ())))))
theorem ok49 (n : Nat) : FunOK Try.prog ⟨49, sig49, F49 n⟩ :=
 fun_ok (hints := ⟨[], []⟩) (fuel := n) (c := Try.f49.body.getD .skip) (rs := Try.f49.results.toList) tt_ok mix (FsOK.cons (ok64 n) (FsOK.nil)) Try.func49 (by kernel_rfl) (by kernel_rfl) rfl (by kernel_rfl) rfl rfl (by kernel_rfl)
-- cmp.isNaN[string]
def sig36 : Sig := ⟨(.cons (.one (.c .str)) .nil), (.cons (.one (.c .bool)) .nil)⟩
def F36 : Nat → List UInt8 → Option (Bool × Unit) := fun (n : Nat) (x : List UInt8) => some (!x == x, ())
theorem ok36 (n : Nat) : FunOK Try.prog ⟨36, sig36, F36 n⟩ :=
 fun_ok (hints := ⟨[], []⟩) (fuel := n) (c := Try.f36.body.getD .skip) (rs := Try.f36.results.toList) tt_ok mix (FsOK.nil) Try.func36 (by kernel_rfl) (by kernel_rfl) rfl (by kernel_rfl) rfl rfl (by kernel_rfl)
-- cmp.Compare[string]
def sig20 : Sig := ⟨(.cons (.one (.c .str)) (.cons (.one (.c .str)) .nil)), (.cons (.one (.c (.int .i64))) .nil)⟩
def F20 : Nat → List UInt8 × List UInt8 → Option (Int64 × Unit) := fun (n : Nat) (x : List UInt8 × List UInt8) =>
 obind (F36 n x.1) fun (x_1 : Bool × Unit) =>
 obind (F36 n x.2) fun (x_2 : Bool × Unit) =>
 oite x_1.1 (oite x_2.1 (some ((0 : Int64), ())) (some ((-1 : Int64), ())))
 (oite x_2.1 (some ((1 : Int64), ()))
 (oite (bytesLt x.1 x.2) (some ((-1 : Int64), ()))
 (oite (!(bytesLt x.1 x.2 || x.1 == x.2)) (some ((1 : Int64), ()))
 (some ((0 : Int64), ())))))
theorem ok20 (n : Nat) : FunOK Try.prog ⟨20, sig20, F20 n⟩ :=
 fun_ok (hints := ⟨[], []⟩) (fuel := n) (c := Try.f20.body.getD .skip) (rs := Try.f20.results.toList) tt_ok mix (FsOK.cons (ok36 n) (FsOK.nil)) Try.func20 (by kernel_rfl) (by kernel_rfl) rfl (by kernel_rfl) rfl rfl (by kernel_rfl)
-- cmp.Or[int]
def sig18 : Sig := ⟨(.cons (.one (.c (.ro (.cons (.int .i64) .nil)))) .nil), (.cons (.one (.c (.int .i64))) .nil)⟩
def F18_L29 : Arr [PT.int IntKind.i64, PT.list zc17, PT.int IntKind.i64, PT.int IntKind.i64]
 (Option (Int64 × Unit)) →
 Int64 → List Int64 → Int64 → Int64 → Option (Int64 × Unit) := fun
 (rec :
 Arr [PT.int IntKind.i64, PT.list zc17, PT.int IntKind.i64, PT.int IntKind.i64]
 (Option (Int64 × Unit)))
 (zero : Int64) (t : List Int64) (t_1 t_2 : Int64) =>
 oite (decide (t_2 < t_1))
 (obind (at? t (Int64.toInt t_2)) fun (x_1 : Int64) =>
 oite (!decide (x_1 = zero)) (some (x_1, ())) (rec zero t t_1 (t_2 + (1 : Int64))))
 (some (zero, ()))
def F18_R29 : Nat → PT.T (PT.int IntKind.i64) → List Int64 → Int64 → Int64 → Option (Int64 × Unit) := ofixA (29 : Nat)
 [PT.int IntKind.i64, PT.list zc17, PT.int IntKind.i64, PT.int IntKind.i64] F18_L29
def F18 : Nat → List Int64 → Option (Int64 × Unit) := fun (n : Nat) (x : List Int64) => F18_R29 n (0 : Int64) x (Int64.ofInt ↑(List.length x)) (0 : Int64)
theorem F18_R29_s  (m_ : Nat) : F18_R29  (m_ + 1) = F18_L29  (F18_R29  m_) := rfl
theorem ok18 (n : Nat) : FunOK Try.prog ⟨18, sig18, F18 n⟩ :=
 fun_ok (hints := ⟨[], [(29, ⟨[(3, .one (.int .i64)), (6, .one (.ro (.cons (.int .i64) .nil))), (7, .one (.int .i64)), (8, .one (.int .i64))], [], 1⟩)]⟩) (fuel := n) (c := Try.f18.body.getD .skip) (rs := Try.f18.results.toList) tt_ok mix (FsOK.nil) Try.func18 (by kernel_rfl) (by kernel_rfl) rfl (by kernel_rfl) rfl rfl (by kernel_rfl)
-- (*watchfire/group.Groups).keys$1
def sig48 : Sig := ⟨(.cons (.agg zc15) (.cons (.agg zc15) .nil)), (.cons (.one (.c (.int .i64))) .nil)⟩
def F48 : Nat → (Int64 × List UInt8) × Int64 × List UInt8 → Option (Int64 × Unit) := fun (n : Nat) (x : (Int64 × List UInt8) × Int64 × List UInt8) =>
 obind (F49 n (x.1.1, x.2.1)) fun (x_1 : Int64 × Unit) =>
 obind (F20 n (x.1.2, x.2.2)) fun (x_2 : Int64 × Unit) =>
 obind (F18 n [x_1.1, x_2.1]) fun (x_3 : Int64 × Unit) => some (x_3.1, ())
theorem ok48 (n : Nat) : FunOK Try.prog ⟨48, sig48, F48 n⟩ :=
 fun_ok (hints := ⟨[], []⟩) (fuel := n) (c := Try.f48.body.getD .skip) (rs := Try.f48.results.toList) tt_ok mix (FsOK.cons (ok49 n) (FsOK.cons (ok20 n) (FsOK.cons (ok18 n) (FsOK.nil)))) Try.func48 (by kernel_rfl) (by kernel_rfl) rfl (by kernel_rfl) rfl rfl (by kernel_rfl)
-- math/bits.Len32
def sig81 : Sig := ⟨(.cons (.one (.c (.int .u32))) .nil), (.cons (.one (.c (.int .i64))) .nil)⟩
def F81_J3 : UInt32 → Int64 → Option (Int64 × Unit) := fun (x_ : UInt32) (n_ : Int64) =>
 oite (decide ((256 : UInt32) ≤ x_))
 (obind
 (at?
 [(0 : UInt8), (1 : UInt8), (2 : UInt8), (2 : UInt8), (3 : UInt8), (3 : UInt8), (3 : UInt8), (3 : UInt8),
 (4 : UInt8), (4 : UInt8), (4 : UInt8), (4 : UInt8), (4 : UInt8), (4 : UInt8), (4 : UInt8), (4 : UInt8),
 (5 : UInt8), (5 : UInt8), (5 : UInt8), (5 : UInt8), (5 : UInt8), (5 : UInt8), (5 : UInt8), (5 : UInt8),
 (5 : UInt8), (5 : UInt8), (5 : UInt8), (5 : UInt8), (5 : UInt8), (5 : UInt8), (5 : UInt8), (5 : UInt8),
 (6 : UInt8), (6 : UInt8), (6 : UInt8), (6 : UInt8), (6 : UInt8), (6 : UInt8), (6 : UInt8), (6 : UInt8),
 (6 : UInt8), (6 : UInt8), (6 : UInt8), (6 : UInt8), (6 : UInt8), (6 : UInt8), (6 : UInt8), (6 : UInt8),
 (6 : UInt8), (6 : UInt8), (6 : UInt8), (6 : UInt8), (6 : UInt8), (6 : UInt8), (6 : UInt8), (6 : UInt8),
 (6 : UInt8), (6 : UInt8), (6 : UInt8), (6 : UInt8), (6 : UInt8), (6 : UInt8), (6 : UInt8), (6 : UInt8),
 (7 : UInt8), (7 : UInt8), (7 : UInt8), (7 : UInt8), (7 : UInt8), (7 : UInt8), (7 : UInt8), (7 : UInt8),
 (7 : UInt8), (7 : UInt8), (7 : UInt8), (7 : UInt8), (7 : UInt8), (7 : UInt8), (7 : UInt8), (7 : UInt8),
 (7 : UInt8), (7 : UInt8), (7 : UInt8), (7 : UInt8), (7 : UInt8), (7 : UInt8), (7 : UInt8), (7 : UInt8),
 (7 : UInt8), (7 : UInt8), (7 : UInt8), (7 : UInt8), (7 : UInt8), (7 : UInt8), (7 : UInt8), (7 : UInt8),
 (7 : UInt8), (7 : UInt8), (7 : UInt8), (7 : UInt8), (7 : UInt8), (7 : UInt8), (7 : UInt8), (7 : UInt8),
 (7 : UInt8), (7 : UInt8), (7 : UInt8), (7 : UInt8), (7 : UInt8), (7 : UInt8), (7 : UInt8), (7 : UInt8),
 (7 : UInt8), (7 : UInt8), (7 : UInt8), (7 : UInt8), (7 : UInt8), (7 : UInt8), (7 : UInt8), (7 : UInt8),
 (7 : UInt8), (7 : UInt8), (7 : UInt8), (7 : UInt8), (7 : UInt8), (7 : UInt8), (7 : UInt8), (7 : UInt8),
 (8 : UInt8), (8 : UInt8), (8 : UInt8), (8 : UInt8), (8 : UInt8), (8 : UInt8), (8 : UInt8), (8 : UInt8),
 (8 : UInt8), (8 : UInt8), (8 : UInt8), (8 : UInt8), (8 : UInt8), (8 : UInt8), (8 : UInt8), (8 : UInt8),
 (8 : UInt8), (8 : UInt8), (8 : UInt8), (8 : UInt8), (8 : UInt8), (8 : UInt8), (8 : UInt8), (8 : UInt8),
 (8 : UInt8), (8 : UInt8), (8 : UInt8), (8 : UInt8), (8 : UInt8), (8 : UInt8), (8 : UInt8), (8 : UInt8),
 (8 : UInt8), (8 : UInt8), (8 : UInt8), (8 : UInt8), (8 : UInt8), (8 : UInt8), (8 : UInt8), (8 : UInt8),
 (8 : UInt8), (8 : UInt8), (8 : UInt8), (8 : UInt8), (8 : UInt8), (8 : UInt8), (8 : UInt8), (8 : UInt8),
 (8 : UInt8), (8 : UInt8), (8 : UInt8), (8 : UInt8), (8 : UInt8), (8 : UInt8), (8 : UInt8), (8 : UInt8),
 (8 : UInt8), (8 : UInt8), (8 : UInt8), (8 : UInt8), (8 : UInt8), (8 : UInt8), (8 : UInt8), (8 : UInt8),
 (8 : UInt8), (8 : UInt8), (8 : UInt8), (8 : UInt8), (8 : UInt8), (8 : UInt8), (8 : UInt8), (8 : UInt8),
 (8 : UInt8), (8 : UInt8), (8 : UInt8), (8 : UInt8), (8 : UInt8), (8 : UInt8), (8 : UInt8), (8 : UInt8),
 (8 : UInt8), (8 : UInt8), (8 : UInt8), (8 : UInt8), (8 : UInt8), (8 : UInt8), (8 : UInt8), (8 : UInt8),
 (8 : UInt8), (8 : UInt8), (8 : UInt8), (8 : UInt8), (8 : UInt8), (8 : UInt8), (8 : UInt8), (8 : UInt8),
 (8 : UInt8), (8 : UInt8), (8 : UInt8), (8 : UInt8), (8 : UInt8), (8 : UInt8), (8 : UInt8), (8 : UInt8),
 (8 : UInt8), (8 : UInt8), (8 : UInt8), (8 : UInt8), (8 : UInt8), (8 : UInt8), (8 : UInt8), (8 : UInt8),
 (8 : UInt8), (8 : UInt8), (8 : UInt8), (8 : UInt8), (8 : UInt8), (8 : UInt8), (8 : UInt8), (8 : UInt8),
 (8 : UInt8), (8 : UInt8), (8 : UInt8), (8 : UInt8), (8 : UInt8), (8 : UInt8), (8 : UInt8), (8 : UInt8)]
 ↑(UInt8.toNat (UInt8.ofInt ↑(UInt32.toNat (IK.shr IntKind.u32 x_ ↑(UInt64.toNat (8 : UInt64)))))))
 fun (x_1 : UInt8) => some (n_ + (8 : Int64) + Int64.ofInt ↑(UInt8.toNat x_1), ()))
 (obind
 (at?
 [(0 : UInt8), (1 : UInt8), (2 : UInt8), (2 : UInt8), (3 : UInt8), (3 : UInt8), (3 : UInt8), (3 : UInt8),
 (4 : UInt8), (4 : UInt8), (4 : UInt8), (4 : UInt8), (4 : UInt8), (4 : UInt8), (4 : UInt8), (4 : UInt8),
 (5 : UInt8), (5 : UInt8), (5 : UInt8), (5 : UInt8), (5 : UInt8), (5 : UInt8), (5 : UInt8), (5 : UInt8),
 (5 : UInt8), (5 : UInt8), (5 : UInt8), (5 : UInt8), (5 : UInt8), (5 : UInt8), (5 : UInt8), (5 : UInt8),
 (6 : UInt8), (6 : UInt8), (6 : UInt8), (6 : UInt8), (6 : UInt8), (6 : UInt8), (6 : UInt8), (6 : UInt8),
 (6 : UInt8), (6 : UInt8), (6 : UInt8), (6 : UInt8), (6 : UInt8), (6 : UInt8), (6 : UInt8), (6 : UInt8),
 (6 : UInt8), (6 : UInt8), (6 : UInt8), (6 : UInt8), (6 : UInt8), (6 : UInt8), (6 : UInt8), (6 : UInt8),
 (6 : UInt8), (6 : UInt8), (6 : UInt8), (6 : UInt8), (6 : UInt8), (6 : UInt8), (6 : UInt8), (6 : UInt8),
 (7 : UInt8), (7 : UInt8), (7 : UInt8), (7 : UInt8), (7 : UInt8), (7 : UInt8), (7 : UInt8), (7 : UInt8),
 (7 : UInt8), (7 : UInt8), (7 : UInt8), (7 : UInt8), (7 : UInt8), (7 : UInt8), (7 : UInt8), (7 : UInt8),
 (7 : UInt8), (7 : UInt8), (7 : UInt8), (7 : UInt8), (7 : UInt8), (7 : UInt8), (7 : UInt8), (7 : UInt8),
 (7 : UInt8), (7 : UInt8), (7 : UInt8), (7 : UInt8), (7 : UInt8), (7 : UInt8), (7 : UInt8), (7 : UInt8),
 (7 : UInt8), (7 : UInt8), (7 : UInt8), (7 : UInt8), (7 : UInt8), (7 : UInt8), (7 : UInt8), (7 : UInt8),
 (7 : UInt8), (7 : UInt8), (7 : UInt8), (7 : UInt8), (7 : UInt8), (7 : UInt8), (7 : UInt8), (7 : UInt8),
 (7 : UInt8), (7 : UInt8), (7 : UInt8), (7 : UInt8), (7 : UInt8), (7 : UInt8), (7 : UInt8), (7 : UInt8),
 (7 : UInt8), (7 : UInt8), (7 : UInt8), (7 : UInt8), (7 : UInt8), (7 : UInt8), (7 : UInt8), (7 : UInt8),
 (8 : UInt8), (8 : UInt8), (8 : UInt8), (8 : UInt8), (8 : UInt8), (8 : UInt8), (8 : UInt8), (8 : UInt8),
 (8 : UInt8), (8 : UInt8), (8 : UInt8), (8 : UInt8), (8 : UInt8), (8 : UInt8), (8 : UInt8), (8 : UInt8),
 (8 : UInt8), (8 : UInt8), (8 : UInt8), (8 : UInt8), (8 : UInt8), (8 : UInt8), (8 : UInt8), (8 : UInt8),
 (8 : UInt8), (8 : UInt8), (8 : UInt8), (8 : UInt8), (8 : UInt8), (8 : UInt8), (8 : UInt8), (8 : UInt8),
 (8 : UInt8), (8 : UInt8), (8 : UInt8), (8 : UInt8), (8 : UInt8), (8 : UInt8), (8 : UInt8), (8 : UInt8),
 (8 : UInt8), (8 : UInt8), (8 : UInt8), (8 : UInt8), (8 : UInt8), (8 : UInt8), (8 : UInt8), (8 : UInt8),
 (8 : UInt8), (8 : UInt8), (8 : UInt8), (8 : UInt8), (8 : UInt8), (8 : UInt8), (8 : UInt8), (8 : UInt8),
 (8 : UInt8), (8 : UInt8), (8 : UInt8), (8 : UInt8), (8 : UInt8), (8 : UInt8), (8 : UInt8), (8 : UInt8),
 (8 : UInt8), (8 : UInt8), (8 : UInt8), (8 : UInt8), (8 : UInt8), (8 : UInt8), (8 : UInt8), (8 : UInt8),
 (8 : UInt8), (8 : UInt8), (8 : UInt8), (8 : UInt8), (8 : UInt8), (8 : UInt8), (8 : UInt8), (8 : UInt8),
 (8 : UInt8), (8 : UInt8), (8 : UInt8), (8 : UInt8), (8 : UInt8), (8 : UInt8), (8 : UInt8), (8 : UInt8),
 (8 : UInt8), (8 : UInt8), (8 : UInt8), (8 : UInt8), (8 : UInt8), (8 : UInt8), (8 : UInt8), (8 : UInt8),
 (8 : UInt8), (8 : UInt8), (8 : UInt8), (8 : UInt8), (8 : UInt8), (8 : UInt8), (8 : UInt8), (8 : UInt8),
 (8 : UInt8), (8 : UInt8), (8 : UInt8), (8 : UInt8), (8 : UInt8), (8 : UInt8), (8 : UInt8), (8 : UInt8),
 (8 : UInt8), (8 : UInt8), (8 : UInt8), (8 : UInt8), (8 : UInt8), (8 : UInt8), (8 : UInt8), (8 : UInt8),
 (8 : UInt8), (8 : UInt8), (8 : UInt8), (8 : UInt8), (8 : UInt8), (8 : UInt8), (8 : UInt8), (8 : UInt8)]
 ↑(UInt8.toNat (UInt8.ofInt ↑(UInt32.toNat x_))))
 fun (x_1 : UInt8) => some (n_ + Int64.ofInt ↑(UInt8.toNat x_1), ()))
def F81 : Nat → UInt32 → Option (Int64 × Unit) := fun (n : Nat) (x : UInt32) =>
 ojoinA (3 : Nat) [PT.int IntKind.u32, PT.int IntKind.i64]
 (fun (J : Arr [PT.int IntKind.u32, PT.int IntKind.i64] (Option (Int64 × Unit))) =>
 oite (decide ((65536 : UInt32) ≤ x)) (J (IK.shr IntKind.u32 x ↑(UInt64.toNat (16 : UInt64))) (16 : Int64))
 (J x (0 : Int64)))
 F81_J3
theorem ok81 (n : Nat) : FunOK Try.prog ⟨81, sig81, F81 n⟩ :=
 fun_ok (hints := ⟨[(3, ⟨[(0, .one (.int .u32)), (2, .one (.int .i64))], [], 1⟩)], []⟩) (fuel := n) (c := Try.f81.body.getD .skip) (rs := Try.f81.results.toList) tt_ok mix (FsOK.nil) Try.func81 (by kernel_rfl) (by kernel_rfl) rfl (by kernel_rfl) rfl rfl (by kernel_rfl)
-- math/bits.Len64
def sig82 : Sig := ⟨(.cons (.one (.c (.int .u64))) .nil), (.cons (.one (.c (.int .i64))) .nil)⟩
def F82_J7 : UInt64 → Int64 → Option (Int64 × Unit) := fun (x__1 : UInt64) (n__1 : Int64) =>
 oite (decide ((256 : UInt64) ≤ x__1))
 (obind
 (at?
 [(0 : UInt8), (1 : UInt8), (2 : UInt8), (2 : UInt8), (3 : UInt8), (3 : UInt8), (3 : UInt8), (3 : UInt8),
 (4 : UInt8), (4 : UInt8), (4 : UInt8), (4 : UInt8), (4 : UInt8), (4 : UInt8), (4 : UInt8), (4 : UInt8),
 (5 : UInt8), (5 : UInt8), (5 : UInt8), (5 : UInt8), (5 : UInt8), (5 : UInt8), (5 : UInt8), (5 : UInt8),
 (5 : UInt8), (5 : UInt8), (5 : UInt8), (5 : UInt8), (5 : UInt8), (5 : UInt8), (5 : UInt8), (5 : UInt8),
 (6 : UInt8), (6 : UInt8), (6 : UInt8), (6 : UInt8), (6 : UInt8), (6 : UInt8), (6 : UInt8), (6 : UInt8),
 (6 : UInt8), (6 : UInt8), (6 : UInt8), (6 : UInt8), (6 : UInt8), (6 : UInt8), (6 : UInt8), (6 : UInt8),
 (6 : UInt8), (6 : UInt8), (6 : UInt8), (6 : UInt8), (6 : UInt8), (6 : UInt8), (6 : UInt8), (6 : UInt8),
 (6 : UInt8), (6 : UInt8), (6 : UInt8), (6 : UInt8), (6 : UInt8), (6 : UInt8), (6 : UInt8), (6 : UInt8),
 (7 : UInt8), (7 : UInt8), (7 : UInt8), (7 : UInt8), (7 : UInt8), (7 : UInt8), (7 : UInt8), (7 : UInt8),
 (7 : UInt8), (7 : UInt8), (7 : UInt8), (7 : UInt8), (7 : UInt8), (7 : UInt8), (7 : UInt8), (7 : UInt8),
 (7 : UInt8), (7 : UInt8), (7 : UInt8), (7 : UInt8), (7 : UInt8), (7 : UInt8), (7 : UInt8), (7 : UInt8),
 (7 : UInt8), (7 : UInt8), (7 : UInt8), (7 : UInt8), (7 : UInt8), (7 : UInt8), (7 : UInt8), (7 : UInt8),
 (7 : UInt8), (7 : UInt8), (7 : UInt8), (7 : UInt8), (7 : UInt8), (7 : UInt8), (7 : UInt8), (7 : UInt8),
 (7 : UInt8), (7 : UInt8), (7 : UInt8), (7 : UInt8), (7 : UInt8), (7 : UInt8), (7 : UInt8), (7 : UInt8),
 (7 : UInt8), (7 : UInt8), (7 : UInt8), (7 : UInt8), (7 : UInt8), (7 : UInt8), (7 : UInt8), (7 : UInt8),
 (7 : UInt8), (7 : UInt8), (7 : UInt8), (7 : UInt8), (7 : UInt8), (7 : UInt8), (7 : UInt8), (7 : UInt8),
 (8 : UInt8), (8 : UInt8), (8 : UInt8), (8 : UInt8), (8 : UInt8), (8 : UInt8), (8 : UInt8), (8 : UInt8),
 (8 : UInt8), (8 : UInt8), (8 : UInt8), (8 : UInt8), (8 : UInt8), (8 : UInt8), (8 : UInt8), (8 : UInt8),
 (8 : UInt8), (8 : UInt8), (8 : UInt8), (8 : UInt8), (8 : UInt8), (8 : UInt8), (8 : UInt8), (8 : UInt8),
 (8 : UInt8), (8 : UInt8), (8 : UInt8), (8 : UInt8), (8 : UInt8), (8 : UInt8), (8 : UInt8), (8 : UInt8),
 (8 : UInt8), (8 : UInt8), (8 : UInt8), (8 : UInt8), (8 : UInt8), (8 : UInt8), (8 : UInt8), (8 : UInt8),
 (8 : UInt8), (8 : UInt8), (8 : UInt8), (8 : UInt8), (8 : UInt8), (8 : UInt8), (8 : UInt8), (8 : UInt8),
 (8 : UInt8), (8 : UInt8), (8 : UInt8), (8 : UInt8), (8 : UInt8), (8 : UInt8), (8 : UInt8), (8 : UInt8),
 (8 : UInt8), (8 : UInt8), (8 : UInt8), (8 : UInt8), (8 : UInt8), (8 : UInt8), (8 : UInt8), (8 : UInt8),
 (8 : UInt8), (8 : UInt8), (8 : UInt8), (8 : UInt8), (8 : UInt8), (8 : UInt8), (8 : UInt8), (8 : UInt8),
 (8 : UInt8), (8 : UInt8), (8 : UInt8), (8 : UInt8), (8 : UInt8), (8 : UInt8), (8 : UInt8), (8 : UInt8),
 (8 : UInt8), (8 : UInt8), (8 : UInt8), (8 : UInt8), (8 : UInt8), (8 : UInt8), (8 : UInt8), (8 : UInt8),
 (8 : UInt8), (8 : UInt8), (8 : UInt8), (8 : UInt8), (8 : UInt8), (8 : UInt8), (8 : UInt8), (8 : UInt8),
 (8 : UInt8), (8 : UInt8), (8 : UInt8), (8 : UInt8), (8 : UInt8), (8 : UInt8), (8 : UInt8), (8 : UInt8),
 (8 : UInt8), (8 : UInt8), (8 : UInt8), (8 : UInt8), (8 : UInt8), (8 : UInt8), (8 : UInt8), (8 : UInt8),
 (8 : UInt8), (8 : UInt8), (8 : UInt8), (8 : UInt8), (8 : UInt8), (8 : UInt8), (8 : UInt8), (8 : UInt8),
 (8 : UInt8), (8 : UInt8), (8 : UInt8), (8 : UInt8), (8 : UInt8), (8 : UInt8), (8 : UInt8), (8 : UInt8)]
 ↑(UInt8.toNat (UInt8.ofInt ↑(UInt64.toNat (IK.shr IntKind.u64 x__1 ↑(UInt64.toNat (8 : UInt64)))))))
 fun (x_1 : UInt8) => some (n__1 + (8 : Int64) + Int64.ofInt ↑(UInt8.toNat x_1), ()))
 (obind
 (at?
 [(0 : UInt8), (1 : UInt8), (2 : UInt8), (2 : UInt8), (3 : UInt8), (3 : UInt8), (3 : UInt8), (3 : UInt8),
 (4 : UInt8), (4 : UInt8), (4 : UInt8), (4 : UInt8), (4 : UInt8), (4 : UInt8), (4 : UInt8), (4 : UInt8),
 (5 : UInt8), (5 : UInt8), (5 : UInt8), (5 : UInt8), (5 : UInt8), (5 : UInt8), (5 : UInt8), (5 : UInt8),
 (5 : UInt8), (5 : UInt8), (5 : UInt8), (5 : UInt8), (5 : UInt8), (5 : UInt8), (5 : UInt8), (5 : UInt8),
 (6 : UInt8), (6 : UInt8), (6 : UInt8), (6 : UInt8), (6 : UInt8), (6 : UInt8), (6 : UInt8), (6 : UInt8),
 (6 : UInt8), (6 : UInt8), (6 : UInt8), (6 : UInt8), (6 : UInt8), (6 : UInt8), (6 : UInt8), (6 : UInt8),
 (6 : UInt8), (6 : UInt8), (6 : UInt8), (6 : UInt8), (6 : UInt8), (6 : UInt8), (6 : UInt8), (6 : UInt8),
 (6 : UInt8), (6 : UInt8), (6 : UInt8), (6 : UInt8), (6 : UInt8), (6 : UInt8), (6 : UInt8), (6 : UInt8),
 (7 : UInt8), (7 : UInt8), (7 : UInt8), (7 : UInt8), (7 : UInt8), (7 : UInt8), (7 : UInt8), (7 : UInt8),
 (7 : UInt8), (7 : UInt8), (7 : UInt8), (7 : UInt8), (7 : UInt8), (7 : UInt8), (7 : UInt8), (7 : UInt8),
 (7 : UInt8), (7 : UInt8), (7 : UInt8), (7 : UInt8), (7 : UInt8), (7 : UInt8), (7 : UInt8), (7 : UInt8),
 (7 : UInt8), (7 : UInt8), (7 : UInt8), (7 : UInt8), (7 : UInt8), (7 : UInt8), (7 : UInt8), (7 : UInt8),
 (7 : UInt8), (7 : UInt8), (7 : UInt8), (7 : UInt8), (7 : UInt8), (7 : UInt8), (7 : UInt8), (7 : UInt8),
 (7 : UInt8), (7 : UInt8), (7 : UInt8), (7 : UInt8), (7 : UInt8), (7 : UInt8), (7 : UInt8), (7 : UInt8),
 (7 : UInt8), (7 : UInt8), (7 : UInt8), (7 : UInt8), (7 : UInt8), (7 : UInt8), (7 : UInt8), (7 : UInt8),
 (7 : UInt8), (7 : UInt8), (7 : UInt8), (7 : UInt8), (7 : UInt8), (7 : UInt8), (7 : UInt8), (7 : UInt8),
 (8 : UInt8), (8 : UInt8), (8 : UInt8), (8 : UInt8), (8 : UInt8), (8 : UInt8), (8 : UInt8), (8 : UInt8),
 (8 : UInt8), (8 : UInt8), (8 : UInt8), (8 : UInt8), (8 : UInt8), (8 : UInt8), (8 : UInt8), (8 : UInt8),
 (8 : UInt8), (8 : UInt8), (8 : UInt8), (8 : UInt8), (8 : UInt8), (8 : UInt8), (8 : UInt8), (8 : UInt8),
 (8 : UInt8), (8 : UInt8), (8 : UInt8), (8 : UInt8), (8 : UInt8), (8 : UInt8), (8 : UInt8), (8 : UInt8),
 (8 : UInt8), (8 : UInt8), (8 : UInt8), (8 : UInt8), (8 : UInt8), (8 : UInt8), (8 : UInt8), (8 : UInt8),
 (8 : UInt8), (8 : UInt8), (8 : UInt8), (8 : UInt8), (8 : UInt8), (8 : UInt8), (8 : UInt8), (8 : UInt8),
 (8 : UInt8), (8 : UInt8), (8 : UInt8), (8 : UInt8), (8 : UInt8), (8 : UInt8), (8 : UInt8), (8 : UInt8),
 (8 : UInt8), (8 : UInt8), (8 : UInt8), (8 : UInt8), (8 : UInt8), (8 : UInt8), (8 : UInt8), (8 : UInt8),
 (8 : UInt8), (8 : UInt8), (8 : UInt8), (8 : UInt8), (8 : UInt8), (8 : UInt8), (8 : UInt8), (8 : UInt8),
 (8 : UInt8), (8 : UInt8), (8 : UInt8), (8 : UInt8), (8 : UInt8), (8 : UInt8), (8 : UInt8), (8 : UInt8),
 (8 : UInt8), (8 : UInt8), (8 : UInt8), (8 : UInt8), (8 : UInt8), (8 : UInt8), (8 : UInt8), (8 : UInt8),
 (8 : UInt8), (8 : UInt8), (8 : UInt8), (8 : UInt8), (8 : UInt8), (8 : UInt8), (8 : UInt8), (8 : UInt8),
 (8 : UInt8), (8 : UInt8), (8 : UInt8), (8 : UInt8), (8 : UInt8), (8 : UInt8), (8 : UInt8), (8 : UInt8),
 (8 : UInt8), (8 : UInt8), (8 : UInt8), (8 : UInt8), (8 : UInt8), (8 : UInt8), (8 : UInt8), (8 : UInt8),
 (8 : UInt8), (8 : UInt8), (8 : UInt8), (8 : UInt8), (8 : UInt8), (8 : UInt8), (8 : UInt8), (8 : UInt8),
 (8 : UInt8), (8 : UInt8), (8 : UInt8), (8 : UInt8), (8 : UInt8), (8 : UInt8), (8 : UInt8), (8 : UInt8)]
 ↑(UInt8.toNat (UInt8.ofInt ↑(UInt64.toNat x__1))))
 fun (x_1 : UInt8) => some (n__1 + Int64.ofInt ↑(UInt8.toNat x_1), ()))
def F82_J3 : UInt64 → Int64 → Option (Int64 × Unit) := fun (x_ : UInt64) (n_ : Int64) =>
 ojoinA (7 : Nat) [PT.int IntKind.u64, PT.int IntKind.i64]
 (fun (J : Arr [PT.int IntKind.u64, PT.int IntKind.i64] (Option (Int64 × Unit))) =>
 oite (decide ((65536 : UInt64) ≤ x_))
 (J (IK.shr IntKind.u64 x_ ↑(UInt64.toNat (16 : UInt64))) (n_ + (16 : Int64))) (J x_ n_))
 F82_J7
def F82 : Nat → UInt64 → Option (Int64 × Unit) := fun (n : Nat) (x : UInt64) =>
 ojoinA (3 : Nat) [PT.int IntKind.u64, PT.int IntKind.i64]
 (fun (J : Arr [PT.int IntKind.u64, PT.int IntKind.i64] (Option (Int64 × Unit))) =>
 oite (decide ((4294967296 : UInt64) ≤ x)) (J (IK.shr IntKind.u64 x ↑(UInt64.toNat (32 : UInt64))) (32 : Int64))
 (J x (0 : Int64)))
 F82_J3
theorem ok82 (n : Nat) : FunOK Try.prog ⟨82, sig82, F82 n⟩ :=
 fun_ok (hints := ⟨[(3, ⟨[(0, .one (.int .u64)), (2, .one (.int .i64))], [], 1⟩), (7, ⟨[(0, .one (.int .u64)), (2, .one (.int .i64))], [], 1⟩)], []⟩) (fuel := n) (c := Try.f82.body.getD .skip) (rs := Try.f82.results.toList) tt_ok mix (FsOK.nil) Try.func82 (by kernel_rfl) (by kernel_rfl) rfl (by kernel_rfl) rfl rfl (by kernel_rfl)
-- math/bits.Len
def sig63 : Sig := ⟨(.cons (.one (.c (.int .u64))) .nil), (.cons (.one (.c (.int .i64))) .nil)⟩
def F63 : Nat → UInt64 → Option (Int64 × Unit) := fun (n : Nat) (x : UInt64) => obind (F82 n x) fun (x_1 : Int64 × Unit) => some (x_1.1, ())
theorem ok63 (n : Nat) : FunOK Try.prog ⟨63, sig63, F63 n⟩ :=
 fun_ok (hints := ⟨[], []⟩) (fuel := n) (c := Try.f63.body.getD .skip) (rs := Try.f63.results.toList) tt_ok mix (FsOK.cons (ok81 n) (FsOK.cons (ok82 n) (FsOK.nil))) Try.func63 (by kernel_rfl) (by kernel_rfl) rfl (by kernel_rfl) rfl rfl (by kernel_rfl)
-- slices.insertionSortCmpFunc[watchfire/group.key]
def sig73 : Sig := ⟨(.cons (.one (.row zc15)) (.cons (.one (.c (.int .i64))) (.cons (.one (.c (.int .i64))) (.cons (.one (.c (.fn 48))) .nil)))), .nil⟩
def F73_L53 : Nat →
 Arr
 [PT.int IntKind.i64, PT.int IntKind.i64, PT.int IntKind.i64,
 PT.list zc9]
 (Option (Unit × List (Int64 × List UInt8))) →
 Arr
 [PT.int IntKind.i64, PT.int IntKind.i64, PT.int IntKind.i64, PT.int IntKind.i64,
 PT.list zc9]
 (Option (Unit × List (Int64 × List UInt8))) →
 Int64 → Int64 → Int64 → Int64 → List (Int64 × List UInt8) → Option (Unit × List (Int64 × List UInt8)) := fun (n : Nat)
 (rec :
 Arr
 [PT.int IntKind.i64, PT.int IntKind.i64, PT.int IntKind.i64,
 PT.list zc9]
 (Option (Unit × List (Int64 × List UInt8))))
 (rec_1 :
 Arr
 [PT.int IntKind.i64, PT.int IntKind.i64, PT.int IntKind.i64, PT.int IntKind.i64,
 PT.list zc9]
 (Option (Unit × List (Int64 × List UInt8))))
 (a_1 b_1 i_1 j : Int64) (data_1 : List (Int64 × List UInt8)) =>
 oite (decide (a_1 < j))
 (oite (decide ((0 : Int) ≤ Int64.toInt j) && Nat.blt (Int.toNat (Int64.toInt j)) (List.length data_1))
 (obind data_1[Int.toNat (Int64.toInt j)]? fun (x_1 : Int64 × List UInt8) =>
 oite
 (decide ((0 : Int) ≤ Int64.toInt (j - (1 : Int64))) &&
 Nat.blt (Int.toNat (Int64.toInt (j - (1 : Int64)))) (List.length data_1))
 (obind data_1[Int.toNat (Int64.toInt (j - (1 : Int64)))]? fun (x_2 : Int64 × List UInt8) =>
 obind (F48 n ((x_1.1, x_1.2), x_2.1, x_2.2)) fun (x_3 : Int64 × Unit) =>
 oite (decide (x_3.1 < (0 : Int64)))
 (oite
 (decide ((0 : Int) ≤ Int64.toInt (j - (1 : Int64))) &&
 Nat.blt (Int.toNat (Int64.toInt (j - (1 : Int64)))) (List.length data_1))
 (obind data_1[Int.toNat (Int64.toInt (j - (1 : Int64)))]? fun (x_4 : Int64 × List UInt8) =>
 oite
 (decide ((0 : Int) ≤ Int64.toInt j) && Nat.blt (Int.toNat (Int64.toInt j)) (List.length data_1))
 (obind data_1[Int.toNat (Int64.toInt j)]? fun (x_5 : Int64 × List UInt8) =>
 oite
 (decide ((0 : Int) ≤ Int64.toInt j) &&
 Nat.blt (Int.toNat (Int64.toInt j)) (List.length data_1))
 (obind data_1[Int.toNat (Int64.toInt j)]? fun (x_6 : Int64 × List UInt8) =>
 oite
 (decide ((0 : Int) ≤ Int64.toInt (j - (1 : Int64))) &&
 Nat.blt (Int.toNat (Int64.toInt (j - (1 : Int64))))
 (List.length
 (List.set data_1 (Int.toNat (Int64.toInt j)) (x_4.1, x_4.2))))
 (obind
 (List.set data_1 (Int.toNat (Int64.toInt j))
 (x_4.1, x_4.2))[Int.toNat (Int64.toInt (j - (1 : Int64)))]?
 fun (x_7 : Int64 × List UInt8) =>
 rec_1 a_1 b_1 i_1 (j - (1 : Int64))
 (List.set (List.set data_1 (Int.toNat (Int64.toInt j)) (x_4.1, x_4.2))
 (Int.toNat (Int64.toInt (j - (1 : Int64)))) (x_5.1, x_5.2)))
 none)
 none)
 none)
 none)
 (rec a_1 b_1 (i_1 + (1 : Int64)) data_1))
 none)
 none)
 (rec a_1 b_1 (i_1 + (1 : Int64)) data_1)
def F73_R53 : Nat →
 Arr
 [PT.int IntKind.i64, PT.int IntKind.i64, PT.int IntKind.i64,
 PT.list zc9]
 (Option (Unit × List (Int64 × List UInt8))) →
 Nat →
 PT.T (PT.int IntKind.i64) →
 Int64 → Int64 → Int64 → List (Int64 × List UInt8) → Option (Unit × List (Int64 × List UInt8)) := fun (n : Nat)
 (rec :
 Arr
 [PT.int IntKind.i64, PT.int IntKind.i64, PT.int IntKind.i64,
 PT.list zc9]
 (Option (Unit × List (Int64 × List UInt8)))) =>
 ofixA (53 : Nat)
 [PT.int IntKind.i64, PT.int IntKind.i64, PT.int IntKind.i64, PT.int IntKind.i64,
 PT.list zc9]
 (F73_L53 n rec)
def F73_L3 : Nat →
 Arr
 [PT.int IntKind.i64, PT.int IntKind.i64, PT.int IntKind.i64,
 PT.list zc9]
 (Option (Unit × List (Int64 × List UInt8))) →
 Int64 → Int64 → Int64 → List (Int64 × List UInt8) → Option (Unit × List (Int64 × List UInt8)) := fun (n : Nat)
 (rec :
 Arr
 [PT.int IntKind.i64, PT.int IntKind.i64, PT.int IntKind.i64,
 PT.list zc9]
 (Option (Unit × List (Int64 × List UInt8))))
 (a b i : Int64) (data : List (Int64 × List UInt8)) =>
 oite (decide (i < b)) (F73_R53 n rec n a b i i data) (some ((), data))
def F73_R3 : Nat →
 Nat →
 PT.T (PT.int IntKind.i64) → Int64 → Int64 → List (Int64 × List UInt8) → Option (Unit × List (Int64 × List UInt8)) := fun (n : Nat) =>
 ofixA (3 : Nat)
 [PT.int IntKind.i64, PT.int IntKind.i64, PT.int IntKind.i64,
 PT.list zc9]
 (F73_L3 n)
def F73 : Nat → List (Int64 × List UInt8) × Int64 × Int64 × Unit → Option (Unit × List (Int64 × List UInt8)) := fun (n : Nat) (x : List (Int64 × List UInt8) × Int64 × Int64 × Unit) =>
 F73_R3 n n x.2.1 x.2.2.1 (x.2.1 + (1 : Int64))
 x.1
theorem F73_R53_s (n : Nat) (rec : Arr [PT.int IntKind.i64, PT.int IntKind.i64, PT.int IntKind.i64, PT.list zc9] (Option (Unit × List (Int64 × List UInt8)))) (m_ : Nat) : F73_R53 n rec (m_ + 1) = F73_L53 n rec (F73_R53 n rec m_) := rfl
theorem F73_R3_s (n : Nat) (m_ : Nat) : F73_R3 n (m_ + 1) = F73_L3 n (F73_R3 n m_) := rfl
theorem ok73 (n : Nat) : FunOK Try.prog ⟨73, sig73, F73 n⟩ :=
 fun_ok (hints := ⟨[], [(3, ⟨[(0, .one (.own 0)), (1, .one (.int .i64)), (2, .one (.int .i64)), (3, .one (.fn 48)), (8, .one (.int .i64))], [(0, .row zc15)], 4⟩), (53, ⟨[(0, .one (.own 0)), (1, .one (.int .i64)), (2, .one (.int .i64)), (3, .one (.fn 48)), (8, .one (.int .i64)), (9, .one (.int .i64))], [(0, .row zc15)], 4⟩)]⟩) (fuel := n) (c := Try.f73.body.getD .skip) (rs := Try.f73.results.toList) tt_ok mix (FsOK.cons (ok48 n) (FsOK.nil)) Try.func73 (by kernel_rfl) (by kernel_rfl) rfl (by kernel_rfl) rfl rfl (by kernel_rfl)
end Go.Proofs.Ytcfckkmiaeegpaa
