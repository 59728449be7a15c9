/- What the functions of this seat compute, found by walking their code symbolically: each F is what the walk finds, each ok says that the Go function keeps it as a contract. Printed by a program of this repo's. -/
import Derived.Test.YtblldmpkljcnjaaProg
import Derived.KernelRfl
import Derived.Test.YtblldmpkljcnjaaSxClone
import Derived.Test.YtblldmpkljcnjaaSpDel
open Go Go.Sx
namespace Go.Proofs.Ytblldmpkljcnjaa
set_option maxRecDepth 100000
set_option linter.unusedVariables false
def tt : TT := [(2, ⟨.int .i64, 1, 8, some (.int .i64 0), false⟩), (3, ⟨.int .i64, 1, 8, some (.int .i64 0), false⟩), (4, ⟨.bool, 1, 1, some (.bool false), false⟩), (5, ⟨.int .u8, 1, 1, some (.int .u8 0), false⟩), (9, ⟨.str, 1, 16, some (.string ⟨#[]⟩), false⟩), (21, ⟨.int .i32, 1, 4, some (.int .i32 0), false⟩), (22, ⟨.int .u16, 1, 2, some (.int .u16 0), false⟩), (23, ⟨.slice 31, 1, 24, some (.slice none 0 0), false⟩), (24, ⟨.int .u64, 1, 8, some (.int .u64 0), false⟩), (26, ⟨.ptr 74, 1, 8, some (.pointer none), false⟩), (27, ⟨.int .i64, 1, 8, some (.int .i64 0), false⟩), (31, ⟨.struct [(0, 4, false), (1, 5, false), (2, 5, false), (3, 5, false), (4, 22, false), (5, 22, false), (6, 22, false), (7, 5, false), (8, 5, false), (9, 5, false), (10, 4, false)], 11, 14, some (.agg #[.bool false, .int .u8 0, .int .u8 0, .int .u8 0, .int .u16 0, .int .u16 0, .int .u16 0, .int .u8 0, .int .u8 0, .int .u8 0, .bool false]), false⟩), (34, ⟨.slice 89, 1, 24, some (.slice none 0 0), false⟩), (35, ⟨.int .u8, 1, 1, some (.int .u8 0), false⟩), (37, ⟨.struct [(0, 5, false), (1, 24, false), (2, 24, false), (3, 9, false), (4, 34, false), (5, 35, false), (6, 5, false), (7, 2, false), (8, 5, false)], 9, 88, some (.agg #[.int .u8 0, .int .u64 0, .int .u64 0, .string ⟨#[]⟩, .slice none 0 0, .int .u8 0, .int .u8 0, .int .i64 0, .int .u8 0]), false⟩), (39, ⟨.struct [(0, 5, false), (1, 24, false), (2, 24, false)], 3, 24, some (.agg #[.int .u8 0, .int .u64 0, .int .u64 0]), false⟩), (41, ⟨.struct [(0, 4, false), (1, 37, false), (10, 39, false)], 13, 120, some (.agg #[.bool false, .int .u8 0, .int .u64 0, .int .u64 0, .string ⟨#[]⟩, .slice none 0 0, .int .u8 0, .int .u8 0, .int .i64 0, .int .u8 0, .int .u8 0, .int .u64 0, .int .u64 0]), false⟩), (44, ⟨.slice 48, 1, 24, some (.slice none 0 0), false⟩), (46, ⟨.slice 24, 1, 24, some (.slice none 0 0), false⟩), (48, ⟨.struct [(0, 24, false), (1, 41, false)], 14, 128, some (.agg #[.int .u64 0, .bool false, .int .u8 0, .int .u64 0, .int .u64 0, .string ⟨#[]⟩, .slice none 0 0, .int .u8 0, .int .u8 0, .int .i64 0, .int .u8 0, .int .u8 0, .int .u64 0, .int .u64 0]), false⟩), (53, ⟨.slice 5, 1, 24, some (.slice none 0 0), false⟩), (54, ⟨.map 5 24, 1, 8, some (.map none), false⟩), (60, ⟨.arr 32 24, 32, 256, some (.agg #[.int .u64 0, .int .u64 0, .int .u64 0, .int .u64 0, .int .u64 0, .int .u64 0, .int .u64 0, .int .u64 0, .int .u64 0, .int .u64 0, .int .u64 0, .int .u64 0, .int .u64 0, .int .u64 0, .int .u64 0, .int .u64 0, .int .u64 0, .int .u64 0, .int .u64 0, .int .u64 0, .int .u64 0, .int .u64 0, .int .u64 0, .int .u64 0, .int .u64 0, .int .u64 0, .int .u64 0, .int .u64 0, .int .u64 0, .int .u64 0, .int .u64 0, .int .u64 0]), false⟩), (62, ⟨.struct [(0, 24, false), (1, 24, false), (2, 24, false), (3, 60, false), (35, 44, false)], 36, 304, some (.agg #[.int .u64 0, .int .u64 0, .int .u64 0, .int .u64 0, .int .u64 0, .int .u64 0, .int .u64 0, .int .u64 0, .int .u64 0, .int .u64 0, .int .u64 0, .int .u64 0, .int .u64 0, .int .u64 0, .int .u64 0, .int .u64 0, .int .u64 0, .int .u64 0, .int .u64 0, .int .u64 0, .int .u64 0, .int .u64 0, .int .u64 0, .int .u64 0, .int .u64 0, .int .u64 0, .int .u64 0, .int .u64 0, .int .u64 0, .int .u64 0, .int .u64 0, .int .u64 0, .int .u64 0, .int .u64 0, .int .u64 0, .slice none 0 0]), false⟩), (74, ⟨.struct [(0, 3, false), (1, 3, false), (2, 24, false), (3, 24, false), (4, 44, false), (5, 60, false), (37, 24, false)], 38, 320, some (.agg #[.int .i64 0, .int .i64 0, .int .u64 0, .int .u64 0, .slice none 0 0, .int .u64 0, .int .u64 0, .int .u64 0, .int .u64 0, .int .u64 0, .int .u64 0, .int .u64 0, .int .u64 0, .int .u64 0, .int .u64 0, .int .u64 0, .int .u64 0, .int .u64 0, .int .u64 0, .int .u64 0, .int .u64 0, .int .u64 0, .int .u64 0, .int .u64 0, .int .u64 0, .int .u64 0, .int .u64 0, .int .u64 0, .int .u64 0, .int .u64 0, .int .u64 0, .int .u64 0, .int .u64 0, .int .u64 0, .int .u64 0, .int .u64 0, .int .u64 0, .int .u64 0]), false⟩), (87, ⟨.slice 9, 1, 24, some (.slice none 0 0), false⟩), (89, ⟨.struct [(0, 9, false), (1, 9, false)], 2, 32, some (.agg #[.string ⟨#[]⟩, .string ⟨#[]⟩]), false⟩), (99, ⟨.struct [(0, 53, false)], 1, 24, some (.agg #[.slice none 0 0]), false⟩), (101, ⟨.ptr 99, 1, 8, some (.pointer none), false⟩)]
theorem tt_ok : TTOK Try.prog tt := TTOK.of_rows (by kernel_rfl)
theorem mix : Try.prog.follows .mixedOrders = true := by kernel_rfl
-- watchfire/spool.New
def sig8 : Sig := ⟨(.cons (.one (.c (.int .i64))) .nil), (.cons (.one (.ptrA (.cons (.c (.int .i64)) (.cons (.c (.int .i64)) (.cons (.c (.int .u64)) (.cons (.c (.int .u64)) (.cons (.row (.cons (.int .u64) (.cons .bool (.cons (.int .u8) (.cons (.int .u64) (.cons (.int .u64) (.cons .str (.cons (.ro (.cons .str (.cons .str .nil))) (.cons (.int .u8) (.cons (.int .u8) (.cons (.int .i64) (.cons (.int .u8) (.cons (.int .u8) (.cons (.int .u64) (.cons (.int .u64) .nil))))))))))))))) .nil))))) (.int .u64) 32 (.cons (.c (.int .u64)) .nil))) (.cons (.one (.c (.int .i64))) .nil))⟩
def F8 : Nat →
 Int64 →
 Option
 ((Option
 ((Int64 ×
 Int64 ×
 UInt64 ×
 UInt64 ×
 List
 (UInt64 ×
 Bool ×
 UInt8 ×
 UInt64 ×
 UInt64 ×
 List UInt8 ×
 List (List UInt8 × List UInt8) ×
 UInt8 × UInt8 × Int64 × UInt8 × UInt8 × UInt64 × UInt64)) ×
 List UInt64 × UInt64) ×
 Int64) ×
 Unit) := fun (n : Nat) (x : Int64) =>
 oite (decide (x < (64 : Int64))) (some ((none, (26 : Int64)), ()))
 (oite (decide ((65536 : Int64) < x)) (some ((none, (26 : Int64)), ()))
 (some
 ((some
 ((x, (0 : Int64), (1 : UInt64), (0 : UInt64),
 @List.nil
 (UInt64 ×
 Bool ×
 UInt8 ×
 UInt64 ×
 UInt64 ×
 List UInt8 ×
 List (List UInt8 × List UInt8) ×
 UInt8 × UInt8 × Int64 × UInt8 × UInt8 × UInt64 × UInt64)),
 List.replicate (32 : Nat) (0 : UInt64), (0 : UInt64)),
 (0 : Int64)),
 ())))
theorem ok8 (n : Nat) : FunOK Try.prog ⟨8, sig8, F8 n⟩ :=
 fun_ok (hints := ⟨[], []⟩) (fuel := n) (c := Try.f8.body.getD .skip) (rs := Try.f8.results.toList) tt_ok mix (FsOK.nil) Try.func8 (by kernel_rfl) (by kernel_rfl) rfl (by kernel_rfl) rfl rfl (by kernel_rfl)
-- watchfire/item.Of
def sig24 : Sig := ⟨(.cons (.agg (.cons (.int .u8) (.cons (.int .u64) (.cons (.int .u64) (.cons .str (.cons (.ro (.cons .str (.cons .str .nil))) (.cons (.int .u8) (.cons (.int .u8) (.cons (.int .i64) (.cons (.int .u8) .nil)))))))))) .nil), (.cons (.agg (.cons .bool (.cons (.int .u8) (.cons (.int .u64) (.cons (.int .u64) (.cons .str (.cons (.ro (.cons .str (.cons .str .nil))) (.cons (.int .u8) (.cons (.int .u8) (.cons (.int .i64) (.cons (.int .u8) (.cons (.int .u8) (.cons (.int .u64) (.cons (.int .u64) .nil)))))))))))))) .nil)⟩
def F24 : Nat →
 UInt8 × UInt64 × UInt64 × List UInt8 × List (List UInt8 × List UInt8) × UInt8 × UInt8 × Int64 × UInt8 →
 Option
 ((Bool ×
 UInt8 ×
 UInt64 ×
 UInt64 ×
 List UInt8 × List (List UInt8 × List UInt8) × UInt8 × UInt8 × Int64 × UInt8 × UInt8 × UInt64 × UInt64) ×
 Unit) := fun (n : Nat)
 (x : UInt8 × UInt64 × UInt64 × List UInt8 × List (List UInt8 × List UInt8) × UInt8 × UInt8 × Int64 × UInt8) =>
 some
 ((false, x.1, x.2.1, x.2.2.1,
 x.2.2.2.1, x.2.2.2.2.1,
 x.2.2.2.2.2.1,
 x.2.2.2.2.2.2.1,
 x.2.2.2.2.2.2.2.1,
 x.2.2.2.2.2.2.2.2, (0 : UInt8),
 (0 : UInt64), (0 : UInt64)),
 ())
theorem ok24 (n : Nat) : FunOK Try.prog ⟨24, sig24, F24 n⟩ :=
 fun_ok (hints := ⟨[], []⟩) (fuel := n) (c := Try.f24.body.getD .skip) (rs := Try.f24.results.toList) tt_ok mix (FsOK.nil) Try.func24 (by kernel_rfl) (by kernel_rfl) rfl (by kernel_rfl) rfl rfl (by kernel_rfl)
-- watchfire/item.number
def sig42 : Sig := ⟨(.cons (.one (.c (.int .u64))) .nil), (.cons (.one (.c .bool)) .nil)⟩
def F42 : Nat → UInt64 → Option (Bool × Unit) := fun (n : Nat) (x : UInt64) => some (decide (x ≤ (1099511627776 : UInt64)), ())
theorem ok42 (n : Nat) : FunOK Try.prog ⟨42, sig42, F42 n⟩ :=
 fun_ok (hints := ⟨[], []⟩) (fuel := n) (c := Try.f42.body.getD .skip) (rs := Try.f42.results.toList) tt_ok mix (FsOK.nil) Try.func42 (by kernel_rfl) (by kernel_rfl) rfl (by kernel_rfl) rfl rfl (by kernel_rfl)
-- watchfire/item.gap
def sig37 : Sig := ⟨(.cons (.agg (.cons (.int .u8) (.cons (.int .u64) (.cons (.int .u64) .nil)))) .nil), (.cons (.one (.c (.int .i64))) .nil)⟩
def F37 : Nat → UInt8 × UInt64 × UInt64 → Option (Int64 × Unit) := fun (n : Nat) (x : UInt8 × UInt64 × UInt64) =>
 oite (decide ((32 : UInt8) ≤ x.1)) (some ((6 : Int64), ()))
 (oite (decide (x.2.1 < (1 : UInt64))) (some ((6 : Int64), ()))
 (oite (decide (x.2.2 < x.2.1)) (some ((6 : Int64), ()))
 (obind (F42 n x.2.2) fun (x_1 : Bool × Unit) =>
 oite (!x_1.1) (some ((6 : Int64), ())) (some ((0 : Int64), ())))))
theorem ok37 (n : Nat) : FunOK Try.prog ⟨37, sig37, F37 n⟩ :=
 fun_ok (hints := ⟨[], []⟩) (fuel := n) (c := Try.f37.body.getD .skip) (rs := Try.f37.results.toList) tt_ok mix (FsOK.cons (ok42 n) (FsOK.nil)) Try.func37 (by kernel_rfl) (by kernel_rfl) rfl (by kernel_rfl) rfl rfl (by kernel_rfl)
-- watchfire/lab.word
def sig50 : Sig := ⟨(.cons (.one (.c .str)) (.cons (.one (.c (.int .i64))) (.cons (.one (.c .bool)) .nil))), (.cons (.one (.c .bool)) .nil)⟩
def F50_J471 : Arr [PT.bool, PT.bytes, PT.nat] (Option (Bool × Unit)) → Bool → Int32 → Bool → List UInt8 → Nat → Option (Bool × Unit) := fun (rec : Arr [PT.bool, PT.bytes, PT.nat] (Option (Bool × Unit))) (also_1 : Bool) (c : Int32) (t_1 : Bool)
 (t_1_1 : List UInt8) (x_2 : Nat) =>
 oite t_1 (rec also_1 t_1_1 x_2)
 (oite also_1
 (oite (decide ((48 : Int32) ≤ c))
 (oite (decide (c ≤ (57 : Int32))) (rec also_1 t_1_1 x_2)
 (oite (decide (c = (46 : Int32))) (rec also_1 t_1_1 x_2)
 (oite (decide (c = (95 : Int32))) (rec also_1 t_1_1 x_2)
 (oite (decide (c = (45 : Int32))) (rec also_1 t_1_1 x_2) (some (false, ()))))))
 (oite (decide (c = (46 : Int32))) (rec also_1 t_1_1 x_2)
 (oite (decide (c = (95 : Int32))) (rec also_1 t_1_1 x_2)
 (oite (decide (c = (45 : Int32))) (rec also_1 t_1_1 x_2) (some (false, ()))))))
 (some (false, ())))
def F50_L29 : Arr [PT.bool, PT.bytes, PT.nat] (Option (Bool × Unit)) → Bool → List UInt8 → Nat → Option (Bool × Unit) := fun (rec : Arr [PT.bool, PT.bytes, PT.nat] (Option (Bool × Unit))) (also : Bool) (t : List UInt8) (x_1 : Nat) =>
 oite (Nat.blt x_1 (List.length t))
 (ojoinA (471 : Nat) [PT.bool, PT.int IntKind.i32, PT.bool, PT.bytes, PT.nat]
 (fun (J : Arr [PT.bool, PT.int IntKind.i32, PT.bool, PT.bytes, PT.nat] (Option (Bool × Unit))) =>
 oite (decide ((97 : Int32) ≤ Int32.ofInt ↑(runeAt t x_1)))
 (J also (Int32.ofInt ↑(runeAt t x_1)) (decide (Int32.ofInt ↑(runeAt t x_1) ≤ (122 : Int32))) t
 (x_1 + runeLen t x_1))
 (J also (Int32.ofInt ↑(runeAt t x_1)) false t (x_1 + runeLen t x_1)))
 (F50_J471 rec))
 (some (true, ()))
def F50_R29 : Nat → PT.T PT.bool → List UInt8 → Nat → Option (Bool × Unit) := ofixA (29 : Nat) [PT.bool, PT.bytes, PT.nat] F50_L29
def F50 : Nat → List UInt8 × Int64 × Bool → Option (Bool × Unit) := fun (n : Nat) (x : List UInt8 × Int64 × Bool) =>
 oite (decide (Int64.ofInt ↑(List.length x.1) < (1 : Int64))) (some (false, ()))
 (oite (decide (x.2.1 < Int64.ofInt ↑(List.length x.1))) (some (false, ()))
 (F50_R29 n x.2.2 x.1 (0 : Nat)))
theorem F50_R29_s  (m_ : Nat) : F50_R29  (m_ + 1) = F50_L29  (F50_R29  m_) := rfl
theorem ok50 (n : Nat) : FunOK Try.prog ⟨50, sig50, F50 n⟩ :=
 fun_ok (hints := ⟨[(471, ⟨[(2, .one (.bool)), (8, .one (.int .i32)), (19, .one (.own 3)), (23, .one (.bool))], [(3, .iter)], 4⟩)], [(29, ⟨[(2, .one (.bool)), (19, .one (.own 3))], [(3, .iter)], 4⟩)]⟩) (fuel := n) (c := Try.f50.body.getD .skip) (rs := Try.f50.results.toList) tt_ok mix (FsOK.nil) Try.func50 (by kernel_rfl) (by kernel_rfl) rfl (by kernel_rfl) rfl rfl (by kernel_rfl)
-- watchfire/lab.Name
def sig43 : Sig := ⟨(.cons (.one (.c .str)) .nil), (.cons (.one (.c .bool)) .nil)⟩
def F43 : Nat → List UInt8 → Option (Bool × Unit) := fun (n : Nat) (x : List UInt8) =>
 obind (F50 n (x, (12 : Int64), true)) fun (x_1 : Bool × Unit) =>
 oite x_1.1
 (obind (at? x (Int64.toInt (0 : Int64))) fun (x_2 : UInt8) =>
 oite (decide ((97 : UInt8) ≤ x_2))
 (obind (at? x (Int64.toInt (0 : Int64))) fun (x_3 : UInt8) => some (decide (x_3 ≤ (122 : UInt8)), ()))
 (some (false, ())))
 (some (false, ()))
theorem ok43 (n : Nat) : FunOK Try.prog ⟨43, sig43, F43 n⟩ :=
 fun_ok (hints := ⟨[], []⟩) (fuel := n) (c := Try.f43.body.getD .skip) (rs := Try.f43.results.toList) tt_ok mix (FsOK.cons (ok50 n) (FsOK.nil)) Try.func43 (by kernel_rfl) (by kernel_rfl) rfl (by kernel_rfl) rfl rfl (by kernel_rfl)
-- internal/stringslite.HasPrefix
def sig59 : Sig := ⟨(.cons (.one (.c .str)) (.cons (.one (.c .str)) .nil)), (.cons (.one (.c .bool)) .nil)⟩
def F59 : Nat → List UInt8 × List UInt8 → Option (Bool × Unit) := fun (n : Nat) (x : List UInt8 × List UInt8) =>
 oite (decide (Int64.ofInt ↑(List.length x.2) ≤ Int64.ofInt ↑(List.length x.1)))
 (oite
 (decide ((0 : Int) ≤ Int64.toInt (Int64.ofInt ↑(List.length x.2))) &&
 Nat.ble (Int.toNat (Int64.toInt (Int64.ofInt ↑(List.length x.2)))) (List.length x.1) &&
 true)
 (some
 (List.drop (0 : Nat)
 (List.take (Int.toNat (Int64.toInt (Int64.ofInt ↑(List.length x.2)))) x.1) ==
 x.2,
 ()))
 none)
 (some (false, ()))
theorem ok59 (n : Nat) : FunOK Try.prog ⟨59, sig59, F59 n⟩ :=
 fun_ok (hints := ⟨[], []⟩) (fuel := n) (c := Try.f59.body.getD .skip) (rs := Try.f59.results.toList) tt_ok mix (FsOK.nil) Try.func59 (by kernel_rfl) (by kernel_rfl) rfl (by kernel_rfl) rfl rfl (by kernel_rfl)
-- strings.HasPrefix
def sig51 : Sig := ⟨(.cons (.one (.c .str)) (.cons (.one (.c .str)) .nil)), (.cons (.one (.c .bool)) .nil)⟩
def F51 : Nat → List UInt8 × List UInt8 → Option (Bool × Unit) := fun (n : Nat) (x : List UInt8 × List UInt8) =>
 obind (F59 n (x.1, x.2)) fun (x_1 : Bool × Unit) => some (x_1.1, ())
theorem ok51 (n : Nat) : FunOK Try.prog ⟨51, sig51, F51 n⟩ :=
 fun_ok (hints := ⟨[], []⟩) (fuel := n) (c := Try.f51.body.getD .skip) (rs := Try.f51.results.toList) tt_ok mix (FsOK.cons (ok59 n) (FsOK.nil)) Try.func51 (by kernel_rfl) (by kernel_rfl) rfl (by kernel_rfl) rfl rfl (by kernel_rfl)
-- watchfire/item.Own
def sig44 : Sig := ⟨(.cons (.one (.c .str)) .nil), (.cons (.one (.c .bool)) .nil)⟩
def F44 : Nat → List UInt8 → Option (Bool × Unit) := fun (n : Nat) (x : List UInt8) =>
 obind (F51 n (x, [(111 : UInt8), (119 : UInt8), (110 : UInt8), (46 : UInt8)])) fun (x_1 : Bool × Unit) =>
 some (x_1.1, ())
theorem ok44 (n : Nat) : FunOK Try.prog ⟨44, sig44, F44 n⟩ :=
 fun_ok (hints := ⟨[], []⟩) (fuel := n) (c := Try.f44.body.getD .skip) (rs := Try.f44.results.toList) tt_ok mix (FsOK.cons (ok51 n) (FsOK.nil)) Try.func44 (by kernel_rfl) (by kernel_rfl) rfl (by kernel_rfl) rfl rfl (by kernel_rfl)
-- watchfire/lab.Key
def sig52 : Sig := ⟨(.cons (.one (.c .str)) .nil), (.cons (.one (.c .bool)) .nil)⟩
def F52 : Nat → List UInt8 → Option (Bool × Unit) := fun (n : Nat) (x : List UInt8) =>
 obind (F50 n (x, (8 : Int64), false)) fun (x_1 : Bool × Unit) => some (x_1.1, ())
theorem ok52 (n : Nat) : FunOK Try.prog ⟨52, sig52, F52 n⟩ :=
 fun_ok (hints := ⟨[], []⟩) (fuel := n) (c := Try.f52.body.getD .skip) (rs := Try.f52.results.toList) tt_ok mix (FsOK.cons (ok50 n) (FsOK.nil)) Try.func52 (by kernel_rfl) (by kernel_rfl) rfl (by kernel_rfl) rfl rfl (by kernel_rfl)
-- watchfire/lab.Value
def sig53 : Sig := ⟨(.cons (.one (.c .str)) .nil), (.cons (.one (.c .bool)) .nil)⟩
def F53 : Nat → List UInt8 → Option (Bool × Unit) := fun (n : Nat) (x : List UInt8) =>
 obind (F50 n (x, (16 : Int64), true)) fun (x_1 : Bool × Unit) => some (x_1.1, ())
theorem ok53 (n : Nat) : FunOK Try.prog ⟨53, sig53, F53 n⟩ :=
 fun_ok (hints := ⟨[], []⟩) (fuel := n) (c := Try.f53.body.getD .skip) (rs := Try.f53.results.toList) tt_ok mix (FsOK.cons (ok50 n) (FsOK.nil)) Try.func53 (by kernel_rfl) (by kernel_rfl) rfl (by kernel_rfl) rfl rfl (by kernel_rfl)
-- watchfire/lab.Check
def sig45 : Sig := ⟨(.cons (.one (.c (.ro (.cons .str (.cons .str .nil))))) .nil), (.cons (.one (.c (.int .i64))) .nil)⟩
def F45_J3767 : Arr
 [PT.list (CTs.cons CT.str (CTs.cons CT.str CTs.nil)), PT.list (CTs.cons CT.str (CTs.cons CT.str CTs.nil)),
 PT.int IntKind.i64, PT.int IntKind.i64]
 (Option (Int64 × Unit)) →
 List (List UInt8 × List UInt8) →
 Int64 → List (List UInt8 × List UInt8) → Int64 → Int64 → Bool → List UInt8 → List UInt8 → Option (Int64 × Unit) := fun
 (rec :
 Arr
 [PT.list (CTs.cons CT.str (CTs.cons CT.str CTs.nil)), PT.list (CTs.cons CT.str (CTs.cons CT.str CTs.nil)),
 PT.int IntKind.i64, PT.int IntKind.i64]
 (Option (Int64 × Unit)))
 (l_1 : List (List UInt8 × List UInt8)) (i : Int64) (t_3 : List (List UInt8 × List UInt8)) (t_1_1 t_2_1 : Int64)
 (t_3_1 : Bool) (p0 p1 : List UInt8) =>
 oite t_3_1 (some ((7 : Int64), ()))
 (oite (decide ((0 : Int64) < i))
 (obind (at? l_1 (Int64.toInt (i - (1 : Int64)))) fun (x_4 : List UInt8 × List UInt8) =>
 oite (!(bytesLt x_4.1 p0 || x_4.1 == p0)) (some ((9 : Int64), ()))
 (rec l_1 t_3 t_1_1 (t_2_1 + (1 : Int64))))
 (rec l_1 t_3 t_1_1 (t_2_1 + (1 : Int64))))
def F45_L29 : Nat →
 Arr
 [PT.list (CTs.cons CT.str (CTs.cons CT.str CTs.nil)), PT.list (CTs.cons CT.str (CTs.cons CT.str CTs.nil)),
 PT.int IntKind.i64, PT.int IntKind.i64]
 (Option (Int64 × Unit)) →
 List (List UInt8 × List UInt8) → List (List UInt8 × List UInt8) → Int64 → Int64 → Option (Int64 × Unit) := fun (n : Nat)
 (rec :
 Arr
 [PT.list (CTs.cons CT.str (CTs.cons CT.str CTs.nil)), PT.list (CTs.cons CT.str (CTs.cons CT.str CTs.nil)),
 PT.int IntKind.i64, PT.int IntKind.i64]
 (Option (Int64 × Unit)))
 (l t : List (List UInt8 × List UInt8)) (t_1 t_2 : Int64) =>
 oite (decide (t_2 < t_1))
 (obind (at? t (Int64.toInt t_2)) fun (x_1 : List UInt8 × List UInt8) =>
 obind (F52 n x_1.1) fun (x_2 : Bool × Unit) =>
 oite (!x_2.1) (some ((8 : Int64), ()))
 (obind (F53 n x_1.2) fun (x_3 : Bool × Unit) =>
 oite (!x_3.1) (some ((8 : Int64), ()))
 (ojoinA (3767 : Nat)
 [PT.list (CTs.cons CT.str (CTs.cons CT.str CTs.nil)), PT.int IntKind.i64,
 PT.list (CTs.cons CT.str (CTs.cons CT.str CTs.nil)), PT.int IntKind.i64, PT.int IntKind.i64, PT.bool,
 PT.bytes, PT.bytes]
 (fun
 (J :
 Arr
 [PT.list (CTs.cons CT.str (CTs.cons CT.str CTs.nil)), PT.int IntKind.i64,
 PT.list (CTs.cons CT.str (CTs.cons CT.str CTs.nil)), PT.int IntKind.i64, PT.int IntKind.i64,
 PT.bool, PT.bytes, PT.bytes]
 (Option (Int64 × Unit))) =>
 oite (decide ((0 : Int64) < t_2))
 (obind (at? l (Int64.toInt (t_2 - (1 : Int64)))) fun (x_4 : List UInt8 × List UInt8) =>
 J l t_2 t t_1 t_2 (x_4.1 == x_1.1) x_1.1 x_1.2)
 (J l t_2 t t_1 t_2 false x_1.1 x_1.2))
 (F45_J3767 rec))))
 (some ((0 : Int64), ()))
def F45_R29 : Nat →
 Nat →
 PT.T (PT.list (CTs.cons CT.str (CTs.cons CT.str CTs.nil))) →
 List (List UInt8 × List UInt8) → Int64 → Int64 → Option (Int64 × Unit) := fun (n : Nat) =>
 ofixA (29 : Nat)
 [PT.list (CTs.cons CT.str (CTs.cons CT.str CTs.nil)), PT.list (CTs.cons CT.str (CTs.cons CT.str CTs.nil)),
 PT.int IntKind.i64, PT.int IntKind.i64]
 (F45_L29 n)
def F45 : Nat → List (List UInt8 × List UInt8) → Option (Int64 × Unit) := fun (n : Nat) (x : List (List UInt8 × List UInt8)) =>
 oite (decide ((8 : Int64) < Int64.ofInt ↑(List.length x))) (some ((5 : Int64), ()))
 (F45_R29 n n x x (Int64.ofInt ↑(List.length x)) (0 : Int64))
theorem F45_R29_s (n : Nat) (m_ : Nat) : F45_R29 n (m_ + 1) = F45_L29 n (F45_R29 n m_) := rfl
theorem ok45 (n : Nat) : FunOK Try.prog ⟨45, sig45, F45 n⟩ :=
 fun_ok (hints := ⟨[(3767, ⟨[(0, .one (.ro (.cons .str (.cons .str .nil)))), (3, .one (.int .i64)), (4, .one (.own 1)), (8, .one (.ro (.cons .str (.cons .str .nil)))), (9, .one (.int .i64)), (10, .one (.int .i64)), (26, .one (.bool))], [(1, .cells [.str, .str])], 2⟩)], [(29, ⟨[(0, .one (.ro (.cons .str (.cons .str .nil)))), (8, .one (.ro (.cons .str (.cons .str .nil)))), (9, .one (.int .i64)), (10, .one (.int .i64))], [], 1⟩)]⟩) (fuel := n) (c := Try.f45.body.getD .skip) (rs := Try.f45.results.toList) tt_ok mix (FsOK.cons (ok52 n) (FsOK.cons (ok53 n) (FsOK.nil))) Try.func45 (by kernel_rfl) (by kernel_rfl) rfl (by kernel_rfl) rfl rfl (by kernel_rfl)
-- watchfire/item.event
def sig38 : Sig := ⟨(.cons (.agg (.cons (.int .u8) (.cons (.int .u64) (.cons (.int .u64) (.cons .str (.cons (.ro (.cons .str (.cons .str .nil))) (.cons (.int .u8) (.cons (.int .u8) (.cons (.int .i64) (.cons (.int .u8) .nil)))))))))) .nil), (.cons (.one (.c (.int .i64))) .nil)⟩
def F38_J111 : Nat →
 Bool →
 UInt8 →
 UInt64 →
 UInt64 → List UInt8 → List (List UInt8 × List UInt8) → UInt8 → UInt8 → Int64 → UInt8 → Option (Int64 × Unit) := fun (n : Nat) (t : Bool) (v0 : UInt8) (v1 v2 : UInt64) (v3 : List UInt8) (v4 : List (List UInt8 × List UInt8))
 (v5 v6 : UInt8) (v7 : Int64) (v8 : UInt8) =>
 oite t (some ((12 : Int64), ()))
 (obind (F44 n v3) fun (x_4 : Bool × Unit) =>
 oite (!(!decide (v8 = (0 : UInt8))) == x_4.1) (some ((27 : Int64), ()))
 (obind (F45 n v4) fun (x_5 : Int64 × Unit) => some (x_5.1, ())))
def F38 : Nat →
 UInt8 × UInt64 × UInt64 × List UInt8 × List (List UInt8 × List UInt8) × UInt8 × UInt8 × Int64 × UInt8 →
 Option (Int64 × Unit) := fun (n : Nat)
 (x : UInt8 × UInt64 × UInt64 × List UInt8 × List (List UInt8 × List UInt8) × UInt8 × UInt8 × Int64 × UInt8) =>
 oite (decide ((32 : UInt8) ≤ x.1)) (some ((6 : Int64), ()))
 (oite (decide (x.2.1 < (1 : UInt64))) (some ((6 : Int64), ()))
 (obind (F42 n x.2.1) fun (x_1 : Bool × Unit) =>
 oite (!x_1.1) (some ((6 : Int64), ()))
 (obind (F42 n x.2.2.1) fun (x_2 : Bool × Unit) =>
 oite (!x_2.1) (some ((6 : Int64), ()))
 (oite
 (decide ((7 : UInt8) < x.2.2.2.2.2.2.1))
 (some ((6 : Int64), ()))
 (obind (F43 n x.2.2.2.1) fun (x_3 : Bool × Unit) =>
 oite (!x_3.1) (some ((8 : Int64), ()))
 (ojoinA (111 : Nat)
 [PT.bool, PT.int IntKind.u8, PT.int IntKind.u64, PT.int IntKind.u64, PT.bytes,
 PT.list (CTs.cons CT.str (CTs.cons CT.str CTs.nil)), PT.int IntKind.u8, PT.int IntKind.u8,
 PT.int IntKind.i64, PT.int IntKind.u8]
 (fun
 (J :
 Arr
 [PT.bool, PT.int IntKind.u8, PT.int IntKind.u64, PT.int IntKind.u64, PT.bytes,
 PT.list (CTs.cons CT.str (CTs.cons CT.str CTs.nil)), PT.int IntKind.u8,
 PT.int IntKind.u8, PT.int IntKind.i64, PT.int IntKind.u8]
 (Option (Int64 × Unit))) =>
 oite (!decide (x.2.2.2.2.2.1 = (0 : UInt8)))
 (oite
 (!decide (x.2.2.2.2.2.1 = (2 : UInt8)))
 (J true x.1 x.2.1 x.2.2.1
 x.2.2.2.1
 x.2.2.2.2.1
 x.2.2.2.2.2.1
 x.2.2.2.2.2.2.1
 x.2.2.2.2.2.2.2.1
 x.2.2.2.2.2.2.2.2)
 (J
 (decide
 ((2 : UInt8) <
 x.2.2.2.2.2.2.2.2))
 x.1 x.2.1 x.2.2.1
 x.2.2.2.1
 x.2.2.2.2.1
 x.2.2.2.2.2.1
 x.2.2.2.2.2.2.1
 x.2.2.2.2.2.2.2.1
 x.2.2.2.2.2.2.2.2))
 (J
 (decide
 ((2 : UInt8) <
 x.2.2.2.2.2.2.2.2))
 x.1 x.2.1 x.2.2.1
 x.2.2.2.1
 x.2.2.2.2.1
 x.2.2.2.2.2.1
 x.2.2.2.2.2.2.1
 x.2.2.2.2.2.2.2.1
 x.2.2.2.2.2.2.2.2))
 (F38_J111 n)))))))
theorem ok38 (n : Nat) : FunOK Try.prog ⟨38, sig38, F38 n⟩ :=
 fun_ok (hints := ⟨[(111, ⟨[(1, .one (.own 1)), (34, .one (.bool))], [(1, .cells [.int .u8, .int .u64, .int .u64, .str, .ro (.cons .str (.cons .str .nil)), .int .u8, .int .u8, .int .i64, .int .u8])], 2⟩)], []⟩) (fuel := n) (c := Try.f38.body.getD .skip) (rs := Try.f38.results.toList) tt_ok mix (FsOK.cons (ok42 n) (FsOK.cons (ok43 n) (FsOK.cons (ok44 n) (FsOK.cons (ok45 n) (FsOK.nil))))) Try.func38 (by kernel_rfl) (by kernel_rfl) rfl (by kernel_rfl) rfl rfl (by kernel_rfl)
-- watchfire/item.Check
def sig25 : Sig := ⟨(.cons (.agg (.cons .bool (.cons (.int .u8) (.cons (.int .u64) (.cons (.int .u64) (.cons .str (.cons (.ro (.cons .str (.cons .str .nil))) (.cons (.int .u8) (.cons (.int .u8) (.cons (.int .i64) (.cons (.int .u8) (.cons (.int .u8) (.cons (.int .u64) (.cons (.int .u64) .nil)))))))))))))) .nil), (.cons (.one (.c (.int .i64))) .nil)⟩
def F25 : Nat →
 Bool ×
 UInt8 ×
 UInt64 ×
 UInt64 ×
 List UInt8 × List (List UInt8 × List UInt8) × UInt8 × UInt8 × Int64 × UInt8 × UInt8 × UInt64 × UInt64 →
 Option (Int64 × Unit) := fun (n : Nat)
 (x :
 Bool ×
 UInt8 ×
 UInt64 ×
 UInt64 ×
 List UInt8 × List (List UInt8 × List UInt8) × UInt8 × UInt8 × Int64 × UInt8 × UInt8 × UInt64 × UInt64) =>
 oite x.1
 (obind
 (F37 n
 (x.2.2.2.2.2.2.2.2.2.2.1,
 x.2.2.2.2.2.2.2.2.2.2.2.1,
 x.2.2.2.2.2.2.2.2.2.2.2.2))
 fun (x_1 : Int64 × Unit) => some (x_1.1, ()))
 (obind
 (F38 n
 (x.2.1, x.2.2.1, x.2.2.2.1,
 x.2.2.2.2.1,
 x.2.2.2.2.2.1,
 x.2.2.2.2.2.2.1,
 x.2.2.2.2.2.2.2.1,
 x.2.2.2.2.2.2.2.2.1,
 x.2.2.2.2.2.2.2.2.2.1))
 fun (x_1 : Int64 × Unit) => some (x_1.1, ()))
theorem ok25 (n : Nat) : FunOK Try.prog ⟨25, sig25, F25 n⟩ :=
 fun_ok (hints := ⟨[], []⟩) (fuel := n) (c := Try.f25.body.getD .skip) (rs := Try.f25.results.toList) tt_ok mix (FsOK.cons (ok37 n) (FsOK.cons (ok38 n) (FsOK.nil))) Try.func25 (by kernel_rfl) (by kernel_rfl) rfl (by kernel_rfl) rfl rfl (by kernel_rfl)
-- watchfire/item.Span
def sig15 : Sig := ⟨(.cons (.agg (.cons .bool (.cons (.int .u8) (.cons (.int .u64) (.cons (.int .u64) (.cons .str (.cons (.ro (.cons .str (.cons .str .nil))) (.cons (.int .u8) (.cons (.int .u8) (.cons (.int .i64) (.cons (.int .u8) (.cons (.int .u8) (.cons (.int .u64) (.cons (.int .u64) .nil)))))))))))))) .nil), (.cons (.one (.c (.int .u8))) (.cons (.one (.c (.int .u64))) (.cons (.one (.c (.int .u64))) .nil)))⟩
def F15 : Nat →
 Bool ×
 UInt8 ×
 UInt64 ×
 UInt64 ×
 List UInt8 × List (List UInt8 × List UInt8) × UInt8 × UInt8 × Int64 × UInt8 × UInt8 × UInt64 × UInt64 →
 Option ((UInt8 × UInt64 × UInt64) × Unit) := fun (n : Nat)
 (x :
 Bool ×
 UInt8 ×
 UInt64 ×
 UInt64 ×
 List UInt8 × List (List UInt8 × List UInt8) × UInt8 × UInt8 × Int64 × UInt8 × UInt8 × UInt64 × UInt64) =>
 oite x.1
 (some
 ((x.2.2.2.2.2.2.2.2.2.2.1,
 x.2.2.2.2.2.2.2.2.2.2.2.1,
 x.2.2.2.2.2.2.2.2.2.2.2.2),
 ()))
 (some ((x.2.1, x.2.2.1, x.2.2.1), ()))
theorem ok15 (n : Nat) : FunOK Try.prog ⟨15, sig15, F15 n⟩ :=
 fun_ok (hints := ⟨[], []⟩) (fuel := n) (c := Try.f15.body.getD .skip) (rs := Try.f15.results.toList) tt_ok mix (FsOK.nil) Try.func15 (by kernel_rfl) (by kernel_rfl) rfl (by kernel_rfl) rfl rfl (by kernel_rfl)
-- watchfire/item.Trim
def sig26 : Sig := ⟨(.cons (.agg (.cons .bool (.cons (.int .u8) (.cons (.int .u64) (.cons (.int .u64) (.cons .str (.cons (.ro (.cons .str (.cons .str .nil))) (.cons (.int .u8) (.cons (.int .u8) (.cons (.int .i64) (.cons (.int .u8) (.cons (.int .u8) (.cons (.int .u64) (.cons (.int .u64) .nil)))))))))))))) (.cons (.one (.c (.int .u64))) .nil)), (.cons (.agg (.cons .bool (.cons (.int .u8) (.cons (.int .u64) (.cons (.int .u64) (.cons .str (.cons (.ro (.cons .str (.cons .str .nil))) (.cons (.int .u8) (.cons (.int .u8) (.cons (.int .i64) (.cons (.int .u8) (.cons (.int .u8) (.cons (.int .u64) (.cons (.int .u64) .nil)))))))))))))) (.cons (.one (.c .bool)) .nil))⟩
def F26 : Nat →
 (Bool ×
 UInt8 ×
 UInt64 ×
 UInt64 ×
 List UInt8 × List (List UInt8 × List UInt8) × UInt8 × UInt8 × Int64 × UInt8 × UInt8 × UInt64 × UInt64) ×
 UInt64 →
 Option
 (((Bool ×
 UInt8 ×
 UInt64 ×
 UInt64 ×
 List UInt8 ×
 List (List UInt8 × List UInt8) × UInt8 × UInt8 × Int64 × UInt8 × UInt8 × UInt64 × UInt64) ×
 Bool) ×
 Unit) := fun (n : Nat)
 (x :
 (Bool ×
 UInt8 ×
 UInt64 ×
 UInt64 ×
 List UInt8 × List (List UInt8 × List UInt8) × UInt8 × UInt8 × Int64 × UInt8 × UInt8 × UInt64 × UInt64) ×
 UInt64) =>
 obind
 (F15 n
 (x.1.1, x.1.2.1, x.1.2.2.1,
 x.1.2.2.2.1,
 x.1.2.2.2.2.1,
 x.1.2.2.2.2.2.1,
 x.1.2.2.2.2.2.2.1,
 x.1.2.2.2.2.2.2.2.1,
 x.1.2.2.2.2.2.2.2.2.1,
 x.1.2.2.2.2.2.2.2.2.2.1,
 x.1.2.2.2.2.2.2.2.2.2.2.1,
 x.1.2.2.2.2.2.2.2.2.2.2.2.1,
 x.1.2.2.2.2.2.2.2.2.2.2.2.2))
 fun (x_1 : (UInt8 × UInt64 × UInt64) × Unit) =>
 oite (decide (x_1.1.2.2 ≤ x.2))
 (some
 (((false, (0 : UInt8), (0 : UInt64), (0 : UInt64), @List.nil UInt8, @List.nil (List UInt8 × List UInt8),
 (0 : UInt8), (0 : UInt8), (0 : Int64), (0 : UInt8), (0 : UInt8), (0 : UInt64), (0 : UInt64)),
 false),
 ()))
 (oite (decide (x.2 < x_1.1.2.1))
 (some
 (((x.1.1, x.1.2.1, x.1.2.2.1,
 x.1.2.2.2.1,
 x.1.2.2.2.2.1,
 x.1.2.2.2.2.2.1,
 x.1.2.2.2.2.2.2.1,
 x.1.2.2.2.2.2.2.2.1,
 x.1.2.2.2.2.2.2.2.2.1,
 x.1.2.2.2.2.2.2.2.2.2.1,
 x.1.2.2.2.2.2.2.2.2.2.2.1,
 x.1.2.2.2.2.2.2.2.2.2.2.2.1,
 x.1.2.2.2.2.2.2.2.2.2.2.2.2),
 true),
 ()))
 (some
 (((x.1.1, x.1.2.1, x.1.2.2.1,
 x.1.2.2.2.1,
 x.1.2.2.2.2.1,
 x.1.2.2.2.2.2.1,
 x.1.2.2.2.2.2.2.1,
 x.1.2.2.2.2.2.2.2.1,
 x.1.2.2.2.2.2.2.2.2.1,
 x.1.2.2.2.2.2.2.2.2.2.1,
 x.1.2.2.2.2.2.2.2.2.2.2.1,
 x.2 + (1 : UInt64),
 x.1.2.2.2.2.2.2.2.2.2.2.2.2),
 true),
 ())))
theorem ok26 (n : Nat) : FunOK Try.prog ⟨26, sig26, F26 n⟩ :=
 fun_ok (hints := ⟨[], []⟩) (fuel := n) (c := Try.f26.body.getD .skip) (rs := Try.f26.results.toList) tt_ok mix (FsOK.cons (ok15 n) (FsOK.nil)) Try.func26 (by kernel_rfl) (by kernel_rfl) rfl (by kernel_rfl) rfl rfl (by kernel_rfl)
-- slices.Clone[[]watchfire/spool.Entry,watchfire/spool.Entry]
def sig33 : Sig := ⟨(.cons (.one (.c (.ro (.cons (.int .u64) (.cons .bool (.cons (.int .u8) (.cons (.int .u64) (.cons (.int .u64) (.cons .str (.cons (.ro (.cons .str (.cons .str .nil))) (.cons (.int .u8) (.cons (.int .u8) (.cons (.int .i64) (.cons (.int .u8) (.cons (.int .u8) (.cons (.int .u64) (.cons (.int .u64) .nil))))))))))))))))) .nil), (.cons (.one (.row (.cons (.int .u64) (.cons .bool (.cons (.int .u8) (.cons (.int .u64) (.cons (.int .u64) (.cons .str (.cons (.ro (.cons .str (.cons .str .nil))) (.cons (.int .u8) (.cons (.int .u8) (.cons (.int .i64) (.cons (.int .u8) (.cons (.int .u8) (.cons (.int .u64) (.cons (.int .u64) .nil)))))))))))))))) .nil)⟩
def F33 (n : Nat) (xs : List (CTs.T (.cons (.int .u64) (.cons .bool (.cons (.int .u8) (.cons (.int .u64) (.cons (.int .u64) (.cons .str (.cons (.ro (.cons .str (.cons .str .nil))) (.cons (.int .u8) (.cons (.int .u8) (.cons (.int .i64) (.cons (.int .u8) (.cons (.int .u8) (.cons (.int .u64) (.cons (.int .u64) .nil)))))))))))))))) : Option (List (CTs.T (.cons (.int .u64) (.cons .bool (.cons (.int .u8) (.cons (.int .u64) (.cons (.int .u64) (.cons .str (.cons (.ro (.cons .str (.cons .str .nil))) (.cons (.int .u8) (.cons (.int .u8) (.cons (.int .i64) (.cons (.int .u8) (.cons (.int .u8) (.cons (.int .u64) (.cons (.int .u64) .nil))))))))))))))) × Unit) := cloneF (.cons (.int .u64) (.cons .bool (.cons (.int .u8) (.cons (.int .u64) (.cons (.int .u64) (.cons .str (.cons (.ro (.cons .str (.cons .str .nil))) (.cons (.int .u8) (.cons (.int .u8) (.cons (.int .i64) (.cons (.int .u8) (.cons (.int .u8) (.cons (.int .u64) (.cons (.int .u64) .nil)))))))))))))) xs
theorem ok33 (n : Nat) : FunOK Try.prog ⟨33, sig33, F33 n⟩ :=
 clone_ok (c := Try.f33.body.getD .skip) (rs := Try.f33.results.toList) tt_ok mix Try.func33 (by kernel_rfl) rfl (by kernel_rfl) rfl rfl ⟨rfl, rfl, rfl⟩ ⟨rfl, rfl, rfl⟩ ⟨rfl, rfl, rfl⟩ (by kernel_rfl) (by kernel_rfl) (fun xs => by kernel_rfl)
-- slices.Clone[[]watchfire/spool.Entry,watchfire/spool.Entry]
def sig1033 : Sig := ⟨(.cons (.one (.row (.cons (.int .u64) (.cons .bool (.cons (.int .u8) (.cons (.int .u64) (.cons (.int .u64) (.cons .str (.cons (.ro (.cons .str (.cons .str .nil))) (.cons (.int .u8) (.cons (.int .u8) (.cons (.int .i64) (.cons (.int .u8) (.cons (.int .u8) (.cons (.int .u64) (.cons (.int .u64) .nil)))))))))))))))) .nil), (.cons (.one (.row (.cons (.int .u64) (.cons .bool (.cons (.int .u8) (.cons (.int .u64) (.cons (.int .u64) (.cons .str (.cons (.ro (.cons .str (.cons .str .nil))) (.cons (.int .u8) (.cons (.int .u8) (.cons (.int .i64) (.cons (.int .u8) (.cons (.int .u8) (.cons (.int .u64) (.cons (.int .u64) .nil)))))))))))))))) .nil)⟩
def F1033 (n : Nat) (xs : List (CTs.T (.cons (.int .u64) (.cons .bool (.cons (.int .u8) (.cons (.int .u64) (.cons (.int .u64) (.cons .str (.cons (.ro (.cons .str (.cons .str .nil))) (.cons (.int .u8) (.cons (.int .u8) (.cons (.int .i64) (.cons (.int .u8) (.cons (.int .u8) (.cons (.int .u64) (.cons (.int .u64) .nil)))))))))))))))) : Option (List (CTs.T (.cons (.int .u64) (.cons .bool (.cons (.int .u8) (.cons (.int .u64) (.cons (.int .u64) (.cons .str (.cons (.ro (.cons .str (.cons .str .nil))) (.cons (.int .u8) (.cons (.int .u8) (.cons (.int .i64) (.cons (.int .u8) (.cons (.int .u8) (.cons (.int .u64) (.cons (.int .u64) .nil))))))))))))))) × List (CTs.T (.cons (.int .u64) (.cons .bool (.cons (.int .u8) (.cons (.int .u64) (.cons (.int .u64) (.cons .str (.cons (.ro (.cons .str (.cons .str .nil))) (.cons (.int .u8) (.cons (.int .u8) (.cons (.int .i64) (.cons (.int .u8) (.cons (.int .u8) (.cons (.int .u64) (.cons (.int .u64) .nil)))))))))))))))) := cloneFR (.cons (.int .u64) (.cons .bool (.cons (.int .u8) (.cons (.int .u64) (.cons (.int .u64) (.cons .str (.cons (.ro (.cons .str (.cons .str .nil))) (.cons (.int .u8) (.cons (.int .u8) (.cons (.int .i64) (.cons (.int .u8) (.cons (.int .u8) (.cons (.int .u64) (.cons (.int .u64) .nil)))))))))))))) xs
theorem ok1033 (n : Nat) : FunOK Try.prog ⟨33, sig1033, F1033 n⟩ :=
 clone_row_ok (c := Try.f33.body.getD .skip) (rs := Try.f33.results.toList) tt_ok mix Try.func33 (by kernel_rfl) rfl (by kernel_rfl) rfl rfl ⟨rfl, rfl, rfl⟩ ⟨rfl, rfl, rfl⟩ ⟨rfl, rfl, rfl⟩ (by kernel_rfl) (by kernel_rfl) (fun xs => by kernel_rfl)
-- (*watchfire/spool.Spool).Copy
def sig22 : Sig := ⟨(.cons (.one (.ptrA (.cons (.c (.int .i64)) (.cons (.c (.int .i64)) (.cons (.c (.int .u64)) (.cons (.c (.int .u64)) (.cons (.row (.cons (.int .u64) (.cons .bool (.cons (.int .u8) (.cons (.int .u64) (.cons (.int .u64) (.cons .str (.cons (.ro (.cons .str (.cons .str .nil))) (.cons (.int .u8) (.cons (.int .u8) (.cons (.int .i64) (.cons (.int .u8) (.cons (.int .u8) (.cons (.int .u64) (.cons (.int .u64) .nil))))))))))))))) .nil))))) (.int .u64) 32 (.cons (.c (.int .u64)) .nil))) .nil), (.cons (.one (.ptrA (.cons (.c (.int .i64)) (.cons (.c (.int .i64)) (.cons (.c (.int .u64)) (.cons (.c (.int .u64)) (.cons (.row (.cons (.int .u64) (.cons .bool (.cons (.int .u8) (.cons (.int .u64) (.cons (.int .u64) (.cons .str (.cons (.ro (.cons .str (.cons .str .nil))) (.cons (.int .u8) (.cons (.int .u8) (.cons (.int .i64) (.cons (.int .u8) (.cons (.int .u8) (.cons (.int .u64) (.cons (.int .u64) .nil))))))))))))))) .nil))))) (.int .u64) 32 (.cons (.c (.int .u64)) .nil))) .nil)⟩
def F22 : Nat →
 Option
 ((Int64 ×
 Int64 ×
 UInt64 ×
 UInt64 ×
 List
 (UInt64 ×
 Bool ×
 UInt8 ×
 UInt64 ×
 UInt64 ×
 List UInt8 ×
 List (List UInt8 × List UInt8) ×
 UInt8 × UInt8 × Int64 × UInt8 × UInt8 × UInt64 × UInt64)) ×
 List UInt64 × UInt64) →
 Option
 (Option
 ((Int64 ×
 Int64 ×
 UInt64 ×
 UInt64 ×
 List
 (UInt64 ×
 Bool ×
 UInt8 ×
 UInt64 ×
 UInt64 ×
 List UInt8 ×
 List (List UInt8 × List UInt8) ×
 UInt8 × UInt8 × Int64 × UInt8 × UInt8 × UInt64 × UInt64)) ×
 List UInt64 × UInt64) ×
 Option
 ((Int64 ×
 Int64 ×
 UInt64 ×
 UInt64 ×
 List
 (UInt64 ×
 Bool ×
 UInt8 ×
 UInt64 ×
 UInt64 ×
 List UInt8 ×
 List (List UInt8 × List UInt8) ×
 UInt8 × UInt8 × Int64 × UInt8 × UInt8 × UInt64 × UInt64)) ×
 List UInt64 × UInt64)) := fun (n : Nat)
 (x :
 Option
 ((Int64 ×
 Int64 ×
 UInt64 ×
 UInt64 ×
 List
 (UInt64 ×
 Bool ×
 UInt8 ×
 UInt64 ×
 UInt64 ×
 List UInt8 ×
 List (List UInt8 × List UInt8) ×
 UInt8 × UInt8 × Int64 × UInt8 × UInt8 × UInt64 × UInt64)) ×
 List UInt64 × UInt64)) =>
 oelim x (some (none, none))
 fun
 (x_1 :
 (Int64 ×
 Int64 ×
 UInt64 ×
 UInt64 ×
 List
 (UInt64 ×
 Bool ×
 UInt8 ×
 UInt64 ×
 UInt64 ×
 List UInt8 ×
 List (List UInt8 × List UInt8) ×
 UInt8 × UInt8 × Int64 × UInt8 × UInt8 × UInt64 × UInt64)) ×
 List UInt64 × UInt64) =>
 obind (F1033 n x_1.1.2.2.2.2)
 fun
 (x_2 :
 List
 (UInt64 ×
 Bool ×
 UInt8 ×
 UInt64 ×
 UInt64 ×
 List UInt8 ×
 List (List UInt8 × List UInt8) × UInt8 × UInt8 × Int64 × UInt8 × UInt8 × UInt64 × UInt64) ×
 List
 (UInt64 ×
 Bool ×
 UInt8 ×
 UInt64 ×
 UInt64 ×
 List UInt8 ×
 List (List UInt8 × List UInt8) × UInt8 × UInt8 × Int64 × UInt8 × UInt8 × UInt64 × UInt64)) =>
 some
 (some
 ((x_1.1.1, x_1.1.2.1,
 x_1.1.2.2.1, x_1.1.2.2.2.1,
 x_2.1),
 x_1.2.1, x_1.2.2),
 some
 ((x_1.1.1, x_1.1.2.1,
 x_1.1.2.2.1, x_1.1.2.2.2.1,
 x_2.2),
 x_1.2.1, x_1.2.2))
theorem ok22 (n : Nat) : FunOK Try.prog ⟨22, sig22, F22 n⟩ :=
 fun_ok (hints := ⟨[], []⟩) (fuel := n) (c := Try.f22.body.getD .skip) (rs := Try.f22.results.toList) tt_ok mix (FsOK.cons (ok1033 n) (FsOK.cons (ok33 n) (FsOK.nil))) Try.func22 (by kernel_rfl) (by kernel_rfl) rfl (by kernel_rfl) rfl rfl (by kernel_rfl)
-- (*watchfire/pack.Writer).Byte
def sig55 : Sig := ⟨(.cons (.one (.ptr (.cons (.row (.cons (.int .u8) .nil)) .nil))) (.cons (.one (.c (.int .u8))) .nil)), .nil⟩
def F55 : Nat → Option (List UInt8) × UInt8 → Option (Unit × Option (List UInt8)) := fun (n : Nat) (x : Option (List UInt8) × UInt8) =>
 oelim x.1 (some ((), none)) fun (x_1 : List UInt8) =>
 oite (Nat.ble (List.length x_1 + List.length [x.2]) (4294967296 : Nat))
 (some ((), some (x_1 ++ [x.2]))) none
theorem ok55 (n : Nat) : FunOK Try.prog ⟨55, sig55, F55 n⟩ :=
 fun_ok (hints := ⟨[], []⟩) (fuel := n) (c := Try.f55.body.getD .skip) (rs := Try.f55.results.toList) tt_ok mix (FsOK.nil) Try.func55 (by kernel_rfl) (by kernel_rfl) rfl (by kernel_rfl) rfl rfl (by kernel_rfl)
-- (*watchfire/pack.Writer).Bool
def sig54 : Sig := ⟨(.cons (.one (.ptr (.cons (.row (.cons (.int .u8) .nil)) .nil))) (.cons (.one (.c .bool)) .nil)), .nil⟩
def F54 : Nat → Option (List UInt8) × Bool → Option (Unit × Option (List UInt8)) := fun (n : Nat) (x : Option (List UInt8) × Bool) =>
 oite x.2
 (obind (F55 n (x.1, (1 : UInt8))) fun (x_1 : Unit × Option (List UInt8)) => some ((), x_1.2))
 (obind (F55 n (x.1, (0 : UInt8))) fun (x_1 : Unit × Option (List UInt8)) => some ((), x_1.2))
theorem ok54 (n : Nat) : FunOK Try.prog ⟨54, sig54, F54 n⟩ :=
 fun_ok (hints := ⟨[], []⟩) (fuel := n) (c := Try.f54.body.getD .skip) (rs := Try.f54.results.toList) tt_ok mix (FsOK.cons (ok55 n) (FsOK.nil)) Try.func54 (by kernel_rfl) (by kernel_rfl) rfl (by kernel_rfl) rfl rfl (by kernel_rfl)
-- (*watchfire/pack.Writer).Uint
def sig56 : Sig := ⟨(.cons (.one (.ptr (.cons (.row (.cons (.int .u8) .nil)) .nil))) (.cons (.one (.c (.int .u64))) .nil)), .nil⟩
def F56_L6 : Arr [PT.int IntKind.u64, PT.list (CTs.cons (CT.int IntKind.u8) CTs.nil)] (Option (Unit × Option (List UInt8))) →
 UInt64 → List UInt8 → Option (Unit × Option (List UInt8)) := fun
 (rec :
 Arr [PT.int IntKind.u64, PT.list (CTs.cons (CT.int IntKind.u8) CTs.nil)] (Option (Unit × Option (List UInt8))))
 (n_ : UInt64) (wl : List UInt8) =>
 oite (decide ((128 : UInt64) ≤ n_))
 (oite (Nat.ble (List.length wl + List.length [UInt8.ofInt ↑(UInt64.toNat n_) ||| (128 : UInt8)]) (4294967296 : Nat))
 (rec (IK.shr IntKind.u64 n_ ↑(UInt64.toNat (7 : UInt64)))
 (wl ++ [UInt8.ofInt ↑(UInt64.toNat n_) ||| (128 : UInt8)]))
 none)
 (oite (Nat.ble (List.length wl + List.length [UInt8.ofInt ↑(UInt64.toNat n_)]) (4294967296 : Nat))
 (some ((), some (wl ++ [UInt8.ofInt ↑(UInt64.toNat n_)]))) none)
def F56_R6 : Nat → PT.T (PT.int IntKind.u64) → List UInt8 → Option (Unit × Option (List UInt8)) := ofixA (6 : Nat) [PT.int IntKind.u64, PT.list (CTs.cons (CT.int IntKind.u8) CTs.nil)] F56_L6
def F56 : Nat → Option (List UInt8) × UInt64 → Option (Unit × Option (List UInt8)) := fun (n : Nat) (x : Option (List UInt8) × UInt64) =>
 oelim x.1 (some ((), none)) fun (x_1 : List UInt8) => F56_R6 n x.2 x_1
theorem F56_R6_s  (m_ : Nat) : F56_R6  (m_ + 1) = F56_L6  (F56_R6  m_) := rfl
theorem ok56 (n : Nat) : FunOK Try.prog ⟨56, sig56, F56 n⟩ :=
 fun_ok (hints := ⟨[], [(6, ⟨[(0, .one (.own 0)), (1, .one (.int .u64))], [(0, .cells [.own 2]), (2, .row (.cons (.int .u8) .nil))], 3⟩)]⟩) (fuel := n) (c := Try.f56.body.getD .skip) (rs := Try.f56.results.toList) tt_ok mix (FsOK.nil) Try.func56 (by kernel_rfl) (by kernel_rfl) rfl (by kernel_rfl) rfl rfl (by kernel_rfl)
-- (*watchfire/pack.Writer).Text
def sig57 : Sig := ⟨(.cons (.one (.ptr (.cons (.row (.cons (.int .u8) .nil)) .nil))) (.cons (.one (.c .str)) .nil)), .nil⟩
def F57 : Nat → Option (List UInt8) × List UInt8 → Option (Unit × Option (List UInt8)) := fun (n : Nat) (x : Option (List UInt8) × List UInt8) =>
 oelim x.1 (some ((), none)) fun (x_1 : List UInt8) =>
 obind (F56 n (some x_1, UInt64.ofInt (Int64.toInt (Int64.ofInt ↑(List.length x.2)))))
 fun (x_2 : Unit × Option (List UInt8)) =>
 obind x_2.2 fun (x_3 : List UInt8) =>
 oite (Nat.ble (List.length x_3 + List.length x.2) (4294967296 : Nat))
 (some ((), some (x_3 ++ x.2))) none
theorem ok57 (n : Nat) : FunOK Try.prog ⟨57, sig57, F57 n⟩ :=
 fun_ok (hints := ⟨[], []⟩) (fuel := n) (c := Try.f57.body.getD .skip) (rs := Try.f57.results.toList) tt_ok mix (FsOK.cons (ok56 n) (FsOK.nil)) Try.func57 (by kernel_rfl) (by kernel_rfl) rfl (by kernel_rfl) rfl rfl (by kernel_rfl)
-- (*watchfire/pack.Writer).Int
def sig58 : Sig := ⟨(.cons (.one (.ptr (.cons (.row (.cons (.int .u8) .nil)) .nil))) (.cons (.one (.c (.int .i64))) .nil)), .nil⟩
def F58 : Nat → Option (List UInt8) × Int64 → Option (Unit × Option (List UInt8)) := fun (n : Nat) (x : Option (List UInt8) × Int64) =>
 obind
 (F56 n
 (x.1,
 IK.shl IntKind.u64 (UInt64.ofInt (Int64.toInt x.2)) ↑(UInt64.toNat (1 : UInt64)) ^^^
 UInt64.ofInt (Int64.toInt (IK.shr IntKind.i64 x.2 ↑(UInt64.toNat (63 : UInt64))))))
 fun (x_1 : Unit × Option (List UInt8)) => some ((), x_1.2)
theorem ok58 (n : Nat) : FunOK Try.prog ⟨58, sig58, F58 n⟩ :=
 fun_ok (hints := ⟨[], []⟩) (fuel := n) (c := Try.f58.body.getD .skip) (rs := Try.f58.results.toList) tt_ok mix (FsOK.cons (ok56 n) (FsOK.nil)) Try.func58 (by kernel_rfl) (by kernel_rfl) rfl (by kernel_rfl) rfl rfl (by kernel_rfl)
-- watchfire/item.Put
def sig46 : Sig := ⟨(.cons (.one (.ptr (.cons (.row (.cons (.int .u8) .nil)) .nil))) (.cons (.agg (.cons .bool (.cons (.int .u8) (.cons (.int .u64) (.cons (.int .u64) (.cons .str (.cons (.ro (.cons .str (.cons .str .nil))) (.cons (.int .u8) (.cons (.int .u8) (.cons (.int .i64) (.cons (.int .u8) (.cons (.int .u8) (.cons (.int .u64) (.cons (.int .u64) .nil)))))))))))))) .nil)), .nil⟩
def F46_L4093 : Nat →
 Arr
 [PT.list (CTs.cons CT.str (CTs.cons CT.str CTs.nil)), PT.int IntKind.i64, PT.int IntKind.i64,
 PT.opt (OTs.cons (OT.row (CTs.cons (CT.int IntKind.u8) CTs.nil)) OTs.nil), PT.int IntKind.u8,
 PT.int IntKind.u64, PT.int IntKind.u64, PT.bytes, PT.list (CTs.cons CT.str (CTs.cons CT.str CTs.nil)),
 PT.int IntKind.u8, PT.int IntKind.u8, PT.int IntKind.i64, PT.int IntKind.u8]
 (Option (Unit × Option (List UInt8))) →
 List (List UInt8 × List UInt8) →
 Int64 →
 Int64 →
 Option (List UInt8) →
 UInt8 →
 UInt64 →
 UInt64 →
 List UInt8 →
 List (List UInt8 × List UInt8) →
 UInt8 → UInt8 → Int64 → UInt8 → Option (Unit × Option (List UInt8)) := fun (n : Nat)
 (rec :
 Arr
 [PT.list (CTs.cons CT.str (CTs.cons CT.str CTs.nil)), PT.int IntKind.i64, PT.int IntKind.i64,
 PT.opt (OTs.cons (OT.row (CTs.cons (CT.int IntKind.u8) CTs.nil)) OTs.nil), PT.int IntKind.u8,
 PT.int IntKind.u64, PT.int IntKind.u64, PT.bytes, PT.list (CTs.cons CT.str (CTs.cons CT.str CTs.nil)),
 PT.int IntKind.u8, PT.int IntKind.u8, PT.int IntKind.i64, PT.int IntKind.u8]
 (Option (Unit × Option (List UInt8))))
 (t : List (List UInt8 × List UInt8)) (t_1 t_2 : Int64) (w : Option (List UInt8)) (v0 : UInt8) (v1 v2 : UInt64)
 (v3 : List UInt8) (v4 : List (List UInt8 × List UInt8)) (v5 v6 : UInt8) (v7 : Int64) (v8 : UInt8) =>
 oite (decide (t_2 < t_1))
 (obind (at? t (Int64.toInt t_2)) fun (x_7 : List UInt8 × List UInt8) =>
 obind (F57 n (w, x_7.1)) fun (x_8 : Unit × Option (List UInt8)) =>
 obind (F57 n (x_8.2, x_7.2)) fun (x_9 : Unit × Option (List UInt8)) =>
 rec t t_1 (t_2 + (1 : Int64)) x_9.2 v0 v1 v2 v3 v4 v5 v6 v7 v8)
 (obind (F55 n (w, v5)) fun (x_7 : Unit × Option (List UInt8)) =>
 obind (F55 n (x_7.2, v6)) fun (x_8 : Unit × Option (List UInt8)) =>
 obind (F58 n (x_8.2, v7)) fun (x_9 : Unit × Option (List UInt8)) =>
 obind (F55 n (x_9.2, v8)) fun (x_10 : Unit × Option (List UInt8)) => some ((), x_10.2))
def F46_R4093 : Nat →
 Nat →
 PT.T (PT.list (CTs.cons CT.str (CTs.cons CT.str CTs.nil))) →
 Int64 →
 Int64 →
 Option (List UInt8) →
 UInt8 →
 UInt64 →
 UInt64 →
 List UInt8 →
 List (List UInt8 × List UInt8) →
 UInt8 → UInt8 → Int64 → UInt8 → Option (Unit × Option (List UInt8)) := fun (n : Nat) =>
 ofixA (4093 : Nat)
 [PT.list (CTs.cons CT.str (CTs.cons CT.str CTs.nil)), PT.int IntKind.i64, PT.int IntKind.i64,
 PT.opt (OTs.cons (OT.row (CTs.cons (CT.int IntKind.u8) CTs.nil)) OTs.nil), PT.int IntKind.u8, PT.int IntKind.u64,
 PT.int IntKind.u64, PT.bytes, PT.list (CTs.cons CT.str (CTs.cons CT.str CTs.nil)), PT.int IntKind.u8,
 PT.int IntKind.u8, PT.int IntKind.i64, PT.int IntKind.u8]
 (F46_L4093 n)
def F46 : Nat →
 Option (List UInt8) ×
 Bool ×
 UInt8 ×
 UInt64 ×
 UInt64 ×
 List UInt8 × List (List UInt8 × List UInt8) × UInt8 × UInt8 × Int64 × UInt8 × UInt8 × UInt64 × UInt64 →
 Option (Unit × Option (List UInt8)) := fun (n : Nat)
 (x :
 Option (List UInt8) ×
 Bool ×
 UInt8 ×
 UInt64 ×
 UInt64 ×
 List UInt8 ×
 List (List UInt8 × List UInt8) × UInt8 × UInt8 × Int64 × UInt8 × UInt8 × UInt64 × UInt64) =>
 obind (F54 n (x.1, x.2.1)) fun (x_1 : Unit × Option (List UInt8)) =>
 oite x.2.1
 (obind
 (F55 n
 (x_1.2,
 x.2.2.2.2.2.2.2.2.2.2.2.1))
 fun (x_2 : Unit × Option (List UInt8)) =>
 obind
 (F56 n
 (x_2.2,
 x.2.2.2.2.2.2.2.2.2.2.2.2.1))
 fun (x_3 : Unit × Option (List UInt8)) =>
 obind
 (F56 n
 (x_3.2,
 x.2.2.2.2.2.2.2.2.2.2.2.2.2))
 fun (x_4 : Unit × Option (List UInt8)) => some ((), x_4.2))
 (obind (F55 n (x_1.2, x.2.2.1)) fun (x_2 : Unit × Option (List UInt8)) =>
 obind (F56 n (x_2.2, x.2.2.2.1))
 fun (x_3 : Unit × Option (List UInt8)) =>
 obind (F56 n (x_3.2, x.2.2.2.2.1))
 fun (x_4 : Unit × Option (List UInt8)) =>
 obind (F57 n (x_4.2, x.2.2.2.2.2.1))
 fun (x_5 : Unit × Option (List UInt8)) =>
 obind
 (F56 n
 (x_5.2,
 UInt64.ofInt
 (Int64.toInt
 (Int64.ofInt
 ↑(List.length
 x.2.2.2.2.2.2.1)))))
 fun (x_6 : Unit × Option (List UInt8)) =>
 F46_R4093 n n x.2.2.2.2.2.2.1
 (Int64.ofInt
 ↑(List.length x.2.2.2.2.2.2.1))
 (0 : Int64) x_6.2 x.2.2.1
 x.2.2.2.1 x.2.2.2.2.1
 x.2.2.2.2.2.1
 x.2.2.2.2.2.2.1
 x.2.2.2.2.2.2.2.1
 x.2.2.2.2.2.2.2.2.1
 x.2.2.2.2.2.2.2.2.2.1
 x.2.2.2.2.2.2.2.2.2.2.1)
theorem F46_R4093_s (n : Nat) (m_ : Nat) : F46_R4093 n (m_ + 1) = F46_L4093 n (F46_R4093 n m_) := rfl
theorem ok46 (n : Nat) : FunOK Try.prog ⟨46, sig46, F46 n⟩ :=
 fun_ok (hints := ⟨[], [(4093, ⟨[(0, .one (.own 0)), (4, .one (.own 2)), (53, .one (.ro (.cons .str (.cons .str .nil)))), (54, .one (.int .i64)), (55, .one (.int .i64))], [(0, .fold (.cons (.row (.cons (.int .u8) .nil)) .nil)), (2, .cells [.int .u8, .int .u64, .int .u64, .str, .ro (.cons .str (.cons .str .nil)), .int .u8, .int .u8, .int .i64, .int .u8])], 3⟩)]⟩) (fuel := n) (c := Try.f46.body.getD .skip) (rs := Try.f46.results.toList) tt_ok mix (FsOK.cons (ok54 n) (FsOK.cons (ok55 n) (FsOK.cons (ok56 n) (FsOK.cons (ok57 n) (FsOK.cons (ok58 n) (FsOK.nil)))))) Try.func46 (by kernel_rfl) (by kernel_rfl) rfl (by kernel_rfl) rfl rfl (by kernel_rfl)
-- (*watchfire/pack.Writer).Bytes
def sig47 : Sig := ⟨(.cons (.one (.ptr (.cons (.row (.cons (.int .u8) .nil)) .nil))) .nil), (.cons (.one (.c (.ro (.cons (.int .u8) .nil)))) .nil)⟩
def F47 : Nat → Option (List UInt8) → Option (List UInt8 × Option (List UInt8)) := fun (n : Nat) (x : Option (List UInt8)) =>
 oelim x (some (@List.nil UInt8, none)) fun (x_1 : List UInt8) =>
 oite (Nat.ble ((0 : Nat) + List.length x_1) (4294967296 : Nat)) (some ([] ++ x_1, some x_1)) none
theorem ok47 (n : Nat) : FunOK Try.prog ⟨47, sig47, F47 n⟩ :=
 fun_ok (hints := ⟨[], []⟩) (fuel := n) (c := Try.f47.body.getD .skip) (rs := Try.f47.results.toList) tt_ok mix (FsOK.nil) Try.func47 (by kernel_rfl) (by kernel_rfl) rfl (by kernel_rfl) rfl rfl (by kernel_rfl)
-- watchfire/item.Encode
def sig39 : Sig := ⟨(.cons (.agg (.cons .bool (.cons (.int .u8) (.cons (.int .u64) (.cons (.int .u64) (.cons .str (.cons (.ro (.cons .str (.cons .str .nil))) (.cons (.int .u8) (.cons (.int .u8) (.cons (.int .i64) (.cons (.int .u8) (.cons (.int .u8) (.cons (.int .u64) (.cons (.int .u64) .nil)))))))))))))) .nil), (.cons (.one (.c (.ro (.cons (.int .u8) .nil)))) .nil)⟩
def F39 : Nat →
 Bool ×
 UInt8 ×
 UInt64 ×
 UInt64 ×
 List UInt8 × List (List UInt8 × List UInt8) × UInt8 × UInt8 × Int64 × UInt8 × UInt8 × UInt64 × UInt64 →
 Option (List UInt8 × Unit) := fun (n : Nat)
 (x :
 Bool ×
 UInt8 ×
 UInt64 ×
 UInt64 ×
 List UInt8 × List (List UInt8 × List UInt8) × UInt8 × UInt8 × Int64 × UInt8 × UInt8 × UInt64 × UInt64) =>
 obind
 (F46 n
 (some [], x.1, x.2.1, x.2.2.1,
 x.2.2.2.1, x.2.2.2.2.1,
 x.2.2.2.2.2.1,
 x.2.2.2.2.2.2.1,
 x.2.2.2.2.2.2.2.1,
 x.2.2.2.2.2.2.2.2.1,
 x.2.2.2.2.2.2.2.2.2.1,
 x.2.2.2.2.2.2.2.2.2.2.1,
 x.2.2.2.2.2.2.2.2.2.2.2.1,
 x.2.2.2.2.2.2.2.2.2.2.2.2))
 fun (x_1 : Unit × Option (List UInt8)) =>
 obind (F47 n x_1.2) fun (x_2 : List UInt8 × Option (List UInt8)) => some (x_2.1, ())
theorem ok39 (n : Nat) : FunOK Try.prog ⟨39, sig39, F39 n⟩ :=
 fun_ok (hints := ⟨[], []⟩) (fuel := n) (c := Try.f39.body.getD .skip) (rs := Try.f39.results.toList) tt_ok mix (FsOK.cons (ok46 n) (FsOK.cons (ok47 n) (FsOK.nil))) Try.func39 (by kernel_rfl) (by kernel_rfl) rfl (by kernel_rfl) rfl rfl (by kernel_rfl)
-- watchfire/item.Size
def sig27 : Sig := ⟨(.cons (.agg (.cons .bool (.cons (.int .u8) (.cons (.int .u64) (.cons (.int .u64) (.cons .str (.cons (.ro (.cons .str (.cons .str .nil))) (.cons (.int .u8) (.cons (.int .u8) (.cons (.int .i64) (.cons (.int .u8) (.cons (.int .u8) (.cons (.int .u64) (.cons (.int .u64) .nil)))))))))))))) .nil), (.cons (.one (.c (.int .i64))) .nil)⟩
def F27 : Nat →
 Bool ×
 UInt8 ×
 UInt64 ×
 UInt64 ×
 List UInt8 × List (List UInt8 × List UInt8) × UInt8 × UInt8 × Int64 × UInt8 × UInt8 × UInt64 × UInt64 →
 Option (Int64 × Unit) := fun (n : Nat)
 (x :
 Bool ×
 UInt8 ×
 UInt64 ×
 UInt64 ×
 List UInt8 × List (List UInt8 × List UInt8) × UInt8 × UInt8 × Int64 × UInt8 × UInt8 × UInt64 × UInt64) =>
 obind
 (F39 n
 (x.1, x.2.1, x.2.2.1, x.2.2.2.1,
 x.2.2.2.2.1,
 x.2.2.2.2.2.1,
 x.2.2.2.2.2.2.1,
 x.2.2.2.2.2.2.2.1,
 x.2.2.2.2.2.2.2.2.1,
 x.2.2.2.2.2.2.2.2.2.1,
 x.2.2.2.2.2.2.2.2.2.2.1,
 x.2.2.2.2.2.2.2.2.2.2.2.1,
 x.2.2.2.2.2.2.2.2.2.2.2.2))
 fun (x_1 : List UInt8 × Unit) => some (Int64.ofInt ↑(List.length x_1.1), ())
theorem ok27 (n : Nat) : FunOK Try.prog ⟨27, sig27, F27 n⟩ :=
 fun_ok (hints := ⟨[], []⟩) (fuel := n) (c := Try.f27.body.getD .skip) (rs := Try.f27.results.toList) tt_ok mix (FsOK.cons (ok39 n) (FsOK.nil)) Try.func27 (by kernel_rfl) (by kernel_rfl) rfl (by kernel_rfl) rfl rfl (by kernel_rfl)
-- watchfire/item.Gap
def sig36 : Sig := ⟨(.cons (.one (.c (.int .u8))) (.cons (.one (.c (.int .u64))) (.cons (.one (.c (.int .u64))) .nil))), (.cons (.agg (.cons .bool (.cons (.int .u8) (.cons (.int .u64) (.cons (.int .u64) (.cons .str (.cons (.ro (.cons .str (.cons .str .nil))) (.cons (.int .u8) (.cons (.int .u8) (.cons (.int .i64) (.cons (.int .u8) (.cons (.int .u8) (.cons (.int .u64) (.cons (.int .u64) .nil)))))))))))))) .nil)⟩
def F36 : Nat →
 UInt8 × UInt64 × UInt64 →
 Option
 ((Bool ×
 UInt8 ×
 UInt64 ×
 UInt64 ×
 List UInt8 × List (List UInt8 × List UInt8) × UInt8 × UInt8 × Int64 × UInt8 × UInt8 × UInt64 × UInt64) ×
 Unit) := fun (n : Nat) (x : UInt8 × UInt64 × UInt64) =>
 some
 ((true, (0 : UInt8), (0 : UInt64), (0 : UInt64), @List.nil UInt8, @List.nil (List UInt8 × List UInt8), (0 : UInt8),
 (0 : UInt8), (0 : Int64), (0 : UInt8), x.1, x.2.1, x.2.2),
 ())
theorem ok36 (n : Nat) : FunOK Try.prog ⟨36, sig36, F36 n⟩ :=
 fun_ok (hints := ⟨[], []⟩) (fuel := n) (c := Try.f36.body.getD .skip) (rs := Try.f36.results.toList) tt_ok mix (FsOK.nil) Try.func36 (by kernel_rfl) (by kernel_rfl) rfl (by kernel_rfl) rfl rfl (by kernel_rfl)
-- (*watchfire/spool.Spool).beside
def sig40 : Sig := ⟨(.cons (.one (.ptrA (.cons (.c (.int .i64)) (.cons (.c (.int .i64)) (.cons (.c (.int .u64)) (.cons (.c (.int .u64)) (.cons (.row (.cons (.int .u64) (.cons .bool (.cons (.int .u8) (.cons (.int .u64) (.cons (.int .u64) (.cons .str (.cons (.ro (.cons .str (.cons .str .nil))) (.cons (.int .u8) (.cons (.int .u8) (.cons (.int .i64) (.cons (.int .u8) (.cons (.int .u8) (.cons (.int .u64) (.cons (.int .u64) .nil))))))))))))))) .nil))))) (.int .u64) 32 (.cons (.c (.int .u64)) .nil))) (.cons (.one (.c (.int .i64))) (.cons (.one (.c (.int .i64))) .nil))), (.cons (.one (.c (.int .i64))) .nil)⟩
def F40_L29 : Nat →
 Arr
 [PT.int IntKind.i64, PT.int IntKind.u8, PT.int IntKind.i64, PT.list1 (CT.int IntKind.u64), PT.int IntKind.i64,
 PT.int IntKind.i64, PT.int IntKind.u64, PT.int IntKind.u64, PT.int IntKind.u64,
 PT.list
 (CTs.cons (CT.int IntKind.u64)
 (CTs.cons CT.bool
 (CTs.cons (CT.int IntKind.u8)
 (CTs.cons (CT.int IntKind.u64)
 (CTs.cons (CT.int IntKind.u64)
 (CTs.cons CT.str
 (CTs.cons (CT.ro (CTs.cons CT.str (CTs.cons CT.str CTs.nil)))
 (CTs.cons (CT.int IntKind.u8)
 (CTs.cons (CT.int IntKind.u8)
 (CTs.cons (CT.int IntKind.i64)
 (CTs.cons (CT.int IntKind.u8)
 (CTs.cons (CT.int IntKind.u8)
 (CTs.cons (CT.int IntKind.u64) (CTs.cons (CT.int IntKind.u64) CTs.nil))))))))))))))]
 (Option
 (Int64 ×
 Option
 ((Int64 ×
 Int64 ×
 UInt64 ×
 UInt64 ×
 List
 (UInt64 ×
 Bool ×
 UInt8 ×
 UInt64 ×
 UInt64 ×
 List UInt8 ×
 List (List UInt8 × List UInt8) ×
 UInt8 × UInt8 × Int64 × UInt8 × UInt8 × UInt64 × UInt64)) ×
 List UInt64 × UInt64))) →
 Int64 →
 UInt8 →
 Int64 →
 List UInt64 →
 Int64 →
 Int64 →
 UInt64 →
 UInt64 →
 UInt64 →
 List
 (UInt64 ×
 Bool ×
 UInt8 ×
 UInt64 ×
 UInt64 ×
 List UInt8 ×
 List (List UInt8 × List UInt8) ×
 UInt8 × UInt8 × Int64 × UInt8 × UInt8 × UInt64 × UInt64) →
 Option
 (Int64 ×
 Option
 ((Int64 ×
 Int64 ×
 UInt64 ×
 UInt64 ×
 List
 (UInt64 ×
 Bool ×
 UInt8 ×
 UInt64 ×
 UInt64 ×
 List UInt8 ×
 List (List UInt8 × List UInt8) ×
 UInt8 × UInt8 × Int64 × UInt8 × UInt8 × UInt64 × UInt64)) ×
 List UInt64 × UInt64)) := fun (n : Nat)
 (rec :
 Arr
 [PT.int IntKind.i64, PT.int IntKind.u8, PT.int IntKind.i64, PT.list1 (CT.int IntKind.u64), PT.int IntKind.i64,
 PT.int IntKind.i64, PT.int IntKind.u64, PT.int IntKind.u64, PT.int IntKind.u64,
 PT.list
 (CTs.cons (CT.int IntKind.u64)
 (CTs.cons CT.bool
 (CTs.cons (CT.int IntKind.u8)
 (CTs.cons (CT.int IntKind.u64)
 (CTs.cons (CT.int IntKind.u64)
 (CTs.cons CT.str
 (CTs.cons (CT.ro (CTs.cons CT.str (CTs.cons CT.str CTs.nil)))
 (CTs.cons (CT.int IntKind.u8)
 (CTs.cons (CT.int IntKind.u8)
 (CTs.cons (CT.int IntKind.i64)
 (CTs.cons (CT.int IntKind.u8)
 (CTs.cons (CT.int IntKind.u8)
 (CTs.cons (CT.int IntKind.u64) (CTs.cons (CT.int IntKind.u64) CTs.nil))))))))))))))]
 (Option
 (Int64 ×
 Option
 ((Int64 ×
 Int64 ×
 UInt64 ×
 UInt64 ×
 List
 (UInt64 ×
 Bool ×
 UInt8 ×
 UInt64 ×
 UInt64 ×
 List UInt8 ×
 List (List UInt8 × List UInt8) ×
 UInt8 × UInt8 × Int64 × UInt8 × UInt8 × UInt64 × UInt64)) ×
 List UInt64 × UInt64))))
 (step : Int64) (o : UInt8) (i : Int64) (sa : List UInt64) (s0 s1 : Int64) (s2 s3 s5 : UInt64)
 (sl :
 List
 (UInt64 ×
 Bool ×
 UInt8 ×
 UInt64 ×
 UInt64 ×
 List UInt8 ×
 List (List UInt8 × List UInt8) × UInt8 × UInt8 × Int64 × UInt8 × UInt8 × UInt64 × UInt64)) =>
 oite (decide ((0 : Int64) ≤ i))
 (oite (decide (i < Int64.ofInt ↑(List.length sl)))
 (oite (decide ((0 : Int) ≤ Int64.toInt i) && Nat.blt (Int.toNat (Int64.toInt i)) (List.length sl))
 (obind sl[Int.toNat (Int64.toInt i)]?
 fun
 (x_4 :
 UInt64 ×
 Bool ×
 UInt8 ×
 UInt64 ×
 UInt64 ×
 List UInt8 ×
 List (List UInt8 × List UInt8) × UInt8 × UInt8 × Int64 × UInt8 × UInt8 × UInt64 × UInt64) =>
 obind
 (F15 n
 (x_4.2.1, x_4.2.2.1,
 x_4.2.2.2.1, x_4.2.2.2.2.1,
 x_4.2.2.2.2.2.1,
 x_4.2.2.2.2.2.2.1,
 x_4.2.2.2.2.2.2.2.1,
 x_4.2.2.2.2.2.2.2.2.1,
 x_4.2.2.2.2.2.2.2.2.2.1,
 x_4.2.2.2.2.2.2.2.2.2.2.1,
 x_4.2.2.2.2.2.2.2.2.2.2.2.1,
 x_4.2.2.2.2.2.2.2.2.2.2.2.2.1,
 x_4.2.2.2.2.2.2.2.2.2.2.2.2.2))
 fun (x_5 : (UInt8 × UInt64 × UInt64) × Unit) =>
 oite (decide (x_5.1.1 = o)) (some (i, some ((s0, s1, s2, s3, sl), sa, s5)))
 (rec step o (i + step) sa s0 s1 s2 s3 s5 sl))
 none)
 (some ((-1 : Int64), some ((s0, s1, s2, s3, sl), sa, s5))))
 (some ((-1 : Int64), some ((s0, s1, s2, s3, sl), sa, s5)))
def F40_R29 : Nat →
 Nat →
 PT.T (PT.int IntKind.i64) →
 UInt8 →
 Int64 →
 List UInt64 →
 Int64 →
 Int64 →
 UInt64 →
 UInt64 →
 UInt64 →
 List
 (UInt64 ×
 Bool ×
 UInt8 ×
 UInt64 ×
 UInt64 ×
 List UInt8 ×
 List (List UInt8 × List UInt8) ×
 UInt8 × UInt8 × Int64 × UInt8 × UInt8 × UInt64 × UInt64) →
 Option
 (Int64 ×
 Option
 ((Int64 ×
 Int64 ×
 UInt64 ×
 UInt64 ×
 List
 (UInt64 ×
 Bool ×
 UInt8 ×
 UInt64 ×
 UInt64 ×
 List UInt8 ×
 List (List UInt8 × List UInt8) ×
 UInt8 × UInt8 × Int64 × UInt8 × UInt8 × UInt64 × UInt64)) ×
 List UInt64 × UInt64)) := fun (n : Nat) =>
 ofixA (29 : Nat)
 [PT.int IntKind.i64, PT.int IntKind.u8, PT.int IntKind.i64, PT.list1 (CT.int IntKind.u64), PT.int IntKind.i64,
 PT.int IntKind.i64, PT.int IntKind.u64, PT.int IntKind.u64, PT.int IntKind.u64,
 PT.list
 (CTs.cons (CT.int IntKind.u64)
 (CTs.cons CT.bool
 (CTs.cons (CT.int IntKind.u8)
 (CTs.cons (CT.int IntKind.u64)
 (CTs.cons (CT.int IntKind.u64)
 (CTs.cons CT.str
 (CTs.cons (CT.ro (CTs.cons CT.str (CTs.cons CT.str CTs.nil)))
 (CTs.cons (CT.int IntKind.u8)
 (CTs.cons (CT.int IntKind.u8)
 (CTs.cons (CT.int IntKind.i64)
 (CTs.cons (CT.int IntKind.u8)
 (CTs.cons (CT.int IntKind.u8)
 (CTs.cons (CT.int IntKind.u64) (CTs.cons (CT.int IntKind.u64) CTs.nil))))))))))))))]
 (F40_L29 n)
def F40 : Nat →
 Option
 ((Int64 ×
 Int64 ×
 UInt64 ×
 UInt64 ×
 List
 (UInt64 ×
 Bool ×
 UInt8 ×
 UInt64 ×
 UInt64 ×
 List UInt8 ×
 List (List UInt8 × List UInt8) ×
 UInt8 × UInt8 × Int64 × UInt8 × UInt8 × UInt64 × UInt64)) ×
 List UInt64 × UInt64) ×
 Int64 × Int64 →
 Option
 (Int64 ×
 Option
 ((Int64 ×
 Int64 ×
 UInt64 ×
 UInt64 ×
 List
 (UInt64 ×
 Bool ×
 UInt8 ×
 UInt64 ×
 UInt64 ×
 List UInt8 ×
 List (List UInt8 × List UInt8) ×
 UInt8 × UInt8 × Int64 × UInt8 × UInt8 × UInt64 × UInt64)) ×
 List UInt64 × UInt64)) := fun (n : Nat)
 (x :
 Option
 ((Int64 ×
 Int64 ×
 UInt64 ×
 UInt64 ×
 List
 (UInt64 ×
 Bool ×
 UInt8 ×
 UInt64 ×
 UInt64 ×
 List UInt8 ×
 List (List UInt8 × List UInt8) ×
 UInt8 × UInt8 × Int64 × UInt8 × UInt8 × UInt64 × UInt64)) ×
 List UInt64 × UInt64) ×
 Int64 × Int64) =>
 obind x.1
 fun
 (x_1 :
 (Int64 ×
 Int64 ×
 UInt64 ×
 UInt64 ×
 List
 (UInt64 ×
 Bool ×
 UInt8 ×
 UInt64 ×
 UInt64 ×
 List UInt8 ×
 List (List UInt8 × List UInt8) ×
 UInt8 × UInt8 × Int64 × UInt8 × UInt8 × UInt64 × UInt64)) ×
 List UInt64 × UInt64) =>
 oite
 (decide ((0 : Int) ≤ Int64.toInt x.2.1) &&
 Nat.blt (Int.toNat (Int64.toInt x.2.1))
 (List.length x_1.1.2.2.2.2))
 (obind
 x_1.1.2.2.2.2[Int.toNat (Int64.toInt x.2.1)]?
 fun
 (x_2 :
 UInt64 ×
 Bool ×
 UInt8 ×
 UInt64 ×
 UInt64 ×
 List UInt8 ×
 List (List UInt8 × List UInt8) × UInt8 × UInt8 × Int64 × UInt8 × UInt8 × UInt64 × UInt64) =>
 obind
 (F15 n
 (x_2.2.1, x_2.2.2.1, x_2.2.2.2.1,
 x_2.2.2.2.2.1,
 x_2.2.2.2.2.2.1,
 x_2.2.2.2.2.2.2.1,
 x_2.2.2.2.2.2.2.2.1,
 x_2.2.2.2.2.2.2.2.2.1,
 x_2.2.2.2.2.2.2.2.2.2.1,
 x_2.2.2.2.2.2.2.2.2.2.2.1,
 x_2.2.2.2.2.2.2.2.2.2.2.2.1,
 x_2.2.2.2.2.2.2.2.2.2.2.2.2.1,
 x_2.2.2.2.2.2.2.2.2.2.2.2.2.2))
 fun (x_3 : (UInt8 × UInt64 × UInt64) × Unit) =>
 F40_R29 n n x.2.2 x_3.1.1 (x.2.1 + x.2.2)
 x_1.2.1 x_1.1.1 x_1.1.2.1
 x_1.1.2.2.1 x_1.1.2.2.2.1
 x_1.2.2 x_1.1.2.2.2.2)
 none
theorem F40_R29_s (n : Nat) (m_ : Nat) : F40_R29 n (m_ + 1) = F40_L29 n (F40_R29 n m_) := rfl
theorem ok40 (n : Nat) : FunOK Try.prog ⟨40, sig40, F40 n⟩ :=
 fun_ok (hints := ⟨[], [(29, ⟨[(0, .one (.own 0)), (2, .one (.int .i64)), (7, .one (.int .u8)), (10, .one (.int .i64))], [(0, .cellsA [.int .i64, .int .i64, .int .u64, .int .u64, .own 3] (.int .u64) 32 [.int .u64]), (3, .row (.cons (.int .u64) (.cons .bool (.cons (.int .u8) (.cons (.int .u64) (.cons (.int .u64) (.cons .str (.cons (.ro (.cons .str (.cons .str .nil))) (.cons (.int .u8) (.cons (.int .u8) (.cons (.int .i64) (.cons (.int .u8) (.cons (.int .u8) (.cons (.int .u64) (.cons (.int .u64) .nil)))))))))))))))], 4⟩)]⟩) (fuel := n) (c := Try.f40.body.getD .skip) (rs := Try.f40.results.toList) tt_ok mix (FsOK.cons (ok15 n) (FsOK.nil)) Try.func40 (by kernel_rfl) (by kernel_rfl) rfl (by kernel_rfl) rfl rfl (by kernel_rfl)
-- watchfire/item.Join
def sig48 : Sig := ⟨(.cons (.agg (.cons .bool (.cons (.int .u8) (.cons (.int .u64) (.cons (.int .u64) (.cons .str (.cons (.ro (.cons .str (.cons .str .nil))) (.cons (.int .u8) (.cons (.int .u8) (.cons (.int .i64) (.cons (.int .u8) (.cons (.int .u8) (.cons (.int .u64) (.cons (.int .u64) .nil)))))))))))))) (.cons (.agg (.cons .bool (.cons (.int .u8) (.cons (.int .u64) (.cons (.int .u64) (.cons .str (.cons (.ro (.cons .str (.cons .str .nil))) (.cons (.int .u8) (.cons (.int .u8) (.cons (.int .i64) (.cons (.int .u8) (.cons (.int .u8) (.cons (.int .u64) (.cons (.int .u64) .nil)))))))))))))) .nil)), (.cons (.agg (.cons .bool (.cons (.int .u8) (.cons (.int .u64) (.cons (.int .u64) (.cons .str (.cons (.ro (.cons .str (.cons .str .nil))) (.cons (.int .u8) (.cons (.int .u8) (.cons (.int .i64) (.cons (.int .u8) (.cons (.int .u8) (.cons (.int .u64) (.cons (.int .u64) .nil)))))))))))))) (.cons (.one (.c .bool)) .nil))⟩
def F48_J6 : Nat →
 Bool →
 Bool →
 UInt8 →
 UInt64 →
 UInt64 →
 List UInt8 →
 List (List UInt8 × List UInt8) →
 UInt8 →
 UInt8 →
 Int64 →
 UInt8 →
 UInt8 →
 UInt64 →
 UInt64 →
 Bool →
 UInt8 →
 UInt64 →
 UInt64 →
 List UInt8 →
 List (List UInt8 × List UInt8) →
 UInt8 →
 UInt8 →
 Int64 →
 UInt8 →
 UInt8 →
 UInt64 →
 UInt64 →
 Bool →
 UInt8 →
 UInt64 →
 UInt64 →
 List UInt8 →
 UInt8 →
 UInt8 →
 Int64 →
 UInt8 →
 UInt8 →
 UInt64 →
 UInt64 →
 Option
 (((Bool ×
 UInt8 ×
 UInt64 ×
 UInt64 ×
 List UInt8 ×
 List
 (List UInt8 ×
 List UInt8) ×
 UInt8 ×
 UInt8 ×
 Int64 ×
 UInt8 ×
 UInt8 ×
 UInt64 ×
 UInt64) ×
 Bool) ×
 Unit) := fun (n : Nat) (t a0 : Bool) (a1 : UInt8) (a2 a3 : UInt64) (a4 : List UInt8) (a5 : List (List UInt8 × List UInt8))
 (a6 a7 : UInt8) (a8 : Int64) (a9 a10 : UInt8) (a11 a12 : UInt64) (b0 : Bool) (b1 : UInt8) (b2 b3 : UInt64)
 (b4 : List UInt8) (b5 : List (List UInt8 × List UInt8)) (b6 b7 : UInt8) (b8 : Int64) (b9 b10 : UInt8)
 (b11 b12 : UInt64) (t0 : Bool) (t1 : UInt8) (t2 t3 : UInt64) (t4 : List UInt8) (t6 t7 : UInt8) (t8 : Int64)
 (t9 t10 : UInt8) (t11 t12 : UInt64) =>
 oite t
 (some
 (((false, (0 : UInt8), (0 : UInt64), (0 : UInt64), @List.nil UInt8, @List.nil (List UInt8 × List UInt8),
 (0 : UInt8), (0 : UInt8), (0 : Int64), (0 : UInt8), (0 : UInt8), (0 : UInt64), (0 : UInt64)),
 false),
 ()))
 (obind (F36 n (a10, a11, b12))
 fun
 (x_1 :
 (Bool ×
 UInt8 ×
 UInt64 ×
 UInt64 ×
 List UInt8 ×
 List (List UInt8 × List UInt8) × UInt8 × UInt8 × Int64 × UInt8 × UInt8 × UInt64 × UInt64) ×
 Unit) =>
 some
 (((x_1.1.1, x_1.1.2.1, x_1.1.2.2.1,
 x_1.1.2.2.2.1,
 x_1.1.2.2.2.2.1,
 x_1.1.2.2.2.2.2.1,
 x_1.1.2.2.2.2.2.2.1,
 x_1.1.2.2.2.2.2.2.2.1,
 x_1.1.2.2.2.2.2.2.2.2.1,
 x_1.1.2.2.2.2.2.2.2.2.2.1,
 x_1.1.2.2.2.2.2.2.2.2.2.2.1,
 x_1.1.2.2.2.2.2.2.2.2.2.2.2.1,
 x_1.1.2.2.2.2.2.2.2.2.2.2.2.2),
 true),
 ()))
def F48 : Nat →
 (Bool ×
 UInt8 ×
 UInt64 ×
 UInt64 ×
 List UInt8 × List (List UInt8 × List UInt8) × UInt8 × UInt8 × Int64 × UInt8 × UInt8 × UInt64 × UInt64) ×
 Bool ×
 UInt8 ×
 UInt64 ×
 UInt64 ×
 List UInt8 × List (List UInt8 × List UInt8) × UInt8 × UInt8 × Int64 × UInt8 × UInt8 × UInt64 × UInt64 →
 Option
 (((Bool ×
 UInt8 ×
 UInt64 ×
 UInt64 ×
 List UInt8 ×
 List (List UInt8 × List UInt8) × UInt8 × UInt8 × Int64 × UInt8 × UInt8 × UInt64 × UInt64) ×
 Bool) ×
 Unit) := fun (n : Nat)
 (x :
 (Bool ×
 UInt8 ×
 UInt64 ×
 UInt64 ×
 List UInt8 × List (List UInt8 × List UInt8) × UInt8 × UInt8 × Int64 × UInt8 × UInt8 × UInt64 × UInt64) ×
 Bool ×
 UInt8 ×
 UInt64 ×
 UInt64 ×
 List UInt8 ×
 List (List UInt8 × List UInt8) × UInt8 × UInt8 × Int64 × UInt8 × UInt8 × UInt64 × UInt64) =>
 ojoinA (6 : Nat)
 [PT.bool, PT.bool, PT.int IntKind.u8, PT.int IntKind.u64, PT.int IntKind.u64, PT.bytes,
 PT.list (CTs.cons CT.str (CTs.cons CT.str CTs.nil)), PT.int IntKind.u8, PT.int IntKind.u8, PT.int IntKind.i64,
 PT.int IntKind.u8, PT.int IntKind.u8, PT.int IntKind.u64, PT.int IntKind.u64, PT.bool, PT.int IntKind.u8,
 PT.int IntKind.u64, PT.int IntKind.u64, PT.bytes, PT.list (CTs.cons CT.str (CTs.cons CT.str CTs.nil)),
 PT.int IntKind.u8, PT.int IntKind.u8, PT.int IntKind.i64, PT.int IntKind.u8, PT.int IntKind.u8,
 PT.int IntKind.u64, PT.int IntKind.u64, PT.bool, PT.int IntKind.u8, PT.int IntKind.u64, PT.int IntKind.u64,
 PT.bytes, PT.int IntKind.u8, PT.int IntKind.u8, PT.int IntKind.i64, PT.int IntKind.u8, PT.int IntKind.u8,
 PT.int IntKind.u64, PT.int IntKind.u64]
 (fun
 (J :
 Arr
 [PT.bool, PT.bool, PT.int IntKind.u8, PT.int IntKind.u64, PT.int IntKind.u64, PT.bytes,
 PT.list (CTs.cons CT.str (CTs.cons CT.str CTs.nil)), PT.int IntKind.u8, PT.int IntKind.u8,
 PT.int IntKind.i64, PT.int IntKind.u8, PT.int IntKind.u8, PT.int IntKind.u64, PT.int IntKind.u64, PT.bool,
 PT.int IntKind.u8, PT.int IntKind.u64, PT.int IntKind.u64, PT.bytes,
 PT.list (CTs.cons CT.str (CTs.cons CT.str CTs.nil)), PT.int IntKind.u8, PT.int IntKind.u8,
 PT.int IntKind.i64, PT.int IntKind.u8, PT.int IntKind.u8, PT.int IntKind.u64, PT.int IntKind.u64, PT.bool,
 PT.int IntKind.u8, PT.int IntKind.u64, PT.int IntKind.u64, PT.bytes, PT.int IntKind.u8, PT.int IntKind.u8,
 PT.int IntKind.i64, PT.int IntKind.u8, PT.int IntKind.u8, PT.int IntKind.u64, PT.int IntKind.u64]
 (Option
 (((Bool ×
 UInt8 ×
 UInt64 ×
 UInt64 ×
 List UInt8 ×
 List (List UInt8 × List UInt8) × UInt8 × UInt8 × Int64 × UInt8 × UInt8 × UInt64 × UInt64) ×
 Bool) ×
 Unit))) =>
 oite (!x.1.1)
 (J true x.1.1 x.1.2.1 x.1.2.2.1
 x.1.2.2.2.1
 x.1.2.2.2.2.1
 x.1.2.2.2.2.2.1
 x.1.2.2.2.2.2.2.1
 x.1.2.2.2.2.2.2.2.1
 x.1.2.2.2.2.2.2.2.2.1
 x.1.2.2.2.2.2.2.2.2.2.1
 x.1.2.2.2.2.2.2.2.2.2.2.1
 x.1.2.2.2.2.2.2.2.2.2.2.2.1
 x.1.2.2.2.2.2.2.2.2.2.2.2.2
 x.2.1 x.2.2.1 x.2.2.2.1
 x.2.2.2.2.1
 x.2.2.2.2.2.1
 x.2.2.2.2.2.2.1
 x.2.2.2.2.2.2.2.1
 x.2.2.2.2.2.2.2.2.1
 x.2.2.2.2.2.2.2.2.2.1
 x.2.2.2.2.2.2.2.2.2.2.1
 x.2.2.2.2.2.2.2.2.2.2.2.1
 x.2.2.2.2.2.2.2.2.2.2.2.2.1
 x.2.2.2.2.2.2.2.2.2.2.2.2.2
 false (0 : UInt8) (0 : UInt64) (0 : UInt64) [] (0 : UInt8) (0 : UInt8) (0 : Int64) (0 : UInt8) (0 : UInt8)
 (0 : UInt64) (0 : UInt64))
 (oite (!x.2.1)
 (J true x.1.1 x.1.2.1
 x.1.2.2.1 x.1.2.2.2.1
 x.1.2.2.2.2.1
 x.1.2.2.2.2.2.1
 x.1.2.2.2.2.2.2.1
 x.1.2.2.2.2.2.2.2.1
 x.1.2.2.2.2.2.2.2.2.1
 x.1.2.2.2.2.2.2.2.2.2.1
 x.1.2.2.2.2.2.2.2.2.2.2.1
 x.1.2.2.2.2.2.2.2.2.2.2.2.1
 x.1.2.2.2.2.2.2.2.2.2.2.2.2
 x.2.1 x.2.2.1 x.2.2.2.1
 x.2.2.2.2.1
 x.2.2.2.2.2.1
 x.2.2.2.2.2.2.1
 x.2.2.2.2.2.2.2.1
 x.2.2.2.2.2.2.2.2.1
 x.2.2.2.2.2.2.2.2.2.1
 x.2.2.2.2.2.2.2.2.2.2.1
 x.2.2.2.2.2.2.2.2.2.2.2.1
 x.2.2.2.2.2.2.2.2.2.2.2.2.1
 x.2.2.2.2.2.2.2.2.2.2.2.2.2
 false (0 : UInt8) (0 : UInt64) (0 : UInt64) [] (0 : UInt8) (0 : UInt8) (0 : Int64) (0 : UInt8) (0 : UInt8)
 (0 : UInt64) (0 : UInt64))
 (oite
 (!decide
 (x.1.2.2.2.2.2.2.2.2.2.2.1 =
 x.2.2.2.2.2.2.2.2.2.2.2.1))
 (J true x.1.1 x.1.2.1
 x.1.2.2.1 x.1.2.2.2.1
 x.1.2.2.2.2.1
 x.1.2.2.2.2.2.1
 x.1.2.2.2.2.2.2.1
 x.1.2.2.2.2.2.2.2.1
 x.1.2.2.2.2.2.2.2.2.1
 x.1.2.2.2.2.2.2.2.2.2.1
 x.1.2.2.2.2.2.2.2.2.2.2.1
 x.1.2.2.2.2.2.2.2.2.2.2.2.1
 x.1.2.2.2.2.2.2.2.2.2.2.2.2
 x.2.1 x.2.2.1 x.2.2.2.1
 x.2.2.2.2.1
 x.2.2.2.2.2.1
 x.2.2.2.2.2.2.1
 x.2.2.2.2.2.2.2.1
 x.2.2.2.2.2.2.2.2.1
 x.2.2.2.2.2.2.2.2.2.1
 x.2.2.2.2.2.2.2.2.2.2.1
 x.2.2.2.2.2.2.2.2.2.2.2.1
 x.2.2.2.2.2.2.2.2.2.2.2.2.1
 x.2.2.2.2.2.2.2.2.2.2.2.2.2
 false (0 : UInt8) (0 : UInt64) (0 : UInt64) [] (0 : UInt8) (0 : UInt8) (0 : Int64) (0 : UInt8) (0 : UInt8)
 (0 : UInt64) (0 : UInt64))
 (oite
 (decide
 (x.2.2.2.2.2.2.2.2.2.2.2.2.1 <
 (1 : UInt64)))
 (J true x.1.1 x.1.2.1
 x.1.2.2.1 x.1.2.2.2.1
 x.1.2.2.2.2.1
 x.1.2.2.2.2.2.1
 x.1.2.2.2.2.2.2.1
 x.1.2.2.2.2.2.2.2.1
 x.1.2.2.2.2.2.2.2.2.1
 x.1.2.2.2.2.2.2.2.2.2.1
 x.1.2.2.2.2.2.2.2.2.2.2.1
 x.1.2.2.2.2.2.2.2.2.2.2.2.1
 x.1.2.2.2.2.2.2.2.2.2.2.2.2
 x.2.1 x.2.2.1 x.2.2.2.1
 x.2.2.2.2.1
 x.2.2.2.2.2.1
 x.2.2.2.2.2.2.1
 x.2.2.2.2.2.2.2.1
 x.2.2.2.2.2.2.2.2.1
 x.2.2.2.2.2.2.2.2.2.1
 x.2.2.2.2.2.2.2.2.2.2.1
 x.2.2.2.2.2.2.2.2.2.2.2.1
 x.2.2.2.2.2.2.2.2.2.2.2.2.1
 x.2.2.2.2.2.2.2.2.2.2.2.2.2
 false (0 : UInt8) (0 : UInt64) (0 : UInt64) [] (0 : UInt8) (0 : UInt8) (0 : Int64) (0 : UInt8)
 (0 : UInt8) (0 : UInt64) (0 : UInt64))
 (oite
 (!decide
 (x.1.2.2.2.2.2.2.2.2.2.2.2.2 =
 x.2.2.2.2.2.2.2.2.2.2.2.2.1 -
 (1 : UInt64)))
 (J true x.1.1 x.1.2.1
 x.1.2.2.1 x.1.2.2.2.1
 x.1.2.2.2.2.1
 x.1.2.2.2.2.2.1
 x.1.2.2.2.2.2.2.1
 x.1.2.2.2.2.2.2.2.1
 x.1.2.2.2.2.2.2.2.2.1
 x.1.2.2.2.2.2.2.2.2.2.1
 x.1.2.2.2.2.2.2.2.2.2.2.1
 x.1.2.2.2.2.2.2.2.2.2.2.2.1
 x.1.2.2.2.2.2.2.2.2.2.2.2.2
 x.2.1 x.2.2.1
 x.2.2.2.1 x.2.2.2.2.1
 x.2.2.2.2.2.1
 x.2.2.2.2.2.2.1
 x.2.2.2.2.2.2.2.1
 x.2.2.2.2.2.2.2.2.1
 x.2.2.2.2.2.2.2.2.2.1
 x.2.2.2.2.2.2.2.2.2.2.1
 x.2.2.2.2.2.2.2.2.2.2.2.1
 x.2.2.2.2.2.2.2.2.2.2.2.2.1
 x.2.2.2.2.2.2.2.2.2.2.2.2.2
 false (0 : UInt8) (0 : UInt64) (0 : UInt64) [] (0 : UInt8) (0 : UInt8) (0 : Int64) (0 : UInt8)
 (0 : UInt8) (0 : UInt64) (0 : UInt64))
 (J
 (decide
 (x.2.2.2.2.2.2.2.2.2.2.2.2.2 <
 x.2.2.2.2.2.2.2.2.2.2.2.2.1))
 x.1.1 x.1.2.1
 x.1.2.2.1 x.1.2.2.2.1
 x.1.2.2.2.2.1
 x.1.2.2.2.2.2.1
 x.1.2.2.2.2.2.2.1
 x.1.2.2.2.2.2.2.2.1
 x.1.2.2.2.2.2.2.2.2.1
 x.1.2.2.2.2.2.2.2.2.2.1
 x.1.2.2.2.2.2.2.2.2.2.2.1
 x.1.2.2.2.2.2.2.2.2.2.2.2.1
 x.1.2.2.2.2.2.2.2.2.2.2.2.2
 x.2.1 x.2.2.1
 x.2.2.2.1 x.2.2.2.2.1
 x.2.2.2.2.2.1
 x.2.2.2.2.2.2.1
 x.2.2.2.2.2.2.2.1
 x.2.2.2.2.2.2.2.2.1
 x.2.2.2.2.2.2.2.2.2.1
 x.2.2.2.2.2.2.2.2.2.2.1
 x.2.2.2.2.2.2.2.2.2.2.2.1
 x.2.2.2.2.2.2.2.2.2.2.2.2.1
 x.2.2.2.2.2.2.2.2.2.2.2.2.2
 false (0 : UInt8) (0 : UInt64) (0 : UInt64) [] (0 : UInt8) (0 : UInt8) (0 : Int64) (0 : UInt8)
 (0 : UInt8) (0 : UInt64) (0 : UInt64)))))))
 (F48_J6 n)
theorem ok48 (n : Nat) : FunOK Try.prog ⟨48, sig48, F48 n⟩ :=
 fun_ok (hints := ⟨[(6, ⟨[(2, .one (.own 2)), (3, .one (.own 3)), (4, .one (.own 4)), (47, .one (.bool))], [(2, .cells [.bool, .int .u8, .int .u64, .int .u64, .str, .ro (.cons .str (.cons .str .nil)), .int .u8, .int .u8, .int .i64, .int .u8, .int .u8, .int .u64, .int .u64]), (3, .cells [.bool, .int .u8, .int .u64, .int .u64, .str, .ro (.cons .str (.cons .str .nil)), .int .u8, .int .u8, .int .i64, .int .u8, .int .u8, .int .u64, .int .u64]), (4, .cells [.bool, .int .u8, .int .u64, .int .u64, .str, .nils, .int .u8, .int .u8, .int .i64, .int .u8, .int .u8, .int .u64, .int .u64])], 5⟩)], []⟩) (fuel := n) (c := Try.f48.body.getD .skip) (rs := Try.f48.results.toList) tt_ok mix (FsOK.cons (ok36 n) (FsOK.nil)) Try.func48 (by kernel_rfl) (by kernel_rfl) rfl (by kernel_rfl) rfl rfl (by kernel_rfl)
-- (*watchfire/spool.Spool).join
def sig41 : Sig := ⟨(.cons (.one (.ptrA (.cons (.c (.int .i64)) (.cons (.c (.int .i64)) (.cons (.c (.int .u64)) (.cons (.c (.int .u64)) (.cons (.row (.cons (.int .u64) (.cons .bool (.cons (.int .u8) (.cons (.int .u64) (.cons (.int .u64) (.cons .str (.cons (.ro (.cons .str (.cons .str .nil))) (.cons (.int .u8) (.cons (.int .u8) (.cons (.int .i64) (.cons (.int .u8) (.cons (.int .u8) (.cons (.int .u64) (.cons (.int .u64) .nil))))))))))))))) .nil))))) (.int .u64) 32 (.cons (.c (.int .u64)) .nil))) (.cons (.one (.c (.int .i64))) (.cons (.one (.c (.int .i64))) .nil))), (.cons (.one (.c .bool)) .nil)⟩
noncomputable def F41 : Nat →
 Option
 ((Int64 ×
 Int64 ×
 UInt64 ×
 UInt64 ×
 List
 (UInt64 ×
 Bool ×
 UInt8 ×
 UInt64 ×
 UInt64 ×
 List UInt8 ×
 List (List UInt8 × List UInt8) ×
 UInt8 × UInt8 × Int64 × UInt8 × UInt8 × UInt64 × UInt64)) ×
 List UInt64 × UInt64) ×
 Int64 × Int64 →
 Option
 (Bool ×
 Option
 ((Int64 ×
 Int64 ×
 UInt64 ×
 UInt64 ×
 List
 (UInt64 ×
 Bool ×
 UInt8 ×
 UInt64 ×
 UInt64 ×
 List UInt8 ×
 List (List UInt8 × List UInt8) ×
 UInt8 × UInt8 × Int64 × UInt8 × UInt8 × UInt64 × UInt64)) ×
 List UInt64 × UInt64)) := fun (n : Nat)
 (x :
 Option
 ((Int64 ×
 Int64 ×
 UInt64 ×
 UInt64 ×
 List
 (UInt64 ×
 Bool ×
 UInt8 ×
 UInt64 ×
 UInt64 ×
 List UInt8 ×
 List (List UInt8 × List UInt8) ×
 UInt8 × UInt8 × Int64 × UInt8 × UInt8 × UInt64 × UInt64)) ×
 List UInt64 × UInt64) ×
 Int64 × Int64) =>
 obind x.1
 fun
 (x_1 :
 (Int64 ×
 Int64 ×
 UInt64 ×
 UInt64 ×
 List
 (UInt64 ×
 Bool ×
 UInt8 ×
 UInt64 ×
 UInt64 ×
 List UInt8 ×
 List (List UInt8 × List UInt8) ×
 UInt8 × UInt8 × Int64 × UInt8 × UInt8 × UInt64 × UInt64)) ×
 List UInt64 × UInt64) =>
 oite
 (decide ((0 : Int) ≤ Int64.toInt x.2.1) &&
 Nat.blt (Int.toNat (Int64.toInt x.2.1))
 (List.length x_1.1.2.2.2.2))
 (obind
 x_1.1.2.2.2.2[Int.toNat (Int64.toInt x.2.1)]?
 fun
 (x_2 :
 UInt64 ×
 Bool ×
 UInt8 ×
 UInt64 ×
 UInt64 ×
 List UInt8 ×
 List (List UInt8 × List UInt8) × UInt8 × UInt8 × Int64 × UInt8 × UInt8 × UInt64 × UInt64) =>
 oite
 (decide ((0 : Int) ≤ Int64.toInt x.2.2) &&
 Nat.blt (Int.toNat (Int64.toInt x.2.2))
 (List.length x_1.1.2.2.2.2))
 (obind
 x_1.1.2.2.2.2[Int.toNat (Int64.toInt x.2.2)]?
 fun
 (x_3 :
 UInt64 ×
 Bool ×
 UInt8 ×
 UInt64 ×
 UInt64 ×
 List UInt8 ×
 List (List UInt8 × List UInt8) × UInt8 × UInt8 × Int64 × UInt8 × UInt8 × UInt64 × UInt64) =>
 obind
 (F48 n
 ((x_2.2.1, x_2.2.2.1,
 x_2.2.2.2.1,
 x_2.2.2.2.2.1,
 x_2.2.2.2.2.2.1,
 x_2.2.2.2.2.2.2.1,
 x_2.2.2.2.2.2.2.2.1,
 x_2.2.2.2.2.2.2.2.2.1,
 x_2.2.2.2.2.2.2.2.2.2.1,
 x_2.2.2.2.2.2.2.2.2.2.2.1,
 x_2.2.2.2.2.2.2.2.2.2.2.2.1,
 x_2.2.2.2.2.2.2.2.2.2.2.2.2.1,
 x_2.2.2.2.2.2.2.2.2.2.2.2.2.2),
 x_3.2.1, x_3.2.2.1,
 x_3.2.2.2.1,
 x_3.2.2.2.2.1,
 x_3.2.2.2.2.2.1,
 x_3.2.2.2.2.2.2.1,
 x_3.2.2.2.2.2.2.2.1,
 x_3.2.2.2.2.2.2.2.2.1,
 x_3.2.2.2.2.2.2.2.2.2.1,
 x_3.2.2.2.2.2.2.2.2.2.2.1,
 x_3.2.2.2.2.2.2.2.2.2.2.2.1,
 x_3.2.2.2.2.2.2.2.2.2.2.2.2.1,
 x_3.2.2.2.2.2.2.2.2.2.2.2.2.2))
 fun
 (x_4 :
 ((Bool ×
 UInt8 ×
 UInt64 ×
 UInt64 ×
 List UInt8 ×
 List (List UInt8 × List UInt8) ×
 UInt8 × UInt8 × Int64 × UInt8 × UInt8 × UInt64 × UInt64) ×
 Bool) ×
 Unit) =>
 oite (!x_4.1.2)
 (some
 (false,
 some
 ((x_1.1.1, x_1.1.2.1,
 x_1.1.2.2.1,
 x_1.1.2.2.2.1,
 x_1.1.2.2.2.2),
 x_1.2.1, x_1.2.2)))
 (obind
 (F27 n
 (x_4.1.1.1, x_4.1.1.2.1,
 x_4.1.1.2.2.1,
 x_4.1.1.2.2.2.1,
 x_4.1.1.2.2.2.2.1,
 x_4.1.1.2.2.2.2.2.1,
 x_4.1.1.2.2.2.2.2.2.1,
 x_4.1.1.2.2.2.2.2.2.2.1,
 x_4.1.1.2.2.2.2.2.2.2.2.1,
 x_4.1.1.2.2.2.2.2.2.2.2.2.1,
 x_4.1.1.2.2.2.2.2.2.2.2.2.2.1,
 x_4.1.1.2.2.2.2.2.2.2.2.2.2.2.1,
 x_4.1.1.2.2.2.2.2.2.2.2.2.2.2.2))
 fun (x_5 : Int64 × Unit) =>
 oite
 (decide ((0 : Int) ≤ Int64.toInt x.2.1) &&
 Nat.blt (Int.toNat (Int64.toInt x.2.1))
 (List.length x_1.1.2.2.2.2))
 (obind
 x_1.1.2.2.2.2[Int.toNat (Int64.toInt x.2.1)]?
 fun
 (x_6 :
 UInt64 ×
 Bool ×
 UInt8 ×
 UInt64 ×
 UInt64 ×
 List UInt8 ×
 List (List UInt8 × List UInt8) ×
 UInt8 × UInt8 × Int64 × UInt8 × UInt8 × UInt64 × UInt64) =>
 obind
 (F27 n
 (x_6.2.1, x_6.2.2.1,
 x_6.2.2.2.1,
 x_6.2.2.2.2.1,
 x_6.2.2.2.2.2.1,
 x_6.2.2.2.2.2.2.1,
 x_6.2.2.2.2.2.2.2.1,
 x_6.2.2.2.2.2.2.2.2.1,
 x_6.2.2.2.2.2.2.2.2.2.1,
 x_6.2.2.2.2.2.2.2.2.2.2.1,
 x_6.2.2.2.2.2.2.2.2.2.2.2.1,
 x_6.2.2.2.2.2.2.2.2.2.2.2.2.1,
 x_6.2.2.2.2.2.2.2.2.2.2.2.2.2))
 fun (x_7 : Int64 × Unit) =>
 oite
 (decide ((0 : Int) ≤ Int64.toInt x.2.2) &&
 Nat.blt (Int.toNat (Int64.toInt x.2.2))
 (List.length x_1.1.2.2.2.2))
 (obind
 x_1.1.2.2.2.2[Int.toNat (Int64.toInt x.2.2)]?
 fun
 (x_8 :
 UInt64 ×
 Bool ×
 UInt8 ×
 UInt64 ×
 UInt64 ×
 List UInt8 ×
 List (List UInt8 × List UInt8) ×
 UInt8 × UInt8 × Int64 × UInt8 × UInt8 × UInt64 × UInt64) =>
 obind
 (F27 n
 (x_8.2.1, x_8.2.2.1,
 x_8.2.2.2.1,
 x_8.2.2.2.2.1,
 x_8.2.2.2.2.2.1,
 x_8.2.2.2.2.2.2.1,
 x_8.2.2.2.2.2.2.2.1,
 x_8.2.2.2.2.2.2.2.2.1,
 x_8.2.2.2.2.2.2.2.2.2.1,
 x_8.2.2.2.2.2.2.2.2.2.2.1,
 x_8.2.2.2.2.2.2.2.2.2.2.2.1,
 x_8.2.2.2.2.2.2.2.2.2.2.2.2.1,
 x_8.2.2.2.2.2.2.2.2.2.2.2.2.2))
 fun (x_9 : Int64 × Unit) =>
 oite
 (decide ((0 : Int) ≤ Int64.toInt x.2.1) &&
 Nat.blt (Int.toNat (Int64.toInt x.2.1))
 (List.length x_1.1.2.2.2.2))
 (obind
 x_1.1.2.2.2.2[Int.toNat (Int64.toInt x.2.1)]?
 fun
 (x_10 :
 UInt64 ×
 Bool ×
 UInt8 ×
 UInt64 ×
 UInt64 ×
 List UInt8 ×
 List (List UInt8 × List UInt8) ×
 UInt8 × UInt8 × Int64 × UInt8 × UInt8 × UInt64 × UInt64) =>
 obind
 (F49 n
 (List.set x_1.1.2.2.2.2
 (Int.toNat (Int64.toInt x.2.1))
 (x_10.1, x_4.1.1.1,
 x_4.1.1.2.1,
 x_4.1.1.2.2.1,
 x_4.1.1.2.2.2.1,
 x_4.1.1.2.2.2.2.1,
 x_4.1.1.2.2.2.2.2.1,
 x_4.1.1.2.2.2.2.2.2.1,
 x_4.1.1.2.2.2.2.2.2.2.1,
 x_4.1.1.2.2.2.2.2.2.2.2.1,
 x_4.1.1.2.2.2.2.2.2.2.2.2.1,
 x_4.1.1.2.2.2.2.2.2.2.2.2.2.1,
 x_4.1.1.2.2.2.2.2.2.2.2.2.2.2.1,
 x_4.1.1.2.2.2.2.2.2.2.2.2.2.2.2),
 x.2.2, x.2.2 + (1 : Int64)))
 fun
 (x_11 :
 List
 (UInt64 ×
 Bool ×
 UInt8 ×
 UInt64 ×
 UInt64 ×
 List UInt8 ×
 List (List UInt8 × List UInt8) ×
 UInt8 × UInt8 × Int64 × UInt8 × UInt8 × UInt64 × UInt64) ×
 Unit) =>
 some
 (true,
 some
 ((x_1.1.1,
 x_1.1.2.1 +
 (x_5.1 - x_7.1 - x_9.1),
 x_1.1.2.2.1,
 x_1.1.2.2.2.1, x_11.1),
 x_1.2.1, x_1.2.2)))
 none)
 none)
 none))
 none)
 none
theorem ok41 (n : Nat) : FunOK Try.prog ⟨41, sig41, F41 n⟩ :=
 fun_ok (hints := ⟨[], []⟩) (fuel := n) (c := Try.f41.body.getD .skip) (rs := Try.f41.results.toList) tt_ok mix (FsOK.cons (ok48 n) (FsOK.cons (ok27 n) (FsOK.cons (ok49 n) (FsOK.nil)))) Try.func41 (by kernel_rfl) (by kernel_rfl) rfl (by kernel_rfl) rfl rfl (by kernel_rfl)
end Go.Proofs.Ytblldmpkljcnjaa
