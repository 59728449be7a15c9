/- What the functions of this seat compute, found by walking their code symbolically: each F is what the walk finds, each ok says that the Go function keeps it as a contract. Printed by a program of this repo's. -/
import Derived.Test.YtfmomnniadlbhaaProg
import Derived.KernelRfl
import Derived.Test.YtfmomnniadlbhaaSxClone
open Go Go.Sx
namespace Go.Proofs.Ytfmomnniadlbhaa
set_option maxRecDepth 100000
set_option linter.unusedVariables false
def tt : TT := [(2, ⟨.int .i64, 1, 8, some (.int .i64 0), false⟩), (3, ⟨.int .i64, 1, 8, some (.int .i64 0), false⟩), (4, ⟨.bool, 1, 1, some (.bool false), false⟩), (5, ⟨.int .u8, 1, 1, some (.int .u8 0), false⟩), (9, ⟨.str, 1, 16, some (.string ⟨#[]⟩), false⟩), (21, ⟨.int .i32, 1, 4, some (.int .i32 0), false⟩), (22, ⟨.int .u64, 1, 8, some (.int .u64 0), false⟩), (23, ⟨.slice 144, 1, 24, some (.slice none 0 0), false⟩), (24, ⟨.int .u8, 1, 1, some (.int .u8 0), false⟩), (26, ⟨.struct [(0, 5, false), (1, 22, false), (2, 22, false), (3, 9, false), (4, 23, false), (5, 24, false), (6, 5, false), (7, 2, false), (8, 5, false)], 9, 88, some (.agg #[.int .u8 0, .int .u64 0, .int .u64 0, .string ⟨#[]⟩, .slice none 0 0, .int .u8 0, .int .u8 0, .int .i64 0, .int .u8 0]), false⟩), (28, ⟨.struct [(0, 5, false), (1, 22, false), (2, 22, false)], 3, 24, some (.agg #[.int .u8 0, .int .u64 0, .int .u64 0]), false⟩), (30, ⟨.struct [(0, 4, false), (1, 26, false), (10, 28, false)], 13, 120, some (.agg #[.bool false, .int .u8 0, .int .u64 0, .int .u64 0, .string ⟨#[]⟩, .slice none 0 0, .int .u8 0, .int .u8 0, .int .i64 0, .int .u8 0, .int .u8 0, .int .u64 0, .int .u64 0]), false⟩), (32, ⟨.struct [(0, 5, false), (1, 5, false), (2, 5, false), (3, 22, false), (4, 22, false), (5, 30, false), (18, 22, false), (19, 22, false), (20, 22, false)], 21, 168, some (.agg #[.int .u8 0, .int .u8 0, .int .u8 0, .int .u64 0, .int .u64 0, .bool false, .int .u8 0, .int .u64 0, .int .u64 0, .string ⟨#[]⟩, .slice none 0 0, .int .u8 0, .int .u8 0, .int .i64 0, .int .u8 0, .int .u8 0, .int .u64 0, .int .u64 0, .int .u64 0, .int .u64 0, .int .u64 0]), false⟩), (33, ⟨.slice 5, 1, 24, some (.slice none 0 0), false⟩), (35, ⟨.ptr 95, 1, 8, some (.pointer none), false⟩), (36, ⟨.int .i64, 1, 8, some (.int .i64 0), false⟩), (40, ⟨.struct [(0, 3, false), (1, 22, false), (2, 22, false)], 3, 24, some (.agg #[.int .i64 0, .int .u64 0, .int .u64 0]), false⟩), (45, ⟨.ptr 99, 1, 8, some (.pointer none), false⟩), (48, ⟨.ptr 102, 1, 8, some (.pointer none), false⟩), (51, ⟨.ptr 104, 1, 8, some (.pointer none), false⟩), (59, ⟨.slice 32, 1, 24, some (.slice none 0 0), false⟩), (65, ⟨.int .u16, 1, 2, some (.int .u16 0), false⟩), (66, ⟨.slice 72, 1, 24, some (.slice none 0 0), false⟩), (67, ⟨.ptr 80, 1, 8, some (.pointer none), false⟩), (70, ⟨.struct [(0, 4, false), (1, 5, false), (2, 5, false), (3, 5, false), (4, 65, false), (5, 65, false), (6, 65, false), (7, 5, false), (8, 5, false), (9, 5, false), (10, 4, false)], 11, 14, some (.agg #[.bool false, .int .u8 0, .int .u8 0, .int .u8 0, .int .u16 0, .int .u16 0, .int .u16 0, .int .u8 0, .int .u8 0, .int .u8 0, .bool false]), false⟩), (72, ⟨.struct [(0, 5, false), (1, 70, false), (12, 5, false)], 13, 18, some (.agg #[.int .u8 0, .bool false, .int .u8 0, .int .u8 0, .int .u8 0, .int .u16 0, .int .u16 0, .int .u16 0, .int .u8 0, .int .u8 0, .int .u8 0, .bool false, .int .u8 0]), false⟩), (75, ⟨.ptr 122, 1, 8, some (.pointer none), false⟩), (76, ⟨.arr 2 22, 2, 16, some (.agg #[.int .u64 0, .int .u64 0]), false⟩), (77, ⟨.slice 30, 1, 24, some (.slice none 0 0), false⟩), (78, ⟨.arr 4 22, 4, 32, some (.agg #[.int .u64 0, .int .u64 0, .int .u64 0, .int .u64 0]), false⟩), (80, ⟨.struct [(0, 40, false), (3, 75, false), (4, 35, false), (5, 51, false), (6, 76, false), (8, 22, false), (9, 59, false), (10, 77, false), (11, 77, false), (12, 78, false), (16, 3, false)], 17, 184, some (.agg #[.int .i64 0, .int .u64 0, .int .u64 0, .pointer none, .pointer none, .pointer none, .int .u64 0, .int .u64 0, .int .u64 0, .slice none 0 0, .slice none 0 0, .slice none 0 0, .int .u64 0, .int .u64 0, .int .u64 0, .int .u64 0, .int .i64 0]), false⟩), (86, ⟨.slice 111, 1, 24, some (.slice none 0 0), false⟩), (90, ⟨.slice 93, 1, 24, some (.slice none 0 0), false⟩), (93, ⟨.struct [(0, 22, false), (1, 30, false)], 14, 128, some (.agg #[.int .u64 0, .bool false, .int .u8 0, .int .u64 0, .int .u64 0, .string ⟨#[]⟩, .slice none 0 0, .int .u8 0, .int .u8 0, .int .i64 0, .int .u8 0, .int .u8 0, .int .u64 0, .int .u64 0]), false⟩), (95, ⟨.struct [(0, 5, false), (1, 5, false), (2, 40, false), (5, 22, false), (6, 22, false), (7, 22, false), (8, 45, false)], 9, 64, some (.agg #[.int .u8 0, .int .u8 0, .int .i64 0, .int .u64 0, .int .u64 0, .int .u64 0, .int .u64 0, .int .u64 0, .pointer none]), false⟩), (99, ⟨.struct [(0, 3, false), (1, 22, false), (2, 22, false), (3, 22, false), (4, 22, false), (5, 86, false), (6, 22, false), (7, 22, false)], 8, 80, some (.agg #[.int .i64 0, .int .u64 0, .int .u64 0, .int .u64 0, .int .u64 0, .slice none 0 0, .int .u64 0, .int .u64 0]), false⟩), (100, ⟨.map 22 30, 1, 8, some (.map none), false⟩), (102, ⟨.struct [(0, 3, false), (1, 22, false), (2, 100, false), (3, 22, false)], 4, 32, some (.agg #[.int .i64 0, .int .u64 0, .map none, .int .u64 0]), false⟩), (104, ⟨.struct [(0, 5, false), (1, 5, false), (2, 3, false), (3, 22, false), (4, 22, false), (5, 48, false)], 6, 40, some (.agg #[.int .u8 0, .int .u8 0, .int .i64 0, .int .u64 0, .int .u64 0, .pointer none]), false⟩), (111, ⟨.struct [(0, 22, false), (1, 22, false), (2, 22, false), (3, 22, false), (4, 4, false), (5, 4, false)], 6, 40, some (.agg #[.int .u64 0, .int .u64 0, .int .u64 0, .int .u64 0, .bool false, .bool false]), false⟩), (120, ⟨.arr 32 22, 32, 256, some (.agg #[.int .u64 0, .int .u64 0, .int .u64 0, .int .u64 0, .int .u64 0, .int .u64 0, .int .u64 0, .int .u64 0, .int .u64 0, .int .u64 0, .int .u64 0, .int .u64 0, .int .u64 0, .int .u64 0, .int .u64 0, .int .u64 0, .int .u64 0, .int .u64 0, .int .u64 0, .int .u64 0, .int .u64 0, .int .u64 0, .int .u64 0, .int .u64 0, .int .u64 0, .int .u64 0, .int .u64 0, .int .u64 0, .int .u64 0, .int .u64 0, .int .u64 0, .int .u64 0]), false⟩), (122, ⟨.struct [(0, 3, false), (1, 3, false), (2, 22, false), (3, 22, false), (4, 90, false), (5, 120, false), (37, 22, false)], 38, 320, some (.agg #[.int .i64 0, .int .i64 0, .int .u64 0, .int .u64 0, .slice none 0 0, .int .u64 0, .int .u64 0, .int .u64 0, .int .u64 0, .int .u64 0, .int .u64 0, .int .u64 0, .int .u64 0, .int .u64 0, .int .u64 0, .int .u64 0, .int .u64 0, .int .u64 0, .int .u64 0, .int .u64 0, .int .u64 0, .int .u64 0, .int .u64 0, .int .u64 0, .int .u64 0, .int .u64 0, .int .u64 0, .int .u64 0, .int .u64 0, .int .u64 0, .int .u64 0, .int .u64 0, .int .u64 0, .int .u64 0, .int .u64 0, .int .u64 0, .int .u64 0, .int .u64 0]), false⟩), (142, ⟨.slice 9, 1, 24, some (.slice none 0 0), false⟩), (144, ⟨.struct [(0, 9, false), (1, 9, false)], 2, 32, some (.agg #[.string ⟨#[]⟩, .string ⟨#[]⟩]), false⟩), (152, ⟨.struct [(0, 33, false)], 1, 24, some (.agg #[.slice none 0 0]), false⟩), (154, ⟨.ptr 152, 1, 8, some (.pointer none), false⟩)]
theorem tt_ok : TTOK Try.prog tt := TTOK.of_rows (by kernel_rfl)
theorem mix : Try.prog.follows .mixedOrders = true := by kernel_rfl
-- watchfire/send.New
def sig12 : Sig := ⟨(.cons (.one (.c (.int .i64))) (.cons (.one (.c (.int .u64))) (.cons (.one (.c (.int .u64))) .nil))), (.cons (.one (.ptr (.cons (.c (.int .i64)) (.cons (.c (.int .u64)) (.cons (.c (.int .u64)) (.cons (.c (.int .u64)) (.cons (.c (.int .u64)) (.cons (.row (.cons (.int .u64) (.cons (.int .u64) (.cons (.int .u64) (.cons (.int .u64) (.cons .bool (.cons .bool .nil))))))) (.cons (.c (.int .u64)) (.cons (.c (.int .u64)) .nil)))))))))) (.cons (.one (.c (.int .i64))) .nil))⟩
def F12 : Nat →
 Int64 × UInt64 × UInt64 →
 Option
 ((Option
 (Int64 ×
 UInt64 ×
 UInt64 × UInt64 × UInt64 × List (UInt64 × UInt64 × UInt64 × UInt64 × Bool × Bool) × UInt64 × UInt64) ×
 Int64) ×
 Unit) := fun (n : Nat) (x : Int64 × UInt64 × UInt64) =>
 oite (decide (Prod.fst x < (1 : Int64))) (some ((none, (19 : Int64)), ()))
 (oite (decide ((64 : Int64) < Prod.fst x)) (some ((none, (19 : Int64)), ()))
 (oite (decide (Prod.fst (Prod.snd x) < (1 : UInt64))) (some ((none, (6 : Int64)), ()))
 (oite (decide (Prod.snd (Prod.snd x) < Prod.fst (Prod.snd x))) (some ((none, (6 : Int64)), ()))
 (oite (decide ((1048576 : UInt64) < Prod.snd (Prod.snd x))) (some ((none, (6 : Int64)), ()))
 (some
 ((some
 (Prod.fst x, Prod.fst (Prod.snd x), Prod.snd (Prod.snd x), (0 : UInt64), (1 : UInt64), [],
 (0 : UInt64), (0 : UInt64)),
 (0 : Int64)),
 ()))))))
theorem ok12 (n : Nat) : FunOK Try.prog ⟨12, sig12, F12 n⟩ :=
 fun_ok (hints := ⟨[], []⟩) (fuel := n) (c := Try.f12.body.getD .skip) (rs := Try.f12.results.toList) tt_ok mix (FsOK.nil) Try.func12 (by kernel_rfl) (by kernel_rfl) rfl (by kernel_rfl) rfl rfl (by kernel_rfl)
-- (watchfire/sess.Times).Check
def sig16 : Sig := ⟨(.cons (.agg (.cons (.int .i64) (.cons (.int .u64) (.cons (.int .u64) .nil)))) .nil), (.cons (.one (.c (.int .i64))) .nil)⟩
def F16 : Nat → Int64 × UInt64 × UInt64 → Option (Int64 × Unit) := fun (n : Nat) (x : Int64 × UInt64 × UInt64) =>
 obind (F12 n (Prod.fst x, Prod.fst (Prod.snd x), Prod.snd (Prod.snd x)))
 fun
 (x_1 :
 (Option
 (Int64 ×
 UInt64 ×
 UInt64 × UInt64 × UInt64 × List (UInt64 × UInt64 × UInt64 × UInt64 × Bool × Bool) × UInt64 × UInt64) ×
 Int64) ×
 Unit) =>
 some (Prod.snd (Prod.fst x_1), ())
theorem ok16 (n : Nat) : FunOK Try.prog ⟨16, sig16, F16 n⟩ :=
 fun_ok (hints := ⟨[], []⟩) (fuel := n) (c := Try.f16.body.getD .skip) (rs := Try.f16.results.toList) tt_ok mix (FsOK.cons (ok12 n) (FsOK.nil)) Try.func16 (by kernel_rfl) (by kernel_rfl) rfl (by kernel_rfl) rfl rfl (by kernel_rfl)
-- (*watchfire/sess.Out).Restart
def sig18 : Sig := ⟨(.cons (.one (.ptr (.cons (.c (.int .u8)) (.cons (.c (.int .u8)) (.cons (.c (.int .i64)) (.cons (.c (.int .u64)) (.cons (.c (.int .u64)) (.cons (.c (.int .u64)) (.cons (.c (.int .u64)) (.cons (.c (.int .u64)) (.cons (.ptr (.cons (.c (.int .i64)) (.cons (.c (.int .u64)) (.cons (.c (.int .u64)) (.cons (.c (.int .u64)) (.cons (.c (.int .u64)) (.cons (.row (.cons (.int .u64) (.cons (.int .u64) (.cons (.int .u64) (.cons (.int .u64) (.cons .bool (.cons .bool .nil))))))) (.cons (.c (.int .u64)) (.cons (.c (.int .u64)) .nil))))))))) .nil))))))))))) .nil), (.cons (.one (.c (.int .i64))) .nil)⟩
def F18 : Nat →
 Option
 (UInt8 ×
 UInt8 ×
 Int64 ×
 UInt64 ×
 UInt64 ×
 UInt64 ×
 UInt64 ×
 UInt64 ×
 Option
 (Int64 ×
 UInt64 ×
 UInt64 ×
 UInt64 ×
 UInt64 × List (UInt64 × UInt64 × UInt64 × UInt64 × Bool × Bool) × UInt64 × UInt64)) →
 Option
 (Int64 ×
 Option
 (UInt8 ×
 UInt8 ×
 Int64 ×
 UInt64 ×
 UInt64 ×
 UInt64 ×
 UInt64 ×
 UInt64 ×
 Option
 (Int64 ×
 UInt64 ×
 UInt64 ×
 UInt64 ×
 UInt64 × List (UInt64 × UInt64 × UInt64 × UInt64 × Bool × Bool) × UInt64 × UInt64))) := fun (n : Nat)
 (x :
 Option
 (UInt8 ×
 UInt8 ×
 Int64 ×
 UInt64 ×
 UInt64 ×
 UInt64 ×
 UInt64 ×
 UInt64 ×
 Option
 (Int64 ×
 UInt64 ×
 UInt64 ×
 UInt64 ×
 UInt64 ×
 List (UInt64 × UInt64 × UInt64 × UInt64 × Bool × Bool) × UInt64 × UInt64))) =>
 oelim x (some ((1 : Int64), none))
 fun
 (x_1 :
 UInt8 ×
 UInt8 ×
 Int64 ×
 UInt64 ×
 UInt64 ×
 UInt64 ×
 UInt64 ×
 UInt64 ×
 Option
 (Int64 ×
 UInt64 ×
 UInt64 ×
 UInt64 ×
 UInt64 × List (UInt64 × UInt64 × UInt64 × UInt64 × Bool × Bool) × UInt64 × UInt64)) =>
 oite
 (decide
 ((1048576 : UInt64) ≤
 Prod.fst (Prod.snd (Prod.snd (Prod.snd (Prod.snd (Prod.snd (Prod.snd x_1)))))) + (1 : UInt64)))
 (some
 ((18 : Int64),
 some
 (Prod.fst x_1, Prod.fst (Prod.snd x_1), Prod.fst (Prod.snd (Prod.snd x_1)),
 Prod.fst (Prod.snd (Prod.snd (Prod.snd x_1))), Prod.fst (Prod.snd (Prod.snd (Prod.snd (Prod.snd x_1)))),
 Prod.fst (Prod.snd (Prod.snd (Prod.snd (Prod.snd (Prod.snd x_1))))),
 Prod.fst (Prod.snd (Prod.snd (Prod.snd (Prod.snd (Prod.snd (Prod.snd x_1)))))),
 Prod.fst (Prod.snd (Prod.snd (Prod.snd (Prod.snd (Prod.snd (Prod.snd (Prod.snd x_1))))))),
 Prod.snd (Prod.snd (Prod.snd (Prod.snd (Prod.snd (Prod.snd (Prod.snd (Prod.snd x_1))))))))))
 (obind
 (F12 n
 (Prod.fst (Prod.snd (Prod.snd x_1)), Prod.fst (Prod.snd (Prod.snd (Prod.snd x_1))),
 Prod.fst (Prod.snd (Prod.snd (Prod.snd (Prod.snd x_1))))))
 fun
 (x_2 :
 (Option
 (Int64 ×
 UInt64 ×
 UInt64 ×
 UInt64 × UInt64 × List (UInt64 × UInt64 × UInt64 × UInt64 × Bool × Bool) × UInt64 × UInt64) ×
 Int64) ×
 Unit) =>
 some
 (Prod.snd (Prod.fst x_2),
 some
 (Prod.fst x_1, Prod.fst (Prod.snd x_1), Prod.fst (Prod.snd (Prod.snd x_1)),
 Prod.fst (Prod.snd (Prod.snd (Prod.snd x_1))), Prod.fst (Prod.snd (Prod.snd (Prod.snd (Prod.snd x_1)))),
 Prod.fst (Prod.snd (Prod.snd (Prod.snd (Prod.snd (Prod.snd x_1))))),
 Prod.fst (Prod.snd (Prod.snd (Prod.snd (Prod.snd (Prod.snd (Prod.snd x_1)))))) + (1 : UInt64),
 Prod.fst (Prod.snd (Prod.snd (Prod.snd (Prod.snd (Prod.snd (Prod.snd (Prod.snd x_1))))))),
 Prod.fst (Prod.fst x_2))))
theorem ok18 (n : Nat) : FunOK Try.prog ⟨18, sig18, F18 n⟩ :=
 fun_ok (hints := ⟨[], []⟩) (fuel := n) (c := Try.f18.body.getD .skip) (rs := Try.f18.results.toList) tt_ok mix (FsOK.cons (ok12 n) (FsOK.nil)) Try.func18 (by kernel_rfl) (by kernel_rfl) rfl (by kernel_rfl) rfl rfl (by kernel_rfl)
-- watchfire/sess.NewOut
def sig9 : Sig := ⟨(.cons (.one (.c (.int .u8))) (.cons (.one (.c (.int .u8))) (.cons (.one (.c (.int .u64))) (.cons (.agg (.cons (.int .i64) (.cons (.int .u64) (.cons (.int .u64) .nil)))) .nil)))), (.cons (.one (.ptr (.cons (.c (.int .u8)) (.cons (.c (.int .u8)) (.cons (.c (.int .i64)) (.cons (.c (.int .u64)) (.cons (.c (.int .u64)) (.cons (.c (.int .u64)) (.cons (.c (.int .u64)) (.cons (.c (.int .u64)) (.cons (.ptr (.cons (.c (.int .i64)) (.cons (.c (.int .u64)) (.cons (.c (.int .u64)) (.cons (.c (.int .u64)) (.cons (.c (.int .u64)) (.cons (.row (.cons (.int .u64) (.cons (.int .u64) (.cons (.int .u64) (.cons (.int .u64) (.cons .bool (.cons .bool .nil))))))) (.cons (.c (.int .u64)) (.cons (.c (.int .u64)) .nil))))))))) .nil))))))))))) (.cons (.one (.c (.int .i64))) .nil))⟩
def F9 : Nat →
 UInt8 × UInt8 × UInt64 × Int64 × UInt64 × UInt64 →
 Option
 ((Option
 (UInt8 ×
 UInt8 ×
 Int64 ×
 UInt64 ×
 UInt64 ×
 UInt64 ×
 UInt64 ×
 UInt64 ×
 Option
 (Int64 ×
 UInt64 ×
 UInt64 ×
 UInt64 ×
 UInt64 ×
 List (UInt64 × UInt64 × UInt64 × UInt64 × Bool × Bool) × UInt64 × UInt64)) ×
 Int64) ×
 Unit) := fun (n : Nat) (x : UInt8 × UInt8 × UInt64 × Int64 × UInt64 × UInt64) =>
 oite (decide ((32 : UInt8) ≤ Prod.fst x)) (some ((none, (20 : Int64)), ()))
 (oite (decide ((32 : UInt8) ≤ Prod.fst (Prod.snd x))) (some ((none, (20 : Int64)), ()))
 (oite (decide (Prod.fst x = Prod.fst (Prod.snd x))) (some ((none, (20 : Int64)), ()))
 (oite (decide (Prod.fst (Prod.snd (Prod.snd x)) < (1 : UInt64))) (some ((none, (6 : Int64)), ()))
 (oite (decide ((1048576 : UInt64) ≤ Prod.fst (Prod.snd (Prod.snd x))))
 (some ((none, (6 : Int64)), ()))
 (obind
 (F16 n
 (Prod.fst (Prod.snd (Prod.snd (Prod.snd x))), Prod.fst (Prod.snd (Prod.snd (Prod.snd (Prod.snd x)))),
 Prod.snd (Prod.snd (Prod.snd (Prod.snd (Prod.snd x))))))
 fun (x_1 : Int64 × Unit) =>
 oite (!decide (Prod.fst x_1 = (0 : Int64))) (some ((none, Prod.fst x_1), ()))
 (obind
 (F18 n
 (some
 (Prod.fst x, Prod.fst (Prod.snd x), Prod.fst (Prod.snd (Prod.snd (Prod.snd x))),
 Prod.fst (Prod.snd (Prod.snd (Prod.snd (Prod.snd x)))),
 Prod.snd (Prod.snd (Prod.snd (Prod.snd (Prod.snd x)))), Prod.fst (Prod.snd (Prod.snd x)),
 (0 : UInt64), (0 : UInt64), none)))
 fun
 (x_2 :
 Int64 ×
 Option
 (UInt8 ×
 UInt8 ×
 Int64 ×
 UInt64 ×
 UInt64 ×
 UInt64 ×
 UInt64 ×
 UInt64 ×
 Option
 (Int64 ×
 UInt64 ×
 UInt64 ×
 UInt64 ×
 UInt64 ×
 List (UInt64 × UInt64 × UInt64 × UInt64 × Bool × Bool) ×
 UInt64 × UInt64))) =>
 some ((Prod.snd x_2, Prod.fst x_2), ())))))))
theorem ok9 (n : Nat) : FunOK Try.prog ⟨9, sig9, F9 n⟩ :=
 fun_ok (hints := ⟨[], []⟩) (fuel := n) (c := Try.f9.body.getD .skip) (rs := Try.f9.results.toList) tt_ok mix (FsOK.cons (ok16 n) (FsOK.cons (ok18 n) (FsOK.nil))) Try.func9 (by kernel_rfl) (by kernel_rfl) rfl (by kernel_rfl) rfl rfl (by kernel_rfl)
-- (*watchfire/sess.Out).Epoch
def sig11 : Sig := ⟨(.cons (.one (.ptr (.cons (.c (.int .u8)) (.cons (.c (.int .u8)) (.cons (.c (.int .i64)) (.cons (.c (.int .u64)) (.cons (.c (.int .u64)) (.cons (.c (.int .u64)) (.cons (.c (.int .u64)) (.cons (.c (.int .u64)) (.cons (.ptr (.cons (.c (.int .i64)) (.cons (.c (.int .u64)) (.cons (.c (.int .u64)) (.cons (.c (.int .u64)) (.cons (.c (.int .u64)) (.cons (.row (.cons (.int .u64) (.cons (.int .u64) (.cons (.int .u64) (.cons (.int .u64) (.cons .bool (.cons .bool .nil))))))) (.cons (.c (.int .u64)) (.cons (.c (.int .u64)) .nil))))))))) .nil))))))))))) .nil), (.cons (.one (.c (.int .u64))) .nil)⟩
def F11 : Nat →
 Option
 (UInt8 ×
 UInt8 ×
 Int64 ×
 UInt64 ×
 UInt64 ×
 UInt64 ×
 UInt64 ×
 UInt64 ×
 Option
 (Int64 ×
 UInt64 ×
 UInt64 ×
 UInt64 ×
 UInt64 × List (UInt64 × UInt64 × UInt64 × UInt64 × Bool × Bool) × UInt64 × UInt64)) →
 Option
 (UInt64 ×
 Option
 (UInt8 ×
 UInt8 ×
 Int64 ×
 UInt64 ×
 UInt64 ×
 UInt64 ×
 UInt64 ×
 UInt64 ×
 Option
 (Int64 ×
 UInt64 ×
 UInt64 ×
 UInt64 ×
 UInt64 × List (UInt64 × UInt64 × UInt64 × UInt64 × Bool × Bool) × UInt64 × UInt64))) := fun (n : Nat)
 (x :
 Option
 (UInt8 ×
 UInt8 ×
 Int64 ×
 UInt64 ×
 UInt64 ×
 UInt64 ×
 UInt64 ×
 UInt64 ×
 Option
 (Int64 ×
 UInt64 ×
 UInt64 ×
 UInt64 ×
 UInt64 ×
 List (UInt64 × UInt64 × UInt64 × UInt64 × Bool × Bool) × UInt64 × UInt64))) =>
 oelim x (some ((0 : UInt64), none))
 fun
 (x_1 :
 UInt8 ×
 UInt8 ×
 Int64 ×
 UInt64 ×
 UInt64 ×
 UInt64 ×
 UInt64 ×
 UInt64 ×
 Option
 (Int64 ×
 UInt64 ×
 UInt64 ×
 UInt64 ×
 UInt64 × List (UInt64 × UInt64 × UInt64 × UInt64 × Bool × Bool) × UInt64 × UInt64)) =>
 some
 (IK.shl IntKind.u64 (Prod.fst (Prod.snd (Prod.snd (Prod.snd (Prod.snd (Prod.snd x_1))))))
 ↑(UInt64.toNat (20 : UInt64)) |||
 Prod.fst (Prod.snd (Prod.snd (Prod.snd (Prod.snd (Prod.snd (Prod.snd x_1)))))),
 some
 (Prod.fst x_1, Prod.fst (Prod.snd x_1), Prod.fst (Prod.snd (Prod.snd x_1)),
 Prod.fst (Prod.snd (Prod.snd (Prod.snd x_1))), Prod.fst (Prod.snd (Prod.snd (Prod.snd (Prod.snd x_1)))),
 Prod.fst (Prod.snd (Prod.snd (Prod.snd (Prod.snd (Prod.snd x_1))))),
 Prod.fst (Prod.snd (Prod.snd (Prod.snd (Prod.snd (Prod.snd (Prod.snd x_1)))))),
 Prod.fst (Prod.snd (Prod.snd (Prod.snd (Prod.snd (Prod.snd (Prod.snd (Prod.snd x_1))))))),
 Prod.snd (Prod.snd (Prod.snd (Prod.snd (Prod.snd (Prod.snd (Prod.snd (Prod.snd x_1)))))))))
theorem ok11 (n : Nat) : FunOK Try.prog ⟨11, sig11, F11 n⟩ :=
 fun_ok (hints := ⟨[], []⟩) (fuel := n) (c := Try.f11.body.getD .skip) (rs := Try.f11.results.toList) tt_ok mix (FsOK.nil) Try.func11 (by kernel_rfl) (by kernel_rfl) rfl (by kernel_rfl) rfl rfl (by kernel_rfl)
-- watchfire/watchfirelaw12.Awake
def sig8 : Sig := ⟨.nil, (.cons (.one (.c .bool)) .nil)⟩
def F8 : Nat → Unit → Option (Bool × Unit) := fun (n : Nat) (x : Unit) =>
 obind (F9 n ((1 : UInt8), (0 : UInt8), (2 : UInt64), (3 : Int64), (1 : UInt64), (4 : UInt64)))
 fun
 (x_1 :
 (Option
 (UInt8 ×
 UInt8 ×
 Int64 ×
 UInt64 ×
 UInt64 ×
 UInt64 ×
 UInt64 ×
 UInt64 ×
 Option
 (Int64 ×
 UInt64 ×
 UInt64 ×
 UInt64 ×
 UInt64 ×
 List (UInt64 × UInt64 × UInt64 × UInt64 × Bool × Bool) × UInt64 × UInt64)) ×
 Int64) ×
 Unit) =>
 oite (decide (Prod.snd (Prod.fst x_1) = (0 : Int64)))
 (obind (F11 n (Prod.fst (Prod.fst x_1)))
 fun
 (x_2 :
 UInt64 ×
 Option
 (UInt8 ×
 UInt8 ×
 Int64 ×
 UInt64 ×
 UInt64 ×
 UInt64 ×
 UInt64 ×
 UInt64 ×
 Option
 (Int64 ×
 UInt64 ×
 UInt64 ×
 UInt64 ×
 UInt64 ×
 List (UInt64 × UInt64 × UInt64 × UInt64 × Bool × Bool) ×
 UInt64 × UInt64))) =>
 some (decide (Prod.fst x_2 = (2097153 : UInt64)), ()))
 (some (false, ()))
theorem ok8 (n : Nat) : FunOK Try.prog ⟨8, sig8, F8 n⟩ :=
 fun_ok (hints := ⟨[], []⟩) (fuel := n) (c := Try.f8.body.getD .skip) (rs := Try.f8.results.toList) tt_ok mix (FsOK.cons (ok9 n) (FsOK.cons (ok11 n) (FsOK.nil))) Try.func8 (by kernel_rfl) (by kernel_rfl) rfl (by kernel_rfl) rfl rfl (by kernel_rfl)
-- watchfire/send.behind[watchfire/send.Flight]
def sig51 : Sig := ⟨(.cons (.one (.c (.ro (.cons (.int .u64) (.cons (.int .u64) (.cons (.int .u64) (.cons (.int .u64) (.cons .bool (.cons .bool .nil))))))))) (.cons (.one (.c (.int .i64))) .nil)), (.cons (.one (.row (.cons (.int .u64) (.cons (.int .u64) (.cons (.int .u64) (.cons (.int .u64) (.cons .bool (.cons .bool .nil)))))))) .nil)⟩
def F51 : Nat →
 List (UInt64 × UInt64 × UInt64 × UInt64 × Bool × Bool) × Int64 →
 Option (List (UInt64 × UInt64 × UInt64 × UInt64 × Bool × Bool) × Unit) := fun (n : Nat) (x : List (UInt64 × UInt64 × UInt64 × UInt64 × Bool × Bool) × Int64) =>
 oite
 (decide ((0 : Int) ≤ Int64.toInt (Prod.snd x)) &&
 Nat.ble (Int.toNat (Int64.toInt (Prod.snd x))) (List.length (Prod.fst x)))
 (oite
 (Nat.ble
 ((0 : Nat) +
 List.length
 (List.drop (Int.toNat (Int64.toInt (Prod.snd x))) (List.take (List.length (Prod.fst x)) (Prod.fst x))))
 (4294967296 : Nat))
 (some
 ([] ++ List.drop (Int.toNat (Int64.toInt (Prod.snd x))) (List.take (List.length (Prod.fst x)) (Prod.fst x)),
 ()))
 none)
 none
theorem ok51 (n : Nat) : FunOK Try.prog ⟨51, sig51, F51 n⟩ :=
 fun_ok (hints := ⟨[], []⟩) (fuel := n) (c := Try.f51.body.getD .skip) (rs := Try.f51.results.toList) tt_ok mix (FsOK.nil) Try.func51 (by kernel_rfl) (by kernel_rfl) rfl (by kernel_rfl) rfl rfl (by kernel_rfl)
-- (*watchfire/send.Sender).Ack
def sig35 : Sig := ⟨(.cons (.one (.ptr (.cons (.c (.int .i64)) (.cons (.c (.int .u64)) (.cons (.c (.int .u64)) (.cons (.c (.int .u64)) (.cons (.c (.int .u64)) (.cons (.row (.cons (.int .u64) (.cons (.int .u64) (.cons (.int .u64) (.cons (.int .u64) (.cons .bool (.cons .bool .nil))))))) (.cons (.c (.int .u64)) (.cons (.c (.int .u64)) .nil)))))))))) (.cons (.one (.c (.int .u64))) (.cons (.one (.c (.int .u64))) .nil))), (.cons (.one (.c (.int .u64))) (.cons (.one (.c (.int .i64))) .nil))⟩
def F35_J31 : UInt64 →
 Int64 →
 UInt64 →
 UInt64 →
 UInt64 →
 UInt64 →
 UInt64 →
 UInt64 →
 List (UInt64 × UInt64 × UInt64 × UInt64 × Bool × Bool) →
 Option
 ((UInt64 × Int64) ×
 Option
 (Int64 ×
 UInt64 ×
 UInt64 ×
 UInt64 ×
 UInt64 × List (UInt64 × UInt64 × UInt64 × UInt64 × Bool × Bool) × UInt64 × UInt64)) := fun (index : UInt64) (s0_1 : Int64) (s1_1 s2_1 s3_1 s4_1 s6_1 s7_1 : UInt64)
 (sl_1 : List (UInt64 × UInt64 × UInt64 × UInt64 × Bool × Bool)) =>
 oite (decide ((0 : Int64) < Int64.ofInt ↑(List.length sl_1)))
 (oite (Nat.blt (Int.toNat (Int64.toInt (0 : Int64))) (List.length sl_1))
 (obind sl_1[Int.toNat (Int64.toInt (0 : Int64))]? fun (x_2 : UInt64 × UInt64 × UInt64 × UInt64 × Bool × Bool) =>
 some
 ((index, (0 : Int64)),
 some
 (s0_1, s1_1, s2_1, s3_1, s4_1,
 List.set sl_1 (Int.toNat (Int64.toInt (0 : Int64)))
 (Prod.fst x_2, Prod.fst (Prod.snd x_2), Prod.fst (Prod.snd (Prod.snd x_2)),
 Prod.fst (Prod.snd (Prod.snd (Prod.snd x_2))),
 Prod.fst (Prod.snd (Prod.snd (Prod.snd (Prod.snd x_2)))), false),
 s6_1, s7_1)))
 none)
 (some ((index, (0 : Int64)), some (s0_1, s1_1, s2_1, s3_1, s4_1, sl_1, s6_1, s7_1)))
def F35_L62 : Nat →
 Arr
 [PT.int IntKind.u64, PT.int IntKind.i64, PT.int IntKind.u64, PT.int IntKind.u64, PT.int IntKind.u64,
 PT.int IntKind.u64, PT.int IntKind.u64, PT.int IntKind.u64,
 PT.list
 (CTs.cons (CT.int IntKind.u64)
 (CTs.cons (CT.int IntKind.u64)
 (CTs.cons (CT.int IntKind.u64)
 (CTs.cons (CT.int IntKind.u64) (CTs.cons CT.bool (CTs.cons CT.bool CTs.nil))))))]
 (Option
 ((UInt64 × Int64) ×
 Option
 (Int64 ×
 UInt64 ×
 UInt64 × UInt64 × UInt64 × List (UInt64 × UInt64 × UInt64 × UInt64 × Bool × Bool) × UInt64 × UInt64))) →
 Arr
 [PT.int IntKind.u64, PT.int IntKind.u64, PT.int IntKind.i64, PT.int IntKind.u64, PT.int IntKind.u64,
 PT.int IntKind.u64, PT.int IntKind.u64, PT.int IntKind.u64, PT.int IntKind.u64,
 PT.list
 (CTs.cons (CT.int IntKind.u64)
 (CTs.cons (CT.int IntKind.u64)
 (CTs.cons (CT.int IntKind.u64)
 (CTs.cons (CT.int IntKind.u64) (CTs.cons CT.bool (CTs.cons CT.bool CTs.nil))))))]
 (Option
 ((UInt64 × Int64) ×
 Option
 (Int64 ×
 UInt64 ×
 UInt64 ×
 UInt64 × UInt64 × List (UInt64 × UInt64 × UInt64 × UInt64 × Bool × Bool) × UInt64 × UInt64))) →
 UInt64 →
 UInt64 →
 Int64 →
 UInt64 →
 UInt64 →
 UInt64 →
 UInt64 →
 UInt64 →
 UInt64 →
 List (UInt64 × UInt64 × UInt64 × UInt64 × Bool × Bool) →
 Option
 ((UInt64 × Int64) ×
 Option
 (Int64 ×
 UInt64 ×
 UInt64 ×
 UInt64 ×
 UInt64 ×
 List (UInt64 × UInt64 × UInt64 × UInt64 × Bool × Bool) × UInt64 × UInt64)) := fun (n : Nat)
 (J :
 Arr
 [PT.int IntKind.u64, PT.int IntKind.i64, PT.int IntKind.u64, PT.int IntKind.u64, PT.int IntKind.u64,
 PT.int IntKind.u64, PT.int IntKind.u64, PT.int IntKind.u64,
 PT.list
 (CTs.cons (CT.int IntKind.u64)
 (CTs.cons (CT.int IntKind.u64)
 (CTs.cons (CT.int IntKind.u64)
 (CTs.cons (CT.int IntKind.u64) (CTs.cons CT.bool (CTs.cons CT.bool CTs.nil))))))]
 (Option
 ((UInt64 × Int64) ×
 Option
 (Int64 ×
 UInt64 ×
 UInt64 ×
 UInt64 × UInt64 × List (UInt64 × UInt64 × UInt64 × UInt64 × Bool × Bool) × UInt64 × UInt64))))
 (rec_1 :
 Arr
 [PT.int IntKind.u64, PT.int IntKind.u64, PT.int IntKind.i64, PT.int IntKind.u64, PT.int IntKind.u64,
 PT.int IntKind.u64, PT.int IntKind.u64, PT.int IntKind.u64, PT.int IntKind.u64,
 PT.list
 (CTs.cons (CT.int IntKind.u64)
 (CTs.cons (CT.int IntKind.u64)
 (CTs.cons (CT.int IntKind.u64)
 (CTs.cons (CT.int IntKind.u64) (CTs.cons CT.bool (CTs.cons CT.bool CTs.nil))))))]
 (Option
 ((UInt64 × Int64) ×
 Option
 (Int64 ×
 UInt64 ×
 UInt64 ×
 UInt64 × UInt64 × List (UInt64 × UInt64 × UInt64 × UInt64 × Bool × Bool) × UInt64 × UInt64))))
 (cum_1 index : UInt64) (s0_1 : Int64) (s1_1 s2_1 s3_1 s4_1 s6_1 s7_1 : UInt64)
 (sl_1 : List (UInt64 × UInt64 × UInt64 × UInt64 × Bool × Bool)) =>
 oite (decide ((0 : Int64) < Int64.ofInt ↑(List.length sl_1)))
 (oite (Nat.blt (Int.toNat (Int64.toInt (0 : Int64))) (List.length sl_1))
 (obind sl_1[Int.toNat (Int64.toInt (0 : Int64))]? fun (x_2 : UInt64 × UInt64 × UInt64 × UInt64 × Bool × Bool) =>
 oite (decide (Prod.fst x_2 ≤ cum_1))
 (oite (Nat.blt (Int.toNat (Int64.toInt (0 : Int64))) (List.length sl_1))
 (obind sl_1[Int.toNat (Int64.toInt (0 : Int64))]?
 fun (x_3 : UInt64 × UInt64 × UInt64 × UInt64 × Bool × Bool) =>
 oite (Nat.blt (Int.toNat (Int64.toInt (0 : Int64))) (List.length sl_1))
 (obind sl_1[Int.toNat (Int64.toInt (0 : Int64))]?
 fun (x_4 : UInt64 × UInt64 × UInt64 × UInt64 × Bool × Bool) =>
 obind (F51 n (sl_1, (1 : Int64)))
 fun (x_5 : List (UInt64 × UInt64 × UInt64 × UInt64 × Bool × Bool) × Unit) =>
 rec_1 cum_1 (Prod.fst (Prod.snd x_3)) s0_1 s1_1 s2_1 (Prod.fst x_4) s4_1 s6_1 s7_1 (Prod.fst x_5))
 none)
 none)
 (J index s0_1 s1_1 s2_1 s3_1 s4_1 s6_1 s7_1 sl_1))
 none)
 (J index s0_1 s1_1 s2_1 s3_1 s4_1 s6_1 s7_1 sl_1)
def F35_R62 : Nat →
 Arr
 [PT.int IntKind.u64, PT.int IntKind.i64, PT.int IntKind.u64, PT.int IntKind.u64, PT.int IntKind.u64,
 PT.int IntKind.u64, PT.int IntKind.u64, PT.int IntKind.u64,
 PT.list
 (CTs.cons (CT.int IntKind.u64)
 (CTs.cons (CT.int IntKind.u64)
 (CTs.cons (CT.int IntKind.u64)
 (CTs.cons (CT.int IntKind.u64) (CTs.cons CT.bool (CTs.cons CT.bool CTs.nil))))))]
 (Option
 ((UInt64 × Int64) ×
 Option
 (Int64 ×
 UInt64 ×
 UInt64 × UInt64 × UInt64 × List (UInt64 × UInt64 × UInt64 × UInt64 × Bool × Bool) × UInt64 × UInt64))) →
 Nat →
 PT.T (PT.int IntKind.u64) →
 UInt64 →
 Int64 →
 UInt64 →
 UInt64 →
 UInt64 →
 UInt64 →
 UInt64 →
 UInt64 →
 List (UInt64 × UInt64 × UInt64 × UInt64 × Bool × Bool) →
 Option
 ((UInt64 × Int64) ×
 Option
 (Int64 ×
 UInt64 ×
 UInt64 ×
 UInt64 ×
 UInt64 ×
 List (UInt64 × UInt64 × UInt64 × UInt64 × Bool × Bool) × UInt64 × UInt64)) := fun (n : Nat)
 (J :
 Arr
 [PT.int IntKind.u64, PT.int IntKind.i64, PT.int IntKind.u64, PT.int IntKind.u64, PT.int IntKind.u64,
 PT.int IntKind.u64, PT.int IntKind.u64, PT.int IntKind.u64,
 PT.list
 (CTs.cons (CT.int IntKind.u64)
 (CTs.cons (CT.int IntKind.u64)
 (CTs.cons (CT.int IntKind.u64)
 (CTs.cons (CT.int IntKind.u64) (CTs.cons CT.bool (CTs.cons CT.bool CTs.nil))))))]
 (Option
 ((UInt64 × Int64) ×
 Option
 (Int64 ×
 UInt64 ×
 UInt64 ×
 UInt64 × UInt64 × List (UInt64 × UInt64 × UInt64 × UInt64 × Bool × Bool) × UInt64 × UInt64)))) =>
 ofixA (62 : Nat)
 [PT.int IntKind.u64, PT.int IntKind.u64, PT.int IntKind.i64, PT.int IntKind.u64, PT.int IntKind.u64,
 PT.int IntKind.u64, PT.int IntKind.u64, PT.int IntKind.u64, PT.int IntKind.u64,
 PT.list
 (CTs.cons (CT.int IntKind.u64)
 (CTs.cons (CT.int IntKind.u64)
 (CTs.cons (CT.int IntKind.u64)
 (CTs.cons (CT.int IntKind.u64) (CTs.cons CT.bool (CTs.cons CT.bool CTs.nil))))))]
 (F35_L62 n J)
def F35_L29 : Nat →
 Arr
 [PT.int IntKind.u64, PT.int IntKind.u64, PT.int IntKind.i64, PT.int IntKind.i64, PT.int IntKind.i64,
 PT.int IntKind.u64, PT.int IntKind.u64, PT.int IntKind.u64, PT.int IntKind.u64, PT.int IntKind.u64,
 PT.int IntKind.u64,
 PT.list
 (CTs.cons (CT.int IntKind.u64)
 (CTs.cons (CT.int IntKind.u64)
 (CTs.cons (CT.int IntKind.u64)
 (CTs.cons (CT.int IntKind.u64) (CTs.cons CT.bool (CTs.cons CT.bool CTs.nil))))))]
 (Option
 ((UInt64 × Int64) ×
 Option
 (Int64 ×
 UInt64 ×
 UInt64 × UInt64 × UInt64 × List (UInt64 × UInt64 × UInt64 × UInt64 × Bool × Bool) × UInt64 × UInt64))) →
 UInt64 →
 UInt64 →
 Int64 →
 Int64 →
 Int64 →
 UInt64 →
 UInt64 →
 UInt64 →
 UInt64 →
 UInt64 →
 UInt64 →
 List (UInt64 × UInt64 × UInt64 × UInt64 × Bool × Bool) →
 Option
 ((UInt64 × Int64) ×
 Option
 (Int64 ×
 UInt64 ×
 UInt64 ×
 UInt64 ×
 UInt64 ×
 List (UInt64 × UInt64 × UInt64 × UInt64 × Bool × Bool) × UInt64 × UInt64)) := fun (n : Nat)
 (rec :
 Arr
 [PT.int IntKind.u64, PT.int IntKind.u64, PT.int IntKind.i64, PT.int IntKind.i64, PT.int IntKind.i64,
 PT.int IntKind.u64, PT.int IntKind.u64, PT.int IntKind.u64, PT.int IntKind.u64, PT.int IntKind.u64,
 PT.int IntKind.u64,
 PT.list
 (CTs.cons (CT.int IntKind.u64)
 (CTs.cons (CT.int IntKind.u64)
 (CTs.cons (CT.int IntKind.u64)
 (CTs.cons (CT.int IntKind.u64) (CTs.cons CT.bool (CTs.cons CT.bool CTs.nil))))))]
 (Option
 ((UInt64 × Int64) ×
 Option
 (Int64 ×
 UInt64 ×
 UInt64 ×
 UInt64 × UInt64 × List (UInt64 × UInt64 × UInt64 × UInt64 × Bool × Bool) × UInt64 × UInt64))))
 (cum bits : UInt64) (t t_1 s0 : Int64) (s1 s2 s3 s4 s6 s7 : UInt64)
 (sl : List (UInt64 × UInt64 × UInt64 × UInt64 × Bool × Bool)) =>
 oite (decide (t_1 < t))
 (oite (decide ((0 : Int) ≤ Int64.toInt t_1) && Nat.blt (Int.toNat (Int64.toInt t_1)) (List.length sl))
 (obind sl[Int.toNat (Int64.toInt t_1)]? fun (x_2 : UInt64 × UInt64 × UInt64 × UInt64 × Bool × Bool) =>
 oite (decide (Prod.fst x_2 ≤ cum))
 (obind sl[Int.toNat (Int64.toInt t_1)]? fun (x_3 : UInt64 × UInt64 × UInt64 × UInt64 × Bool × Bool) =>
 rec cum bits t (t_1 + (1 : Int64)) s0 s1 s2 s3 s4 s6 s7
 (List.set sl (Int.toNat (Int64.toInt t_1))
 (Prod.fst x_3, Prod.fst (Prod.snd x_3), Prod.fst (Prod.snd (Prod.snd x_3)),
 Prod.fst (Prod.snd (Prod.snd (Prod.snd x_3))),
 Prod.fst (Prod.snd (Prod.snd (Prod.snd (Prod.snd x_3)))), true)))
 (obind sl[Int.toNat (Int64.toInt t_1)]? fun (x_3 : UInt64 × UInt64 × UInt64 × UInt64 × Bool × Bool) =>
 oite (decide (cum + (2 : UInt64) ≤ Prod.fst x_3))
 (obind sl[Int.toNat (Int64.toInt t_1)]? fun (x_4 : UInt64 × UInt64 × UInt64 × UInt64 × Bool × Bool) =>
 oite (decide (Prod.fst x_4 - cum - (2 : UInt64) < (64 : UInt64)))
 (obind sl[Int.toNat (Int64.toInt t_1)]? fun (x_5 : UInt64 × UInt64 × UInt64 × UInt64 × Bool × Bool) =>
 oite
 (decide
 (IK.shr IntKind.u64 bits ↑(UInt64.toNat (Prod.fst x_5 - cum - (2 : UInt64))) &&& (1 : UInt64) =
 (1 : UInt64)))
 (obind sl[Int.toNat (Int64.toInt t_1)]?
 fun (x_6 : UInt64 × UInt64 × UInt64 × UInt64 × Bool × Bool) =>
 rec cum bits t (t_1 + (1 : Int64)) s0 s1 s2 s3 s4 s6 s7
 (List.set sl (Int.toNat (Int64.toInt t_1))
 (Prod.fst x_6, Prod.fst (Prod.snd x_6), Prod.fst (Prod.snd (Prod.snd x_6)),
 Prod.fst (Prod.snd (Prod.snd (Prod.snd x_6))),
 Prod.fst (Prod.snd (Prod.snd (Prod.snd (Prod.snd x_6)))), true)))
 (rec cum bits t (t_1 + (1 : Int64)) s0 s1 s2 s3 s4 s6 s7 sl))
 (rec cum bits t (t_1 + (1 : Int64)) s0 s1 s2 s3 s4 s6 s7 sl))
 (rec cum bits t (t_1 + (1 : Int64)) s0 s1 s2 s3 s4 s6 s7 sl)))
 none)
 (ojoinA (31 : Nat)
 [PT.int IntKind.u64, PT.int IntKind.i64, PT.int IntKind.u64, PT.int IntKind.u64, PT.int IntKind.u64,
 PT.int IntKind.u64, PT.int IntKind.u64, PT.int IntKind.u64,
 PT.list
 (CTs.cons (CT.int IntKind.u64)
 (CTs.cons (CT.int IntKind.u64)
 (CTs.cons (CT.int IntKind.u64)
 (CTs.cons (CT.int IntKind.u64) (CTs.cons CT.bool (CTs.cons CT.bool CTs.nil))))))]
 (fun
 (J :
 Arr
 [PT.int IntKind.u64, PT.int IntKind.i64, PT.int IntKind.u64, PT.int IntKind.u64, PT.int IntKind.u64,
 PT.int IntKind.u64, PT.int IntKind.u64, PT.int IntKind.u64,
 PT.list
 (CTs.cons (CT.int IntKind.u64)
 (CTs.cons (CT.int IntKind.u64)
 (CTs.cons (CT.int IntKind.u64)
 (CTs.cons (CT.int IntKind.u64) (CTs.cons CT.bool (CTs.cons CT.bool CTs.nil))))))]
 (Option
 ((UInt64 × Int64) ×
 Option
 (Int64 ×
 UInt64 ×
 UInt64 ×
 UInt64 ×
 UInt64 × List (UInt64 × UInt64 × UInt64 × UInt64 × Bool × Bool) × UInt64 × UInt64)))) =>
 F35_R62 n J n cum (0 : UInt64) s0 s1 s2 s3 s4 s6 s7 sl)
 F35_J31)
def F35_R29 : Nat →
 Nat →
 PT.T (PT.int IntKind.u64) →
 UInt64 →
 Int64 →
 Int64 →
 Int64 →
 UInt64 →
 UInt64 →
 UInt64 →
 UInt64 →
 UInt64 →
 UInt64 →
 List (UInt64 × UInt64 × UInt64 × UInt64 × Bool × Bool) →
 Option
 ((UInt64 × Int64) ×
 Option
 (Int64 ×
 UInt64 ×
 UInt64 ×
 UInt64 ×
 UInt64 ×
 List (UInt64 × UInt64 × UInt64 × UInt64 × Bool × Bool) × UInt64 × UInt64)) := fun (n : Nat) =>
 ofixA (29 : Nat)
 [PT.int IntKind.u64, PT.int IntKind.u64, PT.int IntKind.i64, PT.int IntKind.i64, PT.int IntKind.i64,
 PT.int IntKind.u64, PT.int IntKind.u64, PT.int IntKind.u64, PT.int IntKind.u64, PT.int IntKind.u64,
 PT.int IntKind.u64,
 PT.list
 (CTs.cons (CT.int IntKind.u64)
 (CTs.cons (CT.int IntKind.u64)
 (CTs.cons (CT.int IntKind.u64)
 (CTs.cons (CT.int IntKind.u64) (CTs.cons CT.bool (CTs.cons CT.bool CTs.nil))))))]
 (F35_L29 n)
def F35 : Nat →
 Option
 (Int64 ×
 UInt64 ×
 UInt64 × UInt64 × UInt64 × List (UInt64 × UInt64 × UInt64 × UInt64 × Bool × Bool) × UInt64 × UInt64) ×
 UInt64 × UInt64 →
 Option
 ((UInt64 × Int64) ×
 Option
 (Int64 ×
 UInt64 ×
 UInt64 × UInt64 × UInt64 × List (UInt64 × UInt64 × UInt64 × UInt64 × Bool × Bool) × UInt64 × UInt64)) := fun (n : Nat)
 (x :
 Option
 (Int64 ×
 UInt64 ×
 UInt64 × UInt64 × UInt64 × List (UInt64 × UInt64 × UInt64 × UInt64 × Bool × Bool) × UInt64 × UInt64) ×
 UInt64 × UInt64) =>
 oelim (Prod.fst x) (some (((0 : UInt64), (1 : Int64)), none))
 fun
 (x_1 :
 Int64 ×
 UInt64 ×
 UInt64 × UInt64 × UInt64 × List (UInt64 × UInt64 × UInt64 × UInt64 × Bool × Bool) × UInt64 × UInt64) =>
 oite (decide (Prod.fst (Prod.snd (Prod.snd (Prod.snd (Prod.snd x_1)))) ≤ Prod.fst (Prod.snd x)))
 (some
 (((0 : UInt64), (6 : Int64)),
 some
 (Prod.fst x_1, Prod.fst (Prod.snd x_1), Prod.fst (Prod.snd (Prod.snd x_1)),
 Prod.fst (Prod.snd (Prod.snd (Prod.snd x_1))), Prod.fst (Prod.snd (Prod.snd (Prod.snd (Prod.snd x_1)))),
 Prod.fst (Prod.snd (Prod.snd (Prod.snd (Prod.snd (Prod.snd x_1))))),
 Prod.fst (Prod.snd (Prod.snd (Prod.snd (Prod.snd (Prod.snd (Prod.snd x_1)))))),
 Prod.snd (Prod.snd (Prod.snd (Prod.snd (Prod.snd (Prod.snd (Prod.snd x_1)))))))))
 (F35_R29 n n (Prod.fst (Prod.snd x)) (Prod.snd (Prod.snd x))
 (Int64.ofInt ↑(List.length (Prod.fst (Prod.snd (Prod.snd (Prod.snd (Prod.snd (Prod.snd x_1)))))))) (0 : Int64)
 (Prod.fst x_1) (Prod.fst (Prod.snd x_1)) (Prod.fst (Prod.snd (Prod.snd x_1)))
 (Prod.fst (Prod.snd (Prod.snd (Prod.snd x_1)))) (Prod.fst (Prod.snd (Prod.snd (Prod.snd (Prod.snd x_1)))))
 (Prod.fst (Prod.snd (Prod.snd (Prod.snd (Prod.snd (Prod.snd (Prod.snd x_1)))))))
 (Prod.snd (Prod.snd (Prod.snd (Prod.snd (Prod.snd (Prod.snd (Prod.snd x_1)))))))
 (Prod.fst (Prod.snd (Prod.snd (Prod.snd (Prod.snd (Prod.snd x_1)))))))
theorem F35_R62_s (n : Nat) (J : Arr [PT.int IntKind.u64, PT.int IntKind.i64, PT.int IntKind.u64, PT.int IntKind.u64, PT.int IntKind.u64, PT.int IntKind.u64, PT.int IntKind.u64, PT.int IntKind.u64, PT.list (CTs.cons (CT.int IntKind.u64) (CTs.cons (CT.int IntKind.u64) (CTs.cons (CT.int IntKind.u64) (CTs.cons (CT.int IntKind.u64) (CTs.cons CT.bool (CTs.cons CT.bool CTs.nil))))))] (Option ((UInt64 × Int64) × Option (Int64 × UInt64 × UInt64 × UInt64 × UInt64 × List (UInt64 × UInt64 × UInt64 × UInt64 × Bool × Bool) × UInt64 × UInt64)))) (m_ : Nat) : F35_R62 n J (m_ + 1) = F35_L62 n J (F35_R62 n J m_) := rfl
theorem F35_R29_s (n : Nat) (m_ : Nat) : F35_R29 n (m_ + 1) = F35_L29 n (F35_R29 n m_) := rfl
theorem ok35 (n : Nat) : FunOK Try.prog ⟨35, sig35, F35 n⟩ :=
 fun_ok (hints := ⟨[(31, ⟨[(0, .one (.own 0)), (10, .one (.int .u64))], [(0, .cells [.int .i64, .int .u64, .int .u64, .int .u64, .int .u64, .own 3, .int .u64, .int .u64]), (3, .row (.cons (.int .u64) (.cons (.int .u64) (.cons (.int .u64) (.cons (.int .u64) (.cons .bool (.cons .bool .nil)))))))], 4⟩)], [(29, ⟨[(0, .one (.own 0)), (1, .one (.int .u64)), (2, .one (.int .u64)), (25, .one (.int .i64)), (26, .one (.int .i64))], [(0, .cells [.int .i64, .int .u64, .int .u64, .int .u64, .int .u64, .own 3, .int .u64, .int .u64]), (3, .row (.cons (.int .u64) (.cons (.int .u64) (.cons (.int .u64) (.cons (.int .u64) (.cons .bool (.cons .bool .nil)))))))], 4⟩), (62, ⟨[(0, .one (.own 0)), (1, .one (.int .u64)), (10, .one (.int .u64))], [(0, .cells [.int .i64, .int .u64, .int .u64, .int .u64, .int .u64, .own 3, .int .u64, .int .u64]), (3, .row (.cons (.int .u64) (.cons (.int .u64) (.cons (.int .u64) (.cons (.int .u64) (.cons .bool (.cons .bool .nil)))))))], 4⟩)]⟩) (fuel := n) (c := Try.f35.body.getD .skip) (rs := Try.f35.results.toList) tt_ok mix (FsOK.cons (ok51 n) (FsOK.nil)) Try.func35 (by kernel_rfl) (by kernel_rfl) rfl (by kernel_rfl) rfl rfl (by kernel_rfl)
-- (*watchfire/sess.Out).Ack
def sig10 : Sig := ⟨(.cons (.one (.ptr (.cons (.c (.int .u8)) (.cons (.c (.int .u8)) (.cons (.c (.int .i64)) (.cons (.c (.int .u64)) (.cons (.c (.int .u64)) (.cons (.c (.int .u64)) (.cons (.c (.int .u64)) (.cons (.c (.int .u64)) (.cons (.ptr (.cons (.c (.int .i64)) (.cons (.c (.int .u64)) (.cons (.c (.int .u64)) (.cons (.c (.int .u64)) (.cons (.c (.int .u64)) (.cons (.row (.cons (.int .u64) (.cons (.int .u64) (.cons (.int .u64) (.cons (.int .u64) (.cons .bool (.cons .bool .nil))))))) (.cons (.c (.int .u64)) (.cons (.c (.int .u64)) .nil))))))))) .nil))))))))))) (.cons (.agg (.cons (.int .u8) (.cons (.int .u8) (.cons (.int .u8) (.cons (.int .u64) (.cons (.int .u64) (.cons .bool (.cons (.int .u8) (.cons (.int .u64) (.cons (.int .u64) (.cons .str (.cons (.ro (.cons .str (.cons .str .nil))) (.cons (.int .u8) (.cons (.int .u8) (.cons (.int .i64) (.cons (.int .u8) (.cons (.int .u8) (.cons (.int .u64) (.cons (.int .u64) (.cons (.int .u64) (.cons (.int .u64) (.cons (.int .u64) .nil)))))))))))))))))))))) .nil)), (.cons (.one (.c (.int .u64))) (.cons (.one (.c (.int .i64))) .nil))⟩
def F10_J3 : Nat →
 UInt8 →
 UInt8 →
 Int64 →
 UInt64 →
 UInt64 →
 UInt64 →
 UInt64 →
 UInt64 →
 UInt8 →
 UInt8 →
 UInt8 →
 UInt64 →
 UInt64 →
 Bool →
 UInt8 →
 UInt64 →
 UInt64 →
 List UInt8 →
 List (List UInt8 × List UInt8) →
 UInt8 →
 UInt8 →
 Int64 →
 UInt8 →
 UInt8 →
 UInt64 →
 UInt64 →
 UInt64 →
 UInt64 →
 UInt64 →
 Option
 (Int64 ×
 UInt64 ×
 UInt64 ×
 UInt64 ×
 UInt64 ×
 List
 (UInt64 ×
 UInt64 ×
 UInt64 × UInt64 × Bool × Bool) ×
 UInt64 × UInt64) →
 Option
 ((UInt64 × Int64) ×
 Option
 (UInt8 ×
 UInt8 ×
 Int64 ×
 UInt64 ×
 UInt64 ×
 UInt64 ×
 UInt64 ×
 UInt64 ×
 Option
 (Int64 ×
 UInt64 ×
 UInt64 ×
 UInt64 ×
 UInt64 ×
 List
 (UInt64 ×
 UInt64 ×
 UInt64 ×
 UInt64 ×
 Bool ×
 Bool) ×
 UInt64 × UInt64))) := fun (n : Nat) (o0 o1 : UInt8) (o2 : Int64) (o3 o4 o5 o6 o7 : UInt64) (f0 f1 f2 : UInt8) (f3 f4 : UInt64) (f5 : Bool)
 (f6 : UInt8) (f7 f8 : UInt64) (f9 : List UInt8) (f10 : List (List UInt8 × List UInt8)) (f11 f12 : UInt8)
 (f13 : Int64) (f14 f15 : UInt8) (f16 f17 f18 f19 f20 : UInt64)
 (ol :
 Option
 (Int64 ×
 UInt64 ×
 UInt64 × UInt64 × UInt64 × List (UInt64 × UInt64 × UInt64 × UInt64 × Bool × Bool) × UInt64 × UInt64)) =>
 obind (F35 n (ol, f18, f19))
 fun
 (x_1 :
 (UInt64 × Int64) ×
 Option
 (Int64 ×
 UInt64 ×
 UInt64 × UInt64 × UInt64 × List (UInt64 × UInt64 × UInt64 × UInt64 × Bool × Bool) × UInt64 × UInt64)) =>
 some ((Prod.fst (Prod.fst x_1), Prod.snd (Prod.fst x_1)), some (o0, o1, o2, o3, o4, o5, o6, f20, Prod.snd x_1))
def F10 : Nat →
 Option
 (UInt8 ×
 UInt8 ×
 Int64 ×
 UInt64 ×
 UInt64 ×
 UInt64 ×
 UInt64 ×
 UInt64 ×
 Option
 (Int64 ×
 UInt64 ×
 UInt64 ×
 UInt64 ×
 UInt64 × List (UInt64 × UInt64 × UInt64 × UInt64 × Bool × Bool) × UInt64 × UInt64)) ×
 UInt8 ×
 UInt8 ×
 UInt8 ×
 UInt64 ×
 UInt64 ×
 Bool ×
 UInt8 ×
 UInt64 ×
 UInt64 ×
 List UInt8 ×
 List (List UInt8 × List UInt8) ×
 UInt8 × UInt8 × Int64 × UInt8 × UInt8 × UInt64 × UInt64 × UInt64 × UInt64 × UInt64 →
 Option
 ((UInt64 × Int64) ×
 Option
 (UInt8 ×
 UInt8 ×
 Int64 ×
 UInt64 ×
 UInt64 ×
 UInt64 ×
 UInt64 ×
 UInt64 ×
 Option
 (Int64 ×
 UInt64 ×
 UInt64 ×
 UInt64 ×
 UInt64 × List (UInt64 × UInt64 × UInt64 × UInt64 × Bool × Bool) × UInt64 × UInt64))) := fun (n : Nat)
 (x :
 Option
 (UInt8 ×
 UInt8 ×
 Int64 ×
 UInt64 ×
 UInt64 ×
 UInt64 ×
 UInt64 ×
 UInt64 ×
 Option
 (Int64 ×
 UInt64 ×
 UInt64 ×
 UInt64 ×
 UInt64 ×
 List (UInt64 × UInt64 × UInt64 × UInt64 × Bool × Bool) × UInt64 × UInt64)) ×
 UInt8 ×
 UInt8 ×
 UInt8 ×
 UInt64 ×
 UInt64 ×
 Bool ×
 UInt8 ×
 UInt64 ×
 UInt64 ×
 List UInt8 ×
 List (List UInt8 × List UInt8) ×
 UInt8 × UInt8 × Int64 × UInt8 × UInt8 × UInt64 × UInt64 × UInt64 × UInt64 × UInt64) =>
 ojoinA (3 : Nat)
 [PT.int IntKind.u8, PT.int IntKind.u8, PT.int IntKind.i64, PT.int IntKind.u64, PT.int IntKind.u64,
 PT.int IntKind.u64, PT.int IntKind.u64, PT.int IntKind.u64, PT.int IntKind.u8, PT.int IntKind.u8,
 PT.int IntKind.u8, PT.int IntKind.u64, PT.int IntKind.u64, PT.bool, PT.int IntKind.u8, PT.int IntKind.u64,
 PT.int IntKind.u64, PT.bytes, PT.list (CTs.cons CT.str (CTs.cons CT.str CTs.nil)), PT.int IntKind.u8,
 PT.int IntKind.u8, PT.int IntKind.i64, PT.int IntKind.u8, PT.int IntKind.u8, PT.int IntKind.u64,
 PT.int IntKind.u64, PT.int IntKind.u64, PT.int IntKind.u64, PT.int IntKind.u64,
 PT.opt
 (OTs.cons (OT.c (CT.int IntKind.i64))
 (OTs.cons (OT.c (CT.int IntKind.u64))
 (OTs.cons (OT.c (CT.int IntKind.u64))
 (OTs.cons (OT.c (CT.int IntKind.u64))
 (OTs.cons (OT.c (CT.int IntKind.u64))
 (OTs.cons
 (OT.row
 (CTs.cons (CT.int IntKind.u64)
 (CTs.cons (CT.int IntKind.u64)
 (CTs.cons (CT.int IntKind.u64)
 (CTs.cons (CT.int IntKind.u64) (CTs.cons CT.bool (CTs.cons CT.bool CTs.nil)))))))
 (OTs.cons (OT.c (CT.int IntKind.u64)) (OTs.cons (OT.c (CT.int IntKind.u64)) OTs.nil))))))))]
 (fun
 (J :
 Arr
 [PT.int IntKind.u8, PT.int IntKind.u8, PT.int IntKind.i64, PT.int IntKind.u64, PT.int IntKind.u64,
 PT.int IntKind.u64, PT.int IntKind.u64, PT.int IntKind.u64, PT.int IntKind.u8, PT.int IntKind.u8,
 PT.int IntKind.u8, PT.int IntKind.u64, PT.int IntKind.u64, PT.bool, PT.int IntKind.u8, PT.int IntKind.u64,
 PT.int IntKind.u64, PT.bytes, PT.list (CTs.cons CT.str (CTs.cons CT.str CTs.nil)), PT.int IntKind.u8,
 PT.int IntKind.u8, PT.int IntKind.i64, PT.int IntKind.u8, PT.int IntKind.u8, PT.int IntKind.u64,
 PT.int IntKind.u64, PT.int IntKind.u64, PT.int IntKind.u64, PT.int IntKind.u64,
 PT.opt
 (OTs.cons (OT.c (CT.int IntKind.i64))
 (OTs.cons (OT.c (CT.int IntKind.u64))
 (OTs.cons (OT.c (CT.int IntKind.u64))
 (OTs.cons (OT.c (CT.int IntKind.u64))
 (OTs.cons (OT.c (CT.int IntKind.u64))
 (OTs.cons
 (OT.row
 (CTs.cons (CT.int IntKind.u64)
 (CTs.cons (CT.int IntKind.u64)
 (CTs.cons (CT.int IntKind.u64)
 (CTs.cons (CT.int IntKind.u64) (CTs.cons CT.bool (CTs.cons CT.bool CTs.nil)))))))
 (OTs.cons (OT.c (CT.int IntKind.u64)) (OTs.cons (OT.c (CT.int IntKind.u64)) OTs.nil))))))))]
 (Option
 ((UInt64 × Int64) ×
 Option
 (UInt8 ×
 UInt8 ×
 Int64 ×
 UInt64 ×
 UInt64 ×
 UInt64 ×
 UInt64 ×
 UInt64 ×
 Option
 (Int64 ×
 UInt64 ×
 UInt64 ×
 UInt64 ×
 UInt64 ×
 List (UInt64 × UInt64 × UInt64 × UInt64 × Bool × Bool) ×
 UInt64 × UInt64))))) =>
 oelim (Prod.fst x) (some (((0 : UInt64), (1 : Int64)), none))
 fun
 (x_1 :
 UInt8 ×
 UInt8 ×
 Int64 ×
 UInt64 ×
 UInt64 ×
 UInt64 ×
 UInt64 ×
 UInt64 ×
 Option
 (Int64 ×
 UInt64 ×
 UInt64 ×
 UInt64 ×
 UInt64 ×
 List (UInt64 × UInt64 × UInt64 × UInt64 × Bool × Bool) × UInt64 × UInt64)) =>
 oite (!decide (Prod.fst (Prod.snd x) = (2 : UInt8)))
 (some
 (((0 : UInt64), (12 : Int64)),
 some
 (Prod.fst x_1, Prod.fst (Prod.snd x_1), Prod.fst (Prod.snd (Prod.snd x_1)),
 Prod.fst (Prod.snd (Prod.snd (Prod.snd x_1))),
 Prod.fst (Prod.snd (Prod.snd (Prod.snd (Prod.snd x_1)))),
 Prod.fst (Prod.snd (Prod.snd (Prod.snd (Prod.snd (Prod.snd x_1))))),
 Prod.fst (Prod.snd (Prod.snd (Prod.snd (Prod.snd (Prod.snd (Prod.snd x_1)))))),
 Prod.fst (Prod.snd (Prod.snd (Prod.snd (Prod.snd (Prod.snd (Prod.snd (Prod.snd x_1))))))),
 Prod.snd (Prod.snd (Prod.snd (Prod.snd (Prod.snd (Prod.snd (Prod.snd (Prod.snd x_1))))))))))
 (oite (!decide (Prod.fst (Prod.snd (Prod.snd x)) = Prod.fst (Prod.snd x_1)))
 (some
 (((0 : UInt64), (21 : Int64)),
 some
 (Prod.fst x_1, Prod.fst (Prod.snd x_1), Prod.fst (Prod.snd (Prod.snd x_1)),
 Prod.fst (Prod.snd (Prod.snd (Prod.snd x_1))),
 Prod.fst (Prod.snd (Prod.snd (Prod.snd (Prod.snd x_1)))),
 Prod.fst (Prod.snd (Prod.snd (Prod.snd (Prod.snd (Prod.snd x_1))))),
 Prod.fst (Prod.snd (Prod.snd (Prod.snd (Prod.snd (Prod.snd (Prod.snd x_1)))))),
 Prod.fst (Prod.snd (Prod.snd (Prod.snd (Prod.snd (Prod.snd (Prod.snd (Prod.snd x_1))))))),
 Prod.snd (Prod.snd (Prod.snd (Prod.snd (Prod.snd (Prod.snd (Prod.snd (Prod.snd x_1))))))))))
 (oite (!decide (Prod.fst (Prod.snd (Prod.snd (Prod.snd x))) = Prod.fst x_1))
 (some
 (((0 : UInt64), (21 : Int64)),
 some
 (Prod.fst x_1, Prod.fst (Prod.snd x_1), Prod.fst (Prod.snd (Prod.snd x_1)),
 Prod.fst (Prod.snd (Prod.snd (Prod.snd x_1))),
 Prod.fst (Prod.snd (Prod.snd (Prod.snd (Prod.snd x_1)))),
 Prod.fst (Prod.snd (Prod.snd (Prod.snd (Prod.snd (Prod.snd x_1))))),
 Prod.fst (Prod.snd (Prod.snd (Prod.snd (Prod.snd (Prod.snd (Prod.snd x_1)))))),
 Prod.fst (Prod.snd (Prod.snd (Prod.snd (Prod.snd (Prod.snd (Prod.snd (Prod.snd x_1))))))),
 Prod.snd (Prod.snd (Prod.snd (Prod.snd (Prod.snd (Prod.snd (Prod.snd (Prod.snd x_1))))))))))
 (obind
 (F11 n
 (some
 (Prod.fst x_1, Prod.fst (Prod.snd x_1), Prod.fst (Prod.snd (Prod.snd x_1)),
 Prod.fst (Prod.snd (Prod.snd (Prod.snd x_1))),
 Prod.fst (Prod.snd (Prod.snd (Prod.snd (Prod.snd x_1)))),
 Prod.fst (Prod.snd (Prod.snd (Prod.snd (Prod.snd (Prod.snd x_1))))),
 Prod.fst (Prod.snd (Prod.snd (Prod.snd (Prod.snd (Prod.snd (Prod.snd x_1)))))),
 Prod.fst (Prod.snd (Prod.snd (Prod.snd (Prod.snd (Prod.snd (Prod.snd (Prod.snd x_1))))))),
 Prod.snd (Prod.snd (Prod.snd (Prod.snd (Prod.snd (Prod.snd (Prod.snd (Prod.snd x_1))))))))))
 fun
 (x_2 :
 UInt64 ×
 Option
 (UInt8 ×
 UInt8 ×
 Int64 ×
 UInt64 ×
 UInt64 ×
 UInt64 ×
 UInt64 ×
 UInt64 ×
 Option
 (Int64 ×
 UInt64 ×
 UInt64 ×
 UInt64 ×
 UInt64 ×
 List (UInt64 × UInt64 × UInt64 × UInt64 × Bool × Bool) ×
 UInt64 × UInt64))) =>
 oite (!decide (Prod.fst (Prod.snd (Prod.snd (Prod.snd (Prod.snd x)))) = Prod.fst x_2))
 (some (((0 : UInt64), (17 : Int64)), Prod.snd x_2))
 (obind (Prod.snd x_2)
 fun
 (x_3 :
 UInt8 ×
 UInt8 ×
 Int64 ×
 UInt64 ×
 UInt64 ×
 UInt64 ×
 UInt64 ×
 UInt64 ×
 Option
 (Int64 ×
 UInt64 ×
 UInt64 ×
 UInt64 ×
 UInt64 ×
 List (UInt64 × UInt64 × UInt64 × UInt64 × Bool × Bool) ×
 UInt64 × UInt64)) =>
 oite
 (decide
 (Prod.snd
 (Prod.snd
 (Prod.snd
 (Prod.snd
 (Prod.snd
 (Prod.snd
 (Prod.snd
 (Prod.snd
 (Prod.snd
 (Prod.snd
 (Prod.snd
 (Prod.snd
 (Prod.snd
 (Prod.snd
 (Prod.snd
 (Prod.snd
 (Prod.snd
 (Prod.snd
 (Prod.snd (Prod.snd (Prod.snd x)))))))))))))))))))) <
 Prod.fst (Prod.snd (Prod.snd (Prod.snd (Prod.snd (Prod.snd (Prod.snd (Prod.snd x_3)))))))))
 (some
 (((0 : UInt64), (17 : Int64)),
 some
 (Prod.fst x_3, Prod.fst (Prod.snd x_3), Prod.fst (Prod.snd (Prod.snd x_3)),
 Prod.fst (Prod.snd (Prod.snd (Prod.snd x_3))),
 Prod.fst (Prod.snd (Prod.snd (Prod.snd (Prod.snd x_3)))),
 Prod.fst (Prod.snd (Prod.snd (Prod.snd (Prod.snd (Prod.snd x_3))))),
 Prod.fst (Prod.snd (Prod.snd (Prod.snd (Prod.snd (Prod.snd (Prod.snd x_3)))))),
 Prod.fst (Prod.snd (Prod.snd (Prod.snd (Prod.snd (Prod.snd (Prod.snd (Prod.snd x_3))))))),
 Prod.snd
 (Prod.snd (Prod.snd (Prod.snd (Prod.snd (Prod.snd (Prod.snd (Prod.snd x_3))))))))))
 (oite
 (!decide
 (Prod.fst (Prod.snd (Prod.snd (Prod.snd (Prod.snd (Prod.snd (Prod.snd (Prod.snd x_3))))))) =
 (0 : UInt64)))
 (oite
 (decide
 (Prod.fst (Prod.snd (Prod.snd (Prod.snd (Prod.snd (Prod.snd (Prod.snd (Prod.snd x_3))))))) <
 Prod.snd
 (Prod.snd
 (Prod.snd
 (Prod.snd
 (Prod.snd
 (Prod.snd
 (Prod.snd
 (Prod.snd
 (Prod.snd
 (Prod.snd
 (Prod.snd
 (Prod.snd
 (Prod.snd
 (Prod.snd
 (Prod.snd
 (Prod.snd
 (Prod.snd
 (Prod.snd
 (Prod.snd (Prod.snd (Prod.snd x))))))))))))))))))))))
 (obind
 (F18 n
 (some
 (Prod.fst x_3, Prod.fst (Prod.snd x_3), Prod.fst (Prod.snd (Prod.snd x_3)),
 Prod.fst (Prod.snd (Prod.snd (Prod.snd x_3))),
 Prod.fst (Prod.snd (Prod.snd (Prod.snd (Prod.snd x_3)))),
 Prod.fst (Prod.snd (Prod.snd (Prod.snd (Prod.snd (Prod.snd x_3))))),
 Prod.fst (Prod.snd (Prod.snd (Prod.snd (Prod.snd (Prod.snd (Prod.snd x_3)))))),
 Prod.snd
 (Prod.snd
 (Prod.snd
 (Prod.snd
 (Prod.snd
 (Prod.snd
 (Prod.snd
 (Prod.snd
 (Prod.snd
 (Prod.snd
 (Prod.snd
 (Prod.snd
 (Prod.snd
 (Prod.snd
 (Prod.snd
 (Prod.snd
 (Prod.snd
 (Prod.snd
 (Prod.snd
 (Prod.snd (Prod.snd x)))))))))))))))))))),
 Prod.snd
 (Prod.snd (Prod.snd (Prod.snd (Prod.snd (Prod.snd (Prod.snd (Prod.snd x_3))))))))))
 fun
 (x_4 :
 Int64 ×
 Option
 (UInt8 ×
 UInt8 ×
 Int64 ×
 UInt64 ×
 UInt64 ×
 UInt64 ×
 UInt64 ×
 UInt64 ×
 Option
 (Int64 ×
 UInt64 ×
 UInt64 ×
 UInt64 ×
 UInt64 ×
 List (UInt64 × UInt64 × UInt64 × UInt64 × Bool × Bool) ×
 UInt64 × UInt64))) =>
 oite (!decide (Prod.fst x_4 = (0 : Int64)))
 (some (((0 : UInt64), Prod.fst x_4), Prod.snd x_4))
 (some (((0 : UInt64), (18 : Int64)), Prod.snd x_4)))
 (J (Prod.fst x_3) (Prod.fst (Prod.snd x_3)) (Prod.fst (Prod.snd (Prod.snd x_3)))
 (Prod.fst (Prod.snd (Prod.snd (Prod.snd x_3))))
 (Prod.fst (Prod.snd (Prod.snd (Prod.snd (Prod.snd x_3)))))
 (Prod.fst (Prod.snd (Prod.snd (Prod.snd (Prod.snd (Prod.snd x_3))))))
 (Prod.fst (Prod.snd (Prod.snd (Prod.snd (Prod.snd (Prod.snd (Prod.snd x_3)))))))
 (Prod.fst (Prod.snd (Prod.snd (Prod.snd (Prod.snd (Prod.snd (Prod.snd (Prod.snd x_3))))))))
 (Prod.fst (Prod.snd x)) (Prod.fst (Prod.snd (Prod.snd x)))
 (Prod.fst (Prod.snd (Prod.snd (Prod.snd x))))
 (Prod.fst (Prod.snd (Prod.snd (Prod.snd (Prod.snd x)))))
 (Prod.fst (Prod.snd (Prod.snd (Prod.snd (Prod.snd (Prod.snd x))))))
 (Prod.fst (Prod.snd (Prod.snd (Prod.snd (Prod.snd (Prod.snd (Prod.snd x)))))))
 (Prod.fst (Prod.snd (Prod.snd (Prod.snd (Prod.snd (Prod.snd (Prod.snd (Prod.snd x))))))))
 (Prod.fst
 (Prod.snd (Prod.snd (Prod.snd (Prod.snd (Prod.snd (Prod.snd (Prod.snd (Prod.snd x)))))))))
 (Prod.fst
 (Prod.snd
 (Prod.snd
 (Prod.snd (Prod.snd (Prod.snd (Prod.snd (Prod.snd (Prod.snd (Prod.snd x))))))))))
 (Prod.fst
 (Prod.snd
 (Prod.snd
 (Prod.snd
 (Prod.snd (Prod.snd (Prod.snd (Prod.snd (Prod.snd (Prod.snd (Prod.snd x)))))))))))
 (Prod.fst
 (Prod.snd
 (Prod.snd
 (Prod.snd
 (Prod.snd
 (Prod.snd
 (Prod.snd (Prod.snd (Prod.snd (Prod.snd (Prod.snd (Prod.snd x))))))))))))
 (Prod.fst
 (Prod.snd
 (Prod.snd
 (Prod.snd
 (Prod.snd
 (Prod.snd
 (Prod.snd
 (Prod.snd (Prod.snd (Prod.snd (Prod.snd (Prod.snd (Prod.snd x)))))))))))))
 (Prod.fst
 (Prod.snd
 (Prod.snd
 (Prod.snd
 (Prod.snd
 (Prod.snd
 (Prod.snd
 (Prod.snd
 (Prod.snd (Prod.snd (Prod.snd (Prod.snd (Prod.snd (Prod.snd x))))))))))))))
 (Prod.fst
 (Prod.snd
 (Prod.snd
 (Prod.snd
 (Prod.snd
 (Prod.snd
 (Prod.snd
 (Prod.snd
 (Prod.snd
 (Prod.snd
 (Prod.snd (Prod.snd (Prod.snd (Prod.snd (Prod.snd x)))))))))))))))
 (Prod.fst
 (Prod.snd
 (Prod.snd
 (Prod.snd
 (Prod.snd
 (Prod.snd
 (Prod.snd
 (Prod.snd
 (Prod.snd
 (Prod.snd
 (Prod.snd
 (Prod.snd (Prod.snd (Prod.snd (Prod.snd (Prod.snd x))))))))))))))))
 (Prod.fst
 (Prod.snd
 (Prod.snd
 (Prod.snd
 (Prod.snd
 (Prod.snd
 (Prod.snd
 (Prod.snd
 (Prod.snd
 (Prod.snd
 (Prod.snd
 (Prod.snd
 (Prod.snd (Prod.snd (Prod.snd (Prod.snd (Prod.snd x)))))))))))))))))
 (Prod.fst
 (Prod.snd
 (Prod.snd
 (Prod.snd
 (Prod.snd
 (Prod.snd
 (Prod.snd
 (Prod.snd
 (Prod.snd
 (Prod.snd
 (Prod.snd
 (Prod.snd
 (Prod.snd
 (Prod.snd
 (Prod.snd (Prod.snd (Prod.snd (Prod.snd x))))))))))))))))))
 (Prod.fst
 (Prod.snd
 (Prod.snd
 (Prod.snd
 (Prod.snd
 (Prod.snd
 (Prod.snd
 (Prod.snd
 (Prod.snd
 (Prod.snd
 (Prod.snd
 (Prod.snd
 (Prod.snd
 (Prod.snd
 (Prod.snd
 (Prod.snd (Prod.snd (Prod.snd (Prod.snd x)))))))))))))))))))
 (Prod.fst
 (Prod.snd
 (Prod.snd
 (Prod.snd
 (Prod.snd
 (Prod.snd
 (Prod.snd
 (Prod.snd
 (Prod.snd
 (Prod.snd
 (Prod.snd
 (Prod.snd
 (Prod.snd
 (Prod.snd
 (Prod.snd
 (Prod.snd
 (Prod.snd
 (Prod.snd (Prod.snd (Prod.snd x))))))))))))))))))))
 (Prod.fst
 (Prod.snd
 (Prod.snd
 (Prod.snd
 (Prod.snd
 (Prod.snd
 (Prod.snd
 (Prod.snd
 (Prod.snd
 (Prod.snd
 (Prod.snd
 (Prod.snd
 (Prod.snd
 (Prod.snd
 (Prod.snd
 (Prod.snd
 (Prod.snd
 (Prod.snd
 (Prod.snd (Prod.snd (Prod.snd x)))))))))))))))))))))
 (Prod.snd
 (Prod.snd
 (Prod.snd
 (Prod.snd
 (Prod.snd
 (Prod.snd
 (Prod.snd
 (Prod.snd
 (Prod.snd
 (Prod.snd
 (Prod.snd
 (Prod.snd
 (Prod.snd
 (Prod.snd
 (Prod.snd
 (Prod.snd
 (Prod.snd
 (Prod.snd
 (Prod.snd (Prod.snd (Prod.snd x)))))))))))))))))))))
 (Prod.snd
 (Prod.snd (Prod.snd (Prod.snd (Prod.snd (Prod.snd (Prod.snd (Prod.snd x_3))))))))))
 (J (Prod.fst x_3) (Prod.fst (Prod.snd x_3)) (Prod.fst (Prod.snd (Prod.snd x_3)))
 (Prod.fst (Prod.snd (Prod.snd (Prod.snd x_3))))
 (Prod.fst (Prod.snd (Prod.snd (Prod.snd (Prod.snd x_3)))))
 (Prod.fst (Prod.snd (Prod.snd (Prod.snd (Prod.snd (Prod.snd x_3))))))
 (Prod.fst (Prod.snd (Prod.snd (Prod.snd (Prod.snd (Prod.snd (Prod.snd x_3)))))))
 (Prod.fst (Prod.snd (Prod.snd (Prod.snd (Prod.snd (Prod.snd (Prod.snd (Prod.snd x_3))))))))
 (Prod.fst (Prod.snd x)) (Prod.fst (Prod.snd (Prod.snd x)))
 (Prod.fst (Prod.snd (Prod.snd (Prod.snd x))))
 (Prod.fst (Prod.snd (Prod.snd (Prod.snd (Prod.snd x)))))
 (Prod.fst (Prod.snd (Prod.snd (Prod.snd (Prod.snd (Prod.snd x))))))
 (Prod.fst (Prod.snd (Prod.snd (Prod.snd (Prod.snd (Prod.snd (Prod.snd x)))))))
 (Prod.fst (Prod.snd (Prod.snd (Prod.snd (Prod.snd (Prod.snd (Prod.snd (Prod.snd x))))))))
 (Prod.fst
 (Prod.snd (Prod.snd (Prod.snd (Prod.snd (Prod.snd (Prod.snd (Prod.snd (Prod.snd x)))))))))
 (Prod.fst
 (Prod.snd
 (Prod.snd
 (Prod.snd (Prod.snd (Prod.snd (Prod.snd (Prod.snd (Prod.snd (Prod.snd x))))))))))
 (Prod.fst
 (Prod.snd
 (Prod.snd
 (Prod.snd
 (Prod.snd (Prod.snd (Prod.snd (Prod.snd (Prod.snd (Prod.snd (Prod.snd x)))))))))))
 (Prod.fst
 (Prod.snd
 (Prod.snd
 (Prod.snd
 (Prod.snd
 (Prod.snd (Prod.snd (Prod.snd (Prod.snd (Prod.snd (Prod.snd (Prod.snd x))))))))))))
 (Prod.fst
 (Prod.snd
 (Prod.snd
 (Prod.snd
 (Prod.snd
 (Prod.snd
 (Prod.snd
 (Prod.snd (Prod.snd (Prod.snd (Prod.snd (Prod.snd (Prod.snd x)))))))))))))
 (Prod.fst
 (Prod.snd
 (Prod.snd
 (Prod.snd
 (Prod.snd
 (Prod.snd
 (Prod.snd
 (Prod.snd
 (Prod.snd (Prod.snd (Prod.snd (Prod.snd (Prod.snd (Prod.snd x))))))))))))))
 (Prod.fst
 (Prod.snd
 (Prod.snd
 (Prod.snd
 (Prod.snd
 (Prod.snd
 (Prod.snd
 (Prod.snd
 (Prod.snd
 (Prod.snd (Prod.snd (Prod.snd (Prod.snd (Prod.snd (Prod.snd x)))))))))))))))
 (Prod.fst
 (Prod.snd
 (Prod.snd
 (Prod.snd
 (Prod.snd
 (Prod.snd
 (Prod.snd
 (Prod.snd
 (Prod.snd
 (Prod.snd
 (Prod.snd
 (Prod.snd (Prod.snd (Prod.snd (Prod.snd (Prod.snd x))))))))))))))))
 (Prod.fst
 (Prod.snd
 (Prod.snd
 (Prod.snd
 (Prod.snd
 (Prod.snd
 (Prod.snd
 (Prod.snd
 (Prod.snd
 (Prod.snd
 (Prod.snd
 (Prod.snd
 (Prod.snd (Prod.snd (Prod.snd (Prod.snd (Prod.snd x)))))))))))))))))
 (Prod.fst
 (Prod.snd
 (Prod.snd
 (Prod.snd
 (Prod.snd
 (Prod.snd
 (Prod.snd
 (Prod.snd
 (Prod.snd
 (Prod.snd
 (Prod.snd
 (Prod.snd
 (Prod.snd
 (Prod.snd
 (Prod.snd (Prod.snd (Prod.snd (Prod.snd x))))))))))))))))))
 (Prod.fst
 (Prod.snd
 (Prod.snd
 (Prod.snd
 (Prod.snd
 (Prod.snd
 (Prod.snd
 (Prod.snd
 (Prod.snd
 (Prod.snd
 (Prod.snd
 (Prod.snd
 (Prod.snd
 (Prod.snd
 (Prod.snd
 (Prod.snd (Prod.snd (Prod.snd (Prod.snd x)))))))))))))))))))
 (Prod.fst
 (Prod.snd
 (Prod.snd
 (Prod.snd
 (Prod.snd
 (Prod.snd
 (Prod.snd
 (Prod.snd
 (Prod.snd
 (Prod.snd
 (Prod.snd
 (Prod.snd
 (Prod.snd
 (Prod.snd
 (Prod.snd
 (Prod.snd
 (Prod.snd (Prod.snd (Prod.snd (Prod.snd x))))))))))))))))))))
 (Prod.fst
 (Prod.snd
 (Prod.snd
 (Prod.snd
 (Prod.snd
 (Prod.snd
 (Prod.snd
 (Prod.snd
 (Prod.snd
 (Prod.snd
 (Prod.snd
 (Prod.snd
 (Prod.snd
 (Prod.snd
 (Prod.snd
 (Prod.snd
 (Prod.snd
 (Prod.snd
 (Prod.snd (Prod.snd (Prod.snd x)))))))))))))))))))))
 (Prod.snd
 (Prod.snd
 (Prod.snd
 (Prod.snd
 (Prod.snd
 (Prod.snd
 (Prod.snd
 (Prod.snd
 (Prod.snd
 (Prod.snd
 (Prod.snd
 (Prod.snd
 (Prod.snd
 (Prod.snd
 (Prod.snd
 (Prod.snd
 (Prod.snd
 (Prod.snd
 (Prod.snd (Prod.snd (Prod.snd x)))))))))))))))))))))
 (Prod.snd
 (Prod.snd (Prod.snd (Prod.snd (Prod.snd (Prod.snd (Prod.snd (Prod.snd x_3)))))))))))))))
 (F10_J3 n)
theorem ok10 (n : Nat) : FunOK Try.prog ⟨10, sig10, F10 n⟩ :=
 fun_ok (hints := ⟨[(3, ⟨[(0, .one (.own 0)), (3, .one (.own 2))], [(0, .cells [.int .u8, .int .u8, .int .i64, .int .u64, .int .u64, .int .u64, .int .u64, .int .u64, .own 3]), (2, .cells [.int .u8, .int .u8, .int .u8, .int .u64, .int .u64, .bool, .int .u8, .int .u64, .int .u64, .str, .ro (.cons .str (.cons .str .nil)), .int .u8, .int .u8, .int .i64, .int .u8, .int .u8, .int .u64, .int .u64, .int .u64, .int .u64, .int .u64]), (3, .fold (.cons (.c (.int .i64)) (.cons (.c (.int .u64)) (.cons (.c (.int .u64)) (.cons (.c (.int .u64)) (.cons (.c (.int .u64)) (.cons (.row (.cons (.int .u64) (.cons (.int .u64) (.cons (.int .u64) (.cons (.int .u64) (.cons .bool (.cons .bool .nil))))))) (.cons (.c (.int .u64)) (.cons (.c (.int .u64)) .nil)))))))))], 4⟩)], []⟩) (fuel := n) (c := Try.f10.body.getD .skip) (rs := Try.f10.results.toList) tt_ok mix (FsOK.cons (ok11 n) (FsOK.cons (ok18 n) (FsOK.cons (ok35 n) (FsOK.nil)))) Try.func10 (by kernel_rfl) (by kernel_rfl) rfl (by kernel_rfl) rfl rfl (by kernel_rfl)
-- watchfire/recv.New
def sig13 : Sig := ⟨(.cons (.one (.c (.int .i64))) .nil), (.cons (.one (.ptr (.cons (.c (.int .i64)) (.cons (.c (.int .u64)) (.cons (.map (.one (.int .u64)) (.agg (.cons .bool (.cons (.int .u8) (.cons (.int .u64) (.cons (.int .u64) (.cons .str (.cons (.ro (.cons .str (.cons .str .nil))) (.cons (.int .u8) (.cons (.int .u8) (.cons (.int .i64) (.cons (.int .u8) (.cons (.int .u8) (.cons (.int .u64) (.cons (.int .u64) .nil))))))))))))))) (.cons (.c (.int .u64)) .nil)))))) (.cons (.one (.c (.int .i64))) .nil))⟩
def F13 : Nat →
 Int64 →
 Option
 ((Option
 (Int64 ×
 UInt64 ×
 List
 (UInt64 ×
 Bool ×
 UInt8 ×
 UInt64 ×
 UInt64 ×
 List UInt8 ×
 List (List UInt8 × List UInt8) ×
 UInt8 × UInt8 × Int64 × UInt8 × UInt8 × UInt64 × UInt64) ×
 UInt64) ×
 Int64) ×
 Unit) := fun (n : Nat) (x : Int64) =>
 oite (decide (x < (1 : Int64))) (some ((none, (19 : Int64)), ()))
 (oite (decide ((64 : Int64) < x)) (some ((none, (19 : Int64)), ()))
 (some ((some (x, (1 : UInt64), [], (0 : UInt64)), (0 : Int64)), ())))
theorem ok13 (n : Nat) : FunOK Try.prog ⟨13, sig13, F13 n⟩ :=
 fun_ok (hints := ⟨[], []⟩) (fuel := n) (c := Try.f13.body.getD .skip) (rs := Try.f13.results.toList) tt_ok mix (FsOK.nil) Try.func13 (by kernel_rfl) (by kernel_rfl) rfl (by kernel_rfl) rfl rfl (by kernel_rfl)
-- watchfire/sess.NewIn
def sig14 : Sig := ⟨(.cons (.one (.c (.int .u8))) (.cons (.one (.c (.int .u8))) (.cons (.one (.c (.int .u64))) (.cons (.one (.c (.int .i64))) .nil)))), (.cons (.one (.ptr (.cons (.c (.int .u8)) (.cons (.c (.int .u8)) (.cons (.c (.int .i64)) (.cons (.c (.int .u64)) (.cons (.c (.int .u64)) (.cons (.ptr (.cons (.c (.int .i64)) (.cons (.c (.int .u64)) (.cons (.map (.one (.int .u64)) (.agg (.cons .bool (.cons (.int .u8) (.cons (.int .u64) (.cons (.int .u64) (.cons .str (.cons (.ro (.cons .str (.cons .str .nil))) (.cons (.int .u8) (.cons (.int .u8) (.cons (.int .i64) (.cons (.int .u8) (.cons (.int .u8) (.cons (.int .u64) (.cons (.int .u64) .nil))))))))))))))) (.cons (.c (.int .u64)) .nil))))) .nil)))))))) (.cons (.one (.c (.int .i64))) .nil))⟩
def F14 : Nat →
 UInt8 × UInt8 × UInt64 × Int64 →
 Option
 ((Option
 (UInt8 ×
 UInt8 ×
 Int64 ×
 UInt64 ×
 UInt64 ×
 Option
 (Int64 ×
 UInt64 ×
 List
 (UInt64 ×
 Bool ×
 UInt8 ×
 UInt64 ×
 UInt64 ×
 List UInt8 ×
 List (List UInt8 × List UInt8) ×
 UInt8 × UInt8 × Int64 × UInt8 × UInt8 × UInt64 × UInt64) ×
 UInt64)) ×
 Int64) ×
 Unit) := fun (n : Nat) (x : UInt8 × UInt8 × UInt64 × Int64) =>
 oite (decide ((32 : UInt8) ≤ Prod.fst x)) (some ((none, (20 : Int64)), ()))
 (oite (decide ((32 : UInt8) ≤ Prod.fst (Prod.snd x))) (some ((none, (20 : Int64)), ()))
 (oite (decide (Prod.fst x = Prod.fst (Prod.snd x))) (some ((none, (20 : Int64)), ()))
 (oite (decide (Prod.fst (Prod.snd (Prod.snd x)) < (1 : UInt64))) (some ((none, (6 : Int64)), ()))
 (oite (decide ((1048576 : UInt64) ≤ Prod.fst (Prod.snd (Prod.snd x))))
 (some ((none, (6 : Int64)), ()))
 (obind (F13 n (Prod.snd (Prod.snd (Prod.snd x))))
 fun
 (x_1 :
 (Option
 (Int64 ×
 UInt64 ×
 List
 (UInt64 ×
 Bool ×
 UInt8 ×
 UInt64 ×
 UInt64 ×
 List UInt8 ×
 List (List UInt8 × List UInt8) ×
 UInt8 × UInt8 × Int64 × UInt8 × UInt8 × UInt64 × UInt64) ×
 UInt64) ×
 Int64) ×
 Unit) =>
 oite (!decide (Prod.snd (Prod.fst x_1) = (0 : Int64)))
 (some ((none, Prod.snd (Prod.fst x_1)), ()))
 (some
 ((some
 (Prod.fst x, Prod.fst (Prod.snd x), Prod.snd (Prod.snd (Prod.snd x)),
 Prod.fst (Prod.snd (Prod.snd x)), (0 : UInt64), Prod.fst (Prod.fst x_1)),
 (0 : Int64)),
 ())))))))
theorem ok14 (n : Nat) : FunOK Try.prog ⟨14, sig14, F14 n⟩ :=
 fun_ok (hints := ⟨[], []⟩) (fuel := n) (c := Try.f14.body.getD .skip) (rs := Try.f14.results.toList) tt_ok mix (FsOK.cons (ok13 n) (FsOK.nil)) Try.func14 (by kernel_rfl) (by kernel_rfl) rfl (by kernel_rfl) rfl rfl (by kernel_rfl)
-- (*watchfire/recv.Receiver).has
def sig52 : Sig := ⟨(.cons (.one (.ptr (.cons (.c (.int .i64)) (.cons (.c (.int .u64)) (.cons (.map (.one (.int .u64)) (.agg (.cons .bool (.cons (.int .u8) (.cons (.int .u64) (.cons (.int .u64) (.cons .str (.cons (.ro (.cons .str (.cons .str .nil))) (.cons (.int .u8) (.cons (.int .u8) (.cons (.int .i64) (.cons (.int .u8) (.cons (.int .u8) (.cons (.int .u64) (.cons (.int .u64) .nil))))))))))))))) (.cons (.c (.int .u64)) .nil)))))) (.cons (.one (.c (.int .u64))) .nil)), (.cons (.one (.c .bool)) .nil)⟩
def F52 : Nat →
 Option
 (Int64 ×
 UInt64 ×
 List
 (UInt64 ×
 Bool ×
 UInt8 ×
 UInt64 ×
 UInt64 ×
 List UInt8 ×
 List (List UInt8 × List UInt8) × UInt8 × UInt8 × Int64 × UInt8 × UInt8 × UInt64 × UInt64) ×
 UInt64) ×
 UInt64 →
 Option
 (Bool ×
 Option
 (Int64 ×
 UInt64 ×
 List
 (UInt64 ×
 Bool ×
 UInt8 ×
 UInt64 ×
 UInt64 ×
 List UInt8 ×
 List (List UInt8 × List UInt8) ×
 UInt8 × UInt8 × Int64 × UInt8 × UInt8 × UInt64 × UInt64) ×
 UInt64)) := fun (n : Nat)
 (x :
 Option
 (Int64 ×
 UInt64 ×
 List
 (UInt64 ×
 Bool ×
 UInt8 ×
 UInt64 ×
 UInt64 ×
 List UInt8 ×
 List (List UInt8 × List UInt8) ×
 UInt8 × UInt8 × Int64 × UInt8 × UInt8 × UInt64 × UInt64) ×
 UInt64) ×
 UInt64) =>
 obind (Prod.fst x)
 fun
 (x_1 :
 Int64 ×
 UInt64 ×
 List
 (UInt64 ×
 Bool ×
 UInt8 ×
 UInt64 ×
 UInt64 ×
 List UInt8 ×
 List (List UInt8 × List UInt8) × UInt8 × UInt8 × Int64 × UInt8 × UInt8 × UInt64 × UInt64) ×
 UInt64) =>
 some
 (Option.isSome
 (mget (VT.one (CT.int IntKind.u64))
 (VT.agg
 (CTs.cons CT.bool
 (CTs.cons (CT.int IntKind.u8)
 (CTs.cons (CT.int IntKind.u64)
 (CTs.cons (CT.int IntKind.u64)
 (CTs.cons CT.str
 (CTs.cons (CT.ro (CTs.cons CT.str (CTs.cons CT.str CTs.nil)))
 (CTs.cons (CT.int IntKind.u8)
 (CTs.cons (CT.int IntKind.u8)
 (CTs.cons (CT.int IntKind.i64)
 (CTs.cons (CT.int IntKind.u8)
 (CTs.cons (CT.int IntKind.u8)
 (CTs.cons (CT.int IntKind.u64) (CTs.cons (CT.int IntKind.u64) CTs.nil))))))))))))))
 (Prod.snd x) (Prod.fst (Prod.snd (Prod.snd x_1)))),
 some
 (Prod.fst x_1, Prod.fst (Prod.snd x_1), Prod.fst (Prod.snd (Prod.snd x_1)),
 Prod.snd (Prod.snd (Prod.snd x_1))))
theorem ok52 (n : Nat) : FunOK Try.prog ⟨52, sig52, F52 n⟩ :=
 fun_ok (hints := ⟨[], []⟩) (fuel := n) (c := Try.f52.body.getD .skip) (rs := Try.f52.results.toList) tt_ok mix (FsOK.nil) Try.func52 (by kernel_rfl) (by kernel_rfl) rfl (by kernel_rfl) rfl rfl (by kernel_rfl)
-- (*watchfire/recv.Receiver).Ack
def sig36 : Sig := ⟨(.cons (.one (.ptr (.cons (.c (.int .i64)) (.cons (.c (.int .u64)) (.cons (.map (.one (.int .u64)) (.agg (.cons .bool (.cons (.int .u8) (.cons (.int .u64) (.cons (.int .u64) (.cons .str (.cons (.ro (.cons .str (.cons .str .nil))) (.cons (.int .u8) (.cons (.int .u8) (.cons (.int .i64) (.cons (.int .u8) (.cons (.int .u8) (.cons (.int .u64) (.cons (.int .u64) .nil))))))))))))))) (.cons (.c (.int .u64)) .nil)))))) .nil), (.cons (.one (.c (.int .u64))) (.cons (.one (.c (.int .u64))) .nil))⟩
def F36_L29 : Nat →
 Arr
 [PT.int IntKind.u64, PT.int IntKind.u64,
 PT.opt
 (OTs.cons (OT.c (CT.int IntKind.i64))
 (OTs.cons (OT.c (CT.int IntKind.u64))
 (OTs.cons
 (OT.map (VT.one (CT.int IntKind.u64))
 (VT.agg
 (CTs.cons CT.bool
 (CTs.cons (CT.int IntKind.u8)
 (CTs.cons (CT.int IntKind.u64)
 (CTs.cons (CT.int IntKind.u64)
 (CTs.cons CT.str
 (CTs.cons (CT.ro (CTs.cons CT.str (CTs.cons CT.str CTs.nil)))
 (CTs.cons (CT.int IntKind.u8)
 (CTs.cons (CT.int IntKind.u8)
 (CTs.cons (CT.int IntKind.i64)
 (CTs.cons (CT.int IntKind.u8)
 (CTs.cons (CT.int IntKind.u8)
 (CTs.cons (CT.int IntKind.u64)
 (CTs.cons (CT.int IntKind.u64) CTs.nil)))))))))))))))
 (OTs.cons (OT.c (CT.int IntKind.u64)) OTs.nil))))]
 (Option
 ((UInt64 × UInt64) ×
 Option
 (Int64 ×
 UInt64 ×
 List
 (UInt64 ×
 Bool ×
 UInt8 ×
 UInt64 ×
 UInt64 ×
 List UInt8 ×
 List (List UInt8 × List UInt8) ×
 UInt8 × UInt8 × Int64 × UInt8 × UInt8 × UInt64 × UInt64) ×
 UInt64))) →
 UInt64 →
 UInt64 →
 Option
 (Int64 ×
 UInt64 ×
 List
 (UInt64 ×
 Bool ×
 UInt8 ×
 UInt64 ×
 UInt64 ×
 List UInt8 ×
 List (List UInt8 × List UInt8) ×
 UInt8 × UInt8 × Int64 × UInt8 × UInt8 × UInt64 × UInt64) ×
 UInt64) →
 Option
 ((UInt64 × UInt64) ×
 Option
 (Int64 ×
 UInt64 ×
 List
 (UInt64 ×
 Bool ×
 UInt8 ×
 UInt64 ×
 UInt64 ×
 List UInt8 ×
 List (List UInt8 × List UInt8) ×
 UInt8 × UInt8 × Int64 × UInt8 × UInt8 × UInt64 × UInt64) ×
 UInt64)) := fun (n : Nat)
 (rec :
 Arr
 [PT.int IntKind.u64, PT.int IntKind.u64,
 PT.opt
 (OTs.cons (OT.c (CT.int IntKind.i64))
 (OTs.cons (OT.c (CT.int IntKind.u64))
 (OTs.cons
 (OT.map (VT.one (CT.int IntKind.u64))
 (VT.agg
 (CTs.cons CT.bool
 (CTs.cons (CT.int IntKind.u8)
 (CTs.cons (CT.int IntKind.u64)
 (CTs.cons (CT.int IntKind.u64)
 (CTs.cons CT.str
 (CTs.cons (CT.ro (CTs.cons CT.str (CTs.cons CT.str CTs.nil)))
 (CTs.cons (CT.int IntKind.u8)
 (CTs.cons (CT.int IntKind.u8)
 (CTs.cons (CT.int IntKind.i64)
 (CTs.cons (CT.int IntKind.u8)
 (CTs.cons (CT.int IntKind.u8)
 (CTs.cons (CT.int IntKind.u64)
 (CTs.cons (CT.int IntKind.u64) CTs.nil)))))))))))))))
 (OTs.cons (OT.c (CT.int IntKind.u64)) OTs.nil))))]
 (Option
 ((UInt64 × UInt64) ×
 Option
 (Int64 ×
 UInt64 ×
 List
 (UInt64 ×
 Bool ×
 UInt8 ×
 UInt64 ×
 UInt64 ×
 List UInt8 ×
 List (List UInt8 × List UInt8) ×
 UInt8 × UInt8 × Int64 × UInt8 × UInt8 × UInt64 × UInt64) ×
 UInt64))))
 (bits t : UInt64)
 (r :
 Option
 (Int64 ×
 UInt64 ×
 List
 (UInt64 ×
 Bool ×
 UInt8 ×
 UInt64 ×
 UInt64 ×
 List UInt8 ×
 List (List UInt8 × List UInt8) × UInt8 × UInt8 × Int64 × UInt8 × UInt8 × UInt64 × UInt64) ×
 UInt64)) =>
 oite (decide (t < (64 : UInt64)))
 (obind r
 fun
 (x_2 :
 Int64 ×
 UInt64 ×
 List
 (UInt64 ×
 Bool ×
 UInt8 ×
 UInt64 ×
 UInt64 ×
 List UInt8 ×
 List (List UInt8 × List UInt8) ×
 UInt8 × UInt8 × Int64 × UInt8 × UInt8 × UInt64 × UInt64) ×
 UInt64) =>
 obind
 (F52 n
 (some
 (Prod.fst x_2, Prod.fst (Prod.snd x_2), Prod.fst (Prod.snd (Prod.snd x_2)),
 Prod.snd (Prod.snd (Prod.snd x_2))),
 Prod.fst (Prod.snd x_2) + (1 : UInt64) + t))
 fun
 (x_3 :
 Bool ×
 Option
 (Int64 ×
 UInt64 ×
 List
 (UInt64 ×
 Bool ×
 UInt8 ×
 UInt64 ×
 UInt64 ×
 List UInt8 ×
 List (List UInt8 × List UInt8) ×
 UInt8 × UInt8 × Int64 × UInt8 × UInt8 × UInt64 × UInt64) ×
 UInt64)) =>
 oite (Prod.fst x_3)
 (rec (bits ||| IK.shl IntKind.u64 (1 : UInt64) ↑(UInt64.toNat t)) (t + (1 : UInt64)) (Prod.snd x_3))
 (rec bits (t + (1 : UInt64)) (Prod.snd x_3)))
 (obind r
 fun
 (x_2 :
 Int64 ×
 UInt64 ×
 List
 (UInt64 ×
 Bool ×
 UInt8 ×
 UInt64 ×
 UInt64 ×
 List UInt8 ×
 List (List UInt8 × List UInt8) ×
 UInt8 × UInt8 × Int64 × UInt8 × UInt8 × UInt64 × UInt64) ×
 UInt64) =>
 some
 ((Prod.fst (Prod.snd x_2) - (1 : UInt64), bits),
 some
 (Prod.fst x_2, Prod.fst (Prod.snd x_2), Prod.fst (Prod.snd (Prod.snd x_2)),
 Prod.snd (Prod.snd (Prod.snd x_2)))))
def F36_R29 : Nat →
 Nat →
 PT.T (PT.int IntKind.u64) →
 UInt64 →
 Option
 (Int64 ×
 UInt64 ×
 List
 (UInt64 ×
 Bool ×
 UInt8 ×
 UInt64 ×
 UInt64 ×
 List UInt8 ×
 List (List UInt8 × List UInt8) ×
 UInt8 × UInt8 × Int64 × UInt8 × UInt8 × UInt64 × UInt64) ×
 UInt64) →
 Option
 ((UInt64 × UInt64) ×
 Option
 (Int64 ×
 UInt64 ×
 List
 (UInt64 ×
 Bool ×
 UInt8 ×
 UInt64 ×
 UInt64 ×
 List UInt8 ×
 List (List UInt8 × List UInt8) ×
 UInt8 × UInt8 × Int64 × UInt8 × UInt8 × UInt64 × UInt64) ×
 UInt64)) := fun (n : Nat) =>
 ofixA (29 : Nat)
 [PT.int IntKind.u64, PT.int IntKind.u64,
 PT.opt
 (OTs.cons (OT.c (CT.int IntKind.i64))
 (OTs.cons (OT.c (CT.int IntKind.u64))
 (OTs.cons
 (OT.map (VT.one (CT.int IntKind.u64))
 (VT.agg
 (CTs.cons CT.bool
 (CTs.cons (CT.int IntKind.u8)
 (CTs.cons (CT.int IntKind.u64)
 (CTs.cons (CT.int IntKind.u64)
 (CTs.cons CT.str
 (CTs.cons (CT.ro (CTs.cons CT.str (CTs.cons CT.str CTs.nil)))
 (CTs.cons (CT.int IntKind.u8)
 (CTs.cons (CT.int IntKind.u8)
 (CTs.cons (CT.int IntKind.i64)
 (CTs.cons (CT.int IntKind.u8)
 (CTs.cons (CT.int IntKind.u8)
 (CTs.cons (CT.int IntKind.u64)
 (CTs.cons (CT.int IntKind.u64) CTs.nil)))))))))))))))
 (OTs.cons (OT.c (CT.int IntKind.u64)) OTs.nil))))]
 (F36_L29 n)
def F36 : Nat →
 Option
 (Int64 ×
 UInt64 ×
 List
 (UInt64 ×
 Bool ×
 UInt8 ×
 UInt64 ×
 UInt64 ×
 List UInt8 ×
 List (List UInt8 × List UInt8) × UInt8 × UInt8 × Int64 × UInt8 × UInt8 × UInt64 × UInt64) ×
 UInt64) →
 Option
 ((UInt64 × UInt64) ×
 Option
 (Int64 ×
 UInt64 ×
 List
 (UInt64 ×
 Bool ×
 UInt8 ×
 UInt64 ×
 UInt64 ×
 List UInt8 ×
 List (List UInt8 × List UInt8) ×
 UInt8 × UInt8 × Int64 × UInt8 × UInt8 × UInt64 × UInt64) ×
 UInt64)) := fun (n : Nat)
 (x :
 Option
 (Int64 ×
 UInt64 ×
 List
 (UInt64 ×
 Bool ×
 UInt8 ×
 UInt64 ×
 UInt64 ×
 List UInt8 ×
 List (List UInt8 × List UInt8) × UInt8 × UInt8 × Int64 × UInt8 × UInt8 × UInt64 × UInt64) ×
 UInt64)) =>
 oelim x (some (((0 : UInt64), (0 : UInt64)), none))
 fun
 (x_1 :
 Int64 ×
 UInt64 ×
 List
 (UInt64 ×
 Bool ×
 UInt8 ×
 UInt64 ×
 UInt64 ×
 List UInt8 ×
 List (List UInt8 × List UInt8) × UInt8 × UInt8 × Int64 × UInt8 × UInt8 × UInt64 × UInt64) ×
 UInt64) =>
 F36_R29 n n (0 : UInt64) (0 : UInt64)
 (some
 (Prod.fst x_1, Prod.fst (Prod.snd x_1), Prod.fst (Prod.snd (Prod.snd x_1)), Prod.snd (Prod.snd (Prod.snd x_1))))
theorem F36_R29_s (n : Nat) (m_ : Nat) : F36_R29 n (m_ + 1) = F36_L29 n (F36_R29 n m_) := rfl
theorem ok36 (n : Nat) : FunOK Try.prog ⟨36, sig36, F36 n⟩ :=
 fun_ok (hints := ⟨[], [(29, ⟨[(0, .one (.own 0)), (3, .one (.int .u64)), (7, .one (.int .u64))], [(0, .fold (.cons (.c (.int .i64)) (.cons (.c (.int .u64)) (.cons (.map (.one (.int .u64)) (.agg (.cons .bool (.cons (.int .u8) (.cons (.int .u64) (.cons (.int .u64) (.cons .str (.cons (.ro (.cons .str (.cons .str .nil))) (.cons (.int .u8) (.cons (.int .u8) (.cons (.int .i64) (.cons (.int .u8) (.cons (.int .u8) (.cons (.int .u64) (.cons (.int .u64) .nil))))))))))))))) (.cons (.c (.int .u64)) .nil)))))], 1⟩)]⟩) (fuel := n) (c := Try.f36.body.getD .skip) (rs := Try.f36.results.toList) tt_ok mix (FsOK.cons (ok52 n) (FsOK.nil)) Try.func36 (by kernel_rfl) (by kernel_rfl) rfl (by kernel_rfl) rfl rfl (by kernel_rfl)
-- (*watchfire/sess.In).Answer
def sig15 : Sig := ⟨(.cons (.one (.ptr (.cons (.c (.int .u8)) (.cons (.c (.int .u8)) (.cons (.c (.int .i64)) (.cons (.c (.int .u64)) (.cons (.c (.int .u64)) (.cons (.ptr (.cons (.c (.int .i64)) (.cons (.c (.int .u64)) (.cons (.map (.one (.int .u64)) (.agg (.cons .bool (.cons (.int .u8) (.cons (.int .u64) (.cons (.int .u64) (.cons .str (.cons (.ro (.cons .str (.cons .str .nil))) (.cons (.int .u8) (.cons (.int .u8) (.cons (.int .i64) (.cons (.int .u8) (.cons (.int .u8) (.cons (.int .u64) (.cons (.int .u64) .nil))))))))))))))) (.cons (.c (.int .u64)) .nil))))) .nil)))))))) .nil), (.cons (.agg (.cons (.int .u8) (.cons (.int .u8) (.cons (.int .u8) (.cons (.int .u64) (.cons (.int .u64) (.cons .bool (.cons (.int .u8) (.cons (.int .u64) (.cons (.int .u64) (.cons .str (.cons (.ro (.cons .str (.cons .str .nil))) (.cons (.int .u8) (.cons (.int .u8) (.cons (.int .i64) (.cons (.int .u8) (.cons (.int .u8) (.cons (.int .u64) (.cons (.int .u64) (.cons (.int .u64) (.cons (.int .u64) (.cons (.int .u64) .nil)))))))))))))))))))))) (.cons (.one (.c .bool)) .nil))⟩
def F15 : Nat →
 Option
 (UInt8 ×
 UInt8 ×
 Int64 ×
 UInt64 ×
 UInt64 ×
 Option
 (Int64 ×
 UInt64 ×
 List
 (UInt64 ×
 Bool ×
 UInt8 ×
 UInt64 ×
 UInt64 ×
 List UInt8 ×
 List (List UInt8 × List UInt8) ×
 UInt8 × UInt8 × Int64 × UInt8 × UInt8 × UInt64 × UInt64) ×
 UInt64)) →
 Option
 (((UInt8 ×
 UInt8 ×
 UInt8 ×
 UInt64 ×
 UInt64 ×
 Bool ×
 UInt8 ×
 UInt64 ×
 UInt64 ×
 List UInt8 ×
 List (List UInt8 × List UInt8) ×
 UInt8 × UInt8 × Int64 × UInt8 × UInt8 × UInt64 × UInt64 × UInt64 × UInt64 × UInt64) ×
 Bool) ×
 Option
 (UInt8 ×
 UInt8 ×
 Int64 ×
 UInt64 ×
 UInt64 ×
 Option
 (Int64 ×
 UInt64 ×
 List
 (UInt64 ×
 Bool ×
 UInt8 ×
 UInt64 ×
 UInt64 ×
 List UInt8 ×
 List (List UInt8 × List UInt8) ×
 UInt8 × UInt8 × Int64 × UInt8 × UInt8 × UInt64 × UInt64) ×
 UInt64))) := fun (n : Nat)
 (x :
 Option
 (UInt8 ×
 UInt8 ×
 Int64 ×
 UInt64 ×
 UInt64 ×
 Option
 (Int64 ×
 UInt64 ×
 List
 (UInt64 ×
 Bool ×
 UInt8 ×
 UInt64 ×
 UInt64 ×
 List UInt8 ×
 List (List UInt8 × List UInt8) ×
 UInt8 × UInt8 × Int64 × UInt8 × UInt8 × UInt64 × UInt64) ×
 UInt64))) =>
 oelim x
 (some
 ((((0 : UInt8), (0 : UInt8), (0 : UInt8), (0 : UInt64), (0 : UInt64), false, (0 : UInt8), (0 : UInt64),
 (0 : UInt64), [], [], (0 : UInt8), (0 : UInt8), (0 : Int64), (0 : UInt8), (0 : UInt8), (0 : UInt64),
 (0 : UInt64), (0 : UInt64), (0 : UInt64), (0 : UInt64)),
 false),
 none))
 fun
 (x_1 :
 UInt8 ×
 UInt8 ×
 Int64 ×
 UInt64 ×
 UInt64 ×
 Option
 (Int64 ×
 UInt64 ×
 List
 (UInt64 ×
 Bool ×
 UInt8 ×
 UInt64 ×
 UInt64 ×
 List UInt8 ×
 List (List UInt8 × List UInt8) ×
 UInt8 × UInt8 × Int64 × UInt8 × UInt8 × UInt64 × UInt64) ×
 UInt64)) =>
 oite (decide (Prod.fst (Prod.snd (Prod.snd (Prod.snd (Prod.snd x_1)))) = (0 : UInt64)))
 (some
 ((((0 : UInt8), (0 : UInt8), (0 : UInt8), (0 : UInt64), (0 : UInt64), false, (0 : UInt8), (0 : UInt64),
 (0 : UInt64), [], [], (0 : UInt8), (0 : UInt8), (0 : Int64), (0 : UInt8), (0 : UInt8), (0 : UInt64),
 (0 : UInt64), (0 : UInt64), (0 : UInt64), (0 : UInt64)),
 false),
 some
 (Prod.fst x_1, Prod.fst (Prod.snd x_1), Prod.fst (Prod.snd (Prod.snd x_1)),
 Prod.fst (Prod.snd (Prod.snd (Prod.snd x_1))), Prod.fst (Prod.snd (Prod.snd (Prod.snd (Prod.snd x_1)))),
 Prod.snd (Prod.snd (Prod.snd (Prod.snd (Prod.snd x_1)))))))
 (obind (F36 n (Prod.snd (Prod.snd (Prod.snd (Prod.snd (Prod.snd x_1))))))
 fun
 (x_2 :
 (UInt64 × UInt64) ×
 Option
 (Int64 ×
 UInt64 ×
 List
 (UInt64 ×
 Bool ×
 UInt8 ×
 UInt64 ×
 UInt64 ×
 List UInt8 ×
 List (List UInt8 × List UInt8) ×
 UInt8 × UInt8 × Int64 × UInt8 × UInt8 × UInt64 × UInt64) ×
 UInt64)) =>
 some
 ((((2 : UInt8), Prod.fst x_1, Prod.fst (Prod.snd x_1),
 Prod.fst (Prod.snd (Prod.snd (Prod.snd (Prod.snd x_1)))), (0 : UInt64), false, (0 : UInt8),
 (0 : UInt64), (0 : UInt64), [], [], (0 : UInt8), (0 : UInt8), (0 : Int64), (0 : UInt8), (0 : UInt8),
 (0 : UInt64), (0 : UInt64), Prod.fst (Prod.fst x_2), Prod.snd (Prod.fst x_2),
 Prod.fst (Prod.snd (Prod.snd (Prod.snd x_1)))),
 true),
 some
 (Prod.fst x_1, Prod.fst (Prod.snd x_1), Prod.fst (Prod.snd (Prod.snd x_1)),
 Prod.fst (Prod.snd (Prod.snd (Prod.snd x_1))), Prod.fst (Prod.snd (Prod.snd (Prod.snd (Prod.snd x_1)))),
 Prod.snd x_2)))
theorem ok15 (n : Nat) : FunOK Try.prog ⟨15, sig15, F15 n⟩ :=
 fun_ok (hints := ⟨[], []⟩) (fuel := n) (c := Try.f15.body.getD .skip) (rs := Try.f15.results.toList) tt_ok mix (FsOK.cons (ok36 n) (FsOK.nil)) Try.func15 (by kernel_rfl) (by kernel_rfl) rfl (by kernel_rfl) rfl rfl (by kernel_rfl)
-- watchfire/item.number
def sig74 : Sig := ⟨(.cons (.one (.c (.int .u64))) .nil), (.cons (.one (.c .bool)) .nil)⟩
def F74 : Nat → UInt64 → Option (Bool × Unit) := fun (n : Nat) (x : UInt64) => some (decide (x ≤ (1099511627776 : UInt64)), ())
theorem ok74 (n : Nat) : FunOK Try.prog ⟨74, sig74, F74 n⟩ :=
 fun_ok (hints := ⟨[], []⟩) (fuel := n) (c := Try.f74.body.getD .skip) (rs := Try.f74.results.toList) tt_ok mix (FsOK.nil) Try.func74 (by kernel_rfl) (by kernel_rfl) rfl (by kernel_rfl) rfl rfl (by kernel_rfl)
-- watchfire/item.gap
def sig64 : Sig := ⟨(.cons (.agg (.cons (.int .u8) (.cons (.int .u64) (.cons (.int .u64) .nil)))) .nil), (.cons (.one (.c (.int .i64))) .nil)⟩
def F64 : Nat → UInt8 × UInt64 × UInt64 → Option (Int64 × Unit) := fun (n : Nat) (x : UInt8 × UInt64 × UInt64) =>
 oite (decide ((32 : UInt8) ≤ Prod.fst x)) (some ((6 : Int64), ()))
 (oite (decide (Prod.fst (Prod.snd x) < (1 : UInt64))) (some ((6 : Int64), ()))
 (oite (decide (Prod.snd (Prod.snd x) < Prod.fst (Prod.snd x))) (some ((6 : Int64), ()))
 (obind (F74 n (Prod.snd (Prod.snd x))) fun (x_1 : Bool × Unit) =>
 oite (!Prod.fst x_1) (some ((6 : Int64), ())) (some ((0 : Int64), ())))))
theorem ok64 (n : Nat) : FunOK Try.prog ⟨64, sig64, F64 n⟩ :=
 fun_ok (hints := ⟨[], []⟩) (fuel := n) (c := Try.f64.body.getD .skip) (rs := Try.f64.results.toList) tt_ok mix (FsOK.cons (ok74 n) (FsOK.nil)) Try.func64 (by kernel_rfl) (by kernel_rfl) rfl (by kernel_rfl) rfl rfl (by kernel_rfl)
-- watchfire/lab.word
def sig83 : Sig := ⟨(.cons (.one (.c .str)) (.cons (.one (.c (.int .i64))) (.cons (.one (.c .bool)) .nil))), (.cons (.one (.c .bool)) .nil)⟩
def F83_J471 : Arr [PT.bool, PT.bytes, PT.nat] (Option (Bool × Unit)) → Bool → Int32 → Bool → List UInt8 → Nat → Option (Bool × Unit) := fun (rec : Arr [PT.bool, PT.bytes, PT.nat] (Option (Bool × Unit))) (also_1 : Bool) (c : Int32) (t_1 : Bool)
 (t_1_1 : List UInt8) (x_2 : Nat) =>
 oite t_1 (rec also_1 t_1_1 x_2)
 (oite also_1
 (oite (decide ((48 : Int32) ≤ c))
 (oite (decide (c ≤ (57 : Int32))) (rec also_1 t_1_1 x_2)
 (oite (decide (c = (46 : Int32))) (rec also_1 t_1_1 x_2)
 (oite (decide (c = (95 : Int32))) (rec also_1 t_1_1 x_2)
 (oite (decide (c = (45 : Int32))) (rec also_1 t_1_1 x_2) (some (false, ()))))))
 (oite (decide (c = (46 : Int32))) (rec also_1 t_1_1 x_2)
 (oite (decide (c = (95 : Int32))) (rec also_1 t_1_1 x_2)
 (oite (decide (c = (45 : Int32))) (rec also_1 t_1_1 x_2) (some (false, ()))))))
 (some (false, ())))
def F83_L29 : Arr [PT.bool, PT.bytes, PT.nat] (Option (Bool × Unit)) → Bool → List UInt8 → Nat → Option (Bool × Unit) := fun (rec : Arr [PT.bool, PT.bytes, PT.nat] (Option (Bool × Unit))) (also : Bool) (t : List UInt8) (x_1 : Nat) =>
 oite (Nat.blt x_1 (List.length t))
 (ojoinA (471 : Nat) [PT.bool, PT.int IntKind.i32, PT.bool, PT.bytes, PT.nat]
 (fun (J : Arr [PT.bool, PT.int IntKind.i32, PT.bool, PT.bytes, PT.nat] (Option (Bool × Unit))) =>
 oite (decide ((97 : Int32) ≤ Int32.ofInt ↑(runeAt t x_1)))
 (J also (Int32.ofInt ↑(runeAt t x_1)) (decide (Int32.ofInt ↑(runeAt t x_1) ≤ (122 : Int32))) t
 (x_1 + runeLen t x_1))
 (J also (Int32.ofInt ↑(runeAt t x_1)) false t (x_1 + runeLen t x_1)))
 (F83_J471 rec))
 (some (true, ()))
def F83_R29 : Nat → PT.T PT.bool → List UInt8 → Nat → Option (Bool × Unit) := ofixA (29 : Nat) [PT.bool, PT.bytes, PT.nat] F83_L29
def F83 : Nat → List UInt8 × Int64 × Bool → Option (Bool × Unit) := fun (n : Nat) (x : List UInt8 × Int64 × Bool) =>
 oite (decide (Int64.ofInt ↑(List.length (Prod.fst x)) < (1 : Int64))) (some (false, ()))
 (oite (decide (Prod.fst (Prod.snd x) < Int64.ofInt ↑(List.length (Prod.fst x)))) (some (false, ()))
 (F83_R29 n (Prod.snd (Prod.snd x)) (Prod.fst x) (0 : Nat)))
theorem F83_R29_s  (m_ : Nat) : F83_R29  (m_ + 1) = F83_L29  (F83_R29  m_) := rfl
theorem ok83 (n : Nat) : FunOK Try.prog ⟨83, sig83, F83 n⟩ :=
 fun_ok (hints := ⟨[(471, ⟨[(2, .one (.bool)), (8, .one (.int .i32)), (19, .one (.own 3)), (23, .one (.bool))], [(3, .iter)], 4⟩)], [(29, ⟨[(2, .one (.bool)), (19, .one (.own 3))], [(3, .iter)], 4⟩)]⟩) (fuel := n) (c := Try.f83.body.getD .skip) (rs := Try.f83.results.toList) tt_ok mix (FsOK.nil) Try.func83 (by kernel_rfl) (by kernel_rfl) rfl (by kernel_rfl) rfl rfl (by kernel_rfl)
-- watchfire/lab.Name
def sig75 : Sig := ⟨(.cons (.one (.c .str)) .nil), (.cons (.one (.c .bool)) .nil)⟩
def F75 : Nat → List UInt8 → Option (Bool × Unit) := fun (n : Nat) (x : List UInt8) =>
 obind (F83 n (x, (12 : Int64), true)) fun (x_1 : Bool × Unit) =>
 oite (Prod.fst x_1)
 (obind (at? x (Int64.toInt (0 : Int64))) fun (x_2 : UInt8) =>
 oite (decide ((97 : UInt8) ≤ x_2))
 (obind (at? x (Int64.toInt (0 : Int64))) fun (x_3 : UInt8) => some (decide (x_3 ≤ (122 : UInt8)), ()))
 (some (false, ())))
 (some (false, ()))
theorem ok75 (n : Nat) : FunOK Try.prog ⟨75, sig75, F75 n⟩ :=
 fun_ok (hints := ⟨[], []⟩) (fuel := n) (c := Try.f75.body.getD .skip) (rs := Try.f75.results.toList) tt_ok mix (FsOK.cons (ok83 n) (FsOK.nil)) Try.func75 (by kernel_rfl) (by kernel_rfl) rfl (by kernel_rfl) rfl rfl (by kernel_rfl)
-- internal/stringslite.HasPrefix
def sig93 : Sig := ⟨(.cons (.one (.c .str)) (.cons (.one (.c .str)) .nil)), (.cons (.one (.c .bool)) .nil)⟩
def F93 : Nat → List UInt8 × List UInt8 → Option (Bool × Unit) := fun (n : Nat) (x : List UInt8 × List UInt8) =>
 oite (decide (Int64.ofInt ↑(List.length (Prod.snd x)) ≤ Int64.ofInt ↑(List.length (Prod.fst x))))
 (oite
 (decide ((0 : Int) ≤ Int64.toInt (Int64.ofInt ↑(List.length (Prod.snd x)))) &&
 Nat.ble (Int.toNat (Int64.toInt (Int64.ofInt ↑(List.length (Prod.snd x))))) (List.length (Prod.fst x)) &&
 true)
 (some
 (List.drop (0 : Nat)
 (List.take (Int.toNat (Int64.toInt (Int64.ofInt ↑(List.length (Prod.snd x))))) (Prod.fst x)) ==
 Prod.snd x,
 ()))
 none)
 (some (false, ()))
theorem ok93 (n : Nat) : FunOK Try.prog ⟨93, sig93, F93 n⟩ :=
 fun_ok (hints := ⟨[], []⟩) (fuel := n) (c := Try.f93.body.getD .skip) (rs := Try.f93.results.toList) tt_ok mix (FsOK.nil) Try.func93 (by kernel_rfl) (by kernel_rfl) rfl (by kernel_rfl) rfl rfl (by kernel_rfl)
-- strings.HasPrefix
def sig84 : Sig := ⟨(.cons (.one (.c .str)) (.cons (.one (.c .str)) .nil)), (.cons (.one (.c .bool)) .nil)⟩
def F84 : Nat → List UInt8 × List UInt8 → Option (Bool × Unit) := fun (n : Nat) (x : List UInt8 × List UInt8) =>
 obind (F93 n (Prod.fst x, Prod.snd x)) fun (x_1 : Bool × Unit) => some (Prod.fst x_1, ())
theorem ok84 (n : Nat) : FunOK Try.prog ⟨84, sig84, F84 n⟩ :=
 fun_ok (hints := ⟨[], []⟩) (fuel := n) (c := Try.f84.body.getD .skip) (rs := Try.f84.results.toList) tt_ok mix (FsOK.cons (ok93 n) (FsOK.nil)) Try.func84 (by kernel_rfl) (by kernel_rfl) rfl (by kernel_rfl) rfl rfl (by kernel_rfl)
-- watchfire/item.Own
def sig76 : Sig := ⟨(.cons (.one (.c .str)) .nil), (.cons (.one (.c .bool)) .nil)⟩
def F76 : Nat → List UInt8 → Option (Bool × Unit) := fun (n : Nat) (x : List UInt8) =>
 obind (F84 n (x, [(111 : UInt8), (119 : UInt8), (110 : UInt8), (46 : UInt8)])) fun (x_1 : Bool × Unit) =>
 some (Prod.fst x_1, ())
theorem ok76 (n : Nat) : FunOK Try.prog ⟨76, sig76, F76 n⟩ :=
 fun_ok (hints := ⟨[], []⟩) (fuel := n) (c := Try.f76.body.getD .skip) (rs := Try.f76.results.toList) tt_ok mix (FsOK.cons (ok84 n) (FsOK.nil)) Try.func76 (by kernel_rfl) (by kernel_rfl) rfl (by kernel_rfl) rfl rfl (by kernel_rfl)
-- watchfire/lab.Key
def sig85 : Sig := ⟨(.cons (.one (.c .str)) .nil), (.cons (.one (.c .bool)) .nil)⟩
def F85 : Nat → List UInt8 → Option (Bool × Unit) := fun (n : Nat) (x : List UInt8) =>
 obind (F83 n (x, (8 : Int64), false)) fun (x_1 : Bool × Unit) => some (Prod.fst x_1, ())
theorem ok85 (n : Nat) : FunOK Try.prog ⟨85, sig85, F85 n⟩ :=
 fun_ok (hints := ⟨[], []⟩) (fuel := n) (c := Try.f85.body.getD .skip) (rs := Try.f85.results.toList) tt_ok mix (FsOK.cons (ok83 n) (FsOK.nil)) Try.func85 (by kernel_rfl) (by kernel_rfl) rfl (by kernel_rfl) rfl rfl (by kernel_rfl)
-- watchfire/lab.Value
def sig86 : Sig := ⟨(.cons (.one (.c .str)) .nil), (.cons (.one (.c .bool)) .nil)⟩
def F86 : Nat → List UInt8 → Option (Bool × Unit) := fun (n : Nat) (x : List UInt8) =>
 obind (F83 n (x, (16 : Int64), true)) fun (x_1 : Bool × Unit) => some (Prod.fst x_1, ())
theorem ok86 (n : Nat) : FunOK Try.prog ⟨86, sig86, F86 n⟩ :=
 fun_ok (hints := ⟨[], []⟩) (fuel := n) (c := Try.f86.body.getD .skip) (rs := Try.f86.results.toList) tt_ok mix (FsOK.cons (ok83 n) (FsOK.nil)) Try.func86 (by kernel_rfl) (by kernel_rfl) rfl (by kernel_rfl) rfl rfl (by kernel_rfl)
-- watchfire/lab.Check
def sig77 : Sig := ⟨(.cons (.one (.c (.ro (.cons .str (.cons .str .nil))))) .nil), (.cons (.one (.c (.int .i64))) .nil)⟩
def F77_J3767 : Arr
 [PT.list (CTs.cons CT.str (CTs.cons CT.str CTs.nil)), PT.list (CTs.cons CT.str (CTs.cons CT.str CTs.nil)),
 PT.int IntKind.i64, PT.int IntKind.i64]
 (Option (Int64 × Unit)) →
 List (List UInt8 × List UInt8) →
 Int64 → List (List UInt8 × List UInt8) → Int64 → Int64 → Bool → List UInt8 → List UInt8 → Option (Int64 × Unit) := fun
 (rec :
 Arr
 [PT.list (CTs.cons CT.str (CTs.cons CT.str CTs.nil)), PT.list (CTs.cons CT.str (CTs.cons CT.str CTs.nil)),
 PT.int IntKind.i64, PT.int IntKind.i64]
 (Option (Int64 × Unit)))
 (l_1 : List (List UInt8 × List UInt8)) (i : Int64) (t_3 : List (List UInt8 × List UInt8)) (t_1_1 t_2_1 : Int64)
 (t_3_1 : Bool) (p0 p1 : List UInt8) =>
 oite t_3_1 (some ((7 : Int64), ()))
 (oite (decide ((0 : Int64) < i))
 (obind (at? l_1 (Int64.toInt (i - (1 : Int64)))) fun (x_4 : List UInt8 × List UInt8) =>
 oite (!(bytesLt (Prod.fst x_4) p0 || Prod.fst x_4 == p0)) (some ((9 : Int64), ()))
 (rec l_1 t_3 t_1_1 (t_2_1 + (1 : Int64))))
 (rec l_1 t_3 t_1_1 (t_2_1 + (1 : Int64))))
def F77_L29 : Nat →
 Arr
 [PT.list (CTs.cons CT.str (CTs.cons CT.str CTs.nil)), PT.list (CTs.cons CT.str (CTs.cons CT.str CTs.nil)),
 PT.int IntKind.i64, PT.int IntKind.i64]
 (Option (Int64 × Unit)) →
 List (List UInt8 × List UInt8) → List (List UInt8 × List UInt8) → Int64 → Int64 → Option (Int64 × Unit) := fun (n : Nat)
 (rec :
 Arr
 [PT.list (CTs.cons CT.str (CTs.cons CT.str CTs.nil)), PT.list (CTs.cons CT.str (CTs.cons CT.str CTs.nil)),
 PT.int IntKind.i64, PT.int IntKind.i64]
 (Option (Int64 × Unit)))
 (l t : List (List UInt8 × List UInt8)) (t_1 t_2 : Int64) =>
 oite (decide (t_2 < t_1))
 (obind (at? t (Int64.toInt t_2)) fun (x_1 : List UInt8 × List UInt8) =>
 obind (F85 n (Prod.fst x_1)) fun (x_2 : Bool × Unit) =>
 oite (!Prod.fst x_2) (some ((8 : Int64), ()))
 (obind (F86 n (Prod.snd x_1)) fun (x_3 : Bool × Unit) =>
 oite (!Prod.fst x_3) (some ((8 : Int64), ()))
 (ojoinA (3767 : Nat)
 [PT.list (CTs.cons CT.str (CTs.cons CT.str CTs.nil)), PT.int IntKind.i64,
 PT.list (CTs.cons CT.str (CTs.cons CT.str CTs.nil)), PT.int IntKind.i64, PT.int IntKind.i64, PT.bool,
 PT.bytes, PT.bytes]
 (fun
 (J :
 Arr
 [PT.list (CTs.cons CT.str (CTs.cons CT.str CTs.nil)), PT.int IntKind.i64,
 PT.list (CTs.cons CT.str (CTs.cons CT.str CTs.nil)), PT.int IntKind.i64, PT.int IntKind.i64,
 PT.bool, PT.bytes, PT.bytes]
 (Option (Int64 × Unit))) =>
 oite (decide ((0 : Int64) < t_2))
 (obind (at? l (Int64.toInt (t_2 - (1 : Int64)))) fun (x_4 : List UInt8 × List UInt8) =>
 J l t_2 t t_1 t_2 (Prod.fst x_4 == Prod.fst x_1) (Prod.fst x_1) (Prod.snd x_1))
 (J l t_2 t t_1 t_2 false (Prod.fst x_1) (Prod.snd x_1)))
 (F77_J3767 rec))))
 (some ((0 : Int64), ()))
def F77_R29 : Nat →
 Nat →
 PT.T (PT.list (CTs.cons CT.str (CTs.cons CT.str CTs.nil))) →
 List (List UInt8 × List UInt8) → Int64 → Int64 → Option (Int64 × Unit) := fun (n : Nat) =>
 ofixA (29 : Nat)
 [PT.list (CTs.cons CT.str (CTs.cons CT.str CTs.nil)), PT.list (CTs.cons CT.str (CTs.cons CT.str CTs.nil)),
 PT.int IntKind.i64, PT.int IntKind.i64]
 (F77_L29 n)
def F77 : Nat → List (List UInt8 × List UInt8) → Option (Int64 × Unit) := fun (n : Nat) (x : List (List UInt8 × List UInt8)) =>
 oite (decide ((8 : Int64) < Int64.ofInt ↑(List.length x))) (some ((5 : Int64), ()))
 (F77_R29 n n x x (Int64.ofInt ↑(List.length x)) (0 : Int64))
theorem F77_R29_s (n : Nat) (m_ : Nat) : F77_R29 n (m_ + 1) = F77_L29 n (F77_R29 n m_) := rfl
theorem ok77 (n : Nat) : FunOK Try.prog ⟨77, sig77, F77 n⟩ :=
 fun_ok (hints := ⟨[(3767, ⟨[(0, .one (.ro (.cons .str (.cons .str .nil)))), (3, .one (.int .i64)), (4, .one (.own 1)), (8, .one (.ro (.cons .str (.cons .str .nil)))), (9, .one (.int .i64)), (10, .one (.int .i64)), (26, .one (.bool))], [(1, .cells [.str, .str])], 2⟩)], [(29, ⟨[(0, .one (.ro (.cons .str (.cons .str .nil)))), (8, .one (.ro (.cons .str (.cons .str .nil)))), (9, .one (.int .i64)), (10, .one (.int .i64))], [], 1⟩)]⟩) (fuel := n) (c := Try.f77.body.getD .skip) (rs := Try.f77.results.toList) tt_ok mix (FsOK.cons (ok85 n) (FsOK.cons (ok86 n) (FsOK.nil))) Try.func77 (by kernel_rfl) (by kernel_rfl) rfl (by kernel_rfl) rfl rfl (by kernel_rfl)
-- watchfire/item.event
def sig65 : Sig := ⟨(.cons (.agg (.cons (.int .u8) (.cons (.int .u64) (.cons (.int .u64) (.cons .str (.cons (.ro (.cons .str (.cons .str .nil))) (.cons (.int .u8) (.cons (.int .u8) (.cons (.int .i64) (.cons (.int .u8) .nil)))))))))) .nil), (.cons (.one (.c (.int .i64))) .nil)⟩
def F65_J111 : Nat →
 Bool →
 UInt8 →
 UInt64 →
 UInt64 → List UInt8 → List (List UInt8 × List UInt8) → UInt8 → UInt8 → Int64 → UInt8 → Option (Int64 × Unit) := fun (n : Nat) (t : Bool) (v0 : UInt8) (v1 v2 : UInt64) (v3 : List UInt8) (v4 : List (List UInt8 × List UInt8))
 (v5 v6 : UInt8) (v7 : Int64) (v8 : UInt8) =>
 oite t (some ((12 : Int64), ()))
 (obind (F76 n v3) fun (x_4 : Bool × Unit) =>
 oite (!(!decide (v8 = (0 : UInt8))) == Prod.fst x_4) (some ((27 : Int64), ()))
 (obind (F77 n v4) fun (x_5 : Int64 × Unit) => some (Prod.fst x_5, ())))
def F65 : Nat →
 UInt8 × UInt64 × UInt64 × List UInt8 × List (List UInt8 × List UInt8) × UInt8 × UInt8 × Int64 × UInt8 →
 Option (Int64 × Unit) := fun (n : Nat)
 (x : UInt8 × UInt64 × UInt64 × List UInt8 × List (List UInt8 × List UInt8) × UInt8 × UInt8 × Int64 × UInt8) =>
 oite (decide ((32 : UInt8) ≤ Prod.fst x)) (some ((6 : Int64), ()))
 (oite (decide (Prod.fst (Prod.snd x) < (1 : UInt64))) (some ((6 : Int64), ()))
 (obind (F74 n (Prod.fst (Prod.snd x))) fun (x_1 : Bool × Unit) =>
 oite (!Prod.fst x_1) (some ((6 : Int64), ()))
 (obind (F74 n (Prod.fst (Prod.snd (Prod.snd x)))) fun (x_2 : Bool × Unit) =>
 oite (!Prod.fst x_2) (some ((6 : Int64), ()))
 (oite
 (decide ((7 : UInt8) < Prod.fst (Prod.snd (Prod.snd (Prod.snd (Prod.snd (Prod.snd (Prod.snd x))))))))
 (some ((6 : Int64), ()))
 (obind (F75 n (Prod.fst (Prod.snd (Prod.snd (Prod.snd x))))) fun (x_3 : Bool × Unit) =>
 oite (!Prod.fst x_3) (some ((8 : Int64), ()))
 (ojoinA (111 : Nat)
 [PT.bool, PT.int IntKind.u8, PT.int IntKind.u64, PT.int IntKind.u64, PT.bytes,
 PT.list (CTs.cons CT.str (CTs.cons CT.str CTs.nil)), PT.int IntKind.u8, PT.int IntKind.u8,
 PT.int IntKind.i64, PT.int IntKind.u8]
 (fun
 (J :
 Arr
 [PT.bool, PT.int IntKind.u8, PT.int IntKind.u64, PT.int IntKind.u64, PT.bytes,
 PT.list (CTs.cons CT.str (CTs.cons CT.str CTs.nil)), PT.int IntKind.u8,
 PT.int IntKind.u8, PT.int IntKind.i64, PT.int IntKind.u8]
 (Option (Int64 × Unit))) =>
 oite (!decide (Prod.fst (Prod.snd (Prod.snd (Prod.snd (Prod.snd (Prod.snd x))))) = (0 : UInt8)))
 (oite
 (!decide (Prod.fst (Prod.snd (Prod.snd (Prod.snd (Prod.snd (Prod.snd x))))) = (2 : UInt8)))
 (J true (Prod.fst x) (Prod.fst (Prod.snd x)) (Prod.fst (Prod.snd (Prod.snd x)))
 (Prod.fst (Prod.snd (Prod.snd (Prod.snd x))))
 (Prod.fst (Prod.snd (Prod.snd (Prod.snd (Prod.snd x)))))
 (Prod.fst (Prod.snd (Prod.snd (Prod.snd (Prod.snd (Prod.snd x))))))
 (Prod.fst (Prod.snd (Prod.snd (Prod.snd (Prod.snd (Prod.snd (Prod.snd x)))))))
 (Prod.fst (Prod.snd (Prod.snd (Prod.snd (Prod.snd (Prod.snd (Prod.snd (Prod.snd x))))))))
 (Prod.snd (Prod.snd (Prod.snd (Prod.snd (Prod.snd (Prod.snd (Prod.snd (Prod.snd x)))))))))
 (J
 (decide
 ((2 : UInt8) <
 Prod.snd
 (Prod.snd (Prod.snd (Prod.snd (Prod.snd (Prod.snd (Prod.snd (Prod.snd x)))))))))
 (Prod.fst x) (Prod.fst (Prod.snd x)) (Prod.fst (Prod.snd (Prod.snd x)))
 (Prod.fst (Prod.snd (Prod.snd (Prod.snd x))))
 (Prod.fst (Prod.snd (Prod.snd (Prod.snd (Prod.snd x)))))
 (Prod.fst (Prod.snd (Prod.snd (Prod.snd (Prod.snd (Prod.snd x))))))
 (Prod.fst (Prod.snd (Prod.snd (Prod.snd (Prod.snd (Prod.snd (Prod.snd x)))))))
 (Prod.fst (Prod.snd (Prod.snd (Prod.snd (Prod.snd (Prod.snd (Prod.snd (Prod.snd x))))))))
 (Prod.snd
 (Prod.snd (Prod.snd (Prod.snd (Prod.snd (Prod.snd (Prod.snd (Prod.snd x))))))))))
 (J
 (decide
 ((2 : UInt8) <
 Prod.snd
 (Prod.snd (Prod.snd (Prod.snd (Prod.snd (Prod.snd (Prod.snd (Prod.snd x)))))))))
 (Prod.fst x) (Prod.fst (Prod.snd x)) (Prod.fst (Prod.snd (Prod.snd x)))
 (Prod.fst (Prod.snd (Prod.snd (Prod.snd x))))
 (Prod.fst (Prod.snd (Prod.snd (Prod.snd (Prod.snd x)))))
 (Prod.fst (Prod.snd (Prod.snd (Prod.snd (Prod.snd (Prod.snd x))))))
 (Prod.fst (Prod.snd (Prod.snd (Prod.snd (Prod.snd (Prod.snd (Prod.snd x)))))))
 (Prod.fst (Prod.snd (Prod.snd (Prod.snd (Prod.snd (Prod.snd (Prod.snd (Prod.snd x))))))))
 (Prod.snd (Prod.snd (Prod.snd (Prod.snd (Prod.snd (Prod.snd (Prod.snd (Prod.snd x))))))))))
 (F65_J111 n)))))))
theorem ok65 (n : Nat) : FunOK Try.prog ⟨65, sig65, F65 n⟩ :=
 fun_ok (hints := ⟨[(111, ⟨[(1, .one (.own 1)), (34, .one (.bool))], [(1, .cells [.int .u8, .int .u64, .int .u64, .str, .ro (.cons .str (.cons .str .nil)), .int .u8, .int .u8, .int .i64, .int .u8])], 2⟩)], []⟩) (fuel := n) (c := Try.f65.body.getD .skip) (rs := Try.f65.results.toList) tt_ok mix (FsOK.cons (ok74 n) (FsOK.cons (ok75 n) (FsOK.cons (ok76 n) (FsOK.cons (ok77 n) (FsOK.nil))))) Try.func65 (by kernel_rfl) (by kernel_rfl) rfl (by kernel_rfl) rfl rfl (by kernel_rfl)
-- watchfire/item.Check
def sig48 : Sig := ⟨(.cons (.agg (.cons .bool (.cons (.int .u8) (.cons (.int .u64) (.cons (.int .u64) (.cons .str (.cons (.ro (.cons .str (.cons .str .nil))) (.cons (.int .u8) (.cons (.int .u8) (.cons (.int .i64) (.cons (.int .u8) (.cons (.int .u8) (.cons (.int .u64) (.cons (.int .u64) .nil)))))))))))))) .nil), (.cons (.one (.c (.int .i64))) .nil)⟩
def F48 : Nat →
 Bool ×
 UInt8 ×
 UInt64 ×
 UInt64 ×
 List UInt8 × List (List UInt8 × List UInt8) × UInt8 × UInt8 × Int64 × UInt8 × UInt8 × UInt64 × UInt64 →
 Option (Int64 × Unit) := fun (n : Nat)
 (x :
 Bool ×
 UInt8 ×
 UInt64 ×
 UInt64 ×
 List UInt8 × List (List UInt8 × List UInt8) × UInt8 × UInt8 × Int64 × UInt8 × UInt8 × UInt64 × UInt64) =>
 oite (Prod.fst x)
 (obind
 (F64 n
 (Prod.fst
 (Prod.snd
 (Prod.snd (Prod.snd (Prod.snd (Prod.snd (Prod.snd (Prod.snd (Prod.snd (Prod.snd (Prod.snd x)))))))))),
 Prod.fst
 (Prod.snd
 (Prod.snd
 (Prod.snd (Prod.snd (Prod.snd (Prod.snd (Prod.snd (Prod.snd (Prod.snd (Prod.snd (Prod.snd x))))))))))),
 Prod.snd
 (Prod.snd
 (Prod.snd
 (Prod.snd (Prod.snd (Prod.snd (Prod.snd (Prod.snd (Prod.snd (Prod.snd (Prod.snd (Prod.snd x)))))))))))))
 fun (x_1 : Int64 × Unit) => some (Prod.fst x_1, ()))
 (obind
 (F65 n
 (Prod.fst (Prod.snd x), Prod.fst (Prod.snd (Prod.snd x)), Prod.fst (Prod.snd (Prod.snd (Prod.snd x))),
 Prod.fst (Prod.snd (Prod.snd (Prod.snd (Prod.snd x)))),
 Prod.fst (Prod.snd (Prod.snd (Prod.snd (Prod.snd (Prod.snd x))))),
 Prod.fst (Prod.snd (Prod.snd (Prod.snd (Prod.snd (Prod.snd (Prod.snd x)))))),
 Prod.fst (Prod.snd (Prod.snd (Prod.snd (Prod.snd (Prod.snd (Prod.snd (Prod.snd x))))))),
 Prod.fst (Prod.snd (Prod.snd (Prod.snd (Prod.snd (Prod.snd (Prod.snd (Prod.snd (Prod.snd x)))))))),
 Prod.fst
 (Prod.snd (Prod.snd (Prod.snd (Prod.snd (Prod.snd (Prod.snd (Prod.snd (Prod.snd (Prod.snd x)))))))))))
 fun (x_1 : Int64 × Unit) => some (Prod.fst x_1, ()))
theorem ok48 (n : Nat) : FunOK Try.prog ⟨48, sig48, F48 n⟩ :=
 fun_ok (hints := ⟨[], []⟩) (fuel := n) (c := Try.f48.body.getD .skip) (rs := Try.f48.results.toList) tt_ok mix (FsOK.cons (ok64 n) (FsOK.cons (ok65 n) (FsOK.nil))) Try.func48 (by kernel_rfl) (by kernel_rfl) rfl (by kernel_rfl) rfl rfl (by kernel_rfl)
-- watchfire/item.Clone
def sig50 : Sig := ⟨(.cons (.agg (.cons .bool (.cons (.int .u8) (.cons (.int .u64) (.cons (.int .u64) (.cons .str (.cons (.ro (.cons .str (.cons .str .nil))) (.cons (.int .u8) (.cons (.int .u8) (.cons (.int .i64) (.cons (.int .u8) (.cons (.int .u8) (.cons (.int .u64) (.cons (.int .u64) .nil)))))))))))))) .nil), (.cons (.oagg (.cons (.c .bool) (.cons (.c (.int .u8)) (.cons (.c (.int .u64)) (.cons (.c (.int .u64)) (.cons (.c .str) (.cons (.row (.cons .str (.cons .str .nil))) (.cons (.c (.int .u8)) (.cons (.c (.int .u8)) (.cons (.c (.int .i64)) (.cons (.c (.int .u8)) (.cons (.c (.int .u8)) (.cons (.c (.int .u64)) (.cons (.c (.int .u64)) .nil)))))))))))))) .nil)⟩
def F50 : Nat →
 Bool ×
 UInt8 ×
 UInt64 ×
 UInt64 ×
 List UInt8 × List (List UInt8 × List UInt8) × UInt8 × UInt8 × Int64 × UInt8 × UInt8 × UInt64 × UInt64 →
 Option
 ((Bool ×
 UInt8 ×
 UInt64 ×
 UInt64 ×
 List UInt8 × List (List UInt8 × List UInt8) × UInt8 × UInt8 × Int64 × UInt8 × UInt8 × UInt64 × UInt64) ×
 Unit) := fun (n : Nat)
 (x :
 Bool ×
 UInt8 ×
 UInt64 ×
 UInt64 ×
 List UInt8 × List (List UInt8 × List UInt8) × UInt8 × UInt8 × Int64 × UInt8 × UInt8 × UInt64 × UInt64) =>
 oite
 (Nat.ble ((0 : Nat) + List.length (Prod.fst (Prod.snd (Prod.snd (Prod.snd (Prod.snd (Prod.snd x)))))))
 (4294967296 : Nat))
 (some
 ((Prod.fst x, Prod.fst (Prod.snd x), Prod.fst (Prod.snd (Prod.snd x)),
 Prod.fst (Prod.snd (Prod.snd (Prod.snd x))), Prod.fst (Prod.snd (Prod.snd (Prod.snd (Prod.snd x)))),
 [] ++ Prod.fst (Prod.snd (Prod.snd (Prod.snd (Prod.snd (Prod.snd x))))),
 Prod.fst (Prod.snd (Prod.snd (Prod.snd (Prod.snd (Prod.snd (Prod.snd x)))))),
 Prod.fst (Prod.snd (Prod.snd (Prod.snd (Prod.snd (Prod.snd (Prod.snd (Prod.snd x))))))),
 Prod.fst (Prod.snd (Prod.snd (Prod.snd (Prod.snd (Prod.snd (Prod.snd (Prod.snd (Prod.snd x)))))))),
 Prod.fst (Prod.snd (Prod.snd (Prod.snd (Prod.snd (Prod.snd (Prod.snd (Prod.snd (Prod.snd (Prod.snd x))))))))),
 Prod.fst
 (Prod.snd
 (Prod.snd (Prod.snd (Prod.snd (Prod.snd (Prod.snd (Prod.snd (Prod.snd (Prod.snd (Prod.snd x)))))))))),
 Prod.fst
 (Prod.snd
 (Prod.snd
 (Prod.snd (Prod.snd (Prod.snd (Prod.snd (Prod.snd (Prod.snd (Prod.snd (Prod.snd (Prod.snd x))))))))))),
 Prod.snd
 (Prod.snd
 (Prod.snd
 (Prod.snd (Prod.snd (Prod.snd (Prod.snd (Prod.snd (Prod.snd (Prod.snd (Prod.snd (Prod.snd x)))))))))))),
 ()))
 none
theorem ok50 (n : Nat) : FunOK Try.prog ⟨50, sig50, F50 n⟩ :=
 fun_ok (hints := ⟨[], []⟩) (fuel := n) (c := Try.f50.body.getD .skip) (rs := Try.f50.results.toList) tt_ok mix (FsOK.nil) Try.func50 (by kernel_rfl) (by kernel_rfl) rfl (by kernel_rfl) rfl rfl (by kernel_rfl)
-- (*watchfire/recv.Receiver).Take
def sig37 : Sig := ⟨(.cons (.one (.ptr (.cons (.c (.int .i64)) (.cons (.c (.int .u64)) (.cons (.map (.one (.int .u64)) (.agg (.cons .bool (.cons (.int .u8) (.cons (.int .u64) (.cons (.int .u64) (.cons .str (.cons (.ro (.cons .str (.cons .str .nil))) (.cons (.int .u8) (.cons (.int .u8) (.cons (.int .i64) (.cons (.int .u8) (.cons (.int .u8) (.cons (.int .u64) (.cons (.int .u64) .nil))))))))))))))) (.cons (.c (.int .u64)) .nil)))))) (.cons (.one (.c (.int .u64))) (.cons (.agg (.cons .bool (.cons (.int .u8) (.cons (.int .u64) (.cons (.int .u64) (.cons .str (.cons (.ro (.cons .str (.cons .str .nil))) (.cons (.int .u8) (.cons (.int .u8) (.cons (.int .i64) (.cons (.int .u8) (.cons (.int .u8) (.cons (.int .u64) (.cons (.int .u64) .nil)))))))))))))) .nil))), (.cons (.one (.c (.int .i64))) .nil)⟩
def F37_J27 : Nat →
 UInt64 →
 Bool →
 Option
 (Int64 ×
 UInt64 ×
 List
 (UInt64 ×
 Bool ×
 UInt8 ×
 UInt64 ×
 UInt64 ×
 List UInt8 ×
 List (List UInt8 × List UInt8) ×
 UInt8 × UInt8 × Int64 × UInt8 × UInt8 × UInt64 × UInt64) ×
 UInt64) →
 Bool →
 UInt8 →
 UInt64 →
 UInt64 →
 List UInt8 →
 List (List UInt8 × List UInt8) →
 UInt8 →
 UInt8 →
 Int64 →
 UInt8 →
 UInt8 →
 UInt64 →
 UInt64 →
 Option
 (Int64 ×
 Option
 (Int64 ×
 UInt64 ×
 List
 (UInt64 ×
 Bool ×
 UInt8 ×
 UInt64 ×
 UInt64 ×
 List UInt8 ×
 List (List UInt8 × List UInt8) ×
 UInt8 × UInt8 × Int64 × UInt8 × UInt8 × UInt64 × UInt64) ×
 UInt64)) := fun (n : Nat) (seq : UInt64) (t : Bool)
 (r :
 Option
 (Int64 ×
 UInt64 ×
 List
 (UInt64 ×
 Bool ×
 UInt8 ×
 UInt64 ×
 UInt64 ×
 List UInt8 ×
 List (List UInt8 × List UInt8) × UInt8 × UInt8 × Int64 × UInt8 × UInt8 × UInt64 × UInt64) ×
 UInt64))
 (x0 : Bool) (x1 : UInt8) (x2 x3 : UInt64) (x4 : List UInt8) (x5 : List (List UInt8 × List UInt8)) (x6 x7 : UInt8)
 (x8 : Int64) (x9 x10 : UInt8) (x11 x12 : UInt64) =>
 oite t
 (obind r
 fun
 (x_2 :
 Int64 ×
 UInt64 ×
 List
 (UInt64 ×
 Bool ×
 UInt8 ×
 UInt64 ×
 UInt64 ×
 List UInt8 ×
 List (List UInt8 × List UInt8) ×
 UInt8 × UInt8 × Int64 × UInt8 × UInt8 × UInt64 × UInt64) ×
 UInt64) =>
 some
 ((17 : Int64),
 some
 (Prod.fst x_2, Prod.fst (Prod.snd x_2), Prod.fst (Prod.snd (Prod.snd x_2)),
 Prod.snd (Prod.snd (Prod.snd x_2)) + (1 : UInt64))))
 (obind r
 fun
 (x_2 :
 Int64 ×
 UInt64 ×
 List
 (UInt64 ×
 Bool ×
 UInt8 ×
 UInt64 ×
 UInt64 ×
 List UInt8 ×
 List (List UInt8 × List UInt8) ×
 UInt8 × UInt8 × Int64 × UInt8 × UInt8 × UInt64 × UInt64) ×
 UInt64) =>
 oite (decide (UInt64.ofInt (Int64.toInt (Prod.fst x_2)) ≤ seq - Prod.fst (Prod.snd x_2)))
 (some
 ((19 : Int64),
 some
 (Prod.fst x_2, Prod.fst (Prod.snd x_2), Prod.fst (Prod.snd (Prod.snd x_2)),
 Prod.snd (Prod.snd (Prod.snd x_2)))))
 (obind (F48 n (x0, x1, x2, x3, x4, x5, x6, x7, x8, x9, x10, x11, x12)) fun (x_3 : Int64 × Unit) =>
 oite (!decide (Prod.fst x_3 = (0 : Int64)))
 (some
 (Prod.fst x_3,
 some
 (Prod.fst x_2, Prod.fst (Prod.snd x_2), Prod.fst (Prod.snd (Prod.snd x_2)),
 Prod.snd (Prod.snd (Prod.snd x_2)))))
 (obind (F50 n (x0, x1, x2, x3, x4, x5, x6, x7, x8, x9, x10, x11, x12))
 fun
 (x_4 :
 (Bool ×
 UInt8 ×
 UInt64 ×
 UInt64 ×
 List UInt8 ×
 List (List UInt8 × List UInt8) ×
 UInt8 × UInt8 × Int64 × UInt8 × UInt8 × UInt64 × UInt64) ×
 Unit) =>
 some
 ((0 : Int64),
 some
 (Prod.fst x_2, Prod.fst (Prod.snd x_2),
 mput (VT.one (CT.int IntKind.u64))
 (VT.agg
 (CTs.cons CT.bool
 (CTs.cons (CT.int IntKind.u8)
 (CTs.cons (CT.int IntKind.u64)
 (CTs.cons (CT.int IntKind.u64)
 (CTs.cons CT.str
 (CTs.cons (CT.ro (CTs.cons CT.str (CTs.cons CT.str CTs.nil)))
 (CTs.cons (CT.int IntKind.u8)
 (CTs.cons (CT.int IntKind.u8)
 (CTs.cons (CT.int IntKind.i64)
 (CTs.cons (CT.int IntKind.u8)
 (CTs.cons (CT.int IntKind.u8)
 (CTs.cons (CT.int IntKind.u64)
 (CTs.cons (CT.int IntKind.u64) CTs.nil))))))))))))))
 seq
 (Prod.fst (Prod.fst x_4), Prod.fst (Prod.snd (Prod.fst x_4)),
 Prod.fst (Prod.snd (Prod.snd (Prod.fst x_4))),
 Prod.fst (Prod.snd (Prod.snd (Prod.snd (Prod.fst x_4)))),
 Prod.fst (Prod.snd (Prod.snd (Prod.snd (Prod.snd (Prod.fst x_4))))),
 Prod.fst (Prod.snd (Prod.snd (Prod.snd (Prod.snd (Prod.snd (Prod.fst x_4)))))),
 Prod.fst (Prod.snd (Prod.snd (Prod.snd (Prod.snd (Prod.snd (Prod.snd (Prod.fst x_4))))))),
 Prod.fst
 (Prod.snd (Prod.snd (Prod.snd (Prod.snd (Prod.snd (Prod.snd (Prod.snd (Prod.fst x_4)))))))),
 Prod.fst
 (Prod.snd
 (Prod.snd
 (Prod.snd (Prod.snd (Prod.snd (Prod.snd (Prod.snd (Prod.snd (Prod.fst x_4))))))))),
 Prod.fst
 (Prod.snd
 (Prod.snd
 (Prod.snd
 (Prod.snd (Prod.snd (Prod.snd (Prod.snd (Prod.snd (Prod.snd (Prod.fst x_4)))))))))),
 Prod.fst
 (Prod.snd
 (Prod.snd
 (Prod.snd
 (Prod.snd
 (Prod.snd
 (Prod.snd (Prod.snd (Prod.snd (Prod.snd (Prod.snd (Prod.fst x_4))))))))))),
 Prod.fst
 (Prod.snd
 (Prod.snd
 (Prod.snd
 (Prod.snd
 (Prod.snd
 (Prod.snd
 (Prod.snd (Prod.snd (Prod.snd (Prod.snd (Prod.snd (Prod.fst x_4)))))))))))),
 Prod.snd
 (Prod.snd
 (Prod.snd
 (Prod.snd
 (Prod.snd
 (Prod.snd
 (Prod.snd
 (Prod.snd (Prod.snd (Prod.snd (Prod.snd (Prod.snd (Prod.fst x_4)))))))))))))
 (Prod.fst (Prod.snd (Prod.snd x_2))),
 Prod.snd (Prod.snd (Prod.snd x_2)))))))
def F37 : Nat →
 Option
 (Int64 ×
 UInt64 ×
 List
 (UInt64 ×
 Bool ×
 UInt8 ×
 UInt64 ×
 UInt64 ×
 List UInt8 ×
 List (List UInt8 × List UInt8) × UInt8 × UInt8 × Int64 × UInt8 × UInt8 × UInt64 × UInt64) ×
 UInt64) ×
 UInt64 ×
 Bool ×
 UInt8 ×
 UInt64 ×
 UInt64 ×
 List UInt8 × List (List UInt8 × List UInt8) × UInt8 × UInt8 × Int64 × UInt8 × UInt8 × UInt64 × UInt64 →
 Option
 (Int64 ×
 Option
 (Int64 ×
 UInt64 ×
 List
 (UInt64 ×
 Bool ×
 UInt8 ×
 UInt64 ×
 UInt64 ×
 List UInt8 ×
 List (List UInt8 × List UInt8) ×
 UInt8 × UInt8 × Int64 × UInt8 × UInt8 × UInt64 × UInt64) ×
 UInt64)) := fun (n : Nat)
 (x :
 Option
 (Int64 ×
 UInt64 ×
 List
 (UInt64 ×
 Bool ×
 UInt8 ×
 UInt64 ×
 UInt64 ×
 List UInt8 ×
 List (List UInt8 × List UInt8) ×
 UInt8 × UInt8 × Int64 × UInt8 × UInt8 × UInt64 × UInt64) ×
 UInt64) ×
 UInt64 ×
 Bool ×
 UInt8 ×
 UInt64 ×
 UInt64 ×
 List UInt8 ×
 List (List UInt8 × List UInt8) × UInt8 × UInt8 × Int64 × UInt8 × UInt8 × UInt64 × UInt64) =>
 oelim (Prod.fst x) (some ((1 : Int64), none))
 fun
 (x_1 :
 Int64 ×
 UInt64 ×
 List
 (UInt64 ×
 Bool ×
 UInt8 ×
 UInt64 ×
 UInt64 ×
 List UInt8 ×
 List (List UInt8 × List UInt8) × UInt8 × UInt8 × Int64 × UInt8 × UInt8 × UInt64 × UInt64) ×
 UInt64) =>
 ojoinA (27 : Nat)
 [PT.int IntKind.u64, PT.bool,
 PT.opt
 (OTs.cons (OT.c (CT.int IntKind.i64))
 (OTs.cons (OT.c (CT.int IntKind.u64))
 (OTs.cons
 (OT.map (VT.one (CT.int IntKind.u64))
 (VT.agg
 (CTs.cons CT.bool
 (CTs.cons (CT.int IntKind.u8)
 (CTs.cons (CT.int IntKind.u64)
 (CTs.cons (CT.int IntKind.u64)
 (CTs.cons CT.str
 (CTs.cons (CT.ro (CTs.cons CT.str (CTs.cons CT.str CTs.nil)))
 (CTs.cons (CT.int IntKind.u8)
 (CTs.cons (CT.int IntKind.u8)
 (CTs.cons (CT.int IntKind.i64)
 (CTs.cons (CT.int IntKind.u8)
 (CTs.cons (CT.int IntKind.u8)
 (CTs.cons (CT.int IntKind.u64)
 (CTs.cons (CT.int IntKind.u64) CTs.nil)))))))))))))))
 (OTs.cons (OT.c (CT.int IntKind.u64)) OTs.nil)))),
 PT.bool, PT.int IntKind.u8, PT.int IntKind.u64, PT.int IntKind.u64, PT.bytes,
 PT.list (CTs.cons CT.str (CTs.cons CT.str CTs.nil)), PT.int IntKind.u8, PT.int IntKind.u8, PT.int IntKind.i64,
 PT.int IntKind.u8, PT.int IntKind.u8, PT.int IntKind.u64, PT.int IntKind.u64]
 (fun
 (J :
 Arr
 [PT.int IntKind.u64, PT.bool,
 PT.opt
 (OTs.cons (OT.c (CT.int IntKind.i64))
 (OTs.cons (OT.c (CT.int IntKind.u64))
 (OTs.cons
 (OT.map (VT.one (CT.int IntKind.u64))
 (VT.agg
 (CTs.cons CT.bool
 (CTs.cons (CT.int IntKind.u8)
 (CTs.cons (CT.int IntKind.u64)
 (CTs.cons (CT.int IntKind.u64)
 (CTs.cons CT.str
 (CTs.cons (CT.ro (CTs.cons CT.str (CTs.cons CT.str CTs.nil)))
 (CTs.cons (CT.int IntKind.u8)
 (CTs.cons (CT.int IntKind.u8)
 (CTs.cons (CT.int IntKind.i64)
 (CTs.cons (CT.int IntKind.u8)
 (CTs.cons (CT.int IntKind.u8)
 (CTs.cons (CT.int IntKind.u64)
 (CTs.cons (CT.int IntKind.u64) CTs.nil)))))))))))))))
 (OTs.cons (OT.c (CT.int IntKind.u64)) OTs.nil)))),
 PT.bool, PT.int IntKind.u8, PT.int IntKind.u64, PT.int IntKind.u64, PT.bytes,
 PT.list (CTs.cons CT.str (CTs.cons CT.str CTs.nil)), PT.int IntKind.u8, PT.int IntKind.u8,
 PT.int IntKind.i64, PT.int IntKind.u8, PT.int IntKind.u8, PT.int IntKind.u64, PT.int IntKind.u64]
 (Option
 (Int64 ×
 Option
 (Int64 ×
 UInt64 ×
 List
 (UInt64 ×
 Bool ×
 UInt8 ×
 UInt64 ×
 UInt64 ×
 List UInt8 ×
 List (List UInt8 × List UInt8) ×
 UInt8 × UInt8 × Int64 × UInt8 × UInt8 × UInt64 × UInt64) ×
 UInt64)))) =>
 oite (decide (Prod.fst (Prod.snd x) < Prod.fst (Prod.snd x_1)))
 (J (Prod.fst (Prod.snd x)) true
 (some
 (Prod.fst x_1, Prod.fst (Prod.snd x_1), Prod.fst (Prod.snd (Prod.snd x_1)),
 Prod.snd (Prod.snd (Prod.snd x_1))))
 (Prod.fst (Prod.snd (Prod.snd x))) (Prod.fst (Prod.snd (Prod.snd (Prod.snd x))))
 (Prod.fst (Prod.snd (Prod.snd (Prod.snd (Prod.snd x)))))
 (Prod.fst (Prod.snd (Prod.snd (Prod.snd (Prod.snd (Prod.snd x))))))
 (Prod.fst (Prod.snd (Prod.snd (Prod.snd (Prod.snd (Prod.snd (Prod.snd x)))))))
 (Prod.fst (Prod.snd (Prod.snd (Prod.snd (Prod.snd (Prod.snd (Prod.snd (Prod.snd x))))))))
 (Prod.fst (Prod.snd (Prod.snd (Prod.snd (Prod.snd (Prod.snd (Prod.snd (Prod.snd (Prod.snd x)))))))))
 (Prod.fst
 (Prod.snd (Prod.snd (Prod.snd (Prod.snd (Prod.snd (Prod.snd (Prod.snd (Prod.snd (Prod.snd x))))))))))
 (Prod.fst
 (Prod.snd
 (Prod.snd (Prod.snd (Prod.snd (Prod.snd (Prod.snd (Prod.snd (Prod.snd (Prod.snd (Prod.snd x)))))))))))
 (Prod.fst
 (Prod.snd
 (Prod.snd
 (Prod.snd
 (Prod.snd (Prod.snd (Prod.snd (Prod.snd (Prod.snd (Prod.snd (Prod.snd (Prod.snd x))))))))))))
 (Prod.fst
 (Prod.snd
 (Prod.snd
 (Prod.snd
 (Prod.snd
 (Prod.snd (Prod.snd (Prod.snd (Prod.snd (Prod.snd (Prod.snd (Prod.snd (Prod.snd x)))))))))))))
 (Prod.fst
 (Prod.snd
 (Prod.snd
 (Prod.snd
 (Prod.snd
 (Prod.snd
 (Prod.snd (Prod.snd (Prod.snd (Prod.snd (Prod.snd (Prod.snd (Prod.snd (Prod.snd x))))))))))))))
 (Prod.snd
 (Prod.snd
 (Prod.snd
 (Prod.snd
 (Prod.snd
 (Prod.snd
 (Prod.snd (Prod.snd (Prod.snd (Prod.snd (Prod.snd (Prod.snd (Prod.snd (Prod.snd x)))))))))))))))
 (obind
 (F52 n
 (some
 (Prod.fst x_1, Prod.fst (Prod.snd x_1), Prod.fst (Prod.snd (Prod.snd x_1)),
 Prod.snd (Prod.snd (Prod.snd x_1))),
 Prod.fst (Prod.snd x)))
 fun
 (x_2 :
 Bool ×
 Option
 (Int64 ×
 UInt64 ×
 List
 (UInt64 ×
 Bool ×
 UInt8 ×
 UInt64 ×
 UInt64 ×
 List UInt8 ×
 List (List UInt8 × List UInt8) ×
 UInt8 × UInt8 × Int64 × UInt8 × UInt8 × UInt64 × UInt64) ×
 UInt64)) =>
 J (Prod.fst (Prod.snd x)) (Prod.fst x_2) (Prod.snd x_2) (Prod.fst (Prod.snd (Prod.snd x)))
 (Prod.fst (Prod.snd (Prod.snd (Prod.snd x)))) (Prod.fst (Prod.snd (Prod.snd (Prod.snd (Prod.snd x)))))
 (Prod.fst (Prod.snd (Prod.snd (Prod.snd (Prod.snd (Prod.snd x))))))
 (Prod.fst (Prod.snd (Prod.snd (Prod.snd (Prod.snd (Prod.snd (Prod.snd x)))))))
 (Prod.fst (Prod.snd (Prod.snd (Prod.snd (Prod.snd (Prod.snd (Prod.snd (Prod.snd x))))))))
 (Prod.fst (Prod.snd (Prod.snd (Prod.snd (Prod.snd (Prod.snd (Prod.snd (Prod.snd (Prod.snd x)))))))))
 (Prod.fst
 (Prod.snd (Prod.snd (Prod.snd (Prod.snd (Prod.snd (Prod.snd (Prod.snd (Prod.snd (Prod.snd x))))))))))
 (Prod.fst
 (Prod.snd
 (Prod.snd (Prod.snd (Prod.snd (Prod.snd (Prod.snd (Prod.snd (Prod.snd (Prod.snd (Prod.snd x)))))))))))
 (Prod.fst
 (Prod.snd
 (Prod.snd
 (Prod.snd
 (Prod.snd (Prod.snd (Prod.snd (Prod.snd (Prod.snd (Prod.snd (Prod.snd (Prod.snd x))))))))))))
 (Prod.fst
 (Prod.snd
 (Prod.snd
 (Prod.snd
 (Prod.snd
 (Prod.snd (Prod.snd (Prod.snd (Prod.snd (Prod.snd (Prod.snd (Prod.snd (Prod.snd x)))))))))))))
 (Prod.fst
 (Prod.snd
 (Prod.snd
 (Prod.snd
 (Prod.snd
 (Prod.snd
 (Prod.snd
 (Prod.snd (Prod.snd (Prod.snd (Prod.snd (Prod.snd (Prod.snd (Prod.snd x))))))))))))))
 (Prod.snd
 (Prod.snd
 (Prod.snd
 (Prod.snd
 (Prod.snd
 (Prod.snd
 (Prod.snd
 (Prod.snd (Prod.snd (Prod.snd (Prod.snd (Prod.snd (Prod.snd (Prod.snd x))))))))))))))))
 (F37_J27 n)
theorem ok37 (n : Nat) : FunOK Try.prog ⟨37, sig37, F37 n⟩ :=
 fun_ok (hints := ⟨[(27, ⟨[(0, .one (.own 0)), (1, .one (.int .u64)), (5, .one (.own 3)), (11, .one (.bool))], [(0, .fold (.cons (.c (.int .i64)) (.cons (.c (.int .u64)) (.cons (.map (.one (.int .u64)) (.agg (.cons .bool (.cons (.int .u8) (.cons (.int .u64) (.cons (.int .u64) (.cons .str (.cons (.ro (.cons .str (.cons .str .nil))) (.cons (.int .u8) (.cons (.int .u8) (.cons (.int .i64) (.cons (.int .u8) (.cons (.int .u8) (.cons (.int .u64) (.cons (.int .u64) .nil))))))))))))))) (.cons (.c (.int .u64)) .nil))))), (3, .cells [.bool, .int .u8, .int .u64, .int .u64, .str, .ro (.cons .str (.cons .str .nil)), .int .u8, .int .u8, .int .i64, .int .u8, .int .u8, .int .u64, .int .u64])], 4⟩)], []⟩) (fuel := n) (c := Try.f37.body.getD .skip) (rs := Try.f37.results.toList) tt_ok mix (FsOK.cons (ok52 n) (FsOK.cons (ok48 n) (FsOK.cons (ok50 n) (FsOK.nil)))) Try.func37 (by kernel_rfl) (by kernel_rfl) rfl (by kernel_rfl) rfl rfl (by kernel_rfl)
end Go.Proofs.Ytfmomnniadlbhaa
