/- What the functions of this seat compute, found by walking their code symbolically: each F is what the walk finds, each ok says that the Go function keeps it as a contract. Printed by a program of this repo's. -/
import Derived.Test.YtegncnhhofbmiaaProg
import Derived.KernelRfl
import Derived.Test.YtegncnhhofbmiaaSxClone
open Go Go.Sx
namespace Go.Proofs.Ytegncnhhofbmiaa
set_option maxRecDepth 100000
set_option linter.unusedVariables false
def tt : TT := [(2, ⟨.int .i64, 1, 8, some (.int .i64 0), false⟩), (3, ⟨.int .i64, 1, 8, some (.int .i64 0), false⟩), (4, ⟨.bool, 1, 1, some (.bool false), false⟩), (5, ⟨.int .u8, 1, 1, some (.int .u8 0), false⟩), (9, ⟨.str, 1, 16, some (.string ⟨#[]⟩), false⟩), (21, ⟨.int .i32, 1, 4, some (.int .i32 0), false⟩), (22, ⟨.slice 25, 1, 24, some (.slice none 0 0), false⟩), (23, ⟨.int .u16, 1, 2, some (.int .u16 0), false⟩), (25, ⟨.struct [(0, 4, false), (1, 5, false), (2, 5, false), (3, 5, false), (4, 23, false), (5, 23, false), (6, 23, false), (7, 5, false), (8, 5, false), (9, 5, false), (10, 4, false)], 11, 14, some (.agg #[.bool false, .int .u8 0, .int .u8 0, .int .u8 0, .int .u16 0, .int .u16 0, .int .u16 0, .int .u8 0, .int .u8 0, .int .u8 0, .bool false]), false⟩), (27, ⟨.ptr 67, 1, 8, some (.pointer none), false⟩), (29, ⟨.int .i64, 1, 8, some (.int .i64 0), false⟩), (31, ⟨.int .u64, 1, 8, some (.int .u64 0), false⟩), (32, ⟨.slice 56, 1, 24, some (.slice none 0 0), false⟩), (33, ⟨.int .u8, 1, 1, some (.int .u8 0), false⟩), (35, ⟨.struct [(0, 5, false), (1, 31, false), (2, 31, false), (3, 9, false), (4, 32, false), (5, 33, false), (6, 5, false), (7, 2, false), (8, 5, false)], 9, 88, some (.agg #[.int .u8 0, .int .u64 0, .int .u64 0, .string ⟨#[]⟩, .slice none 0 0, .int .u8 0, .int .u8 0, .int .i64 0, .int .u8 0]), false⟩), (37, ⟨.struct [(0, 5, false), (1, 31, false), (2, 31, false)], 3, 24, some (.agg #[.int .u8 0, .int .u64 0, .int .u64 0]), false⟩), (39, ⟨.struct [(0, 4, false), (1, 35, false), (10, 37, false)], 13, 120, some (.agg #[.bool false, .int .u8 0, .int .u64 0, .int .u64 0, .string ⟨#[]⟩, .slice none 0 0, .int .u8 0, .int .u8 0, .int .i64 0, .int .u8 0, .int .u8 0, .int .u64 0, .int .u64 0]), false⟩), (42, ⟨.struct [(0, 31, false), (1, 39, false)], 14, 128, some (.agg #[.int .u64 0, .bool false, .int .u8 0, .int .u64 0, .int .u64 0, .string ⟨#[]⟩, .slice none 0 0, .int .u8 0, .int .u8 0, .int .i64 0, .int .u8 0, .int .u8 0, .int .u64 0, .int .u64 0]), false⟩), (43, ⟨.slice 47, 1, 24, some (.slice none 0 0), false⟩), (47, ⟨.struct [(0, 5, false), (1, 9, false), (2, 32, false), (3, 33, false), (4, 31, false), (5, 5, false), (6, 2, false)], 7, 80, some (.agg #[.int .u8 0, .string ⟨#[]⟩, .slice none 0 0, .int .u8 0, .int .u64 0, .int .u8 0, .int .i64 0]), false⟩), (56, ⟨.struct [(0, 9, false), (1, 9, false)], 2, 32, some (.agg #[.string ⟨#[]⟩, .string ⟨#[]⟩]), false⟩), (63, ⟨.slice 42, 1, 24, some (.slice none 0 0), false⟩), (64, ⟨.map 72 47, 1, 8, some (.map none), false⟩), (65, ⟨.arr 32 31, 32, 256, some (.agg #[.int .u64 0, .int .u64 0, .int .u64 0, .int .u64 0, .int .u64 0, .int .u64 0, .int .u64 0, .int .u64 0, .int .u64 0, .int .u64 0, .int .u64 0, .int .u64 0, .int .u64 0, .int .u64 0, .int .u64 0, .int .u64 0, .int .u64 0, .int .u64 0, .int .u64 0, .int .u64 0, .int .u64 0, .int .u64 0, .int .u64 0, .int .u64 0, .int .u64 0, .int .u64 0, .int .u64 0, .int .u64 0, .int .u64 0, .int .u64 0, .int .u64 0, .int .u64 0]), false⟩), (67, ⟨.struct [(0, 64, false), (1, 65, false)], 33, 264, some (.agg #[.map none, .int .u64 0, .int .u64 0, .int .u64 0, .int .u64 0, .int .u64 0, .int .u64 0, .int .u64 0, .int .u64 0, .int .u64 0, .int .u64 0, .int .u64 0, .int .u64 0, .int .u64 0, .int .u64 0, .int .u64 0, .int .u64 0, .int .u64 0, .int .u64 0, .int .u64 0, .int .u64 0, .int .u64 0, .int .u64 0, .int .u64 0, .int .u64 0, .int .u64 0, .int .u64 0, .int .u64 0, .int .u64 0, .int .u64 0, .int .u64 0, .int .u64 0, .int .u64 0]), false⟩), (72, ⟨.struct [(0, 5, false), (1, 9, false), (2, 9, false), (3, 5, false)], 4, 48, some (.agg #[.int .u8 0, .string ⟨#[]⟩, .string ⟨#[]⟩, .int .u8 0]), false⟩), (74, ⟨.slice 9, 1, 24, some (.slice none 0 0), false⟩), (75, ⟨.slice 5, 1, 24, some (.slice none 0 0), false⟩), (76, ⟨.slice 72, 1, 24, some (.slice none 0 0), false⟩), (113, ⟨.slice 3, 1, 24, some (.slice none 0 0), false⟩)]
theorem tt_ok : TTOK Try.prog tt := TTOK.of_rows (by kernel_rfl)
theorem mix : Try.prog.follows .mixedOrders = true := by kernel_rfl
-- cmp.isNaN[uint8]
def sig54 : Sig := ⟨(.cons (.one (.c (.int .u8))) .nil), (.cons (.one (.c .bool)) .nil)⟩
def F54 : Nat → UInt8 → Option (Bool × Unit) := fun (n : Nat) (x : UInt8) => some (!decide (x = x), ())
theorem ok54 (n : Nat) : FunOK Try.prog ⟨54, sig54, F54 n⟩ true :=
 fun_ok (hints := ⟨[], []⟩) (fuel := n) (c := Try.f54.body.getD .skip) (rs := Try.f54.results.toList) tt_ok mix (FsOK.nil) Try.func54 (by kernel_rfl) (by kernel_rfl) rfl (by kernel_rfl) rfl rfl (by kernel_rfl)
-- cmp.Compare[uint8]
def sig36 : Sig := ⟨(.cons (.one (.c (.int .u8))) (.cons (.one (.c (.int .u8))) .nil)), (.cons (.one (.c (.int .i64))) .nil)⟩
def F36 : Nat → UInt8 × UInt8 → Option (Int64 × Unit) := fun (n : Nat) (x : UInt8 × UInt8) =>
 obind (F54 n (Prod.fst x)) fun (x_1 : Bool × Unit) =>
 obind (F54 n (Prod.snd x)) fun (x_2 : Bool × Unit) =>
 oite (Prod.fst x_1) (oite (Prod.fst x_2) (some ((0 : Int64), ())) (some ((-1 : Int64), ())))
 (oite (Prod.fst x_2) (some ((1 : Int64), ()))
 (oite (decide (Prod.fst x < Prod.snd x)) (some ((-1 : Int64), ()))
 (oite (decide (Prod.snd x < Prod.fst x)) (some ((1 : Int64), ()))
 (some ((0 : Int64), ())))))
theorem ok36 (n : Nat) : FunOK Try.prog ⟨36, sig36, F36 n⟩ true :=
 fun_ok (hints := ⟨[], []⟩) (fuel := n) (c := Try.f36.body.getD .skip) (rs := Try.f36.results.toList) tt_ok mix (FsOK.cons (ok54 n) (FsOK.nil)) Try.func36 (by kernel_rfl) (by kernel_rfl) rfl (by kernel_rfl) rfl rfl (by kernel_rfl)
-- cmp.isNaN[string]
def sig55 : Sig := ⟨(.cons (.one (.c .str)) .nil), (.cons (.one (.c .bool)) .nil)⟩
def F55 : Nat → List UInt8 → Option (Bool × Unit) := fun (n : Nat) (x : List UInt8) => some (!x == x, ())
theorem ok55 (n : Nat) : FunOK Try.prog ⟨55, sig55, F55 n⟩ true :=
 fun_ok (hints := ⟨[], []⟩) (fuel := n) (c := Try.f55.body.getD .skip) (rs := Try.f55.results.toList) tt_ok mix (FsOK.nil) Try.func55 (by kernel_rfl) (by kernel_rfl) rfl (by kernel_rfl) rfl rfl (by kernel_rfl)
-- cmp.Compare[string]
def sig37 : Sig := ⟨(.cons (.one (.c .str)) (.cons (.one (.c .str)) .nil)), (.cons (.one (.c (.int .i64))) .nil)⟩
def F37 : Nat → List UInt8 × List UInt8 → Option (Int64 × Unit) := fun (n : Nat) (x : List UInt8 × List UInt8) =>
 obind (F55 n (Prod.fst x)) fun (x_1 : Bool × Unit) =>
 obind (F55 n (Prod.snd x)) fun (x_2 : Bool × Unit) =>
 oite (Prod.fst x_1) (oite (Prod.fst x_2) (some ((0 : Int64), ())) (some ((-1 : Int64), ())))
 (oite (Prod.fst x_2) (some ((1 : Int64), ()))
 (oite (bytesLt (Prod.fst x) (Prod.snd x)) (some ((-1 : Int64), ()))
 (oite (!(bytesLt (Prod.fst x) (Prod.snd x) || Prod.fst x == Prod.snd x)) (some ((1 : Int64), ()))
 (some ((0 : Int64), ())))))
theorem ok37 (n : Nat) : FunOK Try.prog ⟨37, sig37, F37 n⟩ true :=
 fun_ok (hints := ⟨[], []⟩) (fuel := n) (c := Try.f37.body.getD .skip) (rs := Try.f37.results.toList) tt_ok mix (FsOK.cons (ok55 n) (FsOK.nil)) Try.func37 (by kernel_rfl) (by kernel_rfl) rfl (by kernel_rfl) rfl rfl (by kernel_rfl)
-- cmp.Or[int]
def sig35 : Sig := ⟨(.cons (.one (.c (.ro (.cons (.int .i64) .nil)))) .nil), (.cons (.one (.c (.int .i64))) .nil)⟩
def F35_L29 : Arr [PT.int IntKind.i64, PT.list (CTs.cons (CT.int IntKind.i64) CTs.nil), PT.int IntKind.i64, PT.int IntKind.i64]
 (Option (Int64 × Unit)) →
 Int64 → List Int64 → Int64 → Int64 → Option (Int64 × Unit) := fun
 (rec :
 Arr [PT.int IntKind.i64, PT.list (CTs.cons (CT.int IntKind.i64) CTs.nil), PT.int IntKind.i64, PT.int IntKind.i64]
 (Option (Int64 × Unit)))
 (zero : Int64) (t : List Int64) (t_1 t_2 : Int64) =>
 oite (decide (t_2 < t_1))
 (obind (at? t (Int64.toInt t_2)) fun (x_1 : Int64) =>
 oite (!decide (x_1 = zero)) (some (x_1, ())) (rec zero t t_1 (t_2 + (1 : Int64))))
 (some (zero, ()))
def F35_R29 : Nat → PT.T (PT.int IntKind.i64) → List Int64 → Int64 → Int64 → Option (Int64 × Unit) := ofixA (29 : Nat)
 [PT.int IntKind.i64, PT.list (CTs.cons (CT.int IntKind.i64) CTs.nil), PT.int IntKind.i64, PT.int IntKind.i64] F35_L29
def F35 : Nat → List Int64 → Option (Int64 × Unit) := fun (n : Nat) (x : List Int64) => F35_R29 n (0 : Int64) x (Int64.ofInt ↑(List.length x)) (0 : Int64)
theorem F35_R29_s  (m_ : Nat) : F35_R29  (m_ + 1) = F35_L29  (F35_R29  m_) := rfl
theorem ok35 (n : Nat) : FunOK Try.prog ⟨35, sig35, F35 n⟩ true :=
 fun_ok (hints := ⟨[], [(29, ⟨[(3, .one (.int .i64)), (6, .one (.ro (.cons (.int .i64) .nil))), (7, .one (.int .i64)), (8, .one (.int .i64))], [], 1⟩)]⟩) (fuel := n) (c := Try.f35.body.getD .skip) (rs := Try.f35.results.toList) tt_ok mix (FsOK.nil) Try.func35 (by kernel_rfl) (by kernel_rfl) rfl (by kernel_rfl) rfl rfl (by kernel_rfl)
-- watchfire/lab.Compare$1
def sig57 : Sig := ⟨(.cons (.agg (.cons .str (.cons .str .nil))) (.cons (.agg (.cons .str (.cons .str .nil))) .nil)), (.cons (.one (.c (.int .i64))) .nil)⟩
def F57 : Nat → (List UInt8 × List UInt8) × List UInt8 × List UInt8 → Option (Int64 × Unit) := fun (n : Nat) (x : (List UInt8 × List UInt8) × List UInt8 × List UInt8) =>
 obind (F37 n (Prod.fst (Prod.fst x), Prod.fst (Prod.snd x))) fun (x_1 : Int64 × Unit) =>
 obind (F37 n (Prod.snd (Prod.fst x), Prod.snd (Prod.snd x))) fun (x_2 : Int64 × Unit) =>
 obind (F35 n [Prod.fst x_1, Prod.fst x_2]) fun (x_3 : Int64 × Unit) => some (Prod.fst x_3, ())
theorem ok57 (n : Nat) : FunOK Try.prog ⟨57, sig57, F57 n⟩ true :=
 fun_ok (hints := ⟨[], []⟩) (fuel := n) (c := Try.f57.body.getD .skip) (rs := Try.f57.results.toList) tt_ok mix (FsOK.cons (ok37 n) (FsOK.cons (ok35 n) (FsOK.nil))) Try.func57 (by kernel_rfl) (by kernel_rfl) rfl (by kernel_rfl) rfl rfl (by kernel_rfl)
-- slices.CompareFunc[[]watchfire/api.Pair,[]watchfire/api.Pair,watchfire/api.Pair,watchfire/api.Pair]
def sig56 : Sig := ⟨(.cons (.one (.c (.ro (.cons .str (.cons .str .nil))))) (.cons (.one (.c (.ro (.cons .str (.cons .str .nil))))) (.cons (.one (.c (.fn 57))) .nil))), (.cons (.one (.c (.int .i64))) .nil)⟩
def F56_L13 : Nat →
 Arr
 [PT.list (CTs.cons CT.str (CTs.cons CT.str CTs.nil)), PT.list (CTs.cons CT.str (CTs.cons CT.str CTs.nil)),
 PT.list (CTs.cons CT.str (CTs.cons CT.str CTs.nil)), PT.int IntKind.i64, PT.int IntKind.i64]
 (Option (Int64 × Unit)) →
 List (List UInt8 × List UInt8) →
 List (List UInt8 × List UInt8) → List (List UInt8 × List UInt8) → Int64 → Int64 → Option (Int64 × Unit) := fun (n : Nat)
 (rec :
 Arr
 [PT.list (CTs.cons CT.str (CTs.cons CT.str CTs.nil)), PT.list (CTs.cons CT.str (CTs.cons CT.str CTs.nil)),
 PT.list (CTs.cons CT.str (CTs.cons CT.str CTs.nil)), PT.int IntKind.i64, PT.int IntKind.i64]
 (Option (Int64 × Unit)))
 (s1 s2 t : List (List UInt8 × List UInt8)) (t_1 t_2 : Int64) =>
 oite (decide (t_2 < t_1))
 (obind (at? t (Int64.toInt t_2)) fun (x_1 : List UInt8 × List UInt8) =>
 oite (decide (Int64.ofInt ↑(List.length s2) ≤ t_2)) (some ((1 : Int64), ()))
 (obind (at? s2 (Int64.toInt t_2)) fun (x_2 : List UInt8 × List UInt8) =>
 obind (F57 n ((Prod.fst x_1, Prod.snd x_1), Prod.fst x_2, Prod.snd x_2)) fun (x_3 : Int64 × Unit) =>
 oite (!decide (Prod.fst x_3 = (0 : Int64))) (some (Prod.fst x_3, ()))
 (rec s1 s2 t t_1 (t_2 + (1 : Int64)))))
 (oite (decide (Int64.ofInt ↑(List.length s1) < Int64.ofInt ↑(List.length s2))) (some ((-1 : Int64), ()))
 (some ((0 : Int64), ())))
def F56_R13 : Nat →
 Nat →
 PT.T (PT.list (CTs.cons CT.str (CTs.cons CT.str CTs.nil))) →
 List (List UInt8 × List UInt8) → List (List UInt8 × List UInt8) → Int64 → Int64 → Option (Int64 × Unit) := fun (n : Nat) =>
 ofixA (13 : Nat)
 [PT.list (CTs.cons CT.str (CTs.cons CT.str CTs.nil)), PT.list (CTs.cons CT.str (CTs.cons CT.str CTs.nil)),
 PT.list (CTs.cons CT.str (CTs.cons CT.str CTs.nil)), PT.int IntKind.i64, PT.int IntKind.i64]
 (F56_L13 n)
def F56 : Nat → List (List UInt8 × List UInt8) × List (List UInt8 × List UInt8) × Unit → Option (Int64 × Unit) := fun (n : Nat) (x : List (List UInt8 × List UInt8) × List (List UInt8 × List UInt8) × Unit) =>
 F56_R13 n n (Prod.fst x) (Prod.fst (Prod.snd x)) (Prod.fst x) (Int64.ofInt ↑(List.length (Prod.fst x))) (0 : Int64)
theorem F56_R13_s (n : Nat) (m_ : Nat) : F56_R13 n (m_ + 1) = F56_L13 n (F56_R13 n m_) := rfl
theorem ok56 (n : Nat) : FunOK Try.prog ⟨56, sig56, F56 n⟩ true :=
 fun_ok (hints := ⟨[], [(13, ⟨[(0, .one (.ro (.cons .str (.cons .str .nil)))), (1, .one (.ro (.cons .str (.cons .str .nil)))), (2, .one (.fn 57)), (11, .one (.ro (.cons .str (.cons .str .nil)))), (12, .one (.int .i64)), (13, .one (.int .i64))], [], 3⟩)]⟩) (fuel := n) (c := Try.f56.body.getD .skip) (rs := Try.f56.results.toList) tt_ok mix (FsOK.cons (ok57 n) (FsOK.nil)) Try.func56 (by kernel_rfl) (by kernel_rfl) rfl (by kernel_rfl) rfl rfl (by kernel_rfl)
-- watchfire/lab.Compare
def sig38 : Sig := ⟨(.cons (.one (.c (.ro (.cons .str (.cons .str .nil))))) (.cons (.one (.c (.ro (.cons .str (.cons .str .nil))))) .nil)), (.cons (.one (.c (.int .i64))) .nil)⟩
def F38 : Nat → List (List UInt8 × List UInt8) × List (List UInt8 × List UInt8) → Option (Int64 × Unit) := fun (n : Nat) (x : List (List UInt8 × List UInt8) × List (List UInt8 × List UInt8)) =>
 obind (F56 n (Prod.fst x, Prod.snd x, ())) fun (x_1 : Int64 × Unit) => some (Prod.fst x_1, ())
theorem ok38 (n : Nat) : FunOK Try.prog ⟨38, sig38, F38 n⟩ true :=
 fun_ok (hints := ⟨[], []⟩) (fuel := n) (c := Try.f38.body.getD .skip) (rs := Try.f38.results.toList) tt_ok mix (FsOK.cons (ok56 n) (FsOK.cons (ok57 n) (FsOK.nil))) Try.func38 (by kernel_rfl) (by kernel_rfl) rfl (by kernel_rfl) rfl rfl (by kernel_rfl)
-- watchfire/group.Compare
def sig25 : Sig := ⟨(.cons (.agg (.cons (.int .u8) (.cons .str (.cons (.ro (.cons .str (.cons .str .nil))) (.cons (.int .u8) (.cons (.int .u64) (.cons (.int .u8) (.cons (.int .i64) .nil)))))))) (.cons (.agg (.cons (.int .u8) (.cons .str (.cons (.ro (.cons .str (.cons .str .nil))) (.cons (.int .u8) (.cons (.int .u64) (.cons (.int .u8) (.cons (.int .i64) .nil)))))))) .nil)), (.cons (.one (.c (.int .i64))) .nil)⟩
def F25 : Nat →
 (UInt8 × List UInt8 × List (List UInt8 × List UInt8) × UInt8 × UInt64 × UInt8 × Int64) ×
 UInt8 × List UInt8 × List (List UInt8 × List UInt8) × UInt8 × UInt64 × UInt8 × Int64 →
 Option (Int64 × Unit) := fun (n : Nat)
 (x :
 (UInt8 × List UInt8 × List (List UInt8 × List UInt8) × UInt8 × UInt64 × UInt8 × Int64) ×
 UInt8 × List UInt8 × List (List UInt8 × List UInt8) × UInt8 × UInt64 × UInt8 × Int64) =>
 obind (F36 n (Prod.fst (Prod.fst x), Prod.fst (Prod.snd x))) fun (x_1 : Int64 × Unit) =>
 obind (F37 n (Prod.fst (Prod.snd (Prod.fst x)), Prod.fst (Prod.snd (Prod.snd x)))) fun (x_2 : Int64 × Unit) =>
 obind (F38 n (Prod.fst (Prod.snd (Prod.snd (Prod.fst x))), Prod.fst (Prod.snd (Prod.snd (Prod.snd x)))))
 fun (x_3 : Int64 × Unit) =>
 obind (F35 n [Prod.fst x_1, Prod.fst x_2, Prod.fst x_3]) fun (x_4 : Int64 × Unit) =>
 some (Prod.fst x_4, ())
theorem ok25 (n : Nat) : FunOK Try.prog ⟨25, sig25, F25 n⟩ true :=
 fun_ok (hints := ⟨[], []⟩) (fuel := n) (c := Try.f25.body.getD .skip) (rs := Try.f25.results.toList) tt_ok mix (FsOK.cons (ok36 n) (FsOK.cons (ok37 n) (FsOK.cons (ok38 n) (FsOK.cons (ok35 n) (FsOK.nil))))) Try.func25 (by kernel_rfl) (by kernel_rfl) rfl (by kernel_rfl) rfl rfl (by kernel_rfl)
-- (*watchfire/board.Board).List$1
def sig24 : Sig := ⟨(.cons (.agg (.cons (.int .u8) (.cons .str (.cons .str (.cons (.int .u8) .nil))))) (.cons (.agg (.cons (.int .u8) (.cons .str (.cons .str (.cons (.int .u8) .nil))))) (.cons (.one (.c (.rop (.cons (.rop (.cons (.rom (.cons (.int .u8) (.cons .str (.cons .str (.cons (.int .u8) .nil)))) (.cons (.int .u8) (.cons .str (.cons (.ro (.cons .str (.cons .str .nil))) (.cons (.int .u8) (.cons (.int .u64) (.cons (.int .u8) (.cons (.int .i64) .nil)))))))) .nil)) .nil)))) .nil))), (.cons (.one (.c (.int .i64))) .nil)⟩
def F24 : Nat →
 (UInt8 × List UInt8 × List UInt8 × UInt8) ×
 (UInt8 × List UInt8 × List UInt8 × UInt8) ×
 Option
 (Option
 (List
 ((UInt8 × List UInt8 × List UInt8 × UInt8) ×
 UInt8 × List UInt8 × List (List UInt8 × List UInt8) × UInt8 × UInt64 × UInt8 × Int64))) →
 Option (Int64 × Unit) := fun (n : Nat)
 (x :
 (UInt8 × List UInt8 × List UInt8 × UInt8) ×
 (UInt8 × List UInt8 × List UInt8 × UInt8) ×
 Option
 (Option
 (List
 ((UInt8 × List UInt8 × List UInt8 × UInt8) ×
 UInt8 × List UInt8 × List (List UInt8 × List UInt8) × UInt8 × UInt64 × UInt8 × Int64)))) =>
 obind (Prod.snd (Prod.snd x))
 fun
 (x_1 :
 Option
 (List
 ((UInt8 × List UInt8 × List UInt8 × UInt8) ×
 UInt8 × List UInt8 × List (List UInt8 × List UInt8) × UInt8 × UInt64 × UInt8 × Int64))) =>
 obind x_1
 fun
 (x_2 :
 List
 ((UInt8 × List UInt8 × List UInt8 × UInt8) ×
 UInt8 × List UInt8 × List (List UInt8 × List UInt8) × UInt8 × UInt64 × UInt8 × Int64)) =>
 obind (Prod.snd (Prod.snd x))
 fun
 (x_3 :
 Option
 (List
 ((UInt8 × List UInt8 × List UInt8 × UInt8) ×
 UInt8 × List UInt8 × List (List UInt8 × List UInt8) × UInt8 × UInt64 × UInt8 × Int64))) =>
 obind x_3
 fun
 (x_4 :
 List
 ((UInt8 × List UInt8 × List UInt8 × UInt8) ×
 UInt8 × List UInt8 × List (List UInt8 × List UInt8) × UInt8 × UInt64 × UInt8 × Int64)) =>
 obind
 (F25 n
 ((Prod.fst
 (Option.getD
 (mget
 (VT.agg
 (CTs.cons (CT.int IntKind.u8)
 (CTs.cons CT.str (CTs.cons CT.str (CTs.cons (CT.int IntKind.u8) CTs.nil)))))
 (VT.agg
 (CTs.cons (CT.int IntKind.u8)
 (CTs.cons CT.str
 (CTs.cons (CT.ro (CTs.cons CT.str (CTs.cons CT.str CTs.nil)))
 (CTs.cons (CT.int IntKind.u8)
 (CTs.cons (CT.int IntKind.u64)
 (CTs.cons (CT.int IntKind.u8) (CTs.cons (CT.int IntKind.i64) CTs.nil))))))))
 (Prod.fst (Prod.fst x), Prod.fst (Prod.snd (Prod.fst x)),
 Prod.fst (Prod.snd (Prod.snd (Prod.fst x))), Prod.snd (Prod.snd (Prod.snd (Prod.fst x))))
 x_2)
 ((0 : UInt8), @List.nil UInt8, @List.nil (List UInt8 × List UInt8), (0 : UInt8), (0 : UInt64),
 (0 : UInt8), (0 : Int64))),
 Prod.fst
 (Prod.snd
 (Option.getD
 (mget
 (VT.agg
 (CTs.cons (CT.int IntKind.u8)
 (CTs.cons CT.str (CTs.cons CT.str (CTs.cons (CT.int IntKind.u8) CTs.nil)))))
 (VT.agg
 (CTs.cons (CT.int IntKind.u8)
 (CTs.cons CT.str
 (CTs.cons (CT.ro (CTs.cons CT.str (CTs.cons CT.str CTs.nil)))
 (CTs.cons (CT.int IntKind.u8)
 (CTs.cons (CT.int IntKind.u64)
 (CTs.cons (CT.int IntKind.u8) (CTs.cons (CT.int IntKind.i64) CTs.nil))))))))
 (Prod.fst (Prod.fst x), Prod.fst (Prod.snd (Prod.fst x)),
 Prod.fst (Prod.snd (Prod.snd (Prod.fst x))), Prod.snd (Prod.snd (Prod.snd (Prod.fst x))))
 x_2)
 ((0 : UInt8), @List.nil UInt8, @List.nil (List UInt8 × List UInt8), (0 : UInt8), (0 : UInt64),
 (0 : UInt8), (0 : Int64)))),
 Prod.fst
 (Prod.snd
 (Prod.snd
 (Option.getD
 (mget
 (VT.agg
 (CTs.cons (CT.int IntKind.u8)
 (CTs.cons CT.str (CTs.cons CT.str (CTs.cons (CT.int IntKind.u8) CTs.nil)))))
 (VT.agg
 (CTs.cons (CT.int IntKind.u8)
 (CTs.cons CT.str
 (CTs.cons (CT.ro (CTs.cons CT.str (CTs.cons CT.str CTs.nil)))
 (CTs.cons (CT.int IntKind.u8)
 (CTs.cons (CT.int IntKind.u64)
 (CTs.cons (CT.int IntKind.u8) (CTs.cons (CT.int IntKind.i64) CTs.nil))))))))
 (Prod.fst (Prod.fst x), Prod.fst (Prod.snd (Prod.fst x)),
 Prod.fst (Prod.snd (Prod.snd (Prod.fst x))), Prod.snd (Prod.snd (Prod.snd (Prod.fst x))))
 x_2)
 ((0 : UInt8), @List.nil UInt8, @List.nil (List UInt8 × List UInt8), (0 : UInt8), (0 : UInt64),
 (0 : UInt8), (0 : Int64))))),
 Prod.fst
 (Prod.snd
 (Prod.snd
 (Prod.snd
 (Option.getD
 (mget
 (VT.agg
 (CTs.cons (CT.int IntKind.u8)
 (CTs.cons CT.str (CTs.cons CT.str (CTs.cons (CT.int IntKind.u8) CTs.nil)))))
 (VT.agg
 (CTs.cons (CT.int IntKind.u8)
 (CTs.cons CT.str
 (CTs.cons (CT.ro (CTs.cons CT.str (CTs.cons CT.str CTs.nil)))
 (CTs.cons (CT.int IntKind.u8)
 (CTs.cons (CT.int IntKind.u64)
 (CTs.cons (CT.int IntKind.u8) (CTs.cons (CT.int IntKind.i64) CTs.nil))))))))
 (Prod.fst (Prod.fst x), Prod.fst (Prod.snd (Prod.fst x)),
 Prod.fst (Prod.snd (Prod.snd (Prod.fst x))),
 Prod.snd (Prod.snd (Prod.snd (Prod.fst x))))
 x_2)
 ((0 : UInt8), @List.nil UInt8, @List.nil (List UInt8 × List UInt8), (0 : UInt8),
 (0 : UInt64), (0 : UInt8), (0 : Int64)))))),
 Prod.fst
 (Prod.snd
 (Prod.snd
 (Prod.snd
 (Prod.snd
 (Option.getD
 (mget
 (VT.agg
 (CTs.cons (CT.int IntKind.u8)
 (CTs.cons CT.str (CTs.cons CT.str (CTs.cons (CT.int IntKind.u8) CTs.nil)))))
 (VT.agg
 (CTs.cons (CT.int IntKind.u8)
 (CTs.cons CT.str
 (CTs.cons (CT.ro (CTs.cons CT.str (CTs.cons CT.str CTs.nil)))
 (CTs.cons (CT.int IntKind.u8)
 (CTs.cons (CT.int IntKind.u64)
 (CTs.cons (CT.int IntKind.u8) (CTs.cons (CT.int IntKind.i64) CTs.nil))))))))
 (Prod.fst (Prod.fst x), Prod.fst (Prod.snd (Prod.fst x)),
 Prod.fst (Prod.snd (Prod.snd (Prod.fst x))),
 Prod.snd (Prod.snd (Prod.snd (Prod.fst x))))
 x_2)
 ((0 : UInt8), @List.nil UInt8, @List.nil (List UInt8 × List UInt8), (0 : UInt8),
 (0 : UInt64), (0 : UInt8), (0 : Int64))))))),
 Prod.fst
 (Prod.snd
 (Prod.snd
 (Prod.snd
 (Prod.snd
 (Prod.snd
 (Option.getD
 (mget
 (VT.agg
 (CTs.cons (CT.int IntKind.u8)
 (CTs.cons CT.str (CTs.cons CT.str (CTs.cons (CT.int IntKind.u8) CTs.nil)))))
 (VT.agg
 (CTs.cons (CT.int IntKind.u8)
 (CTs.cons CT.str
 (CTs.cons (CT.ro (CTs.cons CT.str (CTs.cons CT.str CTs.nil)))
 (CTs.cons (CT.int IntKind.u8)
 (CTs.cons (CT.int IntKind.u64)
 (CTs.cons (CT.int IntKind.u8)
 (CTs.cons (CT.int IntKind.i64) CTs.nil))))))))
 (Prod.fst (Prod.fst x), Prod.fst (Prod.snd (Prod.fst x)),
 Prod.fst (Prod.snd (Prod.snd (Prod.fst x))),
 Prod.snd (Prod.snd (Prod.snd (Prod.fst x))))
 x_2)
 ((0 : UInt8), @List.nil UInt8, @List.nil (List UInt8 × List UInt8), (0 : UInt8),
 (0 : UInt64), (0 : UInt8), (0 : Int64)))))))),
 Prod.snd
 (Prod.snd
 (Prod.snd
 (Prod.snd
 (Prod.snd
 (Prod.snd
 (Option.getD
 (mget
 (VT.agg
 (CTs.cons (CT.int IntKind.u8)
 (CTs.cons CT.str (CTs.cons CT.str (CTs.cons (CT.int IntKind.u8) CTs.nil)))))
 (VT.agg
 (CTs.cons (CT.int IntKind.u8)
 (CTs.cons CT.str
 (CTs.cons (CT.ro (CTs.cons CT.str (CTs.cons CT.str CTs.nil)))
 (CTs.cons (CT.int IntKind.u8)
 (CTs.cons (CT.int IntKind.u64)
 (CTs.cons (CT.int IntKind.u8)
 (CTs.cons (CT.int IntKind.i64) CTs.nil))))))))
 (Prod.fst (Prod.fst x), Prod.fst (Prod.snd (Prod.fst x)),
 Prod.fst (Prod.snd (Prod.snd (Prod.fst x))),
 Prod.snd (Prod.snd (Prod.snd (Prod.fst x))))
 x_2)
 ((0 : UInt8), @List.nil UInt8, @List.nil (List UInt8 × List UInt8), (0 : UInt8),
 (0 : UInt64), (0 : UInt8), (0 : Int64))))))))),
 Prod.fst
 (Option.getD
 (mget
 (VT.agg
 (CTs.cons (CT.int IntKind.u8)
 (CTs.cons CT.str (CTs.cons CT.str (CTs.cons (CT.int IntKind.u8) CTs.nil)))))
 (VT.agg
 (CTs.cons (CT.int IntKind.u8)
 (CTs.cons CT.str
 (CTs.cons (CT.ro (CTs.cons CT.str (CTs.cons CT.str CTs.nil)))
 (CTs.cons (CT.int IntKind.u8)
 (CTs.cons (CT.int IntKind.u64)
 (CTs.cons (CT.int IntKind.u8) (CTs.cons (CT.int IntKind.i64) CTs.nil))))))))
 (Prod.fst (Prod.fst (Prod.snd x)), Prod.fst (Prod.snd (Prod.fst (Prod.snd x))),
 Prod.fst (Prod.snd (Prod.snd (Prod.fst (Prod.snd x)))),
 Prod.snd (Prod.snd (Prod.snd (Prod.fst (Prod.snd x)))))
 x_4)
 ((0 : UInt8), @List.nil UInt8, @List.nil (List UInt8 × List UInt8), (0 : UInt8), (0 : UInt64),
 (0 : UInt8), (0 : Int64))),
 Prod.fst
 (Prod.snd
 (Option.getD
 (mget
 (VT.agg
 (CTs.cons (CT.int IntKind.u8)
 (CTs.cons CT.str (CTs.cons CT.str (CTs.cons (CT.int IntKind.u8) CTs.nil)))))
 (VT.agg
 (CTs.cons (CT.int IntKind.u8)
 (CTs.cons CT.str
 (CTs.cons (CT.ro (CTs.cons CT.str (CTs.cons CT.str CTs.nil)))
 (CTs.cons (CT.int IntKind.u8)
 (CTs.cons (CT.int IntKind.u64)
 (CTs.cons (CT.int IntKind.u8) (CTs.cons (CT.int IntKind.i64) CTs.nil))))))))
 (Prod.fst (Prod.fst (Prod.snd x)), Prod.fst (Prod.snd (Prod.fst (Prod.snd x))),
 Prod.fst (Prod.snd (Prod.snd (Prod.fst (Prod.snd x)))),
 Prod.snd (Prod.snd (Prod.snd (Prod.fst (Prod.snd x)))))
 x_4)
 ((0 : UInt8), @List.nil UInt8, @List.nil (List UInt8 × List UInt8), (0 : UInt8), (0 : UInt64),
 (0 : UInt8), (0 : Int64)))),
 Prod.fst
 (Prod.snd
 (Prod.snd
 (Option.getD
 (mget
 (VT.agg
 (CTs.cons (CT.int IntKind.u8)
 (CTs.cons CT.str (CTs.cons CT.str (CTs.cons (CT.int IntKind.u8) CTs.nil)))))
 (VT.agg
 (CTs.cons (CT.int IntKind.u8)
 (CTs.cons CT.str
 (CTs.cons (CT.ro (CTs.cons CT.str (CTs.cons CT.str CTs.nil)))
 (CTs.cons (CT.int IntKind.u8)
 (CTs.cons (CT.int IntKind.u64)
 (CTs.cons (CT.int IntKind.u8) (CTs.cons (CT.int IntKind.i64) CTs.nil))))))))
 (Prod.fst (Prod.fst (Prod.snd x)), Prod.fst (Prod.snd (Prod.fst (Prod.snd x))),
 Prod.fst (Prod.snd (Prod.snd (Prod.fst (Prod.snd x)))),
 Prod.snd (Prod.snd (Prod.snd (Prod.fst (Prod.snd x)))))
 x_4)
 ((0 : UInt8), @List.nil UInt8, @List.nil (List UInt8 × List UInt8), (0 : UInt8), (0 : UInt64),
 (0 : UInt8), (0 : Int64))))),
 Prod.fst
 (Prod.snd
 (Prod.snd
 (Prod.snd
 (Option.getD
 (mget
 (VT.agg
 (CTs.cons (CT.int IntKind.u8)
 (CTs.cons CT.str (CTs.cons CT.str (CTs.cons (CT.int IntKind.u8) CTs.nil)))))
 (VT.agg
 (CTs.cons (CT.int IntKind.u8)
 (CTs.cons CT.str
 (CTs.cons (CT.ro (CTs.cons CT.str (CTs.cons CT.str CTs.nil)))
 (CTs.cons (CT.int IntKind.u8)
 (CTs.cons (CT.int IntKind.u64)
 (CTs.cons (CT.int IntKind.u8) (CTs.cons (CT.int IntKind.i64) CTs.nil))))))))
 (Prod.fst (Prod.fst (Prod.snd x)), Prod.fst (Prod.snd (Prod.fst (Prod.snd x))),
 Prod.fst (Prod.snd (Prod.snd (Prod.fst (Prod.snd x)))),
 Prod.snd (Prod.snd (Prod.snd (Prod.fst (Prod.snd x)))))
 x_4)
 ((0 : UInt8), @List.nil UInt8, @List.nil (List UInt8 × List UInt8), (0 : UInt8), (0 : UInt64),
 (0 : UInt8), (0 : Int64)))))),
 Prod.fst
 (Prod.snd
 (Prod.snd
 (Prod.snd
 (Prod.snd
 (Option.getD
 (mget
 (VT.agg
 (CTs.cons (CT.int IntKind.u8)
 (CTs.cons CT.str (CTs.cons CT.str (CTs.cons (CT.int IntKind.u8) CTs.nil)))))
 (VT.agg
 (CTs.cons (CT.int IntKind.u8)
 (CTs.cons CT.str
 (CTs.cons (CT.ro (CTs.cons CT.str (CTs.cons CT.str CTs.nil)))
 (CTs.cons (CT.int IntKind.u8)
 (CTs.cons (CT.int IntKind.u64)
 (CTs.cons (CT.int IntKind.u8) (CTs.cons (CT.int IntKind.i64) CTs.nil))))))))
 (Prod.fst (Prod.fst (Prod.snd x)), Prod.fst (Prod.snd (Prod.fst (Prod.snd x))),
 Prod.fst (Prod.snd (Prod.snd (Prod.fst (Prod.snd x)))),
 Prod.snd (Prod.snd (Prod.snd (Prod.fst (Prod.snd x)))))
 x_4)
 ((0 : UInt8), @List.nil UInt8, @List.nil (List UInt8 × List UInt8), (0 : UInt8),
 (0 : UInt64), (0 : UInt8), (0 : Int64))))))),
 Prod.fst
 (Prod.snd
 (Prod.snd
 (Prod.snd
 (Prod.snd
 (Prod.snd
 (Option.getD
 (mget
 (VT.agg
 (CTs.cons (CT.int IntKind.u8)
 (CTs.cons CT.str (CTs.cons CT.str (CTs.cons (CT.int IntKind.u8) CTs.nil)))))
 (VT.agg
 (CTs.cons (CT.int IntKind.u8)
 (CTs.cons CT.str
 (CTs.cons (CT.ro (CTs.cons CT.str (CTs.cons CT.str CTs.nil)))
 (CTs.cons (CT.int IntKind.u8)
 (CTs.cons (CT.int IntKind.u64)
 (CTs.cons (CT.int IntKind.u8) (CTs.cons (CT.int IntKind.i64) CTs.nil))))))))
 (Prod.fst (Prod.fst (Prod.snd x)), Prod.fst (Prod.snd (Prod.fst (Prod.snd x))),
 Prod.fst (Prod.snd (Prod.snd (Prod.fst (Prod.snd x)))),
 Prod.snd (Prod.snd (Prod.snd (Prod.fst (Prod.snd x)))))
 x_4)
 ((0 : UInt8), @List.nil UInt8, @List.nil (List UInt8 × List UInt8), (0 : UInt8),
 (0 : UInt64), (0 : UInt8), (0 : Int64)))))))),
 Prod.snd
 (Prod.snd
 (Prod.snd
 (Prod.snd
 (Prod.snd
 (Prod.snd
 (Option.getD
 (mget
 (VT.agg
 (CTs.cons (CT.int IntKind.u8)
 (CTs.cons CT.str (CTs.cons CT.str (CTs.cons (CT.int IntKind.u8) CTs.nil)))))
 (VT.agg
 (CTs.cons (CT.int IntKind.u8)
 (CTs.cons CT.str
 (CTs.cons (CT.ro (CTs.cons CT.str (CTs.cons CT.str CTs.nil)))
 (CTs.cons (CT.int IntKind.u8)
 (CTs.cons (CT.int IntKind.u64)
 (CTs.cons (CT.int IntKind.u8) (CTs.cons (CT.int IntKind.i64) CTs.nil))))))))
 (Prod.fst (Prod.fst (Prod.snd x)), Prod.fst (Prod.snd (Prod.fst (Prod.snd x))),
 Prod.fst (Prod.snd (Prod.snd (Prod.fst (Prod.snd x)))),
 Prod.snd (Prod.snd (Prod.snd (Prod.fst (Prod.snd x)))))
 x_4)
 ((0 : UInt8), @List.nil UInt8, @List.nil (List UInt8 × List UInt8), (0 : UInt8),
 (0 : UInt64), (0 : UInt8), (0 : Int64))))))))))
 fun (x_5 : Int64 × Unit) =>
 oite (!decide (Prod.fst x_5 = (0 : Int64))) (some (Prod.fst x_5, ()))
 (some
 (Int64.ofInt ↑(UInt8.toNat (Prod.snd (Prod.snd (Prod.snd (Prod.fst x))))) -
 Int64.ofInt ↑(UInt8.toNat (Prod.snd (Prod.snd (Prod.snd (Prod.fst (Prod.snd x)))))),
 ()))
theorem ok24 (n : Nat) : FunOK Try.prog ⟨24, sig24, F24 n⟩ true :=
 fun_ok (hints := ⟨[], []⟩) (fuel := n) (c := Try.f24.body.getD .skip) (rs := Try.f24.results.toList) tt_ok mix (FsOK.cons (ok25 n) (FsOK.nil)) Try.func24 (by kernel_rfl) (by kernel_rfl) rfl (by kernel_rfl) rfl rfl (by kernel_rfl)
end Go.Proofs.Ytegncnhhofbmiaa
