/- What the functions of this seat compute, found by walking their code symbolically: each F is what the walk finds, each ok says that the Go function keeps it as a contract. Printed by a program of this repo's. -/
import Derived.Test.YtlkjacdnnbmmmaaProg
import Derived.KernelRfl
import Derived.Test.YtlkjacdnnbmmmaaSxClone
open Go Go.Sx
namespace Go.Proofs.Ytlkjacdnnbmmmaa
set_option maxRecDepth 100000
set_option linter.unusedVariables false
def tt : TT := [(2, ⟨.int .i64, 1, 8, some (.int .i64 0), false⟩), (3, ⟨.int .i64, 1, 8, some (.int .i64 0), false⟩), (4, ⟨.bool, 1, 1, some (.bool false), false⟩), (5, ⟨.int .u8, 1, 1, some (.int .u8 0), false⟩), (9, ⟨.str, 1, 16, some (.string ⟨#[]⟩), false⟩), (21, ⟨.int .i32, 1, 4, some (.int .i32 0), false⟩), (23, ⟨.slice 75, 1, 24, some (.slice none 0 0), false⟩), (24, ⟨.slice 9, 1, 24, some (.slice none 0 0), false⟩), (26, ⟨.struct [(0, 23, false), (1, 23, false), (2, 24, false)], 3, 72, some (.agg #[.slice none 0 0, .slice none 0 0, .slice none 0 0]), false⟩), (27, ⟨.slice 61, 1, 24, some (.slice none 0 0), false⟩), (28, ⟨.int .u8, 1, 1, some (.int .u8 0), false⟩), (29, ⟨.int .u64, 1, 8, some (.int .u64 0), false⟩), (31, ⟨.struct [(0, 5, false), (1, 9, false), (2, 27, false), (3, 28, false), (4, 29, false), (5, 5, false), (6, 2, false)], 7, 80, some (.agg #[.int .u8 0, .string ⟨#[]⟩, .slice none 0 0, .int .u8 0, .int .u64 0, .int .u8 0, .int .i64 0]), false⟩), (32, ⟨.slice 36, 1, 24, some (.slice none 0 0), false⟩), (34, ⟨.slice 31, 1, 24, some (.slice none 0 0), false⟩), (36, ⟨.struct [(0, 5, false), (1, 5, false), (2, 5, false), (3, 5, false), (4, 5, false), (5, 5, false)], 6, 6, some (.agg #[.int .u8 0, .int .u8 0, .int .u8 0, .int .u8 0, .int .u8 0, .int .u8 0]), false⟩), (41, ⟨.slice 26, 1, 24, some (.slice none 0 0), false⟩), (43, ⟨.slice 46, 1, 24, some (.slice none 0 0), false⟩), (44, ⟨.slice 57, 1, 24, some (.slice none 0 0), false⟩), (46, ⟨.struct [(0, 44, false), (1, 44, false), (2, 5, false)], 3, 56, some (.agg #[.slice none 0 0, .slice none 0 0, .int .u8 0]), false⟩), (48, ⟨.int .i64, 1, 8, some (.int .i64 0), false⟩), (50, ⟨.slice 84, 1, 24, some (.slice none 0 0), false⟩), (52, ⟨.struct [(0, 50, false), (1, 50, false), (2, 24, false)], 3, 72, some (.agg #[.slice none 0 0, .slice none 0 0, .slice none 0 0]), false⟩), (57, ⟨.struct [(0, 5, false), (1, 5, false), (2, 5, false)], 3, 3, some (.agg #[.int .u8 0, .int .u8 0, .int .u8 0]), false⟩), (61, ⟨.struct [(0, 9, false), (1, 9, false)], 2, 32, some (.agg #[.string ⟨#[]⟩, .string ⟨#[]⟩]), false⟩), (62, ⟨.slice 28, 1, 24, some (.slice none 0 0), false⟩), (63, ⟨.slice 5, 1, 24, some (.slice none 0 0), false⟩), (67, ⟨.slice 23, 1, 24, some (.slice none 0 0), false⟩), (73, ⟨.int .u8, 1, 1, some (.int .u8 0), false⟩), (75, ⟨.struct [(0, 9, false), (1, 73, false), (2, 9, false)], 3, 40, some (.agg #[.string ⟨#[]⟩, .int .u8 0, .string ⟨#[]⟩]), false⟩), (84, ⟨.struct [(0, 9, false), (1, 3, false), (2, 9, false)], 3, 40, some (.agg #[.string ⟨#[]⟩, .int .i64 0, .string ⟨#[]⟩]), false⟩)]
theorem tt_ok : TTOK Try.prog tt := TTOK.of_rows (by kernel_rfl)
theorem mix : Try.prog.follows .mixedOrders = true := by kernel_rfl
-- (watchfire/watchfirelaw17.Small).Ask
def sig27 : Sig := ⟨(.cons (.agg (.cons (.int .u8) (.cons (.int .u8) (.cons (.int .u8) .nil)))) .nil), (.cons (.agg (.cons .str (.cons (.int .u8) (.cons .str .nil)))) .nil)⟩
def F27 : Nat → UInt8 × UInt8 × UInt8 → Option ((List UInt8 × UInt8 × List UInt8) × Unit) := fun (n : Nat) (x : UInt8 × UInt8 × UInt8) =>
 oite
 (decide ((0 : Int) ≤ ↑(UInt8.toNat (Prod.fst x % (5 : UInt8)))) &&
 Nat.blt (Int.toNat ↑(UInt8.toNat (Prod.fst x % (5 : UInt8))))
 (List.length
 [[(97 : UInt8)], [(98 : UInt8)], [(114 : UInt8), (117 : UInt8), (108 : UInt8), (101 : UInt8)],
 [(111 : UInt8), (114 : UInt8), (105 : UInt8), (103 : UInt8), (105 : UInt8), (110 : UInt8)],
 [(110 : UInt8), (111 : UInt8), (100 : UInt8), (101 : UInt8)]]))
 (obind
 [[(97 : UInt8)], [(98 : UInt8)], [(114 : UInt8), (117 : UInt8), (108 : UInt8), (101 : UInt8)],
 [(111 : UInt8), (114 : UInt8), (105 : UInt8), (103 : UInt8), (105 : UInt8), (110 : UInt8)],
 [(110 : UInt8), (111 : UInt8), (100 : UInt8),
 (101 : UInt8)]][Int.toNat ↑(UInt8.toNat (Prod.fst x % (5 : UInt8)))]?
 fun (x_1 : List UInt8) =>
 oite
 (decide ((0 : Int) ≤ ↑(UInt8.toNat (Prod.snd (Prod.snd x) % (5 : UInt8)))) &&
 Nat.blt (Int.toNat ↑(UInt8.toNat (Prod.snd (Prod.snd x) % (5 : UInt8))))
 (List.length
 [[(120 : UInt8)], [(121 : UInt8)], [(48 : UInt8)], [(104 : UInt8), (111 : UInt8), (116 : UInt8)],
 [(49 : UInt8)]]))
 (obind
 [[(120 : UInt8)], [(121 : UInt8)], [(48 : UInt8)], [(104 : UInt8), (111 : UInt8), (116 : UInt8)],
 [(49 : UInt8)]][Int.toNat ↑(UInt8.toNat (Prod.snd (Prod.snd x) % (5 : UInt8)))]?
 fun (x_2 : List UInt8) =>
 oite (decide ((4 : UInt8) ≤ (1 : UInt8) + Prod.fst (Prod.snd x) % (5 : UInt8)))
 (some ((x_1, (1 : UInt8) + Prod.fst (Prod.snd x) % (5 : UInt8), @List.nil UInt8), ()))
 (some ((x_1, (1 : UInt8) + Prod.fst (Prod.snd x) % (5 : UInt8), x_2), ())))
 none)
 none
theorem ok27 (n : Nat) : FunOK Try.prog ⟨27, sig27, F27 n⟩ :=
 fun_ok (hints := ⟨[], []⟩) (fuel := n) (c := Try.f27.body.getD .skip) (rs := Try.f27.results.toList) tt_ok mix (FsOK.nil) Try.func27 (by kernel_rfl) (by kernel_rfl) rfl (by kernel_rfl) rfl rfl (by kernel_rfl)
-- watchfire/watchfirelaw17.Asks
def sig14 : Sig := ⟨(.cons (.one (.c (.ro (.cons (.int .u8) (.cons (.int .u8) (.cons (.int .u8) .nil)))))) (.cons (.one (.c (.int .i64))) .nil)), (.cons (.one (.c (.ro (.cons .str (.cons (.int .u8) (.cons .str .nil)))))) .nil)⟩
def F14_L29 : Nat →
 Arr
 [PT.int IntKind.i64,
 PT.list (CTs.cons (CT.int IntKind.u8) (CTs.cons (CT.int IntKind.u8) (CTs.cons (CT.int IntKind.u8) CTs.nil))),
 PT.int IntKind.i64, PT.int IntKind.i64,
 PT.list (CTs.cons CT.str (CTs.cons (CT.int IntKind.u8) (CTs.cons CT.str CTs.nil)))]
 (Option (List (List UInt8 × UInt8 × List UInt8) × Unit)) →
 Int64 →
 List (UInt8 × UInt8 × UInt8) →
 Int64 → Int64 → List (List UInt8 × UInt8 × List UInt8) → Option (List (List UInt8 × UInt8 × List UInt8) × Unit) := fun (n : Nat)
 (rec :
 Arr
 [PT.int IntKind.i64,
 PT.list (CTs.cons (CT.int IntKind.u8) (CTs.cons (CT.int IntKind.u8) (CTs.cons (CT.int IntKind.u8) CTs.nil))),
 PT.int IntKind.i64, PT.int IntKind.i64,
 PT.list (CTs.cons CT.str (CTs.cons (CT.int IntKind.u8) (CTs.cons CT.str CTs.nil)))]
 (Option (List (List UInt8 × UInt8 × List UInt8) × Unit)))
 (most : Int64) (t : List (UInt8 × UInt8 × UInt8)) (t_1 t_2 : Int64)
 (out : List (List UInt8 × UInt8 × List UInt8)) =>
 oite (decide (t_2 < t_1))
 (obind (at? t (Int64.toInt t_2)) fun (x_1 : UInt8 × UInt8 × UInt8) =>
 oite (decide (t_2 < most))
 (obind (F27 n (Prod.fst x_1, Prod.fst (Prod.snd x_1), Prod.snd (Prod.snd x_1)))
 fun (x_2 : (List UInt8 × UInt8 × List UInt8) × Unit) =>
 oite
 (Nat.ble
 (List.length out +
 List.length
 [(Prod.fst (Prod.fst x_2), Prod.fst (Prod.snd (Prod.fst x_2)), Prod.snd (Prod.snd (Prod.fst x_2)))])
 (4294967296 : Nat))
 (rec most t t_1 (t_2 + (1 : Int64))
 (out ++
 [(Prod.fst (Prod.fst x_2), Prod.fst (Prod.snd (Prod.fst x_2)), Prod.snd (Prod.snd (Prod.fst x_2)))]))
 none)
 (rec most t t_1 (t_2 + (1 : Int64)) out))
 (some (out, ()))
def F14_R29 : Nat →
 Nat →
 PT.T (PT.int IntKind.i64) →
 List (UInt8 × UInt8 × UInt8) →
 Int64 → Int64 → List (List UInt8 × UInt8 × List UInt8) → Option (List (List UInt8 × UInt8 × List UInt8) × Unit) := fun (n : Nat) =>
 ofixA (29 : Nat)
 [PT.int IntKind.i64,
 PT.list (CTs.cons (CT.int IntKind.u8) (CTs.cons (CT.int IntKind.u8) (CTs.cons (CT.int IntKind.u8) CTs.nil))),
 PT.int IntKind.i64, PT.int IntKind.i64,
 PT.list (CTs.cons CT.str (CTs.cons (CT.int IntKind.u8) (CTs.cons CT.str CTs.nil)))]
 (F14_L29 n)
def F14 : Nat → List (UInt8 × UInt8 × UInt8) × Int64 → Option (List (List UInt8 × UInt8 × List UInt8) × Unit) := fun (n : Nat) (x : List (UInt8 × UInt8 × UInt8) × Int64) =>
 F14_R29 n n (Prod.snd x) (Prod.fst x) (Int64.ofInt ↑(List.length (Prod.fst x))) (0 : Int64) []
theorem F14_R29_s (n : Nat) (m_ : Nat) : F14_R29 n (m_ + 1) = F14_L29 n (F14_R29 n m_) := rfl
theorem ok14 (n : Nat) : FunOK Try.prog ⟨14, sig14, F14 n⟩ :=
 fun_ok (hints := ⟨[], [(29, ⟨[(1, .one (.int .i64)), (5, .one (.own 2)), (8, .one (.ro (.cons (.int .u8) (.cons (.int .u8) (.cons (.int .u8) .nil))))), (9, .one (.int .i64)), (10, .one (.int .i64))], [(2, .row (.cons .str (.cons (.int .u8) (.cons .str .nil))))], 3⟩)]⟩) (fuel := n) (c := Try.f14.body.getD .skip) (rs := Try.f14.results.toList) tt_ok mix (FsOK.cons (ok27 n) (FsOK.nil)) Try.func14 (by kernel_rfl) (by kernel_rfl) rfl (by kernel_rfl) rfl rfl (by kernel_rfl)
-- slices.Equal[[]watchfire/api.Pair,watchfire/api.Pair]
def sig37 : Sig := ⟨(.cons (.one (.c (.ro (.cons .str (.cons .str .nil))))) (.cons (.one (.c (.ro (.cons .str (.cons .str .nil))))) .nil)), (.cons (.one (.c .bool)) .nil)⟩
def F37_L29 : Arr
 [PT.list (CTs.cons CT.str (CTs.cons CT.str CTs.nil)), PT.list (CTs.cons CT.str (CTs.cons CT.str CTs.nil)),
 PT.int IntKind.i64, PT.int IntKind.i64]
 (Option (Bool × Unit)) →
 List (List UInt8 × List UInt8) → List (List UInt8 × List UInt8) → Int64 → Int64 → Option (Bool × Unit) := fun
 (rec :
 Arr
 [PT.list (CTs.cons CT.str (CTs.cons CT.str CTs.nil)), PT.list (CTs.cons CT.str (CTs.cons CT.str CTs.nil)),
 PT.int IntKind.i64, PT.int IntKind.i64]
 (Option (Bool × Unit)))
 (s1 s2 : List (List UInt8 × List UInt8)) (t t_1 : Int64) =>
 oite (decide (t_1 < t))
 (obind (at? s1 (Int64.toInt t_1)) fun (x_1 : List UInt8 × List UInt8) =>
 obind (at? s2 (Int64.toInt t_1)) fun (x_2 : List UInt8 × List UInt8) =>
 oite (!(Prod.fst x_1 == Prod.fst x_2 && (Prod.snd x_1 == Prod.snd x_2 && true))) (some (false, ()))
 (rec s1 s2 t (t_1 + (1 : Int64))))
 (some (true, ()))
def F37_R29 : Nat →
 PT.T (PT.list (CTs.cons CT.str (CTs.cons CT.str CTs.nil))) →
 List (List UInt8 × List UInt8) → Int64 → Int64 → Option (Bool × Unit) := ofixA (29 : Nat)
 [PT.list (CTs.cons CT.str (CTs.cons CT.str CTs.nil)), PT.list (CTs.cons CT.str (CTs.cons CT.str CTs.nil)),
 PT.int IntKind.i64, PT.int IntKind.i64]
 F37_L29
def F37 : Nat → List (List UInt8 × List UInt8) × List (List UInt8 × List UInt8) → Option (Bool × Unit) := fun (n : Nat) (x : List (List UInt8 × List UInt8) × List (List UInt8 × List UInt8)) =>
 oite (!decide (Int64.ofInt ↑(List.length (Prod.fst x)) = Int64.ofInt ↑(List.length (Prod.snd x))))
 (some (false, ()))
 (F37_R29 n (Prod.fst x) (Prod.snd x) (Int64.ofInt ↑(List.length (Prod.fst x))) (0 : Int64))
theorem F37_R29_s  (m_ : Nat) : F37_R29  (m_ + 1) = F37_L29  (F37_R29  m_) := rfl
theorem ok37 (n : Nat) : FunOK Try.prog ⟨37, sig37, F37 n⟩ :=
 fun_ok (hints := ⟨[], [(29, ⟨[(0, .one (.ro (.cons .str (.cons .str .nil)))), (1, .one (.ro (.cons .str (.cons .str .nil)))), (12, .one (.int .i64)), (13, .one (.int .i64))], [], 2⟩)]⟩) (fuel := n) (c := Try.f37.body.getD .skip) (rs := Try.f37.results.toList) tt_ok mix (FsOK.nil) Try.func37 (by kernel_rfl) (by kernel_rfl) rfl (by kernel_rfl) rfl rfl (by kernel_rfl)
-- watchfire/lab.Same
def sig28 : Sig := ⟨(.cons (.one (.c (.ro (.cons .str (.cons .str .nil))))) (.cons (.one (.c (.ro (.cons .str (.cons .str .nil))))) .nil)), (.cons (.one (.c .bool)) .nil)⟩
def F28 : Nat → List (List UInt8 × List UInt8) × List (List UInt8 × List UInt8) → Option (Bool × Unit) := fun (n : Nat) (x : List (List UInt8 × List UInt8) × List (List UInt8 × List UInt8)) =>
 obind (F37 n (Prod.fst x, Prod.snd x)) fun (x_1 : Bool × Unit) => some (Prod.fst x_1, ())
theorem ok28 (n : Nat) : FunOK Try.prog ⟨28, sig28, F28 n⟩ :=
 fun_ok (hints := ⟨[], []⟩) (fuel := n) (c := Try.f28.body.getD .skip) (rs := Try.f28.results.toList) tt_ok mix (FsOK.cons (ok37 n) (FsOK.nil)) Try.func28 (by kernel_rfl) (by kernel_rfl) rfl (by kernel_rfl) rfl rfl (by kernel_rfl)
-- watchfire/curb.same
def sig16 : Sig := ⟨(.cons (.agg (.cons (.int .u8) (.cons .str (.cons (.ro (.cons .str (.cons .str .nil))) (.cons (.int .u8) (.cons (.int .u64) (.cons (.int .u8) (.cons (.int .i64) .nil)))))))) (.cons (.agg (.cons (.int .u8) (.cons .str (.cons (.ro (.cons .str (.cons .str .nil))) (.cons (.int .u8) (.cons (.int .u64) (.cons (.int .u8) (.cons (.int .i64) .nil)))))))) .nil)), (.cons (.one (.c .bool)) .nil)⟩
def F16 : Nat →
 (UInt8 × List UInt8 × List (List UInt8 × List UInt8) × UInt8 × UInt64 × UInt8 × Int64) ×
 UInt8 × List UInt8 × List (List UInt8 × List UInt8) × UInt8 × UInt64 × UInt8 × Int64 →
 Option (Bool × Unit) := fun (n : Nat)
 (x :
 (UInt8 × List UInt8 × List (List UInt8 × List UInt8) × UInt8 × UInt64 × UInt8 × Int64) ×
 UInt8 × List UInt8 × List (List UInt8 × List UInt8) × UInt8 × UInt64 × UInt8 × Int64) =>
 oite (decide (Prod.fst (Prod.fst x) = Prod.fst (Prod.snd x)))
 (oite (Prod.fst (Prod.snd (Prod.fst x)) == Prod.fst (Prod.snd (Prod.snd x)))
 (obind (F28 n (Prod.fst (Prod.snd (Prod.snd (Prod.fst x))), Prod.fst (Prod.snd (Prod.snd (Prod.snd x)))))
 fun (x_1 : Bool × Unit) => some (Prod.fst x_1, ()))
 (some (false, ())))
 (some (false, ()))
theorem ok16 (n : Nat) : FunOK Try.prog ⟨16, sig16, F16 n⟩ :=
 fun_ok (hints := ⟨[], []⟩) (fuel := n) (c := Try.f16.body.getD .skip) (rs := Try.f16.results.toList) tt_ok mix (FsOK.cons (ok28 n) (FsOK.nil)) Try.func16 (by kernel_rfl) (by kernel_rfl) rfl (by kernel_rfl) rfl rfl (by kernel_rfl)
-- watchfire/match.number
def sig29 : Sig := ⟨(.cons (.one (.c (.int .u8))) .nil), (.cons (.one (.c .str)) .nil)⟩
def G29 : Nat → (UInt8 → Option (List UInt8 × Unit)) → UInt8 → Option (List UInt8 × Unit) := fun (n : Nat) (rc : UInt8 → Option (List UInt8 × Unit)) (x : UInt8) =>
 oite (decide ((9 : UInt8) < x))
 (obind (rc (x / (10 : UInt8))) fun (x_1 : List UInt8 × Unit) =>
 obind (rc (x % (10 : UInt8))) fun (x_2 : List UInt8 × Unit) =>
 oite (Nat.ble (List.length (Prod.fst x_1) + List.length (Prod.fst x_2)) (4294967296 : Nat))
 (some (Prod.fst x_1 ++ Prod.fst x_2, ())) none)
 (some ([(48 : UInt8) + x], ()))
theorem okG29 (n : Nat) (rc : sig29.In → Option sig29.Out) (h : FunOK Try.prog ⟨29, sig29, rc⟩) : FunOK Try.prog ⟨29, sig29, G29 n rc⟩ :=
 fun_ok (hints := ⟨[], []⟩) (fuel := n) (c := Try.f29.body.getD .skip) (rs := Try.f29.results.toList) tt_ok mix (FsOK.cons h (FsOK.nil)) Try.func29 (by kernel_rfl) (by kernel_rfl) rfl (by kernel_rfl) rfl rfl (by kernel_rfl)
def F29 (n : Nat) : UInt8 → Option (List UInt8 × Unit) := selfN (sig := sig29) (G29 n) n
theorem ok29 (n : Nat) : FunOK Try.prog ⟨29, sig29, F29 n⟩ :=
 self_ok (c := Try.f29.body.getD .skip) Try.func29 (by kernel_rfl) (by kernel_rfl) (fun F h => okG29 n F h) rfl n
-- watchfire/lab.Get
def sig30 : Sig := ⟨(.cons (.one (.c (.ro (.cons .str (.cons .str .nil))))) (.cons (.one (.c .str)) .nil)), (.cons (.one (.c .str)) (.cons (.one (.c .bool)) .nil))⟩
def F30_L13 : Arr [PT.bytes, PT.list (CTs.cons CT.str (CTs.cons CT.str CTs.nil)), PT.int IntKind.i64, PT.int IntKind.i64]
 (Option ((List UInt8 × Bool) × Unit)) →
 List UInt8 → List (List UInt8 × List UInt8) → Int64 → Int64 → Option ((List UInt8 × Bool) × Unit) := fun
 (rec :
 Arr [PT.bytes, PT.list (CTs.cons CT.str (CTs.cons CT.str CTs.nil)), PT.int IntKind.i64, PT.int IntKind.i64]
 (Option ((List UInt8 × Bool) × Unit)))
 (key : List UInt8) (t : List (List UInt8 × List UInt8)) (t_1 t_2 : Int64) =>
 oite (decide (t_2 < t_1))
 (obind (at? t (Int64.toInt t_2)) fun (x_1 : List UInt8 × List UInt8) =>
 oite (Prod.fst x_1 == key) (some ((Prod.snd x_1, true), ())) (rec key t t_1 (t_2 + (1 : Int64))))
 (some ((@List.nil UInt8, false), ()))
def F30_R13 : Nat → PT.T PT.bytes → List (List UInt8 × List UInt8) → Int64 → Int64 → Option ((List UInt8 × Bool) × Unit) := ofixA (13 : Nat) [PT.bytes, PT.list (CTs.cons CT.str (CTs.cons CT.str CTs.nil)), PT.int IntKind.i64, PT.int IntKind.i64]
 F30_L13
def F30 : Nat → List (List UInt8 × List UInt8) × List UInt8 → Option ((List UInt8 × Bool) × Unit) := fun (n : Nat) (x : List (List UInt8 × List UInt8) × List UInt8) =>
 F30_R13 n (Prod.snd x) (Prod.fst x) (Int64.ofInt ↑(List.length (Prod.fst x))) (0 : Int64)
theorem F30_R13_s  (m_ : Nat) : F30_R13  (m_ + 1) = F30_L13  (F30_R13  m_) := rfl
theorem ok30 (n : Nat) : FunOK Try.prog ⟨30, sig30, F30 n⟩ :=
 fun_ok (hints := ⟨[], [(13, ⟨[(1, .one (.str)), (8, .one (.ro (.cons .str (.cons .str .nil)))), (9, .one (.int .i64)), (10, .one (.int .i64))], [], 2⟩)]⟩) (fuel := n) (c := Try.f30.body.getD .skip) (rs := Try.f30.results.toList) tt_ok mix (FsOK.nil) Try.func30 (by kernel_rfl) (by kernel_rfl) rfl (by kernel_rfl) rfl rfl (by kernel_rfl)
-- watchfire/match.Names
def sig17 : Sig := ⟨(.cons (.agg (.cons (.int .u8) (.cons .str (.cons (.ro (.cons .str (.cons .str .nil))) (.cons (.int .u8) (.cons (.int .u64) (.cons (.int .u8) (.cons (.int .i64) .nil)))))))) .nil), (.cons (.one (.c (.ro (.cons .str (.cons .str .nil))))) .nil)⟩
def F17_L29 : Nat →
 Arr
 [PT.int IntKind.i64, PT.int IntKind.i64, PT.int IntKind.u8, PT.bytes,
 PT.list (CTs.cons CT.str (CTs.cons CT.str CTs.nil)), PT.int IntKind.u8, PT.int IntKind.u64, PT.int IntKind.u8,
 PT.int IntKind.i64, PT.list (CTs.cons CT.str (CTs.cons CT.str CTs.nil)),
 PT.list (CTs.cons CT.str (CTs.cons CT.str CTs.nil))]
 (Option (List (List UInt8 × List UInt8) × Unit)) →
 Int64 →
 Int64 →
 UInt8 →
 List UInt8 →
 List (List UInt8 × List UInt8) →
 UInt8 →
 UInt64 →
 UInt8 →
 Int64 →
 List (List UInt8 × List UInt8) →
 List (List UInt8 × List UInt8) → Option (List (List UInt8 × List UInt8) × Unit) := fun (n : Nat)
 (rec :
 Arr
 [PT.int IntKind.i64, PT.int IntKind.i64, PT.int IntKind.u8, PT.bytes,
 PT.list (CTs.cons CT.str (CTs.cons CT.str CTs.nil)), PT.int IntKind.u8, PT.int IntKind.u64, PT.int IntKind.u8,
 PT.int IntKind.i64, PT.list (CTs.cons CT.str (CTs.cons CT.str CTs.nil)),
 PT.list (CTs.cons CT.str (CTs.cons CT.str CTs.nil))]
 (Option (List (List UInt8 × List UInt8) × Unit)))
 (t t_1 : Int64) (a0 : UInt8) (a1 : List UInt8) (a2 : List (List UInt8 × List UInt8)) (a3 : UInt8) (a4 : UInt64)
 (a5 : UInt8) (a6 : Int64) (out t_2 : List (List UInt8 × List UInt8)) =>
 oite (decide (t_1 < t))
 (oite (decide ((0 : Int) ≤ Int64.toInt t_1) && Nat.blt (Int.toNat (Int64.toInt t_1)) (List.length t_2))
 (obind t_2[Int.toNat (Int64.toInt t_1)]? fun (x_2 : List UInt8 × List UInt8) =>
 obind (F30 n (a2, Prod.fst x_2)) fun (x_3 : (List UInt8 × Bool) × Unit) =>
 oite (!Prod.snd (Prod.fst x_3))
 (oite (Nat.ble (List.length out + List.length [(Prod.fst x_2, Prod.snd x_2)]) (4294967296 : Nat))
 (rec t (t_1 + (1 : Int64)) a0 a1 a2 a3 a4 a5 a6 (out ++ [(Prod.fst x_2, Prod.snd x_2)]) t_2) none)
 (rec t (t_1 + (1 : Int64)) a0 a1 a2 a3 a4 a5 a6 out t_2))
 none)
 (some (out, ()))
def F17_R29 : Nat →
 Nat →
 PT.T (PT.int IntKind.i64) →
 Int64 →
 UInt8 →
 List UInt8 →
 List (List UInt8 × List UInt8) →
 UInt8 →
 UInt64 →
 UInt8 →
 Int64 →
 List (List UInt8 × List UInt8) →
 List (List UInt8 × List UInt8) → Option (List (List UInt8 × List UInt8) × Unit) := fun (n : Nat) =>
 ofixA (29 : Nat)
 [PT.int IntKind.i64, PT.int IntKind.i64, PT.int IntKind.u8, PT.bytes,
 PT.list (CTs.cons CT.str (CTs.cons CT.str CTs.nil)), PT.int IntKind.u8, PT.int IntKind.u64, PT.int IntKind.u8,
 PT.int IntKind.i64, PT.list (CTs.cons CT.str (CTs.cons CT.str CTs.nil)),
 PT.list (CTs.cons CT.str (CTs.cons CT.str CTs.nil))]
 (F17_L29 n)
def F17 : Nat →
 UInt8 × List UInt8 × List (List UInt8 × List UInt8) × UInt8 × UInt64 × UInt8 × Int64 →
 Option (List (List UInt8 × List UInt8) × Unit) := fun (n : Nat) (x : UInt8 × List UInt8 × List (List UInt8 × List UInt8) × UInt8 × UInt64 × UInt8 × Int64) =>
 oite (Nat.ble ((0 : Nat) + List.length (Prod.fst (Prod.snd (Prod.snd x)))) (4294967296 : Nat))
 (obind (F29 n (Prod.fst x)) fun (x_1 : List UInt8 × Unit) =>
 F17_R29 n n
 (Int64.ofInt
 ↑(List.length
 [([(114 : UInt8), (117 : UInt8), (108 : UInt8), (101 : UInt8)], Prod.fst (Prod.snd x)),
 ([(111 : UInt8), (114 : UInt8), (105 : UInt8), (103 : UInt8), (105 : UInt8), (110 : UInt8)],
 Prod.fst x_1)]))
 (0 : Int64) (Prod.fst x) (Prod.fst (Prod.snd x)) (Prod.fst (Prod.snd (Prod.snd x)))
 (Prod.fst (Prod.snd (Prod.snd (Prod.snd x)))) (Prod.fst (Prod.snd (Prod.snd (Prod.snd (Prod.snd x)))))
 (Prod.fst (Prod.snd (Prod.snd (Prod.snd (Prod.snd (Prod.snd x))))))
 (Prod.snd (Prod.snd (Prod.snd (Prod.snd (Prod.snd (Prod.snd x)))))) ([] ++ Prod.fst (Prod.snd (Prod.snd x)))
 [([(114 : UInt8), (117 : UInt8), (108 : UInt8), (101 : UInt8)], Prod.fst (Prod.snd x)),
 ([(111 : UInt8), (114 : UInt8), (105 : UInt8), (103 : UInt8), (105 : UInt8), (110 : UInt8)], Prod.fst x_1)])
 none
theorem F17_R29_s (n : Nat) (m_ : Nat) : F17_R29 n (m_ + 1) = F17_L29 n (F17_R29 n m_) := rfl
theorem ok17 (n : Nat) : FunOK Try.prog ⟨17, sig17, F17 n⟩ :=
 fun_ok (hints := ⟨[], [(29, ⟨[(1, .one (.own 1)), (3, .one (.own 2)), (19, .one (.own 3)), (20, .one (.int .i64)), (21, .one (.int .i64))], [(1, .cells [.int .u8, .str, .ro (.cons .str (.cons .str .nil)), .int .u8, .int .u64, .int .u8, .int .i64]), (2, .row (.cons .str (.cons .str .nil))), (3, .row (.cons .str (.cons .str .nil)))], 4⟩)]⟩) (fuel := n) (c := Try.f17.body.getD .skip) (rs := Try.f17.results.toList) tt_ok mix (FsOK.cons (ok29 n) (FsOK.cons (ok30 n) (FsOK.nil))) Try.func17 (by kernel_rfl) (by kernel_rfl) rfl (by kernel_rfl) rfl rfl (by kernel_rfl)
-- internal/stringslite.HasPrefix
def sig41 : Sig := ⟨(.cons (.one (.c .str)) (.cons (.one (.c .str)) .nil)), (.cons (.one (.c .bool)) .nil)⟩
def F41 : Nat → List UInt8 × List UInt8 → Option (Bool × Unit) := fun (n : Nat) (x : List UInt8 × List UInt8) =>
 oite (decide (Int64.ofInt ↑(List.length (Prod.snd x)) ≤ Int64.ofInt ↑(List.length (Prod.fst x))))
 (oite
 (decide ((0 : Int) ≤ Int64.toInt (Int64.ofInt ↑(List.length (Prod.snd x)))) &&
 Nat.ble (Int.toNat (Int64.toInt (Int64.ofInt ↑(List.length (Prod.snd x))))) (List.length (Prod.fst x)) &&
 true)
 (some
 (List.drop (0 : Nat)
 (List.take (Int.toNat (Int64.toInt (Int64.ofInt ↑(List.length (Prod.snd x))))) (Prod.fst x)) ==
 Prod.snd x,
 ()))
 none)
 (some (false, ()))
theorem ok41 (n : Nat) : FunOK Try.prog ⟨41, sig41, F41 n⟩ :=
 fun_ok (hints := ⟨[], []⟩) (fuel := n) (c := Try.f41.body.getD .skip) (rs := Try.f41.results.toList) tt_ok mix (FsOK.nil) Try.func41 (by kernel_rfl) (by kernel_rfl) rfl (by kernel_rfl) rfl rfl (by kernel_rfl)
-- strings.HasPrefix
def sig38 : Sig := ⟨(.cons (.one (.c .str)) (.cons (.one (.c .str)) .nil)), (.cons (.one (.c .bool)) .nil)⟩
def F38 : Nat → List UInt8 × List UInt8 → Option (Bool × Unit) := fun (n : Nat) (x : List UInt8 × List UInt8) =>
 obind (F41 n (Prod.fst x, Prod.snd x)) fun (x_1 : Bool × Unit) => some (Prod.fst x_1, ())
theorem ok38 (n : Nat) : FunOK Try.prog ⟨38, sig38, F38 n⟩ :=
 fun_ok (hints := ⟨[], []⟩) (fuel := n) (c := Try.f38.body.getD .skip) (rs := Try.f38.results.toList) tt_ok mix (FsOK.cons (ok41 n) (FsOK.nil)) Try.func38 (by kernel_rfl) (by kernel_rfl) rfl (by kernel_rfl) rfl rfl (by kernel_rfl)
-- (watchfire/match.Ask).Holds
def sig31 : Sig := ⟨(.cons (.agg (.cons .str (.cons (.int .u8) (.cons .str .nil)))) (.cons (.one (.c (.ro (.cons .str (.cons .str .nil))))) .nil)), (.cons (.one (.c .bool)) .nil)⟩
def F31 : Nat → (List UInt8 × UInt8 × List UInt8) × List (List UInt8 × List UInt8) → Option (Bool × Unit) := fun (n : Nat) (x : (List UInt8 × UInt8 × List UInt8) × List (List UInt8 × List UInt8)) =>
 obind (F30 n (Prod.snd x, Prod.fst (Prod.fst x))) fun (x_1 : (List UInt8 × Bool) × Unit) =>
 oite (decide (Prod.fst (Prod.snd (Prod.fst x)) = (1 : UInt8)))
 (oite (Prod.snd (Prod.fst x_1)) (some (Prod.fst (Prod.fst x_1) == Prod.snd (Prod.snd (Prod.fst x)), ()))
 (some (false, ())))
 (oite (decide (Prod.fst (Prod.snd (Prod.fst x)) = (2 : UInt8)))
 (oite (!Prod.snd (Prod.fst x_1)) (some (true, ()))
 (some (!Prod.fst (Prod.fst x_1) == Prod.snd (Prod.snd (Prod.fst x)), ())))
 (oite (decide (Prod.fst (Prod.snd (Prod.fst x)) = (3 : UInt8)))
 (oite (Prod.snd (Prod.fst x_1))
 (obind (F38 n (Prod.fst (Prod.fst x_1), Prod.snd (Prod.snd (Prod.fst x)))) fun (x_2 : Bool × Unit) =>
 some (Prod.fst x_2, ()))
 (some (false, ())))
 (oite (decide (Prod.fst (Prod.snd (Prod.fst x)) = (4 : UInt8))) (some (Prod.snd (Prod.fst x_1), ()))
 (oite (decide (Prod.fst (Prod.snd (Prod.fst x)) = (5 : UInt8)))
 (some (!Prod.snd (Prod.fst x_1), ())) (some (false, ()))))))
theorem ok31 (n : Nat) : FunOK Try.prog ⟨31, sig31, F31 n⟩ :=
 fun_ok (hints := ⟨[], []⟩) (fuel := n) (c := Try.f31.body.getD .skip) (rs := Try.f31.results.toList) tt_ok mix (FsOK.cons (ok30 n) (FsOK.cons (ok38 n) (FsOK.nil))) Try.func31 (by kernel_rfl) (by kernel_rfl) rfl (by kernel_rfl) rfl rfl (by kernel_rfl)
-- (watchfire/match.Asks).Holds
def sig18 : Sig := ⟨(.cons (.one (.c (.ro (.cons .str (.cons (.int .u8) (.cons .str .nil)))))) (.cons (.one (.c (.ro (.cons .str (.cons .str .nil))))) .nil)), (.cons (.one (.c .bool)) .nil)⟩
def F18_L13 : Nat →
 Arr
 [PT.list (CTs.cons CT.str (CTs.cons CT.str CTs.nil)),
 PT.list (CTs.cons CT.str (CTs.cons (CT.int IntKind.u8) (CTs.cons CT.str CTs.nil))), PT.int IntKind.i64,
 PT.int IntKind.i64]
 (Option (Bool × Unit)) →
 List (List UInt8 × List UInt8) → List (List UInt8 × UInt8 × List UInt8) → Int64 → Int64 → Option (Bool × Unit) := fun (n : Nat)
 (rec :
 Arr
 [PT.list (CTs.cons CT.str (CTs.cons CT.str CTs.nil)),
 PT.list (CTs.cons CT.str (CTs.cons (CT.int IntKind.u8) (CTs.cons CT.str CTs.nil))), PT.int IntKind.i64,
 PT.int IntKind.i64]
 (Option (Bool × Unit)))
 (labels : List (List UInt8 × List UInt8)) (t : List (List UInt8 × UInt8 × List UInt8)) (t_1 t_2 : Int64) =>
 oite (decide (t_2 < t_1))
 (obind (at? t (Int64.toInt t_2)) fun (x_1 : List UInt8 × UInt8 × List UInt8) =>
 obind (F31 n ((Prod.fst x_1, Prod.fst (Prod.snd x_1), Prod.snd (Prod.snd x_1)), labels))
 fun (x_2 : Bool × Unit) =>
 oite (!Prod.fst x_2) (some (false, ())) (rec labels t t_1 (t_2 + (1 : Int64))))
 (some (true, ()))
def F18_R13 : Nat →
 Nat →
 PT.T (PT.list (CTs.cons CT.str (CTs.cons CT.str CTs.nil))) →
 List (List UInt8 × UInt8 × List UInt8) → Int64 → Int64 → Option (Bool × Unit) := fun (n : Nat) =>
 ofixA (13 : Nat)
 [PT.list (CTs.cons CT.str (CTs.cons CT.str CTs.nil)),
 PT.list (CTs.cons CT.str (CTs.cons (CT.int IntKind.u8) (CTs.cons CT.str CTs.nil))), PT.int IntKind.i64,
 PT.int IntKind.i64]
 (F18_L13 n)
def F18 : Nat → List (List UInt8 × UInt8 × List UInt8) × List (List UInt8 × List UInt8) → Option (Bool × Unit) := fun (n : Nat) (x : List (List UInt8 × UInt8 × List UInt8) × List (List UInt8 × List UInt8)) =>
 F18_R13 n n (Prod.snd x) (Prod.fst x) (Int64.ofInt ↑(List.length (Prod.fst x))) (0 : Int64)
theorem F18_R13_s (n : Nat) (m_ : Nat) : F18_R13 n (m_ + 1) = F18_L13 n (F18_R13 n m_) := rfl
theorem ok18 (n : Nat) : FunOK Try.prog ⟨18, sig18, F18 n⟩ :=
 fun_ok (hints := ⟨[], [(13, ⟨[(1, .one (.ro (.cons .str (.cons .str .nil)))), (7, .one (.ro (.cons .str (.cons (.int .u8) (.cons .str .nil))))), (8, .one (.int .i64)), (9, .one (.int .i64))], [], 2⟩)]⟩) (fuel := n) (c := Try.f18.body.getD .skip) (rs := Try.f18.results.toList) tt_ok mix (FsOK.cons (ok31 n) (FsOK.nil)) Try.func18 (by kernel_rfl) (by kernel_rfl) rfl (by kernel_rfl) rfl rfl (by kernel_rfl)
-- watchfire/curb.equal
def sig19 : Sig := ⟨(.cons (.one (.c (.ro (.cons .str (.cons .str .nil))))) (.cons (.one (.c (.ro (.cons .str (.cons .str .nil))))) (.cons (.one (.c (.ro (.cons .str .nil)))) .nil))), (.cons (.one (.c .bool)) .nil)⟩
def F19_L13 : Nat →
 Arr
 [PT.list (CTs.cons CT.str (CTs.cons CT.str CTs.nil)), PT.list (CTs.cons CT.str (CTs.cons CT.str CTs.nil)),
 PT.list (CTs.cons CT.str CTs.nil), PT.int IntKind.i64, PT.int IntKind.i64]
 (Option (Bool × Unit)) →
 List (List UInt8 × List UInt8) →
 List (List UInt8 × List UInt8) → List (List UInt8) → Int64 → Int64 → Option (Bool × Unit) := fun (n : Nat)
 (rec :
 Arr
 [PT.list (CTs.cons CT.str (CTs.cons CT.str CTs.nil)), PT.list (CTs.cons CT.str (CTs.cons CT.str CTs.nil)),
 PT.list (CTs.cons CT.str CTs.nil), PT.int IntKind.i64, PT.int IntKind.i64]
 (Option (Bool × Unit)))
 (a b : List (List UInt8 × List UInt8)) (t : List (List UInt8)) (t_1 t_2 : Int64) =>
 oite (decide (t_2 < t_1))
 (obind (at? t (Int64.toInt t_2)) fun (x_1 : List UInt8) =>
 obind (F30 n (a, x_1)) fun (x_2 : (List UInt8 × Bool) × Unit) =>
 obind (F30 n (b, x_1)) fun (x_3 : (List UInt8 × Bool) × Unit) =>
 oite (!Prod.snd (Prod.fst x_2) == Prod.snd (Prod.fst x_3)) (some (false, ()))
 (oite (!Prod.fst (Prod.fst x_2) == Prod.fst (Prod.fst x_3)) (some (false, ()))
 (rec a b t t_1 (t_2 + (1 : Int64)))))
 (some (true, ()))
def F19_R13 : Nat →
 Nat →
 PT.T (PT.list (CTs.cons CT.str (CTs.cons CT.str CTs.nil))) →
 List (List UInt8 × List UInt8) → List (List UInt8) → Int64 → Int64 → Option (Bool × Unit) := fun (n : Nat) =>
 ofixA (13 : Nat)
 [PT.list (CTs.cons CT.str (CTs.cons CT.str CTs.nil)), PT.list (CTs.cons CT.str (CTs.cons CT.str CTs.nil)),
 PT.list (CTs.cons CT.str CTs.nil), PT.int IntKind.i64, PT.int IntKind.i64]
 (F19_L13 n)
def F19 : Nat → List (List UInt8 × List UInt8) × List (List UInt8 × List UInt8) × List (List UInt8) → Option (Bool × Unit) := fun (n : Nat) (x : List (List UInt8 × List UInt8) × List (List UInt8 × List UInt8) × List (List UInt8)) =>
 F19_R13 n n (Prod.fst x) (Prod.fst (Prod.snd x)) (Prod.snd (Prod.snd x))
 (Int64.ofInt ↑(List.length (Prod.snd (Prod.snd x)))) (0 : Int64)
theorem F19_R13_s (n : Nat) (m_ : Nat) : F19_R13 n (m_ + 1) = F19_L13 n (F19_R13 n m_) := rfl
theorem ok19 (n : Nat) : FunOK Try.prog ⟨19, sig19, F19 n⟩ :=
 fun_ok (hints := ⟨[], [(13, ⟨[(0, .one (.ro (.cons .str (.cons .str .nil)))), (1, .one (.ro (.cons .str (.cons .str .nil)))), (13, .one (.ro (.cons .str .nil))), (14, .one (.int .i64)), (15, .one (.int .i64))], [], 3⟩)]⟩) (fuel := n) (c := Try.f19.body.getD .skip) (rs := Try.f19.results.toList) tt_ok mix (FsOK.cons (ok30 n) (FsOK.nil)) Try.func19 (by kernel_rfl) (by kernel_rfl) rfl (by kernel_rfl) rfl rfl (by kernel_rfl)
-- (watchfire/curb.Curb).Holds
def sig7 : Sig := ⟨(.cons (.agg (.cons (.ro (.cons .str (.cons (.int .u8) (.cons .str .nil)))) (.cons (.ro (.cons .str (.cons (.int .u8) (.cons .str .nil)))) (.cons (.ro (.cons .str .nil)) .nil)))) (.cons (.agg (.cons (.int .u8) (.cons .str (.cons (.ro (.cons .str (.cons .str .nil))) (.cons (.int .u8) (.cons (.int .u64) (.cons (.int .u8) (.cons (.int .i64) .nil)))))))) (.cons (.agg (.cons (.int .u8) (.cons .str (.cons (.ro (.cons .str (.cons .str .nil))) (.cons (.int .u8) (.cons (.int .u64) (.cons (.int .u8) (.cons (.int .i64) .nil)))))))) .nil))), (.cons (.one (.c .bool)) .nil)⟩
def F7 : Nat →
 (List (List UInt8 × UInt8 × List UInt8) × List (List UInt8 × UInt8 × List UInt8) × List (List UInt8)) ×
 (UInt8 × List UInt8 × List (List UInt8 × List UInt8) × UInt8 × UInt64 × UInt8 × Int64) ×
 UInt8 × List UInt8 × List (List UInt8 × List UInt8) × UInt8 × UInt64 × UInt8 × Int64 →
 Option (Bool × Unit) := fun (n : Nat)
 (x :
 (List (List UInt8 × UInt8 × List UInt8) × List (List UInt8 × UInt8 × List UInt8) × List (List UInt8)) ×
 (UInt8 × List UInt8 × List (List UInt8 × List UInt8) × UInt8 × UInt64 × UInt8 × Int64) ×
 UInt8 × List UInt8 × List (List UInt8 × List UInt8) × UInt8 × UInt64 × UInt8 × Int64) =>
 oite (!decide (Prod.fst (Prod.snd (Prod.snd (Prod.snd (Prod.fst (Prod.snd x))))) = (2 : UInt8)))
 (some (false, ()))
 (obind
 (F16 n
 ((Prod.fst (Prod.fst (Prod.snd x)), Prod.fst (Prod.snd (Prod.fst (Prod.snd x))),
 Prod.fst (Prod.snd (Prod.snd (Prod.fst (Prod.snd x)))),
 Prod.fst (Prod.snd (Prod.snd (Prod.snd (Prod.fst (Prod.snd x))))),
 Prod.fst (Prod.snd (Prod.snd (Prod.snd (Prod.snd (Prod.fst (Prod.snd x)))))),
 Prod.fst (Prod.snd (Prod.snd (Prod.snd (Prod.snd (Prod.snd (Prod.fst (Prod.snd x))))))),
 Prod.snd (Prod.snd (Prod.snd (Prod.snd (Prod.snd (Prod.snd (Prod.fst (Prod.snd x)))))))),
 Prod.fst (Prod.snd (Prod.snd x)), Prod.fst (Prod.snd (Prod.snd (Prod.snd x))),
 Prod.fst (Prod.snd (Prod.snd (Prod.snd (Prod.snd x)))),
 Prod.fst (Prod.snd (Prod.snd (Prod.snd (Prod.snd (Prod.snd x))))),
 Prod.fst (Prod.snd (Prod.snd (Prod.snd (Prod.snd (Prod.snd (Prod.snd x)))))),
 Prod.fst (Prod.snd (Prod.snd (Prod.snd (Prod.snd (Prod.snd (Prod.snd (Prod.snd x))))))),
 Prod.snd (Prod.snd (Prod.snd (Prod.snd (Prod.snd (Prod.snd (Prod.snd (Prod.snd x)))))))))
 fun (x_1 : Bool × Unit) =>
 oite (Prod.fst x_1) (some (false, ()))
 (obind
 (F17 n
 (Prod.fst (Prod.fst (Prod.snd x)), Prod.fst (Prod.snd (Prod.fst (Prod.snd x))),
 Prod.fst (Prod.snd (Prod.snd (Prod.fst (Prod.snd x)))),
 Prod.fst (Prod.snd (Prod.snd (Prod.snd (Prod.fst (Prod.snd x))))),
 Prod.fst (Prod.snd (Prod.snd (Prod.snd (Prod.snd (Prod.fst (Prod.snd x)))))),
 Prod.fst (Prod.snd (Prod.snd (Prod.snd (Prod.snd (Prod.snd (Prod.fst (Prod.snd x))))))),
 Prod.snd (Prod.snd (Prod.snd (Prod.snd (Prod.snd (Prod.snd (Prod.fst (Prod.snd x)))))))))
 fun (x_2 : List (List UInt8 × List UInt8) × Unit) =>
 obind
 (F17 n
 (Prod.fst (Prod.snd (Prod.snd x)), Prod.fst (Prod.snd (Prod.snd (Prod.snd x))),
 Prod.fst (Prod.snd (Prod.snd (Prod.snd (Prod.snd x)))),
 Prod.fst (Prod.snd (Prod.snd (Prod.snd (Prod.snd (Prod.snd x))))),
 Prod.fst (Prod.snd (Prod.snd (Prod.snd (Prod.snd (Prod.snd (Prod.snd x)))))),
 Prod.fst (Prod.snd (Prod.snd (Prod.snd (Prod.snd (Prod.snd (Prod.snd (Prod.snd x))))))),
 Prod.snd (Prod.snd (Prod.snd (Prod.snd (Prod.snd (Prod.snd (Prod.snd (Prod.snd x)))))))))
 fun (x_3 : List (List UInt8 × List UInt8) × Unit) =>
 obind (F18 n (Prod.fst (Prod.fst x), Prod.fst x_2)) fun (x_4 : Bool × Unit) =>
 oite (Prod.fst x_4)
 (obind (F18 n (Prod.fst (Prod.snd (Prod.fst x)), Prod.fst x_3)) fun (x_5 : Bool × Unit) =>
 oite (Prod.fst x_5)
 (obind (F19 n (Prod.fst x_2, Prod.fst x_3, Prod.snd (Prod.snd (Prod.fst x))))
 fun (x_6 : Bool × Unit) => some (Prod.fst x_6, ()))
 (some (false, ())))
 (some (false, ()))))
theorem ok7 (n : Nat) : FunOK Try.prog ⟨7, sig7, F7 n⟩ :=
 fun_ok (hints := ⟨[], []⟩) (fuel := n) (c := Try.f7.body.getD .skip) (rs := Try.f7.results.toList) tt_ok mix (FsOK.cons (ok16 n) (FsOK.cons (ok17 n) (FsOK.cons (ok18 n) (FsOK.cons (ok19 n) (FsOK.nil))))) Try.func7 (by kernel_rfl) (by kernel_rfl) rfl (by kernel_rfl) rfl rfl (by kernel_rfl)
-- watchfire/watchfirelaw19.Awake
def sig5 : Sig := ⟨.nil, (.cons (.one (.c .bool)) .nil)⟩
def F5 : Nat → Unit → Option (Bool × Unit) := fun (n : Nat) (x : Unit) =>
 obind (F14 n ([((2 : UInt8), (0 : UInt8), (3 : UInt8))], (1 : Int64)))
 fun (x_1 : List (List UInt8 × UInt8 × List UInt8) × Unit) =>
 obind (F14 n ([((4 : UInt8), (3 : UInt8), (0 : UInt8))], (1 : Int64)))
 fun (x_2 : List (List UInt8 × UInt8 × List UInt8) × Unit) =>
 obind
 (F7 n
 ((Prod.fst x_1, Prod.fst x_2, [[(110 : UInt8), (111 : UInt8), (100 : UInt8), (101 : UInt8)]]),
 ((0 : UInt8), [(104 : UInt8), (111 : UInt8), (116 : UInt8)],
 [([(110 : UInt8), (111 : UInt8), (100 : UInt8), (101 : UInt8)], [(120 : UInt8)])], (2 : UInt8),
 (0 : UInt64), (0 : UInt8), (0 : Int64)),
 (0 : UInt8), [(99 : UInt8), (111 : UInt8), (108 : UInt8), (100 : UInt8)],
 [([(110 : UInt8), (111 : UInt8), (100 : UInt8), (101 : UInt8)], [(120 : UInt8)])], (0 : UInt8),
 (0 : UInt64), (0 : UInt8), (0 : Int64)))
 fun (x_3 : Bool × Unit) =>
 oite (Prod.fst x_3)
 (obind
 (F7 n
 ((Prod.fst x_1, Prod.fst x_2, [[(110 : UInt8), (111 : UInt8), (100 : UInt8), (101 : UInt8)]]),
 ((0 : UInt8), [(104 : UInt8), (111 : UInt8), (116 : UInt8)],
 [([(110 : UInt8), (111 : UInt8), (100 : UInt8), (101 : UInt8)], [(120 : UInt8)])], (2 : UInt8),
 (0 : UInt64), (0 : UInt8), (0 : Int64)),
 (0 : UInt8), [(104 : UInt8), (111 : UInt8), (116 : UInt8)],
 [([(110 : UInt8), (111 : UInt8), (100 : UInt8), (101 : UInt8)], [(120 : UInt8)])], (2 : UInt8),
 (0 : UInt64), (0 : UInt8), (0 : Int64)))
 fun (x_4 : Bool × Unit) =>
 oite (!Prod.fst x_4)
 (obind
 (F7 n
 ((Prod.fst x_1, Prod.fst x_2, [[(110 : UInt8), (111 : UInt8), (100 : UInt8), (101 : UInt8)]]),
 ((0 : UInt8), [(99 : UInt8), (111 : UInt8), (108 : UInt8), (100 : UInt8)],
 [([(110 : UInt8), (111 : UInt8), (100 : UInt8), (101 : UInt8)], [(120 : UInt8)])], (0 : UInt8),
 (0 : UInt64), (0 : UInt8), (0 : Int64)),
 (0 : UInt8), [(104 : UInt8), (111 : UInt8), (116 : UInt8)],
 [([(110 : UInt8), (111 : UInt8), (100 : UInt8), (101 : UInt8)], [(120 : UInt8)])], (2 : UInt8),
 (0 : UInt64), (0 : UInt8), (0 : Int64)))
 fun (x_5 : Bool × Unit) => some (!Prod.fst x_5, ()))
 (some (false, ())))
 (some (false, ()))
theorem ok5 (n : Nat) : FunOK Try.prog ⟨5, sig5, F5 n⟩ :=
 fun_ok (hints := ⟨[], []⟩) (fuel := n) (c := Try.f5.body.getD .skip) (rs := Try.f5.results.toList) tt_ok mix (FsOK.cons (ok14 n) (FsOK.cons (ok7 n) (FsOK.nil))) Try.func5 (by kernel_rfl) (by kernel_rfl) rfl (by kernel_rfl) rfl rfl (by kernel_rfl)
-- (watchfire/watchfirelaw19.Small).Curb
def sig10 : Sig := ⟨(.cons (.agg (.cons (.ro (.cons (.int .u8) (.cons (.int .u8) (.cons (.int .u8) .nil)))) (.cons (.ro (.cons (.int .u8) (.cons (.int .u8) (.cons (.int .u8) .nil)))) (.cons (.int .u8) .nil)))) .nil), (.cons (.agg (.cons (.ro (.cons .str (.cons (.int .u8) (.cons .str .nil)))) (.cons (.ro (.cons .str (.cons (.int .u8) (.cons .str .nil)))) (.cons (.ro (.cons .str .nil)) .nil)))) .nil)⟩
def F10_L29 : Arr
 [PT.int IntKind.i64, PT.int IntKind.i64,
 PT.list (CTs.cons (CT.int IntKind.u8) (CTs.cons (CT.int IntKind.u8) (CTs.cons (CT.int IntKind.u8) CTs.nil))),
 PT.list (CTs.cons (CT.int IntKind.u8) (CTs.cons (CT.int IntKind.u8) (CTs.cons (CT.int IntKind.u8) CTs.nil))),
 PT.int IntKind.u8, PT.list (CTs.cons CT.str (CTs.cons (CT.int IntKind.u8) (CTs.cons CT.str CTs.nil))),
 PT.list (CTs.cons CT.str (CTs.cons (CT.int IntKind.u8) (CTs.cons CT.str CTs.nil))),
 PT.list (CTs.cons CT.str CTs.nil), PT.list (CTs.cons CT.str CTs.nil)]
 (Option
 ((List (List UInt8 × UInt8 × List UInt8) × List (List UInt8 × UInt8 × List UInt8) × List (List UInt8)) × Unit)) →
 Int64 →
 Int64 →
 List (UInt8 × UInt8 × UInt8) →
 List (UInt8 × UInt8 × UInt8) →
 UInt8 →
 List (List UInt8 × UInt8 × List UInt8) →
 List (List UInt8 × UInt8 × List UInt8) →
 List (List UInt8) →
 List (List UInt8) →
 Option
 ((List (List UInt8 × UInt8 × List UInt8) ×
 List (List UInt8 × UInt8 × List UInt8) × List (List UInt8)) ×
 Unit) := fun
 (rec :
 Arr
 [PT.int IntKind.i64, PT.int IntKind.i64,
 PT.list (CTs.cons (CT.int IntKind.u8) (CTs.cons (CT.int IntKind.u8) (CTs.cons (CT.int IntKind.u8) CTs.nil))),
 PT.list (CTs.cons (CT.int IntKind.u8) (CTs.cons (CT.int IntKind.u8) (CTs.cons (CT.int IntKind.u8) CTs.nil))),
 PT.int IntKind.u8, PT.list (CTs.cons CT.str (CTs.cons (CT.int IntKind.u8) (CTs.cons CT.str CTs.nil))),
 PT.list (CTs.cons CT.str (CTs.cons (CT.int IntKind.u8) (CTs.cons CT.str CTs.nil))),
 PT.list (CTs.cons CT.str CTs.nil), PT.list (CTs.cons CT.str CTs.nil)]
 (Option
 ((List (List UInt8 × UInt8 × List UInt8) × List (List UInt8 × UInt8 × List UInt8) × List (List UInt8)) ×
 Unit)))
 (t t_1 : Int64) (s0 s1 : List (UInt8 × UInt8 × UInt8)) (s2 : UInt8) (c0 c1 : List (List UInt8 × UInt8 × List UInt8))
 (t_2 cl : List (List UInt8)) =>
 oite (decide (t_1 < t))
 (oite (decide ((0 : Int) ≤ Int64.toInt t_1) && Nat.blt (Int.toNat (Int64.toInt t_1)) (List.length t_2))
 (obind t_2[Int.toNat (Int64.toInt t_1)]? fun (x_3 : List UInt8) =>
 oite (decide ((0 : Int) ≤ Int64.toInt t_1))
 (oite (decide (IK.shr IntKind.u8 s2 (Int64.toInt t_1) &&& (1 : UInt8) = (1 : UInt8)))
 (oite (Nat.ble (List.length cl + List.length [x_3]) (4294967296 : Nat))
 (rec t (t_1 + (1 : Int64)) s0 s1 s2 c0 c1 t_2 (cl ++ [x_3])) none)
 (rec t (t_1 + (1 : Int64)) s0 s1 s2 c0 c1 t_2 cl))
 none)
 none)
 (some ((c0, c1, cl), ()))
def F10_R29 : Nat →
 PT.T (PT.int IntKind.i64) →
 Int64 →
 List (UInt8 × UInt8 × UInt8) →
 List (UInt8 × UInt8 × UInt8) →
 UInt8 →
 List (List UInt8 × UInt8 × List UInt8) →
 List (List UInt8 × UInt8 × List UInt8) →
 List (List UInt8) →
 List (List UInt8) →
 Option
 ((List (List UInt8 × UInt8 × List UInt8) ×
 List (List UInt8 × UInt8 × List UInt8) × List (List UInt8)) ×
 Unit) := ofixA (29 : Nat)
 [PT.int IntKind.i64, PT.int IntKind.i64,
 PT.list (CTs.cons (CT.int IntKind.u8) (CTs.cons (CT.int IntKind.u8) (CTs.cons (CT.int IntKind.u8) CTs.nil))),
 PT.list (CTs.cons (CT.int IntKind.u8) (CTs.cons (CT.int IntKind.u8) (CTs.cons (CT.int IntKind.u8) CTs.nil))),
 PT.int IntKind.u8, PT.list (CTs.cons CT.str (CTs.cons (CT.int IntKind.u8) (CTs.cons CT.str CTs.nil))),
 PT.list (CTs.cons CT.str (CTs.cons (CT.int IntKind.u8) (CTs.cons CT.str CTs.nil))),
 PT.list (CTs.cons CT.str CTs.nil), PT.list (CTs.cons CT.str CTs.nil)]
 F10_L29
def F10 : Nat →
 List (UInt8 × UInt8 × UInt8) × List (UInt8 × UInt8 × UInt8) × UInt8 →
 Option
 ((List (List UInt8 × UInt8 × List UInt8) × List (List UInt8 × UInt8 × List UInt8) × List (List UInt8)) × Unit) := fun (n : Nat) (x : List (UInt8 × UInt8 × UInt8) × List (UInt8 × UInt8 × UInt8) × UInt8) =>
 obind (F14 n (Prod.fst x, (2 : Int64))) fun (x_1 : List (List UInt8 × UInt8 × List UInt8) × Unit) =>
 obind (F14 n (Prod.fst (Prod.snd x), (2 : Int64))) fun (x_2 : List (List UInt8 × UInt8 × List UInt8) × Unit) =>
 F10_R29 n (3 : Int64) (0 : Int64) (Prod.fst x) (Prod.fst (Prod.snd x)) (Prod.snd (Prod.snd x)) (Prod.fst x_1)
 (Prod.fst x_2)
 [[(110 : UInt8), (111 : UInt8), (100 : UInt8), (101 : UInt8)], [(97 : UInt8)],
 [(114 : UInt8), (117 : UInt8), (108 : UInt8), (101 : UInt8)]]
 []
theorem F10_R29_s  (m_ : Nat) : F10_R29  (m_ + 1) = F10_L29  (F10_R29  m_) := rfl
theorem ok10 (n : Nat) : FunOK Try.prog ⟨10, sig10, F10 n⟩ :=
 fun_ok (hints := ⟨[], [(29, ⟨[(1, .one (.own 1)), (2, .one (.own 2)), (3, .one (.own 3)), (13, .one (.own 4)), (14, .one (.int .i64)), (15, .one (.int .i64))], [(1, .cells [.ro (.cons (.int .u8) (.cons (.int .u8) (.cons (.int .u8) .nil))), .ro (.cons (.int .u8) (.cons (.int .u8) (.cons (.int .u8) .nil))), .int .u8]), (2, .cells [.nils, .nils, .nils]), (3, .cells [.ro (.cons .str (.cons (.int .u8) (.cons .str .nil))), .ro (.cons .str (.cons (.int .u8) (.cons .str .nil))), .own 5]), (4, .row (.cons .str .nil)), (5, .row (.cons .str .nil))], 6⟩)]⟩) (fuel := n) (c := Try.f10.body.getD .skip) (rs := Try.f10.results.toList) tt_ok mix (FsOK.cons (ok14 n) (FsOK.nil)) Try.func10 (by kernel_rfl) (by kernel_rfl) rfl (by kernel_rfl) rfl rfl (by kernel_rfl)
-- watchfire/lab.word
def sig33 : Sig := ⟨(.cons (.one (.c .str)) (.cons (.one (.c (.int .i64))) (.cons (.one (.c .bool)) .nil))), (.cons (.one (.c .bool)) .nil)⟩
def F33_J471 : Arr [PT.bool, PT.bytes, PT.nat] (Option (Bool × Unit)) → Bool → Int32 → Bool → List UInt8 → Nat → Option (Bool × Unit) := fun (rec : Arr [PT.bool, PT.bytes, PT.nat] (Option (Bool × Unit))) (also_1 : Bool) (c : Int32) (t_1 : Bool)
 (t_1_1 : List UInt8) (x_2 : Nat) =>
 oite t_1 (rec also_1 t_1_1 x_2)
 (oite also_1
 (oite (decide ((48 : Int32) ≤ c))
 (oite (decide (c ≤ (57 : Int32))) (rec also_1 t_1_1 x_2)
 (oite (decide (c = (46 : Int32))) (rec also_1 t_1_1 x_2)
 (oite (decide (c = (95 : Int32))) (rec also_1 t_1_1 x_2)
 (oite (decide (c = (45 : Int32))) (rec also_1 t_1_1 x_2) (some (false, ()))))))
 (oite (decide (c = (46 : Int32))) (rec also_1 t_1_1 x_2)
 (oite (decide (c = (95 : Int32))) (rec also_1 t_1_1 x_2)
 (oite (decide (c = (45 : Int32))) (rec also_1 t_1_1 x_2) (some (false, ()))))))
 (some (false, ())))
def F33_L29 : Arr [PT.bool, PT.bytes, PT.nat] (Option (Bool × Unit)) → Bool → List UInt8 → Nat → Option (Bool × Unit) := fun (rec : Arr [PT.bool, PT.bytes, PT.nat] (Option (Bool × Unit))) (also : Bool) (t : List UInt8) (x_1 : Nat) =>
 oite (Nat.blt x_1 (List.length t))
 (ojoinA (471 : Nat) [PT.bool, PT.int IntKind.i32, PT.bool, PT.bytes, PT.nat]
 (fun (J : Arr [PT.bool, PT.int IntKind.i32, PT.bool, PT.bytes, PT.nat] (Option (Bool × Unit))) =>
 oite (decide ((97 : Int32) ≤ Int32.ofInt ↑(runeAt t x_1)))
 (J also (Int32.ofInt ↑(runeAt t x_1)) (decide (Int32.ofInt ↑(runeAt t x_1) ≤ (122 : Int32))) t
 (x_1 + runeLen t x_1))
 (J also (Int32.ofInt ↑(runeAt t x_1)) false t (x_1 + runeLen t x_1)))
 (F33_J471 rec))
 (some (true, ()))
def F33_R29 : Nat → PT.T PT.bool → List UInt8 → Nat → Option (Bool × Unit) := ofixA (29 : Nat) [PT.bool, PT.bytes, PT.nat] F33_L29
def F33 : Nat → List UInt8 × Int64 × Bool → Option (Bool × Unit) := fun (n : Nat) (x : List UInt8 × Int64 × Bool) =>
 oite (decide (Int64.ofInt ↑(List.length (Prod.fst x)) < (1 : Int64))) (some (false, ()))
 (oite (decide (Prod.fst (Prod.snd x) < Int64.ofInt ↑(List.length (Prod.fst x)))) (some (false, ()))
 (F33_R29 n (Prod.snd (Prod.snd x)) (Prod.fst x) (0 : Nat)))
theorem F33_R29_s  (m_ : Nat) : F33_R29  (m_ + 1) = F33_L29  (F33_R29  m_) := rfl
theorem ok33 (n : Nat) : FunOK Try.prog ⟨33, sig33, F33 n⟩ :=
 fun_ok (hints := ⟨[(471, ⟨[(2, .one (.bool)), (8, .one (.int .i32)), (19, .one (.own 3)), (23, .one (.bool))], [(3, .iter)], 4⟩)], [(29, ⟨[(2, .one (.bool)), (19, .one (.own 3))], [(3, .iter)], 4⟩)]⟩) (fuel := n) (c := Try.f33.body.getD .skip) (rs := Try.f33.results.toList) tt_ok mix (FsOK.nil) Try.func33 (by kernel_rfl) (by kernel_rfl) rfl (by kernel_rfl) rfl rfl (by kernel_rfl)
-- watchfire/lab.Key
def sig21 : Sig := ⟨(.cons (.one (.c .str)) .nil), (.cons (.one (.c .bool)) .nil)⟩
def F21 : Nat → List UInt8 → Option (Bool × Unit) := fun (n : Nat) (x : List UInt8) =>
 obind (F33 n (x, (8 : Int64), false)) fun (x_1 : Bool × Unit) => some (Prod.fst x_1, ())
theorem ok21 (n : Nat) : FunOK Try.prog ⟨21, sig21, F21 n⟩ :=
 fun_ok (hints := ⟨[], []⟩) (fuel := n) (c := Try.f21.body.getD .skip) (rs := Try.f21.results.toList) tt_ok mix (FsOK.cons (ok33 n) (FsOK.nil)) Try.func21 (by kernel_rfl) (by kernel_rfl) rfl (by kernel_rfl) rfl rfl (by kernel_rfl)
-- watchfire/lab.Value
def sig39 : Sig := ⟨(.cons (.one (.c .str)) .nil), (.cons (.one (.c .bool)) .nil)⟩
def F39 : Nat → List UInt8 → Option (Bool × Unit) := fun (n : Nat) (x : List UInt8) =>
 obind (F33 n (x, (16 : Int64), true)) fun (x_1 : Bool × Unit) => some (Prod.fst x_1, ())
theorem ok39 (n : Nat) : FunOK Try.prog ⟨39, sig39, F39 n⟩ :=
 fun_ok (hints := ⟨[], []⟩) (fuel := n) (c := Try.f39.body.getD .skip) (rs := Try.f39.results.toList) tt_ok mix (FsOK.cons (ok33 n) (FsOK.nil)) Try.func39 (by kernel_rfl) (by kernel_rfl) rfl (by kernel_rfl) rfl rfl (by kernel_rfl)
-- (watchfire/match.Ask).Check
def sig32 : Sig := ⟨(.cons (.agg (.cons .str (.cons (.int .u8) (.cons .str .nil)))) .nil), (.cons (.one (.c (.int .i64))) .nil)⟩
def F32 : Nat → List UInt8 × UInt8 × List UInt8 → Option (Int64 × Unit) := fun (n : Nat) (x : List UInt8 × UInt8 × List UInt8) =>
 obind (F21 n (Prod.fst x)) fun (x_1 : Bool × Unit) =>
 oite (!Prod.fst x_1) (some ((8 : Int64), ()))
 (oite (decide (Prod.fst (Prod.snd x) < (1 : UInt8))) (some ((12 : Int64), ()))
 (oite (decide ((5 : UInt8) < Prod.fst (Prod.snd x))) (some ((12 : Int64), ()))
 (oite (decide ((4 : UInt8) ≤ Prod.fst (Prod.snd x)))
 (oite (!Prod.snd (Prod.snd x) == []) (some ((27 : Int64), ()))
 (oite (decide (Prod.fst (Prod.snd x) < (4 : UInt8)))
 (obind (F39 n (Prod.snd (Prod.snd x))) fun (x_2 : Bool × Unit) =>
 oite (!Prod.fst x_2) (some ((27 : Int64), ())) (some ((0 : Int64), ())))
 (some ((0 : Int64), ()))))
 (oite (decide (Prod.fst (Prod.snd x) < (4 : UInt8)))
 (obind (F39 n (Prod.snd (Prod.snd x))) fun (x_2 : Bool × Unit) =>
 oite (!Prod.fst x_2) (some ((27 : Int64), ())) (some ((0 : Int64), ())))
 (some ((0 : Int64), ()))))))
theorem ok32 (n : Nat) : FunOK Try.prog ⟨32, sig32, F32 n⟩ :=
 fun_ok (hints := ⟨[], []⟩) (fuel := n) (c := Try.f32.body.getD .skip) (rs := Try.f32.results.toList) tt_ok mix (FsOK.cons (ok21 n) (FsOK.cons (ok39 n) (FsOK.nil))) Try.func32 (by kernel_rfl) (by kernel_rfl) rfl (by kernel_rfl) rfl rfl (by kernel_rfl)
-- (watchfire/match.Asks).Check
def sig20 : Sig := ⟨(.cons (.one (.c (.ro (.cons .str (.cons (.int .u8) (.cons .str .nil)))))) .nil), (.cons (.one (.c (.int .i64))) .nil)⟩
def F20_L29 : Nat →
 Arr
 [PT.list (CTs.cons CT.str (CTs.cons (CT.int IntKind.u8) (CTs.cons CT.str CTs.nil))), PT.int IntKind.i64,
 PT.int IntKind.i64]
 (Option (Int64 × Unit)) →
 List (List UInt8 × UInt8 × List UInt8) → Int64 → Int64 → Option (Int64 × Unit) := fun (n : Nat)
 (rec :
 Arr
 [PT.list (CTs.cons CT.str (CTs.cons (CT.int IntKind.u8) (CTs.cons CT.str CTs.nil))), PT.int IntKind.i64,
 PT.int IntKind.i64]
 (Option (Int64 × Unit)))
 (t : List (List UInt8 × UInt8 × List UInt8)) (t_1 t_2 : Int64) =>
 oite (decide (t_2 < t_1))
 (obind (at? t (Int64.toInt t_2)) fun (x_1 : List UInt8 × UInt8 × List UInt8) =>
 obind (F32 n (Prod.fst x_1, Prod.fst (Prod.snd x_1), Prod.snd (Prod.snd x_1))) fun (x_2 : Int64 × Unit) =>
 oite (!decide (Prod.fst x_2 = (0 : Int64))) (some (Prod.fst x_2, ())) (rec t t_1 (t_2 + (1 : Int64))))
 (some ((0 : Int64), ()))
def F20_R29 : Nat →
 Nat →
 PT.T (PT.list (CTs.cons CT.str (CTs.cons (CT.int IntKind.u8) (CTs.cons CT.str CTs.nil)))) →
 Int64 → Int64 → Option (Int64 × Unit) := fun (n : Nat) =>
 ofixA (29 : Nat)
 [PT.list (CTs.cons CT.str (CTs.cons (CT.int IntKind.u8) (CTs.cons CT.str CTs.nil))), PT.int IntKind.i64,
 PT.int IntKind.i64]
 (F20_L29 n)
def F20 : Nat → List (List UInt8 × UInt8 × List UInt8) → Option (Int64 × Unit) := fun (n : Nat) (x : List (List UInt8 × UInt8 × List UInt8)) =>
 oite (decide ((8 : Int64) < Int64.ofInt ↑(List.length x))) (some ((5 : Int64), ()))
 (F20_R29 n n x (Int64.ofInt ↑(List.length x)) (0 : Int64))
theorem F20_R29_s (n : Nat) (m_ : Nat) : F20_R29 n (m_ + 1) = F20_L29 n (F20_R29 n m_) := rfl
theorem ok20 (n : Nat) : FunOK Try.prog ⟨20, sig20, F20 n⟩ :=
 fun_ok (hints := ⟨[], [(29, ⟨[(9, .one (.ro (.cons .str (.cons (.int .u8) (.cons .str .nil))))), (10, .one (.int .i64)), (11, .one (.int .i64))], [], 1⟩)]⟩) (fuel := n) (c := Try.f20.body.getD .skip) (rs := Try.f20.results.toList) tt_ok mix (FsOK.cons (ok32 n) (FsOK.nil)) Try.func20 (by kernel_rfl) (by kernel_rfl) rfl (by kernel_rfl) rfl rfl (by kernel_rfl)
-- slices.Index[[]string,string]
def sig34 : Sig := ⟨(.cons (.one (.c (.ro (.cons .str .nil)))) (.cons (.one (.c .str)) .nil)), (.cons (.one (.c (.int .i64))) .nil)⟩
def F34_L13 : Arr [PT.list (CTs.cons CT.str CTs.nil), PT.bytes, PT.int IntKind.i64, PT.int IntKind.i64] (Option (Int64 × Unit)) →
 List (List UInt8) → List UInt8 → Int64 → Int64 → Option (Int64 × Unit) := fun
 (rec :
 Arr [PT.list (CTs.cons CT.str CTs.nil), PT.bytes, PT.int IntKind.i64, PT.int IntKind.i64]
 (Option (Int64 × Unit)))
 (s : List (List UInt8)) (v : List UInt8) (t t_1 : Int64) =>
 oite (decide (t_1 < t))
 (obind (at? s (Int64.toInt t_1)) fun (x_1 : List UInt8) =>
 oite (v == x_1) (some (t_1, ())) (rec s v t (t_1 + (1 : Int64))))
 (some ((-1 : Int64), ()))
def F34_R13 : Nat → PT.T (PT.list (CTs.cons CT.str CTs.nil)) → List UInt8 → Int64 → Int64 → Option (Int64 × Unit) := ofixA (13 : Nat) [PT.list (CTs.cons CT.str CTs.nil), PT.bytes, PT.int IntKind.i64, PT.int IntKind.i64] F34_L13
def F34 : Nat → List (List UInt8) × List UInt8 → Option (Int64 × Unit) := fun (n : Nat) (x : List (List UInt8) × List UInt8) =>
 F34_R13 n (Prod.fst x) (Prod.snd x) (Int64.ofInt ↑(List.length (Prod.fst x))) (0 : Int64)
theorem F34_R13_s  (m_ : Nat) : F34_R13  (m_ + 1) = F34_L13  (F34_R13  m_) := rfl
theorem ok34 (n : Nat) : FunOK Try.prog ⟨34, sig34, F34 n⟩ :=
 fun_ok (hints := ⟨[], [(13, ⟨[(0, .one (.ro (.cons .str .nil))), (1, .one (.str)), (7, .one (.int .i64)), (8, .one (.int .i64))], [], 2⟩)]⟩) (fuel := n) (c := Try.f34.body.getD .skip) (rs := Try.f34.results.toList) tt_ok mix (FsOK.nil) Try.func34 (by kernel_rfl) (by kernel_rfl) rfl (by kernel_rfl) rfl rfl (by kernel_rfl)
-- slices.Contains[[]string,string]
def sig22 : Sig := ⟨(.cons (.one (.c (.ro (.cons .str .nil)))) (.cons (.one (.c .str)) .nil)), (.cons (.one (.c .bool)) .nil)⟩
def F22 : Nat → List (List UInt8) × List UInt8 → Option (Bool × Unit) := fun (n : Nat) (x : List (List UInt8) × List UInt8) =>
 obind (F34 n (Prod.fst x, Prod.snd x)) fun (x_1 : Int64 × Unit) =>
 some (decide ((0 : Int64) ≤ Prod.fst x_1), ())
theorem ok22 (n : Nat) : FunOK Try.prog ⟨22, sig22, F22 n⟩ :=
 fun_ok (hints := ⟨[], []⟩) (fuel := n) (c := Try.f22.body.getD .skip) (rs := Try.f22.results.toList) tt_ok mix (FsOK.cons (ok34 n) (FsOK.nil)) Try.func22 (by kernel_rfl) (by kernel_rfl) rfl (by kernel_rfl) rfl rfl (by kernel_rfl)
-- (watchfire/curb.Curb).Check
def sig11 : Sig := ⟨(.cons (.agg (.cons (.ro (.cons .str (.cons (.int .u8) (.cons .str .nil)))) (.cons (.ro (.cons .str (.cons (.int .u8) (.cons .str .nil)))) (.cons (.ro (.cons .str .nil)) .nil)))) .nil), (.cons (.one (.c (.int .i64))) .nil)⟩
def F11_L125 : Nat →
 Arr
 [PT.list (CTs.cons CT.str CTs.nil), PT.int IntKind.i64, PT.int IntKind.i64,
 PT.list (CTs.cons CT.str (CTs.cons (CT.int IntKind.u8) (CTs.cons CT.str CTs.nil))),
 PT.list (CTs.cons CT.str (CTs.cons (CT.int IntKind.u8) (CTs.cons CT.str CTs.nil))),
 PT.list (CTs.cons CT.str CTs.nil)]
 (Option (Int64 × Unit)) →
 List (List UInt8) →
 Int64 →
 Int64 →
 List (List UInt8 × UInt8 × List UInt8) →
 List (List UInt8 × UInt8 × List UInt8) → List (List UInt8) → Option (Int64 × Unit) := fun (n : Nat)
 (rec_1 :
 Arr
 [PT.list (CTs.cons CT.str CTs.nil), PT.int IntKind.i64, PT.int IntKind.i64,
 PT.list (CTs.cons CT.str (CTs.cons (CT.int IntKind.u8) (CTs.cons CT.str CTs.nil))),
 PT.list (CTs.cons CT.str (CTs.cons (CT.int IntKind.u8) (CTs.cons CT.str CTs.nil))),
 PT.list (CTs.cons CT.str CTs.nil)]
 (Option (Int64 × Unit)))
 (t_3 : List (List UInt8)) (t_1_1 t_2_1 : Int64) (c0_1 c1_1 : List (List UInt8 × UInt8 × List UInt8))
 (c2_1 : List (List UInt8)) =>
 oite (decide (t_2_1 < t_1_1))
 (obind (at? t_3 (Int64.toInt t_2_1)) fun (x_1 : List UInt8) =>
 obind (F21 n x_1) fun (x_2 : Bool × Unit) =>
 oite (!Prod.fst x_2) (some ((8 : Int64), ()))
 (oite
 (decide ((0 : Int) ≤ Int64.toInt t_2_1) && Nat.ble (Int.toNat (Int64.toInt t_2_1)) (List.length c2_1) &&
 true)
 (obind (F22 n (List.drop (0 : Nat) (List.take (Int.toNat (Int64.toInt t_2_1)) c2_1), x_1))
 fun (x_3 : Bool × Unit) =>
 oite (Prod.fst x_3) (some ((7 : Int64), ()))
 (rec_1 t_3 t_1_1 (t_2_1 + (1 : Int64)) c0_1 c1_1 c2_1))
 none))
 (some ((0 : Int64), ()))
def F11_R125 : Nat →
 Nat →
 PT.T (PT.list (CTs.cons CT.str CTs.nil)) →
 Int64 →
 Int64 →
 List (List UInt8 × UInt8 × List UInt8) →
 List (List UInt8 × UInt8 × List UInt8) → List (List UInt8) → Option (Int64 × Unit) := fun (n : Nat) =>
 ofixA (125 : Nat)
 [PT.list (CTs.cons CT.str CTs.nil), PT.int IntKind.i64, PT.int IntKind.i64,
 PT.list (CTs.cons CT.str (CTs.cons (CT.int IntKind.u8) (CTs.cons CT.str CTs.nil))),
 PT.list (CTs.cons CT.str (CTs.cons (CT.int IntKind.u8) (CTs.cons CT.str CTs.nil))),
 PT.list (CTs.cons CT.str CTs.nil)]
 (F11_L125 n)
def F11_L29 : Nat →
 Arr
 [PT.int IntKind.i64, PT.int IntKind.i64,
 PT.list (CTs.cons CT.str (CTs.cons (CT.int IntKind.u8) (CTs.cons CT.str CTs.nil))),
 PT.list (CTs.cons CT.str (CTs.cons (CT.int IntKind.u8) (CTs.cons CT.str CTs.nil))),
 PT.list (CTs.cons CT.str CTs.nil),
 PT.list (CTs.cons (CT.ro (CTs.cons CT.str (CTs.cons (CT.int IntKind.u8) (CTs.cons CT.str CTs.nil)))) CTs.nil)]
 (Option (Int64 × Unit)) →
 Int64 →
 Int64 →
 List (List UInt8 × UInt8 × List UInt8) →
 List (List UInt8 × UInt8 × List UInt8) →
 List (List UInt8) → List (List (List UInt8 × UInt8 × List UInt8)) → Option (Int64 × Unit) := fun (n : Nat)
 (rec :
 Arr
 [PT.int IntKind.i64, PT.int IntKind.i64,
 PT.list (CTs.cons CT.str (CTs.cons (CT.int IntKind.u8) (CTs.cons CT.str CTs.nil))),
 PT.list (CTs.cons CT.str (CTs.cons (CT.int IntKind.u8) (CTs.cons CT.str CTs.nil))),
 PT.list (CTs.cons CT.str CTs.nil),
 PT.list (CTs.cons (CT.ro (CTs.cons CT.str (CTs.cons (CT.int IntKind.u8) (CTs.cons CT.str CTs.nil)))) CTs.nil)]
 (Option (Int64 × Unit)))
 (t t_1 : Int64) (c0 c1 : List (List UInt8 × UInt8 × List UInt8)) (c2 : List (List UInt8))
 (t_2 : List (List (List UInt8 × UInt8 × List UInt8))) =>
 oite (decide (t_1 < t))
 (oite (decide ((0 : Int) ≤ Int64.toInt t_1) && Nat.blt (Int.toNat (Int64.toInt t_1)) (List.length t_2))
 (obind t_2[Int.toNat (Int64.toInt t_1)]? fun (x_1 : List (List UInt8 × UInt8 × List UInt8)) =>
 obind (F20 n x_1) fun (x_2 : Int64 × Unit) =>
 oite (!decide (Prod.fst x_2 = (0 : Int64))) (some (Prod.fst x_2, ()))
 (rec t (t_1 + (1 : Int64)) c0 c1 c2 t_2))
 none)
 (oite (decide ((8 : Int64) < Int64.ofInt ↑(List.length c2))) (some ((5 : Int64), ()))
 (F11_R125 n n c2 (Int64.ofInt ↑(List.length c2)) (0 : Int64) c0 c1 c2))
def F11_R29 : Nat →
 Nat →
 PT.T (PT.int IntKind.i64) →
 Int64 →
 List (List UInt8 × UInt8 × List UInt8) →
 List (List UInt8 × UInt8 × List UInt8) →
 List (List UInt8) → List (List (List UInt8 × UInt8 × List UInt8)) → Option (Int64 × Unit) := fun (n : Nat) =>
 ofixA (29 : Nat)
 [PT.int IntKind.i64, PT.int IntKind.i64,
 PT.list (CTs.cons CT.str (CTs.cons (CT.int IntKind.u8) (CTs.cons CT.str CTs.nil))),
 PT.list (CTs.cons CT.str (CTs.cons (CT.int IntKind.u8) (CTs.cons CT.str CTs.nil))),
 PT.list (CTs.cons CT.str CTs.nil),
 PT.list (CTs.cons (CT.ro (CTs.cons CT.str (CTs.cons (CT.int IntKind.u8) (CTs.cons CT.str CTs.nil)))) CTs.nil)]
 (F11_L29 n)
def F11 : Nat →
 List (List UInt8 × UInt8 × List UInt8) × List (List UInt8 × UInt8 × List UInt8) × List (List UInt8) →
 Option (Int64 × Unit) := fun (n : Nat)
 (x : List (List UInt8 × UInt8 × List UInt8) × List (List UInt8 × UInt8 × List UInt8) × List (List UInt8)) =>
 oite (decide (Int64.ofInt ↑(List.length (Prod.fst x)) = (0 : Int64))) (some ((2 : Int64), ()))
 (oite (decide (Int64.ofInt ↑(List.length (Prod.fst (Prod.snd x))) = (0 : Int64))) (some ((2 : Int64), ()))
 (F11_R29 n n (Int64.ofInt ↑(List.length [Prod.fst x, Prod.fst (Prod.snd x)])) (0 : Int64) (Prod.fst x)
 (Prod.fst (Prod.snd x)) (Prod.snd (Prod.snd x)) [Prod.fst x, Prod.fst (Prod.snd x)]))
theorem F11_R125_s (n : Nat) (m_ : Nat) : F11_R125 n (m_ + 1) = F11_L125 n (F11_R125 n m_) := rfl
theorem F11_R29_s (n : Nat) (m_ : Nat) : F11_R29 n (m_ + 1) = F11_L29 n (F11_R29 n m_) := rfl
theorem ok11 (n : Nat) : FunOK Try.prog ⟨11, sig11, F11 n⟩ :=
 fun_ok (hints := ⟨[], [(29, ⟨[(1, .one (.own 1)), (22, .one (.own 2)), (23, .one (.int .i64)), (24, .one (.int .i64))], [(1, .cells [.ro (.cons .str (.cons (.int .u8) (.cons .str .nil))), .ro (.cons .str (.cons (.int .u8) (.cons .str .nil))), .ro (.cons .str .nil)]), (2, .row (.cons (.ro (.cons .str (.cons (.int .u8) (.cons .str .nil)))) .nil))], 3⟩), (125, ⟨[(1, .one (.own 1)), (39, .one (.ro (.cons .str .nil))), (40, .one (.int .i64)), (41, .one (.int .i64))], [(1, .cells [.ro (.cons .str (.cons (.int .u8) (.cons .str .nil))), .ro (.cons .str (.cons (.int .u8) (.cons .str .nil))), .ro (.cons .str .nil)])], 2⟩)]⟩) (fuel := n) (c := Try.f11.body.getD .skip) (rs := Try.f11.results.toList) tt_ok mix (FsOK.cons (ok20 n) (FsOK.cons (ok21 n) (FsOK.cons (ok22 n) (FsOK.nil)))) Try.func11 (by kernel_rfl) (by kernel_rfl) rfl (by kernel_rfl) rfl rfl (by kernel_rfl)
-- watchfire/watchfirelaw17.Ref
def sig23 : Sig := ⟨(.cons (.one (.c (.ro (.cons .str (.cons (.int .u8) (.cons .str .nil)))))) .nil), (.cons (.one (.c (.ro (.cons .str (.cons (.int .i64) (.cons .str .nil)))))) .nil)⟩
def F23_L29 : Arr
 [PT.list (CTs.cons CT.str (CTs.cons (CT.int IntKind.u8) (CTs.cons CT.str CTs.nil))), PT.int IntKind.i64,
 PT.int IntKind.i64, PT.list (CTs.cons CT.str (CTs.cons (CT.int IntKind.i64) (CTs.cons CT.str CTs.nil)))]
 (Option (List (List UInt8 × Int64 × List UInt8) × Unit)) →
 List (List UInt8 × UInt8 × List UInt8) →
 Int64 → Int64 → List (List UInt8 × Int64 × List UInt8) → Option (List (List UInt8 × Int64 × List UInt8) × Unit) := fun
 (rec :
 Arr
 [PT.list (CTs.cons CT.str (CTs.cons (CT.int IntKind.u8) (CTs.cons CT.str CTs.nil))), PT.int IntKind.i64,
 PT.int IntKind.i64, PT.list (CTs.cons CT.str (CTs.cons (CT.int IntKind.i64) (CTs.cons CT.str CTs.nil)))]
 (Option (List (List UInt8 × Int64 × List UInt8) × Unit)))
 (t : List (List UInt8 × UInt8 × List UInt8)) (t_1 t_2 : Int64) (out : List (List UInt8 × Int64 × List UInt8)) =>
 oite (decide (t_2 < t_1))
 (obind (at? t (Int64.toInt t_2)) fun (x_1 : List UInt8 × UInt8 × List UInt8) =>
 oite
 (Nat.ble
 (List.length out +
 List.length [(Prod.fst x_1, Int64.ofInt ↑(UInt8.toNat (Prod.fst (Prod.snd x_1))), Prod.snd (Prod.snd x_1))])
 (4294967296 : Nat))
 (rec t t_1 (t_2 + (1 : Int64))
 (out ++ [(Prod.fst x_1, Int64.ofInt ↑(UInt8.toNat (Prod.fst (Prod.snd x_1))), Prod.snd (Prod.snd x_1))]))
 none)
 (some (out, ()))
def F23_R29 : Nat →
 PT.T (PT.list (CTs.cons CT.str (CTs.cons (CT.int IntKind.u8) (CTs.cons CT.str CTs.nil)))) →
 Int64 → Int64 → List (List UInt8 × Int64 × List UInt8) → Option (List (List UInt8 × Int64 × List UInt8) × Unit) := ofixA (29 : Nat)
 [PT.list (CTs.cons CT.str (CTs.cons (CT.int IntKind.u8) (CTs.cons CT.str CTs.nil))), PT.int IntKind.i64,
 PT.int IntKind.i64, PT.list (CTs.cons CT.str (CTs.cons (CT.int IntKind.i64) (CTs.cons CT.str CTs.nil)))]
 F23_L29
def F23 : Nat → List (List UInt8 × UInt8 × List UInt8) → Option (List (List UInt8 × Int64 × List UInt8) × Unit) := fun (n : Nat) (x : List (List UInt8 × UInt8 × List UInt8)) => F23_R29 n x (Int64.ofInt ↑(List.length x)) (0 : Int64) []
theorem F23_R29_s  (m_ : Nat) : F23_R29  (m_ + 1) = F23_L29  (F23_R29  m_) := rfl
theorem ok23 (n : Nat) : FunOK Try.prog ⟨23, sig23, F23 n⟩ :=
 fun_ok (hints := ⟨[], [(29, ⟨[(3, .one (.own 1)), (6, .one (.ro (.cons .str (.cons (.int .u8) (.cons .str .nil))))), (7, .one (.int .i64)), (8, .one (.int .i64))], [(1, .row (.cons .str (.cons (.int .i64) (.cons .str .nil))))], 2⟩)]⟩) (fuel := n) (c := Try.f23.body.getD .skip) (rs := Try.f23.results.toList) tt_ok mix (FsOK.nil) Try.func23 (by kernel_rfl) (by kernel_rfl) rfl (by kernel_rfl) rfl rfl (by kernel_rfl)
-- watchfire/watchfirelaw19.Ref
def sig12 : Sig := ⟨(.cons (.agg (.cons (.ro (.cons .str (.cons (.int .u8) (.cons .str .nil)))) (.cons (.ro (.cons .str (.cons (.int .u8) (.cons .str .nil)))) (.cons (.ro (.cons .str .nil)) .nil)))) .nil), (.cons (.agg (.cons (.ro (.cons .str (.cons (.int .i64) (.cons .str .nil)))) (.cons (.ro (.cons .str (.cons (.int .i64) (.cons .str .nil)))) (.cons (.ro (.cons .str .nil)) .nil)))) .nil)⟩
def F12 : Nat →
 List (List UInt8 × UInt8 × List UInt8) × List (List UInt8 × UInt8 × List UInt8) × List (List UInt8) →
 Option
 ((List (List UInt8 × Int64 × List UInt8) × List (List UInt8 × Int64 × List UInt8) × List (List UInt8)) × Unit) := fun (n : Nat)
 (x : List (List UInt8 × UInt8 × List UInt8) × List (List UInt8 × UInt8 × List UInt8) × List (List UInt8)) =>
 obind (F23 n (Prod.fst x)) fun (x_1 : List (List UInt8 × Int64 × List UInt8) × Unit) =>
 obind (F23 n (Prod.fst (Prod.snd x))) fun (x_2 : List (List UInt8 × Int64 × List UInt8) × Unit) =>
 some ((Prod.fst x_1, Prod.fst x_2, Prod.snd (Prod.snd x)), ())
theorem ok12 (n : Nat) : FunOK Try.prog ⟨12, sig12, F12 n⟩ :=
 fun_ok (hints := ⟨[], []⟩) (fuel := n) (c := Try.f12.body.getD .skip) (rs := Try.f12.results.toList) tt_ok mix (FsOK.cons (ok23 n) (FsOK.nil)) Try.func12 (by kernel_rfl) (by kernel_rfl) rfl (by kernel_rfl) rfl rfl (by kernel_rfl)
-- watchfire/watchfireref01.small
def sig36 : Sig := ⟨(.cons (.one (.c (.int .u8))) .nil), (.cons (.one (.c .bool)) .nil)⟩
def F36 : Nat → UInt8 → Option (Bool × Unit) := fun (n : Nat) (x : UInt8) =>
 oite (decide ((97 : UInt8) ≤ x)) (some (decide (x ≤ (122 : UInt8)), ())) (some (false, ()))
theorem ok36 (n : Nat) : FunOK Try.prog ⟨36, sig36, F36 n⟩ :=
 fun_ok (hints := ⟨[], []⟩) (fuel := n) (c := Try.f36.body.getD .skip) (rs := Try.f36.results.toList) tt_ok mix (FsOK.nil) Try.func36 (by kernel_rfl) (by kernel_rfl) rfl (by kernel_rfl) rfl rfl (by kernel_rfl)
-- watchfire/watchfireref01.Key
def sig25 : Sig := ⟨(.cons (.one (.c .str)) .nil), (.cons (.one (.c .bool)) .nil)⟩
def F25_L13 : Nat → Arr [PT.bytes, PT.int IntKind.i64] (Option (Bool × Unit)) → List UInt8 → Int64 → Option (Bool × Unit) := fun (n : Nat) (rec : Arr [PT.bytes, PT.int IntKind.i64] (Option (Bool × Unit))) (s : List UInt8) (i : Int64) =>
 oite (decide (i < Int64.ofInt ↑(List.length s)))
 (obind (at? s (Int64.toInt i)) fun (x_1 : UInt8) =>
 obind (F36 n x_1) fun (x_2 : Bool × Unit) =>
 oite (!Prod.fst x_2) (some (false, ())) (rec s (i + (1 : Int64))))
 (oite (decide ((1 : Int64) ≤ Int64.ofInt ↑(List.length s)))
 (some (decide (Int64.ofInt ↑(List.length s) ≤ (8 : Int64)), ())) (some (false, ())))
def F25_R13 : Nat → Nat → PT.T PT.bytes → Int64 → Option (Bool × Unit) := fun (n : Nat) => ofixA (13 : Nat) [PT.bytes, PT.int IntKind.i64] (F25_L13 n)
def F25 : Nat → List UInt8 → Option (Bool × Unit) := fun (n : Nat) (x : List UInt8) => F25_R13 n n x (0 : Int64)
theorem F25_R13_s (n : Nat) (m_ : Nat) : F25_R13 n (m_ + 1) = F25_L13 n (F25_R13 n m_) := rfl
theorem ok25 (n : Nat) : FunOK Try.prog ⟨25, sig25, F25 n⟩ :=
 fun_ok (hints := ⟨[], [(13, ⟨[(0, .one (.str)), (3, .one (.int .i64))], [], 1⟩)]⟩) (fuel := n) (c := Try.f25.body.getD .skip) (rs := Try.f25.results.toList) tt_ok mix (FsOK.cons (ok36 n) (FsOK.nil)) Try.func25 (by kernel_rfl) (by kernel_rfl) rfl (by kernel_rfl) rfl rfl (by kernel_rfl)
-- watchfire/watchfireref01.Value
def sig40 : Sig := ⟨(.cons (.one (.c .str)) .nil), (.cons (.one (.c .bool)) .nil)⟩
def F40_J53 : Arr [PT.bytes, PT.int IntKind.i64] (Option (Bool × Unit)) → List UInt8 → Int64 → Option (Bool × Unit) := fun (rec : Arr [PT.bytes, PT.int IntKind.i64] (Option (Bool × Unit))) (s_1 : List UInt8) (i_1 : Int64) =>
 rec s_1 (i_1 + (1 : Int64))
def F40_L13 : Nat → Arr [PT.bytes, PT.int IntKind.i64] (Option (Bool × Unit)) → List UInt8 → Int64 → Option (Bool × Unit) := fun (n : Nat) (rec : Arr [PT.bytes, PT.int IntKind.i64] (Option (Bool × Unit))) (s : List UInt8) (i : Int64) =>
 oite (decide (i < Int64.ofInt ↑(List.length s)))
 (ojoinA (53 : Nat) [PT.bytes, PT.int IntKind.i64]
 (fun (J : Arr [PT.bytes, PT.int IntKind.i64] (Option (Bool × Unit))) =>
 obind (at? s (Int64.toInt i)) fun (x_1 : UInt8) =>
 obind (F36 n x_1) fun (x_2 : Bool × Unit) =>
 oite (!Prod.fst x_2)
 (oite (decide ((48 : UInt8) ≤ x_1))
 (oite (!decide (x_1 ≤ (57 : UInt8)))
 (oite (!decide (x_1 = (46 : UInt8)))
 (oite (!decide (x_1 = (95 : UInt8)))
 (oite (!decide (x_1 = (45 : UInt8))) (some (false, ())) (J s i)) (J s i))
 (J s i))
 (J s i))
 (oite (!decide (x_1 = (46 : UInt8)))
 (oite (!decide (x_1 = (95 : UInt8)))
 (oite (!decide (x_1 = (45 : UInt8))) (some (false, ())) (J s i)) (J s i))
 (J s i)))
 (J s i))
 (F40_J53 rec))
 (oite (decide ((1 : Int64) ≤ Int64.ofInt ↑(List.length s)))
 (some (decide (Int64.ofInt ↑(List.length s) ≤ (16 : Int64)), ())) (some (false, ())))
def F40_R13 : Nat → Nat → PT.T PT.bytes → Int64 → Option (Bool × Unit) := fun (n : Nat) => ofixA (13 : Nat) [PT.bytes, PT.int IntKind.i64] (F40_L13 n)
def F40 : Nat → List UInt8 → Option (Bool × Unit) := fun (n : Nat) (x : List UInt8) => F40_R13 n n x (0 : Int64)
theorem F40_R13_s (n : Nat) (m_ : Nat) : F40_R13 n (m_ + 1) = F40_L13 n (F40_R13 n m_) := rfl
theorem ok40 (n : Nat) : FunOK Try.prog ⟨40, sig40, F40 n⟩ :=
 fun_ok (hints := ⟨[(53, ⟨[(0, .one (.str)), (3, .one (.int .i64))], [], 1⟩)], [(13, ⟨[(0, .one (.str)), (3, .one (.int .i64))], [], 1⟩)]⟩) (fuel := n) (c := Try.f40.body.getD .skip) (rs := Try.f40.results.toList) tt_ok mix (FsOK.cons (ok36 n) (FsOK.nil)) Try.func40 (by kernel_rfl) (by kernel_rfl) rfl (by kernel_rfl) rfl rfl (by kernel_rfl)
-- (watchfire/watchfireref17.Ask).Check
def sig35 : Sig := ⟨(.cons (.agg (.cons .str (.cons (.int .i64) (.cons .str .nil)))) .nil), (.cons (.one (.c (.int .i64))) .nil)⟩
def F35 : Nat → List UInt8 × Int64 × List UInt8 → Option (Int64 × Unit) := fun (n : Nat) (x : List UInt8 × Int64 × List UInt8) =>
 obind (F25 n (Prod.fst x)) fun (x_1 : Bool × Unit) =>
 oite (!Prod.fst x_1) (some ((8 : Int64), ()))
 (oite (decide (Prod.fst (Prod.snd x) < (1 : Int64))) (some ((12 : Int64), ()))
 (oite (decide ((5 : Int64) < Prod.fst (Prod.snd x))) (some ((12 : Int64), ()))
 (oite (decide ((4 : Int64) ≤ Prod.fst (Prod.snd x)))
 (oite (!Prod.snd (Prod.snd x) == []) (some ((27 : Int64), ()))
 (oite (decide (Prod.fst (Prod.snd x) < (4 : Int64)))
 (obind (F40 n (Prod.snd (Prod.snd x))) fun (x_2 : Bool × Unit) =>
 oite (!Prod.fst x_2) (some ((27 : Int64), ())) (some ((0 : Int64), ())))
 (some ((0 : Int64), ()))))
 (oite (decide (Prod.fst (Prod.snd x) < (4 : Int64)))
 (obind (F40 n (Prod.snd (Prod.snd x))) fun (x_2 : Bool × Unit) =>
 oite (!Prod.fst x_2) (some ((27 : Int64), ())) (some ((0 : Int64), ())))
 (some ((0 : Int64), ()))))))
theorem ok35 (n : Nat) : FunOK Try.prog ⟨35, sig35, F35 n⟩ :=
 fun_ok (hints := ⟨[], []⟩) (fuel := n) (c := Try.f35.body.getD .skip) (rs := Try.f35.results.toList) tt_ok mix (FsOK.cons (ok25 n) (FsOK.cons (ok40 n) (FsOK.nil))) Try.func35 (by kernel_rfl) (by kernel_rfl) rfl (by kernel_rfl) rfl rfl (by kernel_rfl)
-- watchfire/watchfireref17.Asks
def sig24 : Sig := ⟨(.cons (.one (.c (.ro (.cons .str (.cons (.int .i64) (.cons .str .nil)))))) .nil), (.cons (.one (.c (.int .i64))) .nil)⟩
def F24_L29 : Nat →
 Arr [PT.list (CTs.cons CT.str (CTs.cons (CT.int IntKind.i64) (CTs.cons CT.str CTs.nil))), PT.int IntKind.i64]
 (Option (Int64 × Unit)) →
 List (List UInt8 × Int64 × List UInt8) → Int64 → Option (Int64 × Unit) := fun (n : Nat)
 (rec :
 Arr [PT.list (CTs.cons CT.str (CTs.cons (CT.int IntKind.i64) (CTs.cons CT.str CTs.nil))), PT.int IntKind.i64]
 (Option (Int64 × Unit)))
 (l : List (List UInt8 × Int64 × List UInt8)) (i : Int64) =>
 oite (decide (i < Int64.ofInt ↑(List.length l)))
 (obind (at? l (Int64.toInt i)) fun (x_1 : List UInt8 × Int64 × List UInt8) =>
 obind (F35 n (Prod.fst x_1, Prod.fst (Prod.snd x_1), Prod.snd (Prod.snd x_1))) fun (x_2 : Int64 × Unit) =>
 oite (!decide (Prod.fst x_2 = (0 : Int64))) (some (Prod.fst x_2, ())) (rec l (i + (1 : Int64))))
 (some ((0 : Int64), ()))
def F24_R29 : Nat →
 Nat →
 PT.T (PT.list (CTs.cons CT.str (CTs.cons (CT.int IntKind.i64) (CTs.cons CT.str CTs.nil)))) →
 Int64 → Option (Int64 × Unit) := fun (n : Nat) =>
 ofixA (29 : Nat)
 [PT.list (CTs.cons CT.str (CTs.cons (CT.int IntKind.i64) (CTs.cons CT.str CTs.nil))), PT.int IntKind.i64]
 (F24_L29 n)
def F24 : Nat → List (List UInt8 × Int64 × List UInt8) → Option (Int64 × Unit) := fun (n : Nat) (x : List (List UInt8 × Int64 × List UInt8)) =>
 oite (decide ((8 : Int64) < Int64.ofInt ↑(List.length x))) (some ((5 : Int64), ()))
 (F24_R29 n n x (0 : Int64))
theorem F24_R29_s (n : Nat) (m_ : Nat) : F24_R29 n (m_ + 1) = F24_L29 n (F24_R29 n m_) := rfl
theorem ok24 (n : Nat) : FunOK Try.prog ⟨24, sig24, F24 n⟩ :=
 fun_ok (hints := ⟨[], [(29, ⟨[(0, .one (.ro (.cons .str (.cons (.int .i64) (.cons .str .nil))))), (3, .one (.int .i64))], [], 1⟩)]⟩) (fuel := n) (c := Try.f24.body.getD .skip) (rs := Try.f24.results.toList) tt_ok mix (FsOK.cons (ok35 n) (FsOK.nil)) Try.func24 (by kernel_rfl) (by kernel_rfl) rfl (by kernel_rfl) rfl rfl (by kernel_rfl)
-- watchfire/watchfireref01.Among
def sig26 : Sig := ⟨(.cons (.one (.c .str)) (.cons (.one (.c (.ro (.cons .str .nil)))) .nil)), (.cons (.one (.c .bool)) .nil)⟩
def F26_L13 : Arr [PT.bytes, PT.list (CTs.cons CT.str CTs.nil), PT.int IntKind.i64] (Option (Bool × Unit)) →
 List UInt8 → List (List UInt8) → Int64 → Option (Bool × Unit) := fun (rec : Arr [PT.bytes, PT.list (CTs.cons CT.str CTs.nil), PT.int IntKind.i64] (Option (Bool × Unit)))
 (s : List UInt8) (l : List (List UInt8)) (i : Int64) =>
 oite (decide (i < Int64.ofInt ↑(List.length l)))
 (obind (at? l (Int64.toInt i)) fun (x_1 : List UInt8) =>
 oite (x_1 == s) (some (true, ())) (rec s l (i + (1 : Int64))))
 (some (false, ()))
def F26_R13 : Nat → PT.T PT.bytes → List (List UInt8) → Int64 → Option (Bool × Unit) := ofixA (13 : Nat) [PT.bytes, PT.list (CTs.cons CT.str CTs.nil), PT.int IntKind.i64] F26_L13
def F26 : Nat → List UInt8 × List (List UInt8) → Option (Bool × Unit) := fun (n : Nat) (x : List UInt8 × List (List UInt8)) => F26_R13 n (Prod.fst x) (Prod.snd x) (0 : Int64)
theorem F26_R13_s  (m_ : Nat) : F26_R13  (m_ + 1) = F26_L13  (F26_R13  m_) := rfl
theorem ok26 (n : Nat) : FunOK Try.prog ⟨26, sig26, F26 n⟩ :=
 fun_ok (hints := ⟨[], [(13, ⟨[(0, .one (.str)), (1, .one (.ro (.cons .str .nil))), (5, .one (.int .i64))], [], 2⟩)]⟩) (fuel := n) (c := Try.f26.body.getD .skip) (rs := Try.f26.results.toList) tt_ok mix (FsOK.nil) Try.func26 (by kernel_rfl) (by kernel_rfl) rfl (by kernel_rfl) rfl rfl (by kernel_rfl)
-- (watchfire/watchfireref17.Curb).Check
def sig13 : Sig := ⟨(.cons (.agg (.cons (.ro (.cons .str (.cons (.int .i64) (.cons .str .nil)))) (.cons (.ro (.cons .str (.cons (.int .i64) (.cons .str .nil)))) (.cons (.ro (.cons .str .nil)) .nil)))) .nil), (.cons (.one (.c (.int .i64))) .nil)⟩
def F13_L253 : Nat →
 Arr
 [PT.int IntKind.i64, PT.list (CTs.cons CT.str (CTs.cons (CT.int IntKind.i64) (CTs.cons CT.str CTs.nil))),
 PT.list (CTs.cons CT.str (CTs.cons (CT.int IntKind.i64) (CTs.cons CT.str CTs.nil))),
 PT.list (CTs.cons CT.str CTs.nil)]
 (Option (Int64 × Unit)) →
 Int64 →
 List (List UInt8 × Int64 × List UInt8) →
 List (List UInt8 × Int64 × List UInt8) → List (List UInt8) → Option (Int64 × Unit) := fun (n : Nat)
 (rec :
 Arr
 [PT.int IntKind.i64, PT.list (CTs.cons CT.str (CTs.cons (CT.int IntKind.i64) (CTs.cons CT.str CTs.nil))),
 PT.list (CTs.cons CT.str (CTs.cons (CT.int IntKind.i64) (CTs.cons CT.str CTs.nil))),
 PT.list (CTs.cons CT.str CTs.nil)]
 (Option (Int64 × Unit)))
 (i : Int64) (c0 c1 : List (List UInt8 × Int64 × List UInt8)) (c2 : List (List UInt8)) =>
 oite (decide (i < Int64.ofInt ↑(List.length c2)))
 (obind (at? c2 (Int64.toInt i)) fun (x_3 : List UInt8) =>
 obind (F25 n x_3) fun (x_4 : Bool × Unit) =>
 oite (!Prod.fst x_4) (some ((8 : Int64), ()))
 (obind (at? c2 (Int64.toInt i)) fun (x_5 : List UInt8) =>
 oite (decide ((0 : Int) ≤ Int64.toInt i) && Nat.ble (Int.toNat (Int64.toInt i)) (List.length c2) && true)
 (obind (F26 n (x_5, List.drop (0 : Nat) (List.take (Int.toNat (Int64.toInt i)) c2)))
 fun (x_6 : Bool × Unit) =>
 oite (Prod.fst x_6) (some ((7 : Int64), ())) (rec (i + (1 : Int64)) c0 c1 c2))
 none))
 (some ((0 : Int64), ()))
def F13_R253 : Nat →
 Nat →
 PT.T (PT.int IntKind.i64) →
 List (List UInt8 × Int64 × List UInt8) →
 List (List UInt8 × Int64 × List UInt8) → List (List UInt8) → Option (Int64 × Unit) := fun (n : Nat) =>
 ofixA (253 : Nat)
 [PT.int IntKind.i64, PT.list (CTs.cons CT.str (CTs.cons (CT.int IntKind.i64) (CTs.cons CT.str CTs.nil))),
 PT.list (CTs.cons CT.str (CTs.cons (CT.int IntKind.i64) (CTs.cons CT.str CTs.nil))),
 PT.list (CTs.cons CT.str CTs.nil)]
 (F13_L253 n)
def F13 : Nat →
 List (List UInt8 × Int64 × List UInt8) × List (List UInt8 × Int64 × List UInt8) × List (List UInt8) →
 Option (Int64 × Unit) := fun (n : Nat)
 (x : List (List UInt8 × Int64 × List UInt8) × List (List UInt8 × Int64 × List UInt8) × List (List UInt8)) =>
 oite (decide (Int64.ofInt ↑(List.length (Prod.fst x)) = (0 : Int64))) (some ((2 : Int64), ()))
 (oite (decide (Int64.ofInt ↑(List.length (Prod.fst (Prod.snd x))) = (0 : Int64))) (some ((2 : Int64), ()))
 (obind (F24 n (Prod.fst x)) fun (x_1 : Int64 × Unit) =>
 oite (!decide (Prod.fst x_1 = (0 : Int64))) (some (Prod.fst x_1, ()))
 (obind (F24 n (Prod.fst (Prod.snd x))) fun (x_2 : Int64 × Unit) =>
 oite (!decide (Prod.fst x_2 = (0 : Int64))) (some (Prod.fst x_2, ()))
 (oite (decide ((8 : Int64) < Int64.ofInt ↑(List.length (Prod.snd (Prod.snd x)))))
 (some ((5 : Int64), ()))
 (F13_R253 n n (0 : Int64) (Prod.fst x) (Prod.fst (Prod.snd x)) (Prod.snd (Prod.snd x)))))))
theorem F13_R253_s (n : Nat) (m_ : Nat) : F13_R253 n (m_ + 1) = F13_L253 n (F13_R253 n m_) := rfl
theorem ok13 (n : Nat) : FunOK Try.prog ⟨13, sig13, F13 n⟩ :=
 fun_ok (hints := ⟨[], [(253, ⟨[(1, .one (.own 1)), (5, .one (.int .i64))], [(1, .cells [.ro (.cons .str (.cons (.int .i64) (.cons .str .nil))), .ro (.cons .str (.cons (.int .i64) (.cons .str .nil))), .ro (.cons .str .nil)])], 2⟩)]⟩) (fuel := n) (c := Try.f13.body.getD .skip) (rs := Try.f13.results.toList) tt_ok mix (FsOK.cons (ok24 n) (FsOK.cons (ok25 n) (FsOK.cons (ok26 n) (FsOK.nil)))) Try.func13 (by kernel_rfl) (by kernel_rfl) rfl (by kernel_rfl) rfl rfl (by kernel_rfl)
-- watchfire/curb.Check
def sig15 : Sig := ⟨(.cons (.one (.c (.ro (.cons (.ro (.cons .str (.cons (.int .u8) (.cons .str .nil)))) (.cons (.ro (.cons .str (.cons (.int .u8) (.cons .str .nil)))) (.cons (.ro (.cons .str .nil)) .nil)))))) .nil), (.cons (.one (.c (.int .i64))) .nil)⟩
def F15_L29 : Nat →
 Arr
 [PT.list
 (CTs.cons (CT.ro (CTs.cons CT.str (CTs.cons (CT.int IntKind.u8) (CTs.cons CT.str CTs.nil))))
 (CTs.cons (CT.ro (CTs.cons CT.str (CTs.cons (CT.int IntKind.u8) (CTs.cons CT.str CTs.nil))))
 (CTs.cons (CT.ro (CTs.cons CT.str CTs.nil)) CTs.nil))),
 PT.int IntKind.i64, PT.int IntKind.i64]
 (Option (Int64 × Unit)) →
 List (List (List UInt8 × UInt8 × List UInt8) × List (List UInt8 × UInt8 × List UInt8) × List (List UInt8)) →
 Int64 → Int64 → Option (Int64 × Unit) := fun (n : Nat)
 (rec :
 Arr
 [PT.list
 (CTs.cons (CT.ro (CTs.cons CT.str (CTs.cons (CT.int IntKind.u8) (CTs.cons CT.str CTs.nil))))
 (CTs.cons (CT.ro (CTs.cons CT.str (CTs.cons (CT.int IntKind.u8) (CTs.cons CT.str CTs.nil))))
 (CTs.cons (CT.ro (CTs.cons CT.str CTs.nil)) CTs.nil))),
 PT.int IntKind.i64, PT.int IntKind.i64]
 (Option (Int64 × Unit)))
 (t : List (List (List UInt8 × UInt8 × List UInt8) × List (List UInt8 × UInt8 × List UInt8) × List (List UInt8)))
 (t_1 t_2 : Int64) =>
 oite (decide (t_2 < t_1))
 (obind (at? t (Int64.toInt t_2))
 fun (x_1 : List (List UInt8 × UInt8 × List UInt8) × List (List UInt8 × UInt8 × List UInt8) × List (List UInt8)) =>
 obind (F11 n (Prod.fst x_1, Prod.fst (Prod.snd x_1), Prod.snd (Prod.snd x_1))) fun (x_2 : Int64 × Unit) =>
 oite (!decide (Prod.fst x_2 = (0 : Int64))) (some (Prod.fst x_2, ())) (rec t t_1 (t_2 + (1 : Int64))))
 (some ((0 : Int64), ()))
def F15_R29 : Nat →
 Nat →
 PT.T
 (PT.list
 (CTs.cons (CT.ro (CTs.cons CT.str (CTs.cons (CT.int IntKind.u8) (CTs.cons CT.str CTs.nil))))
 (CTs.cons (CT.ro (CTs.cons CT.str (CTs.cons (CT.int IntKind.u8) (CTs.cons CT.str CTs.nil))))
 (CTs.cons (CT.ro (CTs.cons CT.str CTs.nil)) CTs.nil)))) →
 Int64 → Int64 → Option (Int64 × Unit) := fun (n : Nat) =>
 ofixA (29 : Nat)
 [PT.list
 (CTs.cons (CT.ro (CTs.cons CT.str (CTs.cons (CT.int IntKind.u8) (CTs.cons CT.str CTs.nil))))
 (CTs.cons (CT.ro (CTs.cons CT.str (CTs.cons (CT.int IntKind.u8) (CTs.cons CT.str CTs.nil))))
 (CTs.cons (CT.ro (CTs.cons CT.str CTs.nil)) CTs.nil))),
 PT.int IntKind.i64, PT.int IntKind.i64]
 (F15_L29 n)
def F15 : Nat →
 List (List (List UInt8 × UInt8 × List UInt8) × List (List UInt8 × UInt8 × List UInt8) × List (List UInt8)) →
 Option (Int64 × Unit) := fun (n : Nat)
 (x : List (List (List UInt8 × UInt8 × List UInt8) × List (List UInt8 × UInt8 × List UInt8) × List (List UInt8))) =>
 oite (decide ((32 : Int64) < Int64.ofInt ↑(List.length x))) (some ((5 : Int64), ()))
 (F15_R29 n n x (Int64.ofInt ↑(List.length x)) (0 : Int64))
theorem F15_R29_s (n : Nat) (m_ : Nat) : F15_R29 n (m_ + 1) = F15_L29 n (F15_R29 n m_) := rfl
theorem ok15 (n : Nat) : FunOK Try.prog ⟨15, sig15, F15 n⟩ :=
 fun_ok (hints := ⟨[], [(29, ⟨[(9, .one (.ro (.cons (.ro (.cons .str (.cons (.int .u8) (.cons .str .nil)))) (.cons (.ro (.cons .str (.cons (.int .u8) (.cons .str .nil)))) (.cons (.ro (.cons .str .nil)) .nil))))), (10, .one (.int .i64)), (11, .one (.int .i64))], [], 1⟩)]⟩) (fuel := n) (c := Try.f15.body.getD .skip) (rs := Try.f15.results.toList) tt_ok mix (FsOK.cons (ok11 n) (FsOK.nil)) Try.func15 (by kernel_rfl) (by kernel_rfl) rfl (by kernel_rfl) rfl rfl (by kernel_rfl)
-- watchfire/watchfirelaw19.CurbChecks
def sig4 : Sig := ⟨(.cons (.agg (.cons (.ro (.cons .str (.cons (.int .u8) (.cons .str .nil)))) (.cons (.ro (.cons .str (.cons (.int .u8) (.cons .str .nil)))) (.cons (.ro (.cons .str .nil)) .nil)))) (.cons (.one (.c (.ro (.cons (.ro (.cons (.int .u8) (.cons (.int .u8) (.cons (.int .u8) .nil)))) (.cons (.ro (.cons (.int .u8) (.cons (.int .u8) (.cons (.int .u8) .nil)))) (.cons (.int .u8) .nil)))))) (.cons (.one (.c (.int .u8))) .nil))), (.cons (.one (.c .bool)) .nil)⟩
noncomputable def F4_J4095 : Nat →
 Int64 →
 Int64 →
 List (List UInt8 × UInt8 × List UInt8) →
 List (List UInt8 × UInt8 × List UInt8) →
 List (List UInt8) →
 List (List (List UInt8 × UInt8 × List UInt8) × List (List UInt8 × UInt8 × List UInt8) × List (List UInt8)) →
 List
 (List (List UInt8 × UInt8 × List UInt8) ×
 List (List UInt8 × UInt8 × List UInt8) × List (List UInt8)) →
 List
 (List (List UInt8 × UInt8 × List UInt8) ×
 List (List UInt8 × UInt8 × List UInt8) × List (List UInt8)) →
 Option (Bool × Unit) := fun (n : Nat) (code_2 want : Int64) (c0_3 c1_3 : List (List UInt8 × UInt8 × List UInt8)) (c2_3 : List (List UInt8))
 (list_3 many_1 c6_1 :
 List (List (List UInt8 × UInt8 × List UInt8) × List (List UInt8 × UInt8 × List UInt8) × List (List UInt8))) =>
 oite (sameL (List.take (List.length list_3) c6_1) list_3)
 (oite (Nat.ble (List.length list_3 + List.length [(c0_3, c1_3, c2_3)]) (4294967296 : Nat))
 (obind (F15 n (list_3 ++ [(c0_3, c1_3, c2_3)])) fun (x_3 : Int64 × Unit) =>
 oite (decide (Prod.fst x_3 = code_2))
 (obind (F15 n many_1) fun (x_4 : Int64 × Unit) => some (decide (Prod.fst x_4 = want), ()))
 (some (false, ())))
 none)
 none
noncomputable def F4_L4093 : Nat →
 Arr
 [PT.int IntKind.i64, PT.list (CTs.cons CT.str (CTs.cons (CT.int IntKind.u8) (CTs.cons CT.str CTs.nil))),
 PT.int IntKind.u8, PT.int IntKind.u8,
 PT.list (CTs.cons CT.str (CTs.cons (CT.int IntKind.u8) (CTs.cons CT.str CTs.nil))),
 PT.list (CTs.cons CT.str (CTs.cons (CT.int IntKind.u8) (CTs.cons CT.str CTs.nil))),
 PT.list (CTs.cons CT.str CTs.nil),
 PT.list
 (CTs.cons (CT.ro (CTs.cons CT.str (CTs.cons (CT.int IntKind.u8) (CTs.cons CT.str CTs.nil))))
 (CTs.cons (CT.ro (CTs.cons CT.str (CTs.cons (CT.int IntKind.u8) (CTs.cons CT.str CTs.nil))))
 (CTs.cons (CT.ro (CTs.cons CT.str CTs.nil)) CTs.nil))),
 PT.list
 (CTs.cons (CT.ro (CTs.cons CT.str (CTs.cons (CT.int IntKind.u8) (CTs.cons CT.str CTs.nil))))
 (CTs.cons (CT.ro (CTs.cons CT.str (CTs.cons (CT.int IntKind.u8) (CTs.cons CT.str CTs.nil))))
 (CTs.cons (CT.ro (CTs.cons CT.str CTs.nil)) CTs.nil))),
 PT.list
 (CTs.cons (CT.ro (CTs.cons CT.str (CTs.cons (CT.int IntKind.u8) (CTs.cons CT.str CTs.nil))))
 (CTs.cons (CT.ro (CTs.cons CT.str (CTs.cons (CT.int IntKind.u8) (CTs.cons CT.str CTs.nil))))
 (CTs.cons (CT.ro (CTs.cons CT.str CTs.nil)) CTs.nil)))]
 (Option (Bool × Unit)) →
 Int64 →
 List (List UInt8 × UInt8 × List UInt8) →
 UInt8 →
 UInt8 →
 List (List UInt8 × UInt8 × List UInt8) →
 List (List UInt8 × UInt8 × List UInt8) →
 List (List UInt8) →
 List
 (List (List UInt8 × UInt8 × List UInt8) ×
 List (List UInt8 × UInt8 × List UInt8) × List (List UInt8)) →
 List
 (List (List UInt8 × UInt8 × List UInt8) ×
 List (List UInt8 × UInt8 × List UInt8) × List (List UInt8)) →
 List
 (List (List UInt8 × UInt8 × List UInt8) ×
 List (List UInt8 × UInt8 × List UInt8) × List (List UInt8)) →
 Option (Bool × Unit) := fun (n : Nat)
 (rec_2 :
 Arr
 [PT.int IntKind.i64, PT.list (CTs.cons CT.str (CTs.cons (CT.int IntKind.u8) (CTs.cons CT.str CTs.nil))),
 PT.int IntKind.u8, PT.int IntKind.u8,
 PT.list (CTs.cons CT.str (CTs.cons (CT.int IntKind.u8) (CTs.cons CT.str CTs.nil))),
 PT.list (CTs.cons CT.str (CTs.cons (CT.int IntKind.u8) (CTs.cons CT.str CTs.nil))),
 PT.list (CTs.cons CT.str CTs.nil),
 PT.list
 (CTs.cons (CT.ro (CTs.cons CT.str (CTs.cons (CT.int IntKind.u8) (CTs.cons CT.str CTs.nil))))
 (CTs.cons (CT.ro (CTs.cons CT.str (CTs.cons (CT.int IntKind.u8) (CTs.cons CT.str CTs.nil))))
 (CTs.cons (CT.ro (CTs.cons CT.str CTs.nil)) CTs.nil))),
 PT.list
 (CTs.cons (CT.ro (CTs.cons CT.str (CTs.cons (CT.int IntKind.u8) (CTs.cons CT.str CTs.nil))))
 (CTs.cons (CT.ro (CTs.cons CT.str (CTs.cons (CT.int IntKind.u8) (CTs.cons CT.str CTs.nil))))
 (CTs.cons (CT.ro (CTs.cons CT.str CTs.nil)) CTs.nil))),
 PT.list
 (CTs.cons (CT.ro (CTs.cons CT.str (CTs.cons (CT.int IntKind.u8) (CTs.cons CT.str CTs.nil))))
 (CTs.cons (CT.ro (CTs.cons CT.str (CTs.cons (CT.int IntKind.u8) (CTs.cons CT.str CTs.nil))))
 (CTs.cons (CT.ro (CTs.cons CT.str CTs.nil)) CTs.nil)))]
 (Option (Bool × Unit)))
 (code_1 : Int64) (a : List (List UInt8 × UInt8 × List UInt8)) (t_4 t_1_2 : UInt8)
 (c0_2 c1_2 : List (List UInt8 × UInt8 × List UInt8)) (c2_2 : List (List UInt8))
 (list_2 many c6 :
 List (List (List UInt8 × UInt8 × List UInt8) × List (List UInt8 × UInt8 × List UInt8) × List (List UInt8))) =>
 oite (decide (t_1_2 < t_4))
 (oite (Nat.ble (List.length many + List.length [(a, a, @List.nil (List UInt8))]) (4294967296 : Nat))
 (rec_2 code_1 a t_4 (t_1_2 + (1 : UInt8)) c0_2 c1_2 c2_2 list_2 (many ++ [(a, a, @List.nil (List UInt8))]) c6)
 none)
 (ojoinA (4095 : Nat)
 [PT.int IntKind.i64, PT.int IntKind.i64,
 PT.list (CTs.cons CT.str (CTs.cons (CT.int IntKind.u8) (CTs.cons CT.str CTs.nil))),
 PT.list (CTs.cons CT.str (CTs.cons (CT.int IntKind.u8) (CTs.cons CT.str CTs.nil))),
 PT.list (CTs.cons CT.str CTs.nil),
 PT.list
 (CTs.cons (CT.ro (CTs.cons CT.str (CTs.cons (CT.int IntKind.u8) (CTs.cons CT.str CTs.nil))))
 (CTs.cons (CT.ro (CTs.cons CT.str (CTs.cons (CT.int IntKind.u8) (CTs.cons CT.str CTs.nil))))
 (CTs.cons (CT.ro (CTs.cons CT.str CTs.nil)) CTs.nil))),
 PT.list
 (CTs.cons (CT.ro (CTs.cons CT.str (CTs.cons (CT.int IntKind.u8) (CTs.cons CT.str CTs.nil))))
 (CTs.cons (CT.ro (CTs.cons CT.str (CTs.cons (CT.int IntKind.u8) (CTs.cons CT.str CTs.nil))))
 (CTs.cons (CT.ro (CTs.cons CT.str CTs.nil)) CTs.nil))),
 PT.list
 (CTs.cons (CT.ro (CTs.cons CT.str (CTs.cons (CT.int IntKind.u8) (CTs.cons CT.str CTs.nil))))
 (CTs.cons (CT.ro (CTs.cons CT.str (CTs.cons (CT.int IntKind.u8) (CTs.cons CT.str CTs.nil))))
 (CTs.cons (CT.ro (CTs.cons CT.str CTs.nil)) CTs.nil)))]
 (fun
 (J :
 Arr
 [PT.int IntKind.i64, PT.int IntKind.i64,
 PT.list (CTs.cons CT.str (CTs.cons (CT.int IntKind.u8) (CTs.cons CT.str CTs.nil))),
 PT.list (CTs.cons CT.str (CTs.cons (CT.int IntKind.u8) (CTs.cons CT.str CTs.nil))),
 PT.list (CTs.cons CT.str CTs.nil),
 PT.list
 (CTs.cons (CT.ro (CTs.cons CT.str (CTs.cons (CT.int IntKind.u8) (CTs.cons CT.str CTs.nil))))
 (CTs.cons (CT.ro (CTs.cons CT.str (CTs.cons (CT.int IntKind.u8) (CTs.cons CT.str CTs.nil))))
 (CTs.cons (CT.ro (CTs.cons CT.str CTs.nil)) CTs.nil))),
 PT.list
 (CTs.cons (CT.ro (CTs.cons CT.str (CTs.cons (CT.int IntKind.u8) (CTs.cons CT.str CTs.nil))))
 (CTs.cons (CT.ro (CTs.cons CT.str (CTs.cons (CT.int IntKind.u8) (CTs.cons CT.str CTs.nil))))
 (CTs.cons (CT.ro (CTs.cons CT.str CTs.nil)) CTs.nil))),
 PT.list
 (CTs.cons (CT.ro (CTs.cons CT.str (CTs.cons (CT.int IntKind.u8) (CTs.cons CT.str CTs.nil))))
 (CTs.cons (CT.ro (CTs.cons CT.str (CTs.cons (CT.int IntKind.u8) (CTs.cons CT.str CTs.nil))))
 (CTs.cons (CT.ro (CTs.cons CT.str CTs.nil)) CTs.nil)))]
 (Option (Bool × Unit))) =>
 oite (decide ((32 : Int64) < Int64.ofInt ↑(List.length many)))
 (J code_1 (5 : Int64) c0_2 c1_2 c2_2 list_2 many c6) (J code_1 (0 : Int64) c0_2 c1_2 c2_2 list_2 many c6))
 (F4_J4095 n))
noncomputable def F4_R4093 : Nat →
 Nat →
 PT.T (PT.int IntKind.i64) →
 List (List UInt8 × UInt8 × List UInt8) →
 UInt8 →
 UInt8 →
 List (List UInt8 × UInt8 × List UInt8) →
 List (List UInt8 × UInt8 × List UInt8) →
 List (List UInt8) →
 List
 (List (List UInt8 × UInt8 × List UInt8) ×
 List (List UInt8 × UInt8 × List UInt8) × List (List UInt8)) →
 List
 (List (List UInt8 × UInt8 × List UInt8) ×
 List (List UInt8 × UInt8 × List UInt8) × List (List UInt8)) →
 List
 (List (List UInt8 × UInt8 × List UInt8) ×
 List (List UInt8 × UInt8 × List UInt8) × List (List UInt8)) →
 Option (Bool × Unit) := fun (n : Nat) =>
 ofixA (4093 : Nat)
 [PT.int IntKind.i64, PT.list (CTs.cons CT.str (CTs.cons (CT.int IntKind.u8) (CTs.cons CT.str CTs.nil))),
 PT.int IntKind.u8, PT.int IntKind.u8,
 PT.list (CTs.cons CT.str (CTs.cons (CT.int IntKind.u8) (CTs.cons CT.str CTs.nil))),
 PT.list (CTs.cons CT.str (CTs.cons (CT.int IntKind.u8) (CTs.cons CT.str CTs.nil))),
 PT.list (CTs.cons CT.str CTs.nil),
 PT.list
 (CTs.cons (CT.ro (CTs.cons CT.str (CTs.cons (CT.int IntKind.u8) (CTs.cons CT.str CTs.nil))))
 (CTs.cons (CT.ro (CTs.cons CT.str (CTs.cons (CT.int IntKind.u8) (CTs.cons CT.str CTs.nil))))
 (CTs.cons (CT.ro (CTs.cons CT.str CTs.nil)) CTs.nil))),
 PT.list
 (CTs.cons (CT.ro (CTs.cons CT.str (CTs.cons (CT.int IntKind.u8) (CTs.cons CT.str CTs.nil))))
 (CTs.cons (CT.ro (CTs.cons CT.str (CTs.cons (CT.int IntKind.u8) (CTs.cons CT.str CTs.nil))))
 (CTs.cons (CT.ro (CTs.cons CT.str CTs.nil)) CTs.nil))),
 PT.list
 (CTs.cons (CT.ro (CTs.cons CT.str (CTs.cons (CT.int IntKind.u8) (CTs.cons CT.str CTs.nil))))
 (CTs.cons (CT.ro (CTs.cons CT.str (CTs.cons (CT.int IntKind.u8) (CTs.cons CT.str CTs.nil))))
 (CTs.cons (CT.ro (CTs.cons CT.str CTs.nil)) CTs.nil)))]
 (F4_L4093 n)
noncomputable def F4_L509 : Nat →
 Arr
 [PT.int IntKind.u8, PT.int IntKind.i64, PT.int IntKind.i64, PT.int IntKind.i64,
 PT.list (CTs.cons CT.str (CTs.cons (CT.int IntKind.u8) (CTs.cons CT.str CTs.nil))),
 PT.list (CTs.cons CT.str (CTs.cons (CT.int IntKind.u8) (CTs.cons CT.str CTs.nil))),
 PT.list (CTs.cons CT.str CTs.nil),
 PT.list
 (CTs.cons (CT.ro (CTs.cons CT.str (CTs.cons (CT.int IntKind.u8) (CTs.cons CT.str CTs.nil))))
 (CTs.cons (CT.ro (CTs.cons CT.str (CTs.cons (CT.int IntKind.u8) (CTs.cons CT.str CTs.nil))))
 (CTs.cons (CT.ro (CTs.cons CT.str CTs.nil)) CTs.nil))),
 PT.list
 (CTs.cons (CT.ro (CTs.cons CT.str (CTs.cons (CT.int IntKind.u8) (CTs.cons CT.str CTs.nil))))
 (CTs.cons (CT.ro (CTs.cons CT.str (CTs.cons (CT.int IntKind.u8) (CTs.cons CT.str CTs.nil))))
 (CTs.cons (CT.ro (CTs.cons CT.str CTs.nil)) CTs.nil)))]
 (Option (Bool × Unit)) →
 UInt8 →
 Int64 →
 Int64 →
 Int64 →
 List (List UInt8 × UInt8 × List UInt8) →
 List (List UInt8 × UInt8 × List UInt8) →
 List (List UInt8) →
 List
 (List (List UInt8 × UInt8 × List UInt8) ×
 List (List UInt8 × UInt8 × List UInt8) × List (List UInt8)) →
 List
 (List (List UInt8 × UInt8 × List UInt8) ×
 List (List UInt8 × UInt8 × List UInt8) × List (List UInt8)) →
 Option (Bool × Unit) := fun (n : Nat)
 (rec_1 :
 Arr
 [PT.int IntKind.u8, PT.int IntKind.i64, PT.int IntKind.i64, PT.int IntKind.i64,
 PT.list (CTs.cons CT.str (CTs.cons (CT.int IntKind.u8) (CTs.cons CT.str CTs.nil))),
 PT.list (CTs.cons CT.str (CTs.cons (CT.int IntKind.u8) (CTs.cons CT.str CTs.nil))),
 PT.list (CTs.cons CT.str CTs.nil),
 PT.list
 (CTs.cons (CT.ro (CTs.cons CT.str (CTs.cons (CT.int IntKind.u8) (CTs.cons CT.str CTs.nil))))
 (CTs.cons (CT.ro (CTs.cons CT.str (CTs.cons (CT.int IntKind.u8) (CTs.cons CT.str CTs.nil))))
 (CTs.cons (CT.ro (CTs.cons CT.str CTs.nil)) CTs.nil))),
 PT.list
 (CTs.cons (CT.ro (CTs.cons CT.str (CTs.cons (CT.int IntKind.u8) (CTs.cons CT.str CTs.nil))))
 (CTs.cons (CT.ro (CTs.cons CT.str (CTs.cons (CT.int IntKind.u8) (CTs.cons CT.str CTs.nil))))
 (CTs.cons (CT.ro (CTs.cons CT.str CTs.nil)) CTs.nil)))]
 (Option (Bool × Unit)))
 (n__1 : UInt8) (code t_3 t_1_1 : Int64) (c0_1 c1_1 : List (List UInt8 × UInt8 × List UInt8))
 (c2_1 : List (List UInt8))
 (list_1 t_2_1 :
 List (List (List UInt8 × UInt8 × List UInt8) × List (List UInt8 × UInt8 × List UInt8) × List (List UInt8))) =>
 oite (decide (t_1_1 < t_3))
 (oite (decide ((0 : Int) ≤ Int64.toInt t_1_1) && Nat.blt (Int.toNat (Int64.toInt t_1_1)) (List.length t_2_1))
 (obind t_2_1[Int.toNat (Int64.toInt t_1_1)]?
 fun
 (x_2 : List (List UInt8 × UInt8 × List UInt8) × List (List UInt8 × UInt8 × List UInt8) × List (List UInt8)) =>
 obind (F11 n (Prod.fst x_2, Prod.fst (Prod.snd x_2), Prod.snd (Prod.snd x_2))) fun (x_3 : Int64 × Unit) =>
 obind (F12 n (Prod.fst x_2, Prod.fst (Prod.snd x_2), Prod.snd (Prod.snd x_2)))
 fun
 (x_4 :
 (List (List UInt8 × Int64 × List UInt8) × List (List UInt8 × Int64 × List UInt8) × List (List UInt8)) ×
 Unit) =>
 obind
 (F13 n (Prod.fst (Prod.fst x_4), Prod.fst (Prod.snd (Prod.fst x_4)), Prod.snd (Prod.snd (Prod.fst x_4))))
 fun (x_5 : Int64 × Unit) =>
 oite (!decide (Prod.fst x_3 = Prod.fst x_5)) (some (false, ()))
 (oite (decide (code = (0 : Int64)))
 (obind (F12 n (Prod.fst x_2, Prod.fst (Prod.snd x_2), Prod.snd (Prod.snd x_2)))
 fun
 (x_6 :
 (List (List UInt8 × Int64 × List UInt8) ×
 List (List UInt8 × Int64 × List UInt8) × List (List UInt8)) ×
 Unit) =>
 obind
 (F13 n
 (Prod.fst (Prod.fst x_6), Prod.fst (Prod.snd (Prod.fst x_6)),
 Prod.snd (Prod.snd (Prod.fst x_6))))
 fun (x_7 : Int64 × Unit) =>
 rec_1 n__1 (Prod.fst x_7) t_3 (t_1_1 + (1 : Int64)) c0_1 c1_1 c2_1 list_1 t_2_1)
 (rec_1 n__1 code t_3 (t_1_1 + (1 : Int64)) c0_1 c1_1 c2_1 list_1 t_2_1)))
 none)
 (obind (F14 n ([((0 : UInt8), (0 : UInt8), (0 : UInt8))], (1 : Int64)))
 fun (x_2 : List (List UInt8 × UInt8 × List UInt8) × Unit) =>
 F4_R4093 n n code (Prod.fst x_2) (n__1 % (40 : UInt8)) (0 : UInt8) c0_1 c1_1 c2_1 list_1 [] t_2_1)
noncomputable def F4_R509 : Nat →
 Nat →
 PT.T (PT.int IntKind.u8) →
 Int64 →
 Int64 →
 Int64 →
 List (List UInt8 × UInt8 × List UInt8) →
 List (List UInt8 × UInt8 × List UInt8) →
 List (List UInt8) →
 List
 (List (List UInt8 × UInt8 × List UInt8) ×
 List (List UInt8 × UInt8 × List UInt8) × List (List UInt8)) →
 List
 (List (List UInt8 × UInt8 × List UInt8) ×
 List (List UInt8 × UInt8 × List UInt8) × List (List UInt8)) →
 Option (Bool × Unit) := fun (n : Nat) =>
 ofixA (509 : Nat)
 [PT.int IntKind.u8, PT.int IntKind.i64, PT.int IntKind.i64, PT.int IntKind.i64,
 PT.list (CTs.cons CT.str (CTs.cons (CT.int IntKind.u8) (CTs.cons CT.str CTs.nil))),
 PT.list (CTs.cons CT.str (CTs.cons (CT.int IntKind.u8) (CTs.cons CT.str CTs.nil))),
 PT.list (CTs.cons CT.str CTs.nil),
 PT.list
 (CTs.cons (CT.ro (CTs.cons CT.str (CTs.cons (CT.int IntKind.u8) (CTs.cons CT.str CTs.nil))))
 (CTs.cons (CT.ro (CTs.cons CT.str (CTs.cons (CT.int IntKind.u8) (CTs.cons CT.str CTs.nil))))
 (CTs.cons (CT.ro (CTs.cons CT.str CTs.nil)) CTs.nil))),
 PT.list
 (CTs.cons (CT.ro (CTs.cons CT.str (CTs.cons (CT.int IntKind.u8) (CTs.cons CT.str CTs.nil))))
 (CTs.cons (CT.ro (CTs.cons CT.str (CTs.cons (CT.int IntKind.u8) (CTs.cons CT.str CTs.nil))))
 (CTs.cons (CT.ro (CTs.cons CT.str CTs.nil)) CTs.nil)))]
 (F4_L509 n)
noncomputable def F4_L125 : Nat →
 Arr
 [PT.int IntKind.u8,
 PT.list
 (CTs.cons
 (CT.ro (CTs.cons (CT.int IntKind.u8) (CTs.cons (CT.int IntKind.u8) (CTs.cons (CT.int IntKind.u8) CTs.nil))))
 (CTs.cons
 (CT.ro
 (CTs.cons (CT.int IntKind.u8) (CTs.cons (CT.int IntKind.u8) (CTs.cons (CT.int IntKind.u8) CTs.nil))))
 (CTs.cons (CT.int IntKind.u8) CTs.nil))),
 PT.int IntKind.i64, PT.int IntKind.i64,
 PT.list (CTs.cons CT.str (CTs.cons (CT.int IntKind.u8) (CTs.cons CT.str CTs.nil))),
 PT.list (CTs.cons CT.str (CTs.cons (CT.int IntKind.u8) (CTs.cons CT.str CTs.nil))),
 PT.list (CTs.cons CT.str CTs.nil),
 PT.list
 (CTs.cons (CT.ro (CTs.cons CT.str (CTs.cons (CT.int IntKind.u8) (CTs.cons CT.str CTs.nil))))
 (CTs.cons (CT.ro (CTs.cons CT.str (CTs.cons (CT.int IntKind.u8) (CTs.cons CT.str CTs.nil))))
 (CTs.cons (CT.ro (CTs.cons CT.str CTs.nil)) CTs.nil)))]
 (Option (Bool × Unit)) →
 UInt8 →
 List (List (UInt8 × UInt8 × UInt8) × List (UInt8 × UInt8 × UInt8) × UInt8) →
 Int64 →
 Int64 →
 List (List UInt8 × UInt8 × List UInt8) →
 List (List UInt8 × UInt8 × List UInt8) →
 List (List UInt8) →
 List
 (List (List UInt8 × UInt8 × List UInt8) ×
 List (List UInt8 × UInt8 × List UInt8) × List (List UInt8)) →
 Option (Bool × Unit) := fun (n : Nat)
 (rec :
 Arr
 [PT.int IntKind.u8,
 PT.list
 (CTs.cons
 (CT.ro
 (CTs.cons (CT.int IntKind.u8) (CTs.cons (CT.int IntKind.u8) (CTs.cons (CT.int IntKind.u8) CTs.nil))))
 (CTs.cons
 (CT.ro
 (CTs.cons (CT.int IntKind.u8) (CTs.cons (CT.int IntKind.u8) (CTs.cons (CT.int IntKind.u8) CTs.nil))))
 (CTs.cons (CT.int IntKind.u8) CTs.nil))),
 PT.int IntKind.i64, PT.int IntKind.i64,
 PT.list (CTs.cons CT.str (CTs.cons (CT.int IntKind.u8) (CTs.cons CT.str CTs.nil))),
 PT.list (CTs.cons CT.str (CTs.cons (CT.int IntKind.u8) (CTs.cons CT.str CTs.nil))),
 PT.list (CTs.cons CT.str CTs.nil),
 PT.list
 (CTs.cons (CT.ro (CTs.cons CT.str (CTs.cons (CT.int IntKind.u8) (CTs.cons CT.str CTs.nil))))
 (CTs.cons (CT.ro (CTs.cons CT.str (CTs.cons (CT.int IntKind.u8) (CTs.cons CT.str CTs.nil))))
 (CTs.cons (CT.ro (CTs.cons CT.str CTs.nil)) CTs.nil)))]
 (Option (Bool × Unit)))
 (n_ : UInt8) (t : List (List (UInt8 × UInt8 × UInt8) × List (UInt8 × UInt8 × UInt8) × UInt8)) (t_1 t_2 : Int64)
 (c0 c1 : List (List UInt8 × UInt8 × List UInt8)) (c2 : List (List UInt8))
 (list :
 List (List (List UInt8 × UInt8 × List UInt8) × List (List UInt8 × UInt8 × List UInt8) × List (List UInt8))) =>
 oite (decide (t_2 < t_1))
 (obind (at? t (Int64.toInt t_2)) fun (x_2 : List (UInt8 × UInt8 × UInt8) × List (UInt8 × UInt8 × UInt8) × UInt8) =>
 obind (F10 n (Prod.fst x_2, Prod.fst (Prod.snd x_2), Prod.snd (Prod.snd x_2)))
 fun
 (x_3 :
 (List (List UInt8 × UInt8 × List UInt8) × List (List UInt8 × UInt8 × List UInt8) × List (List UInt8)) ×
 Unit) =>
 oite
 (Nat.ble
 (List.length list +
 List.length
 [(Prod.fst (Prod.fst x_3), Prod.fst (Prod.snd (Prod.fst x_3)), Prod.snd (Prod.snd (Prod.fst x_3)))])
 (4294967296 : Nat))
 (rec n_ t t_1 (t_2 + (1 : Int64)) c0 c1 c2
 (list ++
 [(Prod.fst (Prod.fst x_3), Prod.fst (Prod.snd (Prod.fst x_3)), Prod.snd (Prod.snd (Prod.fst x_3)))]))
 none)
 (oite (Nat.ble (List.length list + List.length [(c0, c1, c2)]) (4294967296 : Nat))
 (F4_R509 n n n_ (0 : Int64) (Int64.ofInt ↑(List.length (list ++ [(c0, c1, c2)]))) (0 : Int64) c0 c1 c2 list
 (list ++ [(c0, c1, c2)]))
 none)
noncomputable def F4_R125 : Nat →
 Nat →
 PT.T (PT.int IntKind.u8) →
 List (List (UInt8 × UInt8 × UInt8) × List (UInt8 × UInt8 × UInt8) × UInt8) →
 Int64 →
 Int64 →
 List (List UInt8 × UInt8 × List UInt8) →
 List (List UInt8 × UInt8 × List UInt8) →
 List (List UInt8) →
 List
 (List (List UInt8 × UInt8 × List UInt8) ×
 List (List UInt8 × UInt8 × List UInt8) × List (List UInt8)) →
 Option (Bool × Unit) := fun (n : Nat) =>
 ofixA (125 : Nat)
 [PT.int IntKind.u8,
 PT.list
 (CTs.cons
 (CT.ro (CTs.cons (CT.int IntKind.u8) (CTs.cons (CT.int IntKind.u8) (CTs.cons (CT.int IntKind.u8) CTs.nil))))
 (CTs.cons
 (CT.ro (CTs.cons (CT.int IntKind.u8) (CTs.cons (CT.int IntKind.u8) (CTs.cons (CT.int IntKind.u8) CTs.nil))))
 (CTs.cons (CT.int IntKind.u8) CTs.nil))),
 PT.int IntKind.i64, PT.int IntKind.i64,
 PT.list (CTs.cons CT.str (CTs.cons (CT.int IntKind.u8) (CTs.cons CT.str CTs.nil))),
 PT.list (CTs.cons CT.str (CTs.cons (CT.int IntKind.u8) (CTs.cons CT.str CTs.nil))),
 PT.list (CTs.cons CT.str CTs.nil),
 PT.list
 (CTs.cons (CT.ro (CTs.cons CT.str (CTs.cons (CT.int IntKind.u8) (CTs.cons CT.str CTs.nil))))
 (CTs.cons (CT.ro (CTs.cons CT.str (CTs.cons (CT.int IntKind.u8) (CTs.cons CT.str CTs.nil))))
 (CTs.cons (CT.ro (CTs.cons CT.str CTs.nil)) CTs.nil)))]
 (F4_L125 n)
noncomputable def F4 : Nat →
 (List (List UInt8 × UInt8 × List UInt8) × List (List UInt8 × UInt8 × List UInt8) × List (List UInt8)) ×
 List (List (UInt8 × UInt8 × UInt8) × List (UInt8 × UInt8 × UInt8) × UInt8) × UInt8 →
 Option (Bool × Unit) := fun (n : Nat)
 (x :
 (List (List UInt8 × UInt8 × List UInt8) × List (List UInt8 × UInt8 × List UInt8) × List (List UInt8)) ×
 List (List (UInt8 × UInt8 × UInt8) × List (UInt8 × UInt8 × UInt8) × UInt8) × UInt8) =>
 obind (F5 n ()) fun (x_1 : Bool × Unit) =>
 oite (!Prod.fst x_1) (some (false, ()))
 (oite (decide ((12 : Int64) < Int64.ofInt ↑(List.length (Prod.fst (Prod.fst x))))) (some (true, ()))
 (oite (decide ((12 : Int64) < Int64.ofInt ↑(List.length (Prod.fst (Prod.snd (Prod.fst x))))))
 (some (true, ()))
 (oite (decide ((12 : Int64) < Int64.ofInt ↑(List.length (Prod.snd (Prod.snd (Prod.fst x))))))
 (some (true, ()))
 (oite (decide ((10 : Int64) < Int64.ofInt ↑(List.length (Prod.fst (Prod.snd x))))) (some (true, ()))
 (F4_R125 n n (Prod.snd (Prod.snd x)) (Prod.fst (Prod.snd x))
 (Int64.ofInt ↑(List.length (Prod.fst (Prod.snd x)))) (0 : Int64) (Prod.fst (Prod.fst x))
 (Prod.fst (Prod.snd (Prod.fst x))) (Prod.snd (Prod.snd (Prod.fst x))) [])))))
theorem F4_R4093_s (n : Nat) (m_ : Nat) : F4_R4093 n (m_ + 1) = F4_L4093 n (F4_R4093 n m_) := rfl
theorem F4_R509_s (n : Nat) (m_ : Nat) : F4_R509 n (m_ + 1) = F4_L509 n (F4_R509 n m_) := rfl
theorem F4_R125_s (n : Nat) (m_ : Nat) : F4_R125 n (m_ + 1) = F4_L125 n (F4_R125 n m_) := rfl
theorem ok4 (n : Nat) : FunOK Try.prog ⟨4, sig4, F4 n⟩ :=
 fun_ok (hints := ⟨[(4095, ⟨[(3, .one (.own 3)), (7, .one (.own 4)), (10, .one (.int .i64)), (14, .one (.own 5)), (15, .one (.int .i64))], [(3, .cells [.ro (.cons .str (.cons (.int .u8) (.cons .str .nil))), .ro (.cons .str (.cons (.int .u8) (.cons .str .nil))), .ro (.cons .str .nil)]), (4, .pre 6 (.cons (.ro (.cons .str (.cons (.int .u8) (.cons .str .nil)))) (.cons (.ro (.cons .str (.cons (.int .u8) (.cons .str .nil)))) (.cons (.ro (.cons .str .nil)) .nil)))), (5, .row (.cons (.ro (.cons .str (.cons (.int .u8) (.cons .str .nil)))) (.cons (.ro (.cons .str (.cons (.int .u8) (.cons .str .nil)))) (.cons (.ro (.cons .str .nil)) .nil)))), (6, .row (.cons (.ro (.cons .str (.cons (.int .u8) (.cons .str .nil)))) (.cons (.ro (.cons .str (.cons (.int .u8) (.cons .str .nil)))) (.cons (.ro (.cons .str .nil)) .nil))))], 7⟩)], [(125, ⟨[(2, .one (.int .u8)), (3, .one (.own 3)), (7, .one (.own 4)), (40, .one (.ro (.cons (.ro (.cons (.int .u8) (.cons (.int .u8) (.cons (.int .u8) .nil)))) (.cons (.ro (.cons (.int .u8) (.cons (.int .u8) (.cons (.int .u8) .nil)))) (.cons (.int .u8) .nil))))), (41, .one (.int .i64)), (42, .one (.int .i64))], [(3, .cells [.ro (.cons .str (.cons (.int .u8) (.cons .str .nil))), .ro (.cons .str (.cons (.int .u8) (.cons .str .nil))), .ro (.cons .str .nil)]), (4, .row (.cons (.ro (.cons .str (.cons (.int .u8) (.cons .str .nil)))) (.cons (.ro (.cons .str (.cons (.int .u8) (.cons .str .nil)))) (.cons (.ro (.cons .str .nil)) .nil))))], 5⟩), (509, ⟨[(2, .one (.int .u8)), (3, .one (.own 3)), (7, .one (.own 4)), (10, .one (.int .i64)), (55, .one (.own 5)), (56, .one (.int .i64)), (57, .one (.int .i64))], [(3, .cells [.ro (.cons .str (.cons (.int .u8) (.cons .str .nil))), .ro (.cons .str (.cons (.int .u8) (.cons .str .nil))), .ro (.cons .str .nil)]), (4, .pre 5 (.cons (.ro (.cons .str (.cons (.int .u8) (.cons .str .nil)))) (.cons (.ro (.cons .str (.cons (.int .u8) (.cons .str .nil)))) (.cons (.ro (.cons .str .nil)) .nil)))), (5, .row (.cons (.ro (.cons .str (.cons (.int .u8) (.cons .str .nil)))) (.cons (.ro (.cons .str (.cons (.int .u8) (.cons .str .nil)))) (.cons (.ro (.cons .str .nil)) .nil))))], 6⟩), (4093, ⟨[(3, .one (.own 3)), (7, .one (.own 4)), (10, .one (.int .i64)), (13, .one (.ro (.cons .str (.cons (.int .u8) (.cons .str .nil))))), (14, .one (.own 5)), (77, .one (.int .u8)), (78, .one (.int .u8))], [(3, .cells [.ro (.cons .str (.cons (.int .u8) (.cons .str .nil))), .ro (.cons .str (.cons (.int .u8) (.cons .str .nil))), .ro (.cons .str .nil)]), (4, .pre 6 (.cons (.ro (.cons .str (.cons (.int .u8) (.cons .str .nil)))) (.cons (.ro (.cons .str (.cons (.int .u8) (.cons .str .nil)))) (.cons (.ro (.cons .str .nil)) .nil)))), (5, .row (.cons (.ro (.cons .str (.cons (.int .u8) (.cons .str .nil)))) (.cons (.ro (.cons .str (.cons (.int .u8) (.cons .str .nil)))) (.cons (.ro (.cons .str .nil)) .nil)))), (6, .row (.cons (.ro (.cons .str (.cons (.int .u8) (.cons .str .nil)))) (.cons (.ro (.cons .str (.cons (.int .u8) (.cons .str .nil)))) (.cons (.ro (.cons .str .nil)) .nil))))], 7⟩)]⟩) (fuel := n) (c := Try.f4.body.getD .skip) (rs := Try.f4.results.toList) tt_ok mix (FsOK.cons (ok5 n) (FsOK.cons (ok10 n) (FsOK.cons (ok11 n) (FsOK.cons (ok12 n) (FsOK.cons (ok13 n) (FsOK.cons (ok14 n) (FsOK.cons (ok15 n) (FsOK.nil)))))))) Try.func4 (by kernel_rfl) (by kernel_rfl) rfl (by kernel_rfl) rfl rfl (by kernel_rfl)
end Go.Proofs.Ytlkjacdnnbmmmaa
