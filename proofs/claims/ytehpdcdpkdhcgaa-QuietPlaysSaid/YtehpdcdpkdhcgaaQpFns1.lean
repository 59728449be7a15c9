/- What the functions of this seat compute, found by walking their code symbolically: each F is what the walk finds, each ok says that the Go function keeps it as a contract. Printed by a program of this repo's. -/
import Derived.Test.YtehpdcdpkdhcgaaProg
import Derived.KernelRfl
import Derived.Test.YtehpdcdpkdhcgaaSxClone
import Derived.Test.YtehpdcdpkdhcgaaQpHand
open Go Go.Sx
namespace Go.Proofs.Ytehpdcdpkdhcgaa
set_option maxRecDepth 100000
set_option linter.unusedVariables false
def tt : TT := [(2, ⟨.int .i64, 1, 8, some (.int .i64 0), false⟩), (3, ⟨.int .i64, 1, 8, some (.int .i64 0), false⟩), (4, ⟨.bool, 1, 1, some (.bool false), false⟩), (5, ⟨.int .u8, 1, 1, some (.int .u8 0), false⟩), (9, ⟨.str, 1, 16, some (.string ⟨#[]⟩), false⟩), (21, ⟨.int .i32, 1, 4, some (.int .i32 0), false⟩), (23, ⟨.slice 71, 1, 24, some (.slice none 0 0), false⟩), (24, ⟨.int .u64, 1, 8, some (.int .u64 0), false⟩), (26, ⟨.struct [(0, 23, false), (1, 24, false), (2, 24, false)], 3, 40, some (.agg #[.slice none 0 0, .int .u64 0, .int .u64 0]), false⟩), (27, ⟨.slice 48, 1, 24, some (.slice none 0 0), false⟩), (29, ⟨.struct [(0, 5, false), (1, 5, false), (2, 5, false), (3, 5, false), (4, 5, false), (5, 5, false)], 6, 6, some (.agg #[.int .u8 0, .int .u8 0, .int .u8 0, .int .u8 0, .int .u8 0, .int .u8 0]), false⟩), (31, ⟨.slice 77, 1, 24, some (.slice none 0 0), false⟩), (32, ⟨.int .u8, 1, 1, some (.int .u8 0), false⟩), (34, ⟨.struct [(0, 5, false), (1, 9, false), (2, 31, false), (3, 32, false), (4, 24, false), (5, 5, false), (6, 2, false)], 7, 80, some (.agg #[.int .u8 0, .string ⟨#[]⟩, .slice none 0 0, .int .u8 0, .int .u64 0, .int .u8 0, .int .i64 0]), false⟩), (37, ⟨.slice 26, 1, 24, some (.slice none 0 0), false⟩), (38, ⟨.slice 24, 1, 24, some (.slice none 0 0), false⟩), (40, ⟨.slice 80, 1, 24, some (.slice none 0 0), false⟩), (45, ⟨.ptr 87, 1, 8, some (.pointer none), false⟩), (48, ⟨.struct [(0, 5, false), (1, 5, false), (2, 5, false)], 3, 3, some (.agg #[.int .u8 0, .int .u8 0, .int .u8 0]), false⟩), (49, ⟨.int .i64, 1, 8, some (.int .i64 0), false⟩), (54, ⟨.slice 57, 1, 24, some (.slice none 0 0), false⟩), (55, ⟨.slice 60, 1, 24, some (.slice none 0 0), false⟩), (57, ⟨.struct [(0, 5, false), (1, 27, false), (2, 5, false), (3, 5, false), (4, 3, false), (5, 29, false), (11, 26, false), (14, 4, false)], 15, 104, some (.agg #[.int .u8 0, .slice none 0 0, .int .u8 0, .int .u8 0, .int .i64 0, .int .u8 0, .int .u8 0, .int .u8 0, .int .u8 0, .int .u8 0, .int .u8 0, .slice none 0 0, .int .u64 0, .int .u64 0, .bool false]), false⟩), (58, ⟨.int .u64, 1, 8, some (.int .u64 0), false⟩), (60, ⟨.struct [(0, 3, false), (1, 26, false)], 4, 48, some (.agg #[.int .i64 0, .slice none 0 0, .int .u64 0, .int .u64 0]), false⟩), (64, ⟨.slice 3, 1, 24, some (.slice none 0 0), false⟩), (69, ⟨.int .u8, 1, 1, some (.int .u8 0), false⟩), (71, ⟨.struct [(0, 9, false), (1, 69, false), (2, 9, false)], 3, 40, some (.agg #[.string ⟨#[]⟩, .int .u8 0, .string ⟨#[]⟩]), false⟩), (73, ⟨.slice 9, 1, 24, some (.slice none 0 0), false⟩), (74, ⟨.slice 32, 1, 24, some (.slice none 0 0), false⟩), (75, ⟨.slice 5, 1, 24, some (.slice none 0 0), false⟩), (77, ⟨.struct [(0, 9, false), (1, 9, false)], 2, 32, some (.agg #[.string ⟨#[]⟩, .string ⟨#[]⟩]), false⟩), (80, ⟨.struct [(0, 9, false), (1, 3, false), (2, 9, false)], 3, 40, some (.agg #[.string ⟨#[]⟩, .int .i64 0, .string ⟨#[]⟩]), false⟩), (85, ⟨.map 3 26, 1, 8, some (.map none), false⟩), (87, ⟨.struct [(0, 85, false), (1, 3, false)], 2, 16, some (.agg #[.map none, .int .i64 0]), false⟩)]
theorem tt_ok : TTOK Try.prog tt := TTOK.of_rows (by kernel_rfl)
theorem mix : Try.prog.follows .mixedOrders = true := by kernel_rfl
-- (watchfire/watchfirelaw17.Small).Ask
def sig22 : Sig := ⟨(.cons (.agg (.cons (.int .u8) (.cons (.int .u8) (.cons (.int .u8) .nil)))) .nil), (.cons (.agg (.cons .str (.cons (.int .u8) (.cons .str .nil)))) .nil)⟩
def F22 : Nat → UInt8 × UInt8 × UInt8 → Option ((List UInt8 × UInt8 × List UInt8) × Unit) := fun (n : Nat) (x : UInt8 × UInt8 × UInt8) =>
 oite
 (decide ((0 : Int) ≤ ↑(UInt8.toNat (Prod.fst x % (5 : UInt8)))) &&
 Nat.blt (Int.toNat ↑(UInt8.toNat (Prod.fst x % (5 : UInt8))))
 (List.length
 [[(97 : UInt8)], [(98 : UInt8)], [(114 : UInt8), (117 : UInt8), (108 : UInt8), (101 : UInt8)],
 [(111 : UInt8), (114 : UInt8), (105 : UInt8), (103 : UInt8), (105 : UInt8), (110 : UInt8)],
 [(110 : UInt8), (111 : UInt8), (100 : UInt8), (101 : UInt8)]]))
 (obind
 [[(97 : UInt8)], [(98 : UInt8)], [(114 : UInt8), (117 : UInt8), (108 : UInt8), (101 : UInt8)],
 [(111 : UInt8), (114 : UInt8), (105 : UInt8), (103 : UInt8), (105 : UInt8), (110 : UInt8)],
 [(110 : UInt8), (111 : UInt8), (100 : UInt8),
 (101 : UInt8)]][Int.toNat ↑(UInt8.toNat (Prod.fst x % (5 : UInt8)))]?
 fun (x_1 : List UInt8) =>
 oite
 (decide ((0 : Int) ≤ ↑(UInt8.toNat (Prod.snd (Prod.snd x) % (5 : UInt8)))) &&
 Nat.blt (Int.toNat ↑(UInt8.toNat (Prod.snd (Prod.snd x) % (5 : UInt8))))
 (List.length
 [[(120 : UInt8)], [(121 : UInt8)], [(48 : UInt8)], [(104 : UInt8), (111 : UInt8), (116 : UInt8)],
 [(49 : UInt8)]]))
 (obind
 [[(120 : UInt8)], [(121 : UInt8)], [(48 : UInt8)], [(104 : UInt8), (111 : UInt8), (116 : UInt8)],
 [(49 : UInt8)]][Int.toNat ↑(UInt8.toNat (Prod.snd (Prod.snd x) % (5 : UInt8)))]?
 fun (x_2 : List UInt8) =>
 oite (decide ((4 : UInt8) ≤ (1 : UInt8) + Prod.fst (Prod.snd x) % (5 : UInt8)))
 (some ((x_1, (1 : UInt8) + Prod.fst (Prod.snd x) % (5 : UInt8), @List.nil UInt8), ()))
 (some ((x_1, (1 : UInt8) + Prod.fst (Prod.snd x) % (5 : UInt8), x_2), ())))
 none)
 none
theorem ok22 (n : Nat) : FunOK Try.prog ⟨22, sig22, F22 n⟩ :=
 fun_ok (hints := ⟨[], []⟩) (fuel := n) (c := Try.f22.body.getD .skip) (rs := Try.f22.results.toList) tt_ok mix (FsOK.nil) Try.func22 (by kernel_rfl) (by kernel_rfl) rfl (by kernel_rfl) rfl rfl (by kernel_rfl)
-- watchfire/watchfirelaw17.Asks
def sig9 : Sig := ⟨(.cons (.one (.c (.ro (.cons (.int .u8) (.cons (.int .u8) (.cons (.int .u8) .nil)))))) (.cons (.one (.c (.int .i64))) .nil)), (.cons (.one (.c (.ro (.cons .str (.cons (.int .u8) (.cons .str .nil)))))) .nil)⟩
def F9_L29 : Nat →
 Arr
 [PT.int IntKind.i64,
 PT.list (CTs.cons (CT.int IntKind.u8) (CTs.cons (CT.int IntKind.u8) (CTs.cons (CT.int IntKind.u8) CTs.nil))),
 PT.int IntKind.i64, PT.int IntKind.i64,
 PT.list (CTs.cons CT.str (CTs.cons (CT.int IntKind.u8) (CTs.cons CT.str CTs.nil)))]
 (Option (List (List UInt8 × UInt8 × List UInt8) × Unit)) →
 Int64 →
 List (UInt8 × UInt8 × UInt8) →
 Int64 → Int64 → List (List UInt8 × UInt8 × List UInt8) → Option (List (List UInt8 × UInt8 × List UInt8) × Unit) := fun (n : Nat)
 (rec :
 Arr
 [PT.int IntKind.i64,
 PT.list (CTs.cons (CT.int IntKind.u8) (CTs.cons (CT.int IntKind.u8) (CTs.cons (CT.int IntKind.u8) CTs.nil))),
 PT.int IntKind.i64, PT.int IntKind.i64,
 PT.list (CTs.cons CT.str (CTs.cons (CT.int IntKind.u8) (CTs.cons CT.str CTs.nil)))]
 (Option (List (List UInt8 × UInt8 × List UInt8) × Unit)))
 (most : Int64) (t : List (UInt8 × UInt8 × UInt8)) (t_1 t_2 : Int64)
 (out : List (List UInt8 × UInt8 × List UInt8)) =>
 oite (decide (t_2 < t_1))
 (obind (at? t (Int64.toInt t_2)) fun (x_1 : UInt8 × UInt8 × UInt8) =>
 oite (decide (t_2 < most))
 (obind (F22 n (Prod.fst x_1, Prod.fst (Prod.snd x_1), Prod.snd (Prod.snd x_1)))
 fun (x_2 : (List UInt8 × UInt8 × List UInt8) × Unit) =>
 oite
 (Nat.ble
 (List.length out +
 List.length
 [(Prod.fst (Prod.fst x_2), Prod.fst (Prod.snd (Prod.fst x_2)), Prod.snd (Prod.snd (Prod.fst x_2)))])
 (4294967296 : Nat))
 (rec most t t_1 (t_2 + (1 : Int64))
 (out ++
 [(Prod.fst (Prod.fst x_2), Prod.fst (Prod.snd (Prod.fst x_2)), Prod.snd (Prod.snd (Prod.fst x_2)))]))
 none)
 (rec most t t_1 (t_2 + (1 : Int64)) out))
 (some (out, ()))
def F9_R29 : Nat →
 Nat →
 PT.T (PT.int IntKind.i64) →
 List (UInt8 × UInt8 × UInt8) →
 Int64 → Int64 → List (List UInt8 × UInt8 × List UInt8) → Option (List (List UInt8 × UInt8 × List UInt8) × Unit) := fun (n : Nat) =>
 ofixA (29 : Nat)
 [PT.int IntKind.i64,
 PT.list (CTs.cons (CT.int IntKind.u8) (CTs.cons (CT.int IntKind.u8) (CTs.cons (CT.int IntKind.u8) CTs.nil))),
 PT.int IntKind.i64, PT.int IntKind.i64,
 PT.list (CTs.cons CT.str (CTs.cons (CT.int IntKind.u8) (CTs.cons CT.str CTs.nil)))]
 (F9_L29 n)
def F9 : Nat → List (UInt8 × UInt8 × UInt8) × Int64 → Option (List (List UInt8 × UInt8 × List UInt8) × Unit) := fun (n : Nat) (x : List (UInt8 × UInt8 × UInt8) × Int64) =>
 F9_R29 n n (Prod.snd x) (Prod.fst x) (Int64.ofInt ↑(List.length (Prod.fst x))) (0 : Int64) []
theorem F9_R29_s (n : Nat) (m_ : Nat) : F9_R29 n (m_ + 1) = F9_L29 n (F9_R29 n m_) := rfl
theorem ok9 (n : Nat) : FunOK Try.prog ⟨9, sig9, F9 n⟩ :=
 fun_ok (hints := ⟨[], [(29, ⟨[(1, .one (.int .i64)), (5, .one (.own 2)), (8, .one (.ro (.cons (.int .u8) (.cons (.int .u8) (.cons (.int .u8) .nil))))), (9, .one (.int .i64)), (10, .one (.int .i64))], [(2, .row (.cons .str (.cons (.int .u8) (.cons .str .nil))))], 3⟩)]⟩) (fuel := n) (c := Try.f9.body.getD .skip) (rs := Try.f9.results.toList) tt_ok mix (FsOK.cons (ok22 n) (FsOK.nil)) Try.func9 (by kernel_rfl) (by kernel_rfl) rfl (by kernel_rfl) rfl rfl (by kernel_rfl)
-- watchfire/match.number
def sig33 : Sig := ⟨(.cons (.one (.c (.int .u8))) .nil), (.cons (.one (.c .str)) .nil)⟩
def G33 : Nat → (UInt8 → Option (List UInt8 × Unit)) → UInt8 → Option (List UInt8 × Unit) := fun (n : Nat) (rc : UInt8 → Option (List UInt8 × Unit)) (x : UInt8) =>
 oite (decide ((9 : UInt8) < x))
 (obind (rc (x / (10 : UInt8))) fun (x_1 : List UInt8 × Unit) =>
 obind (rc (x % (10 : UInt8))) fun (x_2 : List UInt8 × Unit) =>
 oite (Nat.ble (List.length (Prod.fst x_1) + List.length (Prod.fst x_2)) (4294967296 : Nat))
 (some (Prod.fst x_1 ++ Prod.fst x_2, ())) none)
 (some ([(48 : UInt8) + x], ()))
theorem okG33 (n : Nat) (rc : sig33.In → Option sig33.Out) (h : FunOK Try.prog ⟨33, sig33, rc⟩) : FunOK Try.prog ⟨33, sig33, G33 n rc⟩ :=
 fun_ok (hints := ⟨[], []⟩) (fuel := n) (c := Try.f33.body.getD .skip) (rs := Try.f33.results.toList) tt_ok mix (FsOK.cons h (FsOK.nil)) Try.func33 (by kernel_rfl) (by kernel_rfl) rfl (by kernel_rfl) rfl rfl (by kernel_rfl)
def F33 (n : Nat) : UInt8 → Option (List UInt8 × Unit) := selfN (sig := sig33) (G33 n) n
theorem ok33 (n : Nat) : FunOK Try.prog ⟨33, sig33, F33 n⟩ :=
 self_ok (c := Try.f33.body.getD .skip) Try.func33 (by kernel_rfl) (by kernel_rfl) (fun F h => okG33 n F h) rfl n
-- watchfire/lab.Get
def sig34 : Sig := ⟨(.cons (.one (.c (.ro (.cons .str (.cons .str .nil))))) (.cons (.one (.c .str)) .nil)), (.cons (.one (.c .str)) (.cons (.one (.c .bool)) .nil))⟩
def F34_L13 : Arr [PT.bytes, PT.list (CTs.cons CT.str (CTs.cons CT.str CTs.nil)), PT.int IntKind.i64, PT.int IntKind.i64]
 (Option ((List UInt8 × Bool) × Unit)) →
 List UInt8 → List (List UInt8 × List UInt8) → Int64 → Int64 → Option ((List UInt8 × Bool) × Unit) := fun
 (rec :
 Arr [PT.bytes, PT.list (CTs.cons CT.str (CTs.cons CT.str CTs.nil)), PT.int IntKind.i64, PT.int IntKind.i64]
 (Option ((List UInt8 × Bool) × Unit)))
 (key : List UInt8) (t : List (List UInt8 × List UInt8)) (t_1 t_2 : Int64) =>
 oite (decide (t_2 < t_1))
 (obind (at? t (Int64.toInt t_2)) fun (x_1 : List UInt8 × List UInt8) =>
 oite (Prod.fst x_1 == key) (some ((Prod.snd x_1, true), ())) (rec key t t_1 (t_2 + (1 : Int64))))
 (some ((@List.nil UInt8, false), ()))
def F34_R13 : Nat → PT.T PT.bytes → List (List UInt8 × List UInt8) → Int64 → Int64 → Option ((List UInt8 × Bool) × Unit) := ofixA (13 : Nat) [PT.bytes, PT.list (CTs.cons CT.str (CTs.cons CT.str CTs.nil)), PT.int IntKind.i64, PT.int IntKind.i64]
 F34_L13
def F34 : Nat → List (List UInt8 × List UInt8) × List UInt8 → Option ((List UInt8 × Bool) × Unit) := fun (n : Nat) (x : List (List UInt8 × List UInt8) × List UInt8) =>
 F34_R13 n (Prod.snd x) (Prod.fst x) (Int64.ofInt ↑(List.length (Prod.fst x))) (0 : Int64)
theorem F34_R13_s  (m_ : Nat) : F34_R13  (m_ + 1) = F34_L13  (F34_R13  m_) := rfl
theorem ok34 (n : Nat) : FunOK Try.prog ⟨34, sig34, F34 n⟩ :=
 fun_ok (hints := ⟨[], [(13, ⟨[(1, .one (.str)), (8, .one (.ro (.cons .str (.cons .str .nil)))), (9, .one (.int .i64)), (10, .one (.int .i64))], [], 2⟩)]⟩) (fuel := n) (c := Try.f34.body.getD .skip) (rs := Try.f34.results.toList) tt_ok mix (FsOK.nil) Try.func34 (by kernel_rfl) (by kernel_rfl) rfl (by kernel_rfl) rfl rfl (by kernel_rfl)
-- watchfire/match.Names
def sig27 : Sig := ⟨(.cons (.agg (.cons (.int .u8) (.cons .str (.cons (.ro (.cons .str (.cons .str .nil))) (.cons (.int .u8) (.cons (.int .u64) (.cons (.int .u8) (.cons (.int .i64) .nil)))))))) .nil), (.cons (.one (.c (.ro (.cons .str (.cons .str .nil))))) .nil)⟩
def F27_L29 : Nat →
 Arr
 [PT.int IntKind.i64, PT.int IntKind.i64, PT.int IntKind.u8, PT.bytes,
 PT.list (CTs.cons CT.str (CTs.cons CT.str CTs.nil)), PT.int IntKind.u8, PT.int IntKind.u64, PT.int IntKind.u8,
 PT.int IntKind.i64, PT.list (CTs.cons CT.str (CTs.cons CT.str CTs.nil)),
 PT.list (CTs.cons CT.str (CTs.cons CT.str CTs.nil))]
 (Option (List (List UInt8 × List UInt8) × Unit)) →
 Int64 →
 Int64 →
 UInt8 →
 List UInt8 →
 List (List UInt8 × List UInt8) →
 UInt8 →
 UInt64 →
 UInt8 →
 Int64 →
 List (List UInt8 × List UInt8) →
 List (List UInt8 × List UInt8) → Option (List (List UInt8 × List UInt8) × Unit) := fun (n : Nat)
 (rec :
 Arr
 [PT.int IntKind.i64, PT.int IntKind.i64, PT.int IntKind.u8, PT.bytes,
 PT.list (CTs.cons CT.str (CTs.cons CT.str CTs.nil)), PT.int IntKind.u8, PT.int IntKind.u64, PT.int IntKind.u8,
 PT.int IntKind.i64, PT.list (CTs.cons CT.str (CTs.cons CT.str CTs.nil)),
 PT.list (CTs.cons CT.str (CTs.cons CT.str CTs.nil))]
 (Option (List (List UInt8 × List UInt8) × Unit)))
 (t t_1 : Int64) (a0 : UInt8) (a1 : List UInt8) (a2 : List (List UInt8 × List UInt8)) (a3 : UInt8) (a4 : UInt64)
 (a5 : UInt8) (a6 : Int64) (out t_2 : List (List UInt8 × List UInt8)) =>
 oite (decide (t_1 < t))
 (oite (decide ((0 : Int) ≤ Int64.toInt t_1) && Nat.blt (Int.toNat (Int64.toInt t_1)) (List.length t_2))
 (obind t_2[Int.toNat (Int64.toInt t_1)]? fun (x_2 : List UInt8 × List UInt8) =>
 obind (F34 n (a2, Prod.fst x_2)) fun (x_3 : (List UInt8 × Bool) × Unit) =>
 oite (!Prod.snd (Prod.fst x_3))
 (oite (Nat.ble (List.length out + List.length [(Prod.fst x_2, Prod.snd x_2)]) (4294967296 : Nat))
 (rec t (t_1 + (1 : Int64)) a0 a1 a2 a3 a4 a5 a6 (out ++ [(Prod.fst x_2, Prod.snd x_2)]) t_2) none)
 (rec t (t_1 + (1 : Int64)) a0 a1 a2 a3 a4 a5 a6 out t_2))
 none)
 (some (out, ()))
def F27_R29 : Nat →
 Nat →
 PT.T (PT.int IntKind.i64) →
 Int64 →
 UInt8 →
 List UInt8 →
 List (List UInt8 × List UInt8) →
 UInt8 →
 UInt64 →
 UInt8 →
 Int64 →
 List (List UInt8 × List UInt8) →
 List (List UInt8 × List UInt8) → Option (List (List UInt8 × List UInt8) × Unit) := fun (n : Nat) =>
 ofixA (29 : Nat)
 [PT.int IntKind.i64, PT.int IntKind.i64, PT.int IntKind.u8, PT.bytes,
 PT.list (CTs.cons CT.str (CTs.cons CT.str CTs.nil)), PT.int IntKind.u8, PT.int IntKind.u64, PT.int IntKind.u8,
 PT.int IntKind.i64, PT.list (CTs.cons CT.str (CTs.cons CT.str CTs.nil)),
 PT.list (CTs.cons CT.str (CTs.cons CT.str CTs.nil))]
 (F27_L29 n)
def F27 : Nat →
 UInt8 × List UInt8 × List (List UInt8 × List UInt8) × UInt8 × UInt64 × UInt8 × Int64 →
 Option (List (List UInt8 × List UInt8) × Unit) := fun (n : Nat) (x : UInt8 × List UInt8 × List (List UInt8 × List UInt8) × UInt8 × UInt64 × UInt8 × Int64) =>
 oite (Nat.ble ((0 : Nat) + List.length (Prod.fst (Prod.snd (Prod.snd x)))) (4294967296 : Nat))
 (obind (F33 n (Prod.fst x)) fun (x_1 : List UInt8 × Unit) =>
 F27_R29 n n
 (Int64.ofInt
 ↑(List.length
 [([(114 : UInt8), (117 : UInt8), (108 : UInt8), (101 : UInt8)], Prod.fst (Prod.snd x)),
 ([(111 : UInt8), (114 : UInt8), (105 : UInt8), (103 : UInt8), (105 : UInt8), (110 : UInt8)],
 Prod.fst x_1)]))
 (0 : Int64) (Prod.fst x) (Prod.fst (Prod.snd x)) (Prod.fst (Prod.snd (Prod.snd x)))
 (Prod.fst (Prod.snd (Prod.snd (Prod.snd x)))) (Prod.fst (Prod.snd (Prod.snd (Prod.snd (Prod.snd x)))))
 (Prod.fst (Prod.snd (Prod.snd (Prod.snd (Prod.snd (Prod.snd x))))))
 (Prod.snd (Prod.snd (Prod.snd (Prod.snd (Prod.snd (Prod.snd x)))))) ([] ++ Prod.fst (Prod.snd (Prod.snd x)))
 [([(114 : UInt8), (117 : UInt8), (108 : UInt8), (101 : UInt8)], Prod.fst (Prod.snd x)),
 ([(111 : UInt8), (114 : UInt8), (105 : UInt8), (103 : UInt8), (105 : UInt8), (110 : UInt8)], Prod.fst x_1)])
 none
theorem F27_R29_s (n : Nat) (m_ : Nat) : F27_R29 n (m_ + 1) = F27_L29 n (F27_R29 n m_) := rfl
theorem ok27 (n : Nat) : FunOK Try.prog ⟨27, sig27, F27 n⟩ :=
 fun_ok (hints := ⟨[], [(29, ⟨[(1, .one (.own 1)), (3, .one (.own 2)), (19, .one (.own 3)), (20, .one (.int .i64)), (21, .one (.int .i64))], [(1, .cells [.int .u8, .str, .ro (.cons .str (.cons .str .nil)), .int .u8, .int .u64, .int .u8, .int .i64]), (2, .row (.cons .str (.cons .str .nil))), (3, .row (.cons .str (.cons .str .nil)))], 4⟩)]⟩) (fuel := n) (c := Try.f27.body.getD .skip) (rs := Try.f27.results.toList) tt_ok mix (FsOK.cons (ok33 n) (FsOK.cons (ok34 n) (FsOK.nil))) Try.func27 (by kernel_rfl) (by kernel_rfl) rfl (by kernel_rfl) rfl rfl (by kernel_rfl)
-- internal/stringslite.HasPrefix
def sig54 : Sig := ⟨(.cons (.one (.c .str)) (.cons (.one (.c .str)) .nil)), (.cons (.one (.c .bool)) .nil)⟩
def F54 : Nat → List UInt8 × List UInt8 → Option (Bool × Unit) := fun (n : Nat) (x : List UInt8 × List UInt8) =>
 oite (decide (Int64.ofInt ↑(List.length (Prod.snd x)) ≤ Int64.ofInt ↑(List.length (Prod.fst x))))
 (oite
 (decide ((0 : Int) ≤ Int64.toInt (Int64.ofInt ↑(List.length (Prod.snd x)))) &&
 Nat.ble (Int.toNat (Int64.toInt (Int64.ofInt ↑(List.length (Prod.snd x))))) (List.length (Prod.fst x)) &&
 true)
 (some
 (List.drop (0 : Nat)
 (List.take (Int.toNat (Int64.toInt (Int64.ofInt ↑(List.length (Prod.snd x))))) (Prod.fst x)) ==
 Prod.snd x,
 ()))
 none)
 (some (false, ()))
theorem ok54 (n : Nat) : FunOK Try.prog ⟨54, sig54, F54 n⟩ :=
 fun_ok (hints := ⟨[], []⟩) (fuel := n) (c := Try.f54.body.getD .skip) (rs := Try.f54.results.toList) tt_ok mix (FsOK.nil) Try.func54 (by kernel_rfl) (by kernel_rfl) rfl (by kernel_rfl) rfl rfl (by kernel_rfl)
-- strings.HasPrefix
def sig40 : Sig := ⟨(.cons (.one (.c .str)) (.cons (.one (.c .str)) .nil)), (.cons (.one (.c .bool)) .nil)⟩
def F40 : Nat → List UInt8 × List UInt8 → Option (Bool × Unit) := fun (n : Nat) (x : List UInt8 × List UInt8) =>
 obind (F54 n (Prod.fst x, Prod.snd x)) fun (x_1 : Bool × Unit) => some (Prod.fst x_1, ())
theorem ok40 (n : Nat) : FunOK Try.prog ⟨40, sig40, F40 n⟩ :=
 fun_ok (hints := ⟨[], []⟩) (fuel := n) (c := Try.f40.body.getD .skip) (rs := Try.f40.results.toList) tt_ok mix (FsOK.cons (ok54 n) (FsOK.nil)) Try.func40 (by kernel_rfl) (by kernel_rfl) rfl (by kernel_rfl) rfl rfl (by kernel_rfl)
-- (watchfire/match.Ask).Holds
def sig32 : Sig := ⟨(.cons (.agg (.cons .str (.cons (.int .u8) (.cons .str .nil)))) (.cons (.one (.c (.ro (.cons .str (.cons .str .nil))))) .nil)), (.cons (.one (.c .bool)) .nil)⟩
def F32 : Nat → (List UInt8 × UInt8 × List UInt8) × List (List UInt8 × List UInt8) → Option (Bool × Unit) := fun (n : Nat) (x : (List UInt8 × UInt8 × List UInt8) × List (List UInt8 × List UInt8)) =>
 obind (F34 n (Prod.snd x, Prod.fst (Prod.fst x))) fun (x_1 : (List UInt8 × Bool) × Unit) =>
 oite (decide (Prod.fst (Prod.snd (Prod.fst x)) = (1 : UInt8)))
 (oite (Prod.snd (Prod.fst x_1)) (some (Prod.fst (Prod.fst x_1) == Prod.snd (Prod.snd (Prod.fst x)), ()))
 (some (false, ())))
 (oite (decide (Prod.fst (Prod.snd (Prod.fst x)) = (2 : UInt8)))
 (oite (!Prod.snd (Prod.fst x_1)) (some (true, ()))
 (some (!Prod.fst (Prod.fst x_1) == Prod.snd (Prod.snd (Prod.fst x)), ())))
 (oite (decide (Prod.fst (Prod.snd (Prod.fst x)) = (3 : UInt8)))
 (oite (Prod.snd (Prod.fst x_1))
 (obind (F40 n (Prod.fst (Prod.fst x_1), Prod.snd (Prod.snd (Prod.fst x)))) fun (x_2 : Bool × Unit) =>
 some (Prod.fst x_2, ()))
 (some (false, ())))
 (oite (decide (Prod.fst (Prod.snd (Prod.fst x)) = (4 : UInt8))) (some (Prod.snd (Prod.fst x_1), ()))
 (oite (decide (Prod.fst (Prod.snd (Prod.fst x)) = (5 : UInt8)))
 (some (!Prod.snd (Prod.fst x_1), ())) (some (false, ()))))))
theorem ok32 (n : Nat) : FunOK Try.prog ⟨32, sig32, F32 n⟩ :=
 fun_ok (hints := ⟨[], []⟩) (fuel := n) (c := Try.f32.body.getD .skip) (rs := Try.f32.results.toList) tt_ok mix (FsOK.cons (ok34 n) (FsOK.cons (ok40 n) (FsOK.nil))) Try.func32 (by kernel_rfl) (by kernel_rfl) rfl (by kernel_rfl) rfl rfl (by kernel_rfl)
-- (watchfire/match.Asks).Holds
def sig26 : Sig := ⟨(.cons (.one (.c (.ro (.cons .str (.cons (.int .u8) (.cons .str .nil)))))) (.cons (.one (.c (.ro (.cons .str (.cons .str .nil))))) .nil)), (.cons (.one (.c .bool)) .nil)⟩
def F26_L13 : Nat →
 Arr
 [PT.list (CTs.cons CT.str (CTs.cons CT.str CTs.nil)),
 PT.list (CTs.cons CT.str (CTs.cons (CT.int IntKind.u8) (CTs.cons CT.str CTs.nil))), PT.int IntKind.i64,
 PT.int IntKind.i64]
 (Option (Bool × Unit)) →
 List (List UInt8 × List UInt8) → List (List UInt8 × UInt8 × List UInt8) → Int64 → Int64 → Option (Bool × Unit) := fun (n : Nat)
 (rec :
 Arr
 [PT.list (CTs.cons CT.str (CTs.cons CT.str CTs.nil)),
 PT.list (CTs.cons CT.str (CTs.cons (CT.int IntKind.u8) (CTs.cons CT.str CTs.nil))), PT.int IntKind.i64,
 PT.int IntKind.i64]
 (Option (Bool × Unit)))
 (labels : List (List UInt8 × List UInt8)) (t : List (List UInt8 × UInt8 × List UInt8)) (t_1 t_2 : Int64) =>
 oite (decide (t_2 < t_1))
 (obind (at? t (Int64.toInt t_2)) fun (x_1 : List UInt8 × UInt8 × List UInt8) =>
 obind (F32 n ((Prod.fst x_1, Prod.fst (Prod.snd x_1), Prod.snd (Prod.snd x_1)), labels))
 fun (x_2 : Bool × Unit) =>
 oite (!Prod.fst x_2) (some (false, ())) (rec labels t t_1 (t_2 + (1 : Int64))))
 (some (true, ()))
def F26_R13 : Nat →
 Nat →
 PT.T (PT.list (CTs.cons CT.str (CTs.cons CT.str CTs.nil))) →
 List (List UInt8 × UInt8 × List UInt8) → Int64 → Int64 → Option (Bool × Unit) := fun (n : Nat) =>
 ofixA (13 : Nat)
 [PT.list (CTs.cons CT.str (CTs.cons CT.str CTs.nil)),
 PT.list (CTs.cons CT.str (CTs.cons (CT.int IntKind.u8) (CTs.cons CT.str CTs.nil))), PT.int IntKind.i64,
 PT.int IntKind.i64]
 (F26_L13 n)
def F26 : Nat → List (List UInt8 × UInt8 × List UInt8) × List (List UInt8 × List UInt8) → Option (Bool × Unit) := fun (n : Nat) (x : List (List UInt8 × UInt8 × List UInt8) × List (List UInt8 × List UInt8)) =>
 F26_R13 n n (Prod.snd x) (Prod.fst x) (Int64.ofInt ↑(List.length (Prod.fst x))) (0 : Int64)
theorem F26_R13_s (n : Nat) (m_ : Nat) : F26_R13 n (m_ + 1) = F26_L13 n (F26_R13 n m_) := rfl
theorem ok26 (n : Nat) : FunOK Try.prog ⟨26, sig26, F26 n⟩ :=
 fun_ok (hints := ⟨[], [(13, ⟨[(1, .one (.ro (.cons .str (.cons .str .nil)))), (7, .one (.ro (.cons .str (.cons (.int .u8) (.cons .str .nil))))), (8, .one (.int .i64)), (9, .one (.int .i64))], [], 2⟩)]⟩) (fuel := n) (c := Try.f26.body.getD .skip) (rs := Try.f26.results.toList) tt_ok mix (FsOK.cons (ok32 n) (FsOK.nil)) Try.func26 (by kernel_rfl) (by kernel_rfl) rfl (by kernel_rfl) rfl rfl (by kernel_rfl)
-- (watchfire/quiet.Quiet).Covers
def sig13 : Sig := ⟨(.cons (.agg (.cons (.ro (.cons .str (.cons (.int .u8) (.cons .str .nil)))) (.cons (.int .u64) (.cons (.int .u64) .nil)))) (.cons (.agg (.cons (.int .u8) (.cons .str (.cons (.ro (.cons .str (.cons .str .nil))) (.cons (.int .u8) (.cons (.int .u64) (.cons (.int .u8) (.cons (.int .i64) .nil)))))))) (.cons (.one (.c (.int .u64))) .nil))), (.cons (.one (.c .bool)) .nil)⟩
def F13 : Nat →
 (List (List UInt8 × UInt8 × List UInt8) × UInt64 × UInt64) ×
 (UInt8 × List UInt8 × List (List UInt8 × List UInt8) × UInt8 × UInt64 × UInt8 × Int64) × UInt64 →
 Option (Bool × Unit) := fun (n : Nat)
 (x :
 (List (List UInt8 × UInt8 × List UInt8) × UInt64 × UInt64) ×
 (UInt8 × List UInt8 × List (List UInt8 × List UInt8) × UInt8 × UInt64 × UInt8 × Int64) × UInt64) =>
 oite (decide (Prod.fst (Prod.snd (Prod.fst x)) ≤ Prod.snd (Prod.snd x)))
 (oite (decide (Prod.snd (Prod.snd x) < Prod.snd (Prod.snd (Prod.fst x))))
 (obind
 (F27 n
 (Prod.fst (Prod.fst (Prod.snd x)), Prod.fst (Prod.snd (Prod.fst (Prod.snd x))),
 Prod.fst (Prod.snd (Prod.snd (Prod.fst (Prod.snd x)))),
 Prod.fst (Prod.snd (Prod.snd (Prod.snd (Prod.fst (Prod.snd x))))),
 Prod.fst (Prod.snd (Prod.snd (Prod.snd (Prod.snd (Prod.fst (Prod.snd x)))))),
 Prod.fst (Prod.snd (Prod.snd (Prod.snd (Prod.snd (Prod.snd (Prod.fst (Prod.snd x))))))),
 Prod.snd (Prod.snd (Prod.snd (Prod.snd (Prod.snd (Prod.snd (Prod.fst (Prod.snd x)))))))))
 fun (x_1 : List (List UInt8 × List UInt8) × Unit) =>
 obind (F26 n (Prod.fst (Prod.fst x), Prod.fst x_1)) fun (x_2 : Bool × Unit) => some (Prod.fst x_2, ()))
 (some (false, ())))
 (some (false, ()))
theorem ok13 (n : Nat) : FunOK Try.prog ⟨13, sig13, F13 n⟩ :=
 fun_ok (hints := ⟨[], []⟩) (fuel := n) (c := Try.f13.body.getD .skip) (rs := Try.f13.results.toList) tt_ok mix (FsOK.cons (ok27 n) (FsOK.cons (ok26 n) (FsOK.nil))) Try.func13 (by kernel_rfl) (by kernel_rfl) rfl (by kernel_rfl) rfl rfl (by kernel_rfl)
-- watchfire/watchfirelaw18.Awake
def sig7 : Sig := ⟨.nil, (.cons (.one (.c .bool)) .nil)⟩
def F7 : Nat → Unit → Option (Bool × Unit) := fun (n : Nat) (x : Unit) =>
 obind (F9 n ([((2 : UInt8), (0 : UInt8), (3 : UInt8))], (1 : Int64)))
 fun (x_1 : List (List UInt8 × UInt8 × List UInt8) × Unit) =>
 obind
 (F13 n
 ((Prod.fst x_1, (5 : UInt64), (9 : UInt64)),
 ((0 : UInt8), [(104 : UInt8), (111 : UInt8), (116 : UInt8)], @List.nil (List UInt8 × List UInt8), (0 : UInt8),
 (0 : UInt64), (0 : UInt8), (0 : Int64)),
 (5 : UInt64)))
 fun (x_2 : Bool × Unit) =>
 oite (Prod.fst x_2)
 (obind
 (F13 n
 ((Prod.fst x_1, (5 : UInt64), (9 : UInt64)),
 ((0 : UInt8), [(104 : UInt8), (111 : UInt8), (116 : UInt8)], @List.nil (List UInt8 × List UInt8),
 (0 : UInt8), (0 : UInt64), (0 : UInt8), (0 : Int64)),
 (8 : UInt64)))
 fun (x_3 : Bool × Unit) =>
 oite (Prod.fst x_3)
 (obind
 (F13 n
 ((Prod.fst x_1, (5 : UInt64), (9 : UInt64)),
 ((0 : UInt8), [(104 : UInt8), (111 : UInt8), (116 : UInt8)], @List.nil (List UInt8 × List UInt8),
 (0 : UInt8), (0 : UInt64), (0 : UInt8), (0 : Int64)),
 (9 : UInt64)))
 fun (x_4 : Bool × Unit) =>
 oite (!Prod.fst x_4)
 (obind
 (F13 n
 ((Prod.fst x_1, (5 : UInt64), (9 : UInt64)),
 ((0 : UInt8), [(104 : UInt8), (111 : UInt8), (116 : UInt8)], @List.nil (List UInt8 × List UInt8),
 (0 : UInt8), (0 : UInt64), (0 : UInt8), (0 : Int64)),
 (4 : UInt64)))
 fun (x_5 : Bool × Unit) => some (!Prod.fst x_5, ()))
 (some (false, ())))
 (some (false, ())))
 (some (false, ()))
theorem ok7 (n : Nat) : FunOK Try.prog ⟨7, sig7, F7 n⟩ :=
 fun_ok (hints := ⟨[], []⟩) (fuel := n) (c := Try.f7.body.getD .skip) (rs := Try.f7.results.toList) tt_ok mix (FsOK.cons (ok9 n) (FsOK.cons (ok13 n) (FsOK.nil))) Try.func7 (by kernel_rfl) (by kernel_rfl) rfl (by kernel_rfl) rfl rfl (by kernel_rfl)
-- (watchfire/watchfirelaw18.Alert).Alert
def sig8 : Sig := ⟨(.cons (.agg (.cons (.int .u8) (.cons (.int .u8) (.cons (.int .u8) (.cons (.int .u8) (.cons (.int .u8) (.cons (.int .u8) .nil))))))) .nil), (.cons (.agg (.cons (.int .u8) (.cons .str (.cons (.ro (.cons .str (.cons .str .nil))) (.cons (.int .u8) (.cons (.int .u64) (.cons (.int .u8) (.cons (.int .i64) .nil)))))))) .nil)⟩
def F8_L29 : Arr
 [PT.int IntKind.i64, PT.int IntKind.i64, PT.int IntKind.u8, PT.bytes, PT.int IntKind.u8, PT.int IntKind.u64,
 PT.int IntKind.u8, PT.int IntKind.i64, PT.int IntKind.u8, PT.bytes, PT.int IntKind.u8, PT.int IntKind.u64,
 PT.int IntKind.u8, PT.int IntKind.i64, PT.list (CTs.cons (CT.int IntKind.u8) CTs.nil),
 PT.list (CTs.cons CT.str (CTs.cons CT.str CTs.nil))]
 (Option ((UInt8 × List UInt8 × List (List UInt8 × List UInt8) × UInt8 × UInt64 × UInt8 × Int64) × Unit)) →
 Int64 →
 Int64 →
 UInt8 →
 List UInt8 →
 UInt8 →
 UInt64 →
 UInt8 →
 Int64 →
 UInt8 →
 List UInt8 →
 UInt8 →
 UInt64 →
 UInt8 →
 Int64 →
 List UInt8 →
 List (List UInt8 × List UInt8) →
 Option
 ((UInt8 ×
 List UInt8 × List (List UInt8 × List UInt8) × UInt8 × UInt64 × UInt8 × Int64) ×
 Unit) := fun
 (rec :
 Arr
 [PT.int IntKind.i64, PT.int IntKind.i64, PT.int IntKind.u8, PT.bytes, PT.int IntKind.u8, PT.int IntKind.u64,
 PT.int IntKind.u8, PT.int IntKind.i64, PT.int IntKind.u8, PT.bytes, PT.int IntKind.u8, PT.int IntKind.u64,
 PT.int IntKind.u8, PT.int IntKind.i64, PT.list (CTs.cons (CT.int IntKind.u8) CTs.nil),
 PT.list (CTs.cons CT.str (CTs.cons CT.str CTs.nil))]
 (Option ((UInt8 × List UInt8 × List (List UInt8 × List UInt8) × UInt8 × UInt64 × UInt8 × Int64) × Unit)))
 (t t_1 : Int64) (t0 : UInt8) (t1 : List UInt8) (t3 : UInt8) (t4 : UInt64) (t5 : UInt8) (t6 : Int64) (a0 : UInt8)
 (a1 : List UInt8) (a3 : UInt8) (a4 : UInt64) (a5 : UInt8) (a6 : Int64) (t_2 : List UInt8)
 (al : List (List UInt8 × List UInt8)) =>
 oite (decide (t_1 < t))
 (oite (decide ((0 : Int) ≤ Int64.toInt t_1) && Nat.blt (Int.toNat (Int64.toInt t_1)) (List.length t_2))
 (obind t_2[Int.toNat (Int64.toInt t_1)]? fun (x_3 : UInt8) =>
 oite (decide ((0 : UInt8) < x_3 % (3 : UInt8)))
 (oite
 (decide ((0 : Int) ≤ Int64.toInt t_1) &&
 Nat.blt (Int.toNat (Int64.toInt t_1))
 (List.length
 [[(97 : UInt8)], [(98 : UInt8)], [(110 : UInt8), (111 : UInt8), (100 : UInt8), (101 : UInt8)]]))
 (obind
 [[(97 : UInt8)], [(98 : UInt8)],
 [(110 : UInt8), (111 : UInt8), (100 : UInt8), (101 : UInt8)]][Int.toNat (Int64.toInt t_1)]?
 fun (x_4 : List UInt8) =>
 oite
 (decide ((0 : Int) ≤ ↑(UInt8.toNat (x_3 % (3 : UInt8)))) &&
 Nat.blt (Int.toNat ↑(UInt8.toNat (x_3 % (3 : UInt8))))
 (List.length [[], [(120 : UInt8)], [(121 : UInt8)]]))
 (obind [[], [(120 : UInt8)], [(121 : UInt8)]][Int.toNat ↑(UInt8.toNat (x_3 % (3 : UInt8)))]?
 fun (x_5 : List UInt8) =>
 oite (Nat.ble (List.length al + List.length [(x_4, x_5)]) (4294967296 : Nat))
 (rec t (t_1 + (1 : Int64)) t0 t1 t3 t4 t5 t6 a0 a1 a3 a4 a5 a6 t_2 (al ++ [(x_4, x_5)])) none)
 none)
 none)
 (rec t (t_1 + (1 : Int64)) t0 t1 t3 t4 t5 t6 a0 a1 a3 a4 a5 a6 t_2 al))
 none)
 (some ((a0, a1, al, a3, a4, a5, a6), ()))
def F8_R29 : Nat →
 PT.T (PT.int IntKind.i64) →
 Int64 →
 UInt8 →
 List UInt8 →
 UInt8 →
 UInt64 →
 UInt8 →
 Int64 →
 UInt8 →
 List UInt8 →
 UInt8 →
 UInt64 →
 UInt8 →
 Int64 →
 List UInt8 →
 List (List UInt8 × List UInt8) →
 Option
 ((UInt8 ×
 List UInt8 × List (List UInt8 × List UInt8) × UInt8 × UInt64 × UInt8 × Int64) ×
 Unit) := ofixA (29 : Nat)
 [PT.int IntKind.i64, PT.int IntKind.i64, PT.int IntKind.u8, PT.bytes, PT.int IntKind.u8, PT.int IntKind.u64,
 PT.int IntKind.u8, PT.int IntKind.i64, PT.int IntKind.u8, PT.bytes, PT.int IntKind.u8, PT.int IntKind.u64,
 PT.int IntKind.u8, PT.int IntKind.i64, PT.list (CTs.cons (CT.int IntKind.u8) CTs.nil),
 PT.list (CTs.cons CT.str (CTs.cons CT.str CTs.nil))]
 F8_L29
def F8 : Nat →
 UInt8 × UInt8 × UInt8 × UInt8 × UInt8 × UInt8 →
 Option ((UInt8 × List UInt8 × List (List UInt8 × List UInt8) × UInt8 × UInt64 × UInt8 × Int64) × Unit) := fun (n : Nat) (x : UInt8 × UInt8 × UInt8 × UInt8 × UInt8 × UInt8) =>
 oite
 (decide ((0 : Int) ≤ ↑(UInt8.toNat (Prod.fst (Prod.snd x) % (3 : UInt8)))) &&
 Nat.blt (Int.toNat ↑(UInt8.toNat (Prod.fst (Prod.snd x) % (3 : UInt8))))
 (List.length
 [[(104 : UInt8), (111 : UInt8), (116 : UInt8)], [(99 : UInt8), (111 : UInt8), (108 : UInt8), (100 : UInt8)],
 [(120 : UInt8)]]))
 (obind
 [[(104 : UInt8), (111 : UInt8), (116 : UInt8)], [(99 : UInt8), (111 : UInt8), (108 : UInt8), (100 : UInt8)],
 [(120 : UInt8)]][Int.toNat ↑(UInt8.toNat (Prod.fst (Prod.snd x) % (3 : UInt8)))]?
 fun (x_1 : List UInt8) =>
 oite
 (decide ((0 : Int) ≤ ↑(UInt8.toNat (Prod.snd (Prod.snd (Prod.snd (Prod.snd (Prod.snd x)))) % (4 : UInt8)))) &&
 Nat.blt (Int.toNat ↑(UInt8.toNat (Prod.snd (Prod.snd (Prod.snd (Prod.snd (Prod.snd x)))) % (4 : UInt8))))
 (List.length [(0 : UInt8), (2 : UInt8), (3 : UInt8), (2 : UInt8)]))
 (obind
 [(0 : UInt8), (2 : UInt8), (3 : UInt8),
 (2 :
 UInt8)][Int.toNat
 ↑(UInt8.toNat (Prod.snd (Prod.snd (Prod.snd (Prod.snd (Prod.snd x)))) % (4 : UInt8)))]?
 fun (x_2 : UInt8) =>
 F8_R29 n
 (Int64.ofInt
 ↑(List.length
 [Prod.fst (Prod.snd (Prod.snd x)), Prod.fst (Prod.snd (Prod.snd (Prod.snd x))),
 Prod.fst (Prod.snd (Prod.snd (Prod.snd (Prod.snd x))))]))
 (0 : Int64) (0 : UInt8) [] (0 : UInt8) (0 : UInt64) (0 : UInt8) (0 : Int64) (Prod.fst x % (3 : UInt8)) x_1
 x_2 (0 : UInt64) (Prod.snd (Prod.snd (Prod.snd (Prod.snd (Prod.snd x)))) / (4 : UInt8) % (8 : UInt8))
 (Int64.ofInt ↑(UInt8.toNat (Prod.fst (Prod.snd (Prod.snd x)))))
 [Prod.fst (Prod.snd (Prod.snd x)), Prod.fst (Prod.snd (Prod.snd (Prod.snd x))),
 Prod.fst (Prod.snd (Prod.snd (Prod.snd (Prod.snd x))))]
 [])
 none)
 none
theorem F8_R29_s  (m_ : Nat) : F8_R29  (m_ + 1) = F8_L29  (F8_R29  m_) := rfl
theorem ok8 (n : Nat) : FunOK Try.prog ⟨8, sig8, F8 n⟩ :=
 fun_ok (hints := ⟨[], [(29, ⟨[(2, .one (.own 1)), (3, .one (.own 2)), (35, .one (.own 3)), (36, .one (.int .i64)), (37, .one (.int .i64))], [(1, .cells [.int .u8, .str, .nils, .int .u8, .int .u64, .int .u8, .int .i64]), (2, .cells [.int .u8, .str, .own 4, .int .u8, .int .u64, .int .u8, .int .i64]), (3, .row (.cons (.int .u8) .nil)), (4, .row (.cons .str (.cons .str .nil)))], 5⟩)]⟩) (fuel := n) (c := Try.f8.body.getD .skip) (rs := Try.f8.results.toList) tt_ok mix (FsOK.nil) Try.func8 (by kernel_rfl) (by kernel_rfl) rfl (by kernel_rfl) rfl rfl (by kernel_rfl)
-- watchfire/watchfirelaw17.Ref
def sig11 : Sig := ⟨(.cons (.one (.c (.ro (.cons .str (.cons (.int .u8) (.cons .str .nil)))))) .nil), (.cons (.one (.c (.ro (.cons .str (.cons (.int .i64) (.cons .str .nil)))))) .nil)⟩
def F11_L29 : Arr
 [PT.list (CTs.cons CT.str (CTs.cons (CT.int IntKind.u8) (CTs.cons CT.str CTs.nil))), PT.int IntKind.i64,
 PT.int IntKind.i64, PT.list (CTs.cons CT.str (CTs.cons (CT.int IntKind.i64) (CTs.cons CT.str CTs.nil)))]
 (Option (List (List UInt8 × Int64 × List UInt8) × Unit)) →
 List (List UInt8 × UInt8 × List UInt8) →
 Int64 → Int64 → List (List UInt8 × Int64 × List UInt8) → Option (List (List UInt8 × Int64 × List UInt8) × Unit) := fun
 (rec :
 Arr
 [PT.list (CTs.cons CT.str (CTs.cons (CT.int IntKind.u8) (CTs.cons CT.str CTs.nil))), PT.int IntKind.i64,
 PT.int IntKind.i64, PT.list (CTs.cons CT.str (CTs.cons (CT.int IntKind.i64) (CTs.cons CT.str CTs.nil)))]
 (Option (List (List UInt8 × Int64 × List UInt8) × Unit)))
 (t : List (List UInt8 × UInt8 × List UInt8)) (t_1 t_2 : Int64) (out : List (List UInt8 × Int64 × List UInt8)) =>
 oite (decide (t_2 < t_1))
 (obind (at? t (Int64.toInt t_2)) fun (x_1 : List UInt8 × UInt8 × List UInt8) =>
 oite
 (Nat.ble
 (List.length out +
 List.length [(Prod.fst x_1, Int64.ofInt ↑(UInt8.toNat (Prod.fst (Prod.snd x_1))), Prod.snd (Prod.snd x_1))])
 (4294967296 : Nat))
 (rec t t_1 (t_2 + (1 : Int64))
 (out ++ [(Prod.fst x_1, Int64.ofInt ↑(UInt8.toNat (Prod.fst (Prod.snd x_1))), Prod.snd (Prod.snd x_1))]))
 none)
 (some (out, ()))
def F11_R29 : Nat →
 PT.T (PT.list (CTs.cons CT.str (CTs.cons (CT.int IntKind.u8) (CTs.cons CT.str CTs.nil)))) →
 Int64 → Int64 → List (List UInt8 × Int64 × List UInt8) → Option (List (List UInt8 × Int64 × List UInt8) × Unit) := ofixA (29 : Nat)
 [PT.list (CTs.cons CT.str (CTs.cons (CT.int IntKind.u8) (CTs.cons CT.str CTs.nil))), PT.int IntKind.i64,
 PT.int IntKind.i64, PT.list (CTs.cons CT.str (CTs.cons (CT.int IntKind.i64) (CTs.cons CT.str CTs.nil)))]
 F11_L29
def F11 : Nat → List (List UInt8 × UInt8 × List UInt8) → Option (List (List UInt8 × Int64 × List UInt8) × Unit) := fun (n : Nat) (x : List (List UInt8 × UInt8 × List UInt8)) => F11_R29 n x (Int64.ofInt ↑(List.length x)) (0 : Int64) []
theorem F11_R29_s  (m_ : Nat) : F11_R29  (m_ + 1) = F11_L29  (F11_R29  m_) := rfl
theorem ok11 (n : Nat) : FunOK Try.prog ⟨11, sig11, F11 n⟩ :=
 fun_ok (hints := ⟨[], [(29, ⟨[(3, .one (.own 1)), (6, .one (.ro (.cons .str (.cons (.int .u8) (.cons .str .nil))))), (7, .one (.int .i64)), (8, .one (.int .i64))], [(1, .row (.cons .str (.cons (.int .i64) (.cons .str .nil))))], 2⟩)]⟩) (fuel := n) (c := Try.f11.body.getD .skip) (rs := Try.f11.results.toList) tt_ok mix (FsOK.nil) Try.func11 (by kernel_rfl) (by kernel_rfl) rfl (by kernel_rfl) rfl rfl (by kernel_rfl)
-- watchfire/watchfireref01.Get
def sig24 : Sig := ⟨(.cons (.one (.c (.ro (.cons .str (.cons .str .nil))))) (.cons (.one (.c .str)) .nil)), (.cons (.one (.c .str)) (.cons (.one (.c .bool)) .nil))⟩
def F24_L13 : Arr [PT.list (CTs.cons CT.str (CTs.cons CT.str CTs.nil)), PT.bytes, PT.int IntKind.i64]
 (Option ((List UInt8 × Bool) × Unit)) →
 List (List UInt8 × List UInt8) → List UInt8 → Int64 → Option ((List UInt8 × Bool) × Unit) := fun
 (rec :
 Arr [PT.list (CTs.cons CT.str (CTs.cons CT.str CTs.nil)), PT.bytes, PT.int IntKind.i64]
 (Option ((List UInt8 × Bool) × Unit)))
 (l : List (List UInt8 × List UInt8)) (key : List UInt8) (i : Int64) =>
 oite (decide (i < Int64.ofInt ↑(List.length l)))
 (obind (at? l (Int64.toInt i)) fun (x_1 : List UInt8 × List UInt8) =>
 oite (Prod.fst x_1 == key)
 (obind (at? l (Int64.toInt i)) fun (x_2 : List UInt8 × List UInt8) => some ((Prod.snd x_2, true), ()))
 (rec l key (i + (1 : Int64))))
 (some ((@List.nil UInt8, false), ()))
def F24_R13 : Nat →
 PT.T (PT.list (CTs.cons CT.str (CTs.cons CT.str CTs.nil))) → List UInt8 → Int64 → Option ((List UInt8 × Bool) × Unit) := ofixA (13 : Nat) [PT.list (CTs.cons CT.str (CTs.cons CT.str CTs.nil)), PT.bytes, PT.int IntKind.i64] F24_L13
def F24 : Nat → List (List UInt8 × List UInt8) × List UInt8 → Option ((List UInt8 × Bool) × Unit) := fun (n : Nat) (x : List (List UInt8 × List UInt8) × List UInt8) => F24_R13 n (Prod.fst x) (Prod.snd x) (0 : Int64)
theorem F24_R13_s  (m_ : Nat) : F24_R13  (m_ + 1) = F24_L13  (F24_R13  m_) := rfl
theorem ok24 (n : Nat) : FunOK Try.prog ⟨24, sig24, F24 n⟩ :=
 fun_ok (hints := ⟨[], [(13, ⟨[(0, .one (.ro (.cons .str (.cons .str .nil)))), (1, .one (.str)), (6, .one (.int .i64))], [], 2⟩)]⟩) (fuel := n) (c := Try.f24.body.getD .skip) (rs := Try.f24.results.toList) tt_ok mix (FsOK.nil) Try.func24 (by kernel_rfl) (by kernel_rfl) rfl (by kernel_rfl) rfl rfl (by kernel_rfl)
-- watchfire/watchfireref01.Itoa
def sig25 : Sig := ⟨(.cons (.one (.c (.int .u64))) .nil), (.cons (.one (.c .str)) .nil)⟩
def G25 : Nat → (UInt64 → Option (List UInt8 × Unit)) → UInt64 → Option (List UInt8 × Unit) := fun (n : Nat) (rc : UInt64 → Option (List UInt8 × Unit)) (x : UInt64) =>
 oite (decide ((9 : UInt64) < x))
 (obind (rc (x / (10 : UInt64))) fun (x_1 : List UInt8 × Unit) =>
 oite
 (Nat.ble
 (List.length (Prod.fst x_1) + List.length [UInt8.ofInt ↑(UInt64.toNat ((48 : UInt64) + x % (10 : UInt64)))])
 (4294967296 : Nat))
 (some (Prod.fst x_1 ++ [UInt8.ofInt ↑(UInt64.toNat ((48 : UInt64) + x % (10 : UInt64)))], ())) none)
 (some ([UInt8.ofInt ↑(UInt64.toNat ((48 : UInt64) + x % (10 : UInt64)))], ()))
theorem okG25 (n : Nat) (rc : sig25.In → Option sig25.Out) (h : FunOK Try.prog ⟨25, sig25, rc⟩) : FunOK Try.prog ⟨25, sig25, G25 n rc⟩ :=
 fun_ok (hints := ⟨[], []⟩) (fuel := n) (c := Try.f25.body.getD .skip) (rs := Try.f25.results.toList) tt_ok mix (FsOK.cons h (FsOK.nil)) Try.func25 (by kernel_rfl) (by kernel_rfl) rfl (by kernel_rfl) rfl rfl (by kernel_rfl)
def F25 (n : Nat) : UInt64 → Option (List UInt8 × Unit) := selfN (sig := sig25) (G25 n) n
theorem ok25 (n : Nat) : FunOK Try.prog ⟨25, sig25, F25 n⟩ :=
 self_ok (c := Try.f25.body.getD .skip) Try.func25 (by kernel_rfl) (by kernel_rfl) (fun F h => okG25 n F h) rfl n
-- watchfire/watchfireref17.Names
def sig12 : Sig := ⟨(.cons (.agg (.cons (.int .u8) (.cons .str (.cons (.ro (.cons .str (.cons .str .nil))) (.cons (.int .u8) (.cons (.int .u64) (.cons (.int .u8) (.cons (.int .i64) .nil)))))))) .nil), (.cons (.one (.c (.ro (.cons .str (.cons .str .nil))))) .nil)⟩
def F12_J7 : Nat →
 UInt8 →
 List UInt8 →
 List (List UInt8 × List UInt8) →
 UInt8 →
 UInt64 → UInt8 → Int64 → List (List UInt8 × List UInt8) → Option (List (List UInt8 × List UInt8) × Unit) := fun (n : Nat) (a0 : UInt8) (a1 : List UInt8) (a2 : List (List UInt8 × List UInt8)) (a3 : UInt8) (a4 : UInt64)
 (a5 : UInt8) (a6 : Int64) (out : List (List UInt8 × List UInt8)) =>
 obind (F24 n (a2, [(111 : UInt8), (114 : UInt8), (105 : UInt8), (103 : UInt8), (105 : UInt8), (110 : UInt8)]))
 fun (x_1 : (List UInt8 × Bool) × Unit) =>
 oite (!Prod.snd (Prod.fst x_1))
 (obind (F25 n (UInt64.ofInt ↑(UInt8.toNat a0))) fun (x_2 : List UInt8 × Unit) =>
 oite
 (Nat.ble
 (List.length out +
 List.length
 [([(111 : UInt8), (114 : UInt8), (105 : UInt8), (103 : UInt8), (105 : UInt8), (110 : UInt8)],
 Prod.fst x_2)])
 (4294967296 : Nat))
 (some
 (out ++
 [([(111 : UInt8), (114 : UInt8), (105 : UInt8), (103 : UInt8), (105 : UInt8), (110 : UInt8)],
 Prod.fst x_2)],
 ()))
 none)
 (some (out, ()))
def F12 : Nat →
 UInt8 × List UInt8 × List (List UInt8 × List UInt8) × UInt8 × UInt64 × UInt8 × Int64 →
 Option (List (List UInt8 × List UInt8) × Unit) := fun (n : Nat) (x : UInt8 × List UInt8 × List (List UInt8 × List UInt8) × UInt8 × UInt64 × UInt8 × Int64) =>
 oite (Nat.ble ((0 : Nat) + List.length (Prod.fst (Prod.snd (Prod.snd x)))) (4294967296 : Nat))
 (ojoinA (7 : Nat)
 [PT.int IntKind.u8, PT.bytes, PT.list (CTs.cons CT.str (CTs.cons CT.str CTs.nil)), PT.int IntKind.u8,
 PT.int IntKind.u64, PT.int IntKind.u8, PT.int IntKind.i64, PT.list (CTs.cons CT.str (CTs.cons CT.str CTs.nil))]
 (fun
 (J :
 Arr
 [PT.int IntKind.u8, PT.bytes, PT.list (CTs.cons CT.str (CTs.cons CT.str CTs.nil)), PT.int IntKind.u8,
 PT.int IntKind.u64, PT.int IntKind.u8, PT.int IntKind.i64,
 PT.list (CTs.cons CT.str (CTs.cons CT.str CTs.nil))]
 (Option (List (List UInt8 × List UInt8) × Unit))) =>
 obind (F24 n (Prod.fst (Prod.snd (Prod.snd x)), [(114 : UInt8), (117 : UInt8), (108 : UInt8), (101 : UInt8)]))
 fun (x_1 : (List UInt8 × Bool) × Unit) =>
 oite (!Prod.snd (Prod.fst x_1))
 (oite
 (Nat.ble
 (List.length ([] ++ Prod.fst (Prod.snd (Prod.snd x))) +
 List.length [([(114 : UInt8), (117 : UInt8), (108 : UInt8), (101 : UInt8)], Prod.fst (Prod.snd x))])
 (4294967296 : Nat))
 (J (Prod.fst x) (Prod.fst (Prod.snd x)) (Prod.fst (Prod.snd (Prod.snd x)))
 (Prod.fst (Prod.snd (Prod.snd (Prod.snd x)))) (Prod.fst (Prod.snd (Prod.snd (Prod.snd (Prod.snd x)))))
 (Prod.fst (Prod.snd (Prod.snd (Prod.snd (Prod.snd (Prod.snd x))))))
 (Prod.snd (Prod.snd (Prod.snd (Prod.snd (Prod.snd (Prod.snd x))))))
 ([] ++ Prod.fst (Prod.snd (Prod.snd x)) ++
 [([(114 : UInt8), (117 : UInt8), (108 : UInt8), (101 : UInt8)], Prod.fst (Prod.snd x))]))
 none)
 (J (Prod.fst x) (Prod.fst (Prod.snd x)) (Prod.fst (Prod.snd (Prod.snd x)))
 (Prod.fst (Prod.snd (Prod.snd (Prod.snd x)))) (Prod.fst (Prod.snd (Prod.snd (Prod.snd (Prod.snd x)))))
 (Prod.fst (Prod.snd (Prod.snd (Prod.snd (Prod.snd (Prod.snd x))))))
 (Prod.snd (Prod.snd (Prod.snd (Prod.snd (Prod.snd (Prod.snd x))))))
 ([] ++ Prod.fst (Prod.snd (Prod.snd x)))))
 (F12_J7 n))
 none
theorem ok12 (n : Nat) : FunOK Try.prog ⟨12, sig12, F12 n⟩ :=
 fun_ok (hints := ⟨[(7, ⟨[(1, .one (.own 1)), (3, .one (.own 2))], [(1, .cells [.int .u8, .str, .ro (.cons .str (.cons .str .nil)), .int .u8, .int .u64, .int .u8, .int .i64]), (2, .row (.cons .str (.cons .str .nil)))], 3⟩)], []⟩) (fuel := n) (c := Try.f12.body.getD .skip) (rs := Try.f12.results.toList) tt_ok mix (FsOK.cons (ok24 n) (FsOK.cons (ok25 n) (FsOK.nil))) Try.func12 (by kernel_rfl) (by kernel_rfl) rfl (by kernel_rfl) rfl rfl (by kernel_rfl)
-- (watchfire/watchfireref17.Ask).Holds
def sig23 : Sig := ⟨(.cons (.agg (.cons .str (.cons (.int .i64) (.cons .str .nil)))) (.cons (.one (.c (.ro (.cons .str (.cons .str .nil))))) .nil)), (.cons (.one (.c .bool)) .nil)⟩
def F23 : Nat → (List UInt8 × Int64 × List UInt8) × List (List UInt8 × List UInt8) → Option (Bool × Unit) := fun (n : Nat) (x : (List UInt8 × Int64 × List UInt8) × List (List UInt8 × List UInt8)) =>
 obind (F24 n (Prod.snd x, Prod.fst (Prod.fst x))) fun (x_1 : (List UInt8 × Bool) × Unit) =>
 oite (decide (Prod.fst (Prod.snd (Prod.fst x)) = (1 : Int64)))
 (oite (Prod.snd (Prod.fst x_1)) (some (Prod.fst (Prod.fst x_1) == Prod.snd (Prod.snd (Prod.fst x)), ()))
 (some (false, ())))
 (oite (decide (Prod.fst (Prod.snd (Prod.fst x)) = (2 : Int64)))
 (oite (Prod.snd (Prod.fst x_1))
 (some (!Prod.fst (Prod.fst x_1) == Prod.snd (Prod.snd (Prod.fst x)), ())) (some (true, ())))
 (oite (decide (Prod.fst (Prod.snd (Prod.fst x)) = (3 : Int64)))
 (oite (Prod.snd (Prod.fst x_1))
 (oite
 (decide
 (Int64.ofInt ↑(List.length (Prod.snd (Prod.snd (Prod.fst x)))) ≤
 Int64.ofInt ↑(List.length (Prod.fst (Prod.fst x_1)))))
 (oite
 (decide ((0 : Int) ≤ Int64.toInt (Int64.ofInt ↑(List.length (Prod.snd (Prod.snd (Prod.fst x)))))) &&
 Nat.ble (Int.toNat (Int64.toInt (Int64.ofInt ↑(List.length (Prod.snd (Prod.snd (Prod.fst x)))))))
 (List.length (Prod.fst (Prod.fst x_1))) &&
 true)
 (some
 (List.drop (0 : Nat)
 (List.take
 (Int.toNat (Int64.toInt (Int64.ofInt ↑(List.length (Prod.snd (Prod.snd (Prod.fst x)))))))
 (Prod.fst (Prod.fst x_1))) ==
 Prod.snd (Prod.snd (Prod.fst x)),
 ()))
 none)
 (some (false, ())))
 (some (false, ())))
 (oite (decide (Prod.fst (Prod.snd (Prod.fst x)) = (4 : Int64))) (some (Prod.snd (Prod.fst x_1), ()))
 (oite (decide (Prod.fst (Prod.snd (Prod.fst x)) = (5 : Int64)))
 (some (!Prod.snd (Prod.fst x_1), ())) (some (false, ()))))))
theorem ok23 (n : Nat) : FunOK Try.prog ⟨23, sig23, F23 n⟩ :=
 fun_ok (hints := ⟨[], []⟩) (fuel := n) (c := Try.f23.body.getD .skip) (rs := Try.f23.results.toList) tt_ok mix (FsOK.cons (ok24 n) (FsOK.nil)) Try.func23 (by kernel_rfl) (by kernel_rfl) rfl (by kernel_rfl) rfl rfl (by kernel_rfl)
-- watchfire/watchfireref17.All
def sig10 : Sig := ⟨(.cons (.one (.c (.ro (.cons .str (.cons (.int .i64) (.cons .str .nil)))))) (.cons (.one (.c (.ro (.cons .str (.cons .str .nil))))) .nil)), (.cons (.one (.c .bool)) .nil)⟩
def F10_L13 : Nat →
 Arr
 [PT.list (CTs.cons CT.str (CTs.cons (CT.int IntKind.i64) (CTs.cons CT.str CTs.nil))),
 PT.list (CTs.cons CT.str (CTs.cons CT.str CTs.nil)), PT.int IntKind.i64]
 (Option (Bool × Unit)) →
 List (List UInt8 × Int64 × List UInt8) → List (List UInt8 × List UInt8) → Int64 → Option (Bool × Unit) := fun (n : Nat)
 (rec :
 Arr
 [PT.list (CTs.cons CT.str (CTs.cons (CT.int IntKind.i64) (CTs.cons CT.str CTs.nil))),
 PT.list (CTs.cons CT.str (CTs.cons CT.str CTs.nil)), PT.int IntKind.i64]
 (Option (Bool × Unit)))
 (l : List (List UInt8 × Int64 × List UInt8)) (labels : List (List UInt8 × List UInt8)) (i : Int64) =>
 oite (decide (i < Int64.ofInt ↑(List.length l)))
 (obind (at? l (Int64.toInt i)) fun (x_1 : List UInt8 × Int64 × List UInt8) =>
 obind (F23 n ((Prod.fst x_1, Prod.fst (Prod.snd x_1), Prod.snd (Prod.snd x_1)), labels))
 fun (x_2 : Bool × Unit) => oite (!Prod.fst x_2) (some (false, ())) (rec l labels (i + (1 : Int64))))
 (some (true, ()))
def F10_R13 : Nat →
 Nat →
 PT.T (PT.list (CTs.cons CT.str (CTs.cons (CT.int IntKind.i64) (CTs.cons CT.str CTs.nil)))) →
 List (List UInt8 × List UInt8) → Int64 → Option (Bool × Unit) := fun (n : Nat) =>
 ofixA (13 : Nat)
 [PT.list (CTs.cons CT.str (CTs.cons (CT.int IntKind.i64) (CTs.cons CT.str CTs.nil))),
 PT.list (CTs.cons CT.str (CTs.cons CT.str CTs.nil)), PT.int IntKind.i64]
 (F10_L13 n)
def F10 : Nat → List (List UInt8 × Int64 × List UInt8) × List (List UInt8 × List UInt8) → Option (Bool × Unit) := fun (n : Nat) (x : List (List UInt8 × Int64 × List UInt8) × List (List UInt8 × List UInt8)) =>
 F10_R13 n n (Prod.fst x) (Prod.snd x) (0 : Int64)
theorem F10_R13_s (n : Nat) (m_ : Nat) : F10_R13 n (m_ + 1) = F10_L13 n (F10_R13 n m_) := rfl
theorem ok10 (n : Nat) : FunOK Try.prog ⟨10, sig10, F10 n⟩ :=
 fun_ok (hints := ⟨[], [(13, ⟨[(0, .one (.ro (.cons .str (.cons (.int .i64) (.cons .str .nil))))), (1, .one (.ro (.cons .str (.cons .str .nil)))), (5, .one (.int .i64))], [], 2⟩)]⟩) (fuel := n) (c := Try.f10.body.getD .skip) (rs := Try.f10.results.toList) tt_ok mix (FsOK.cons (ok23 n) (FsOK.nil)) Try.func10 (by kernel_rfl) (by kernel_rfl) rfl (by kernel_rfl) rfl rfl (by kernel_rfl)
-- watchfire/quiet.New
def sig14 : Sig := ⟨.nil, (.cons (.one (.ptr (.cons (.map (.one (.int .i64)) (.agg (.cons (.ro (.cons .str (.cons (.int .u8) (.cons .str .nil)))) (.cons (.int .u64) (.cons (.int .u64) .nil))))) (.cons (.c (.int .i64)) .nil)))) .nil)⟩
def F14 : Nat → Unit → Option (Option (List (Int64 × List (List UInt8 × UInt8 × List UInt8) × UInt64 × UInt64) × Int64) × Unit) := fun (n : Nat) (x : Unit) =>
 some (some (@List.nil (Int64 × List (List UInt8 × UInt8 × List UInt8) × UInt64 × UInt64), (0 : Int64)), ())
theorem ok14 (n : Nat) : FunOK Try.prog ⟨14, sig14, F14 n⟩ :=
 fun_ok (hints := ⟨[], []⟩) (fuel := n) (c := Try.f14.body.getD .skip) (rs := Try.f14.results.toList) tt_ok mix (FsOK.nil) Try.func14 (by kernel_rfl) (by kernel_rfl) rfl (by kernel_rfl) rfl rfl (by kernel_rfl)
-- watchfire/lab.word
def sig63 : Sig := ⟨(.cons (.one (.c .str)) (.cons (.one (.c (.int .i64))) (.cons (.one (.c .bool)) .nil))), (.cons (.one (.c .bool)) .nil)⟩
def F63_J471 : Arr [PT.bool, PT.bytes, PT.nat] (Option (Bool × Unit)) → Bool → Int32 → Bool → List UInt8 → Nat → Option (Bool × Unit) := fun (rec : Arr [PT.bool, PT.bytes, PT.nat] (Option (Bool × Unit))) (also_1 : Bool) (c : Int32) (t_1 : Bool)
 (t_1_1 : List UInt8) (x_2 : Nat) =>
 oite t_1 (rec also_1 t_1_1 x_2)
 (oite also_1
 (oite (decide ((48 : Int32) ≤ c))
 (oite (decide (c ≤ (57 : Int32))) (rec also_1 t_1_1 x_2)
 (oite (decide (c = (46 : Int32))) (rec also_1 t_1_1 x_2)
 (oite (decide (c = (95 : Int32))) (rec also_1 t_1_1 x_2)
 (oite (decide (c = (45 : Int32))) (rec also_1 t_1_1 x_2) (some (false, ()))))))
 (oite (decide (c = (46 : Int32))) (rec also_1 t_1_1 x_2)
 (oite (decide (c = (95 : Int32))) (rec also_1 t_1_1 x_2)
 (oite (decide (c = (45 : Int32))) (rec also_1 t_1_1 x_2) (some (false, ()))))))
 (some (false, ())))
def F63_L29 : Arr [PT.bool, PT.bytes, PT.nat] (Option (Bool × Unit)) → Bool → List UInt8 → Nat → Option (Bool × Unit) := fun (rec : Arr [PT.bool, PT.bytes, PT.nat] (Option (Bool × Unit))) (also : Bool) (t : List UInt8) (x_1 : Nat) =>
 oite (Nat.blt x_1 (List.length t))
 (ojoinA (471 : Nat) [PT.bool, PT.int IntKind.i32, PT.bool, PT.bytes, PT.nat]
 (fun (J : Arr [PT.bool, PT.int IntKind.i32, PT.bool, PT.bytes, PT.nat] (Option (Bool × Unit))) =>
 oite (decide ((97 : Int32) ≤ Int32.ofInt ↑(runeAt t x_1)))
 (J also (Int32.ofInt ↑(runeAt t x_1)) (decide (Int32.ofInt ↑(runeAt t x_1) ≤ (122 : Int32))) t
 (x_1 + runeLen t x_1))
 (J also (Int32.ofInt ↑(runeAt t x_1)) false t (x_1 + runeLen t x_1)))
 (F63_J471 rec))
 (some (true, ()))
def F63_R29 : Nat → PT.T PT.bool → List UInt8 → Nat → Option (Bool × Unit) := ofixA (29 : Nat) [PT.bool, PT.bytes, PT.nat] F63_L29
def F63 : Nat → List UInt8 × Int64 × Bool → Option (Bool × Unit) := fun (n : Nat) (x : List UInt8 × Int64 × Bool) =>
 oite (decide (Int64.ofInt ↑(List.length (Prod.fst x)) < (1 : Int64))) (some (false, ()))
 (oite (decide (Prod.fst (Prod.snd x) < Int64.ofInt ↑(List.length (Prod.fst x)))) (some (false, ()))
 (F63_R29 n (Prod.snd (Prod.snd x)) (Prod.fst x) (0 : Nat)))
theorem F63_R29_s  (m_ : Nat) : F63_R29  (m_ + 1) = F63_L29  (F63_R29  m_) := rfl
theorem ok63 (n : Nat) : FunOK Try.prog ⟨63, sig63, F63 n⟩ :=
 fun_ok (hints := ⟨[(471, ⟨[(2, .one (.bool)), (8, .one (.int .i32)), (19, .one (.own 3)), (23, .one (.bool))], [(3, .iter)], 4⟩)], [(29, ⟨[(2, .one (.bool)), (19, .one (.own 3))], [(3, .iter)], 4⟩)]⟩) (fuel := n) (c := Try.f63.body.getD .skip) (rs := Try.f63.results.toList) tt_ok mix (FsOK.nil) Try.func63 (by kernel_rfl) (by kernel_rfl) rfl (by kernel_rfl) rfl rfl (by kernel_rfl)
-- watchfire/lab.Key
def sig55 : Sig := ⟨(.cons (.one (.c .str)) .nil), (.cons (.one (.c .bool)) .nil)⟩
def F55 : Nat → List UInt8 → Option (Bool × Unit) := fun (n : Nat) (x : List UInt8) =>
 obind (F63 n (x, (8 : Int64), false)) fun (x_1 : Bool × Unit) => some (Prod.fst x_1, ())
theorem ok55 (n : Nat) : FunOK Try.prog ⟨55, sig55, F55 n⟩ :=
 fun_ok (hints := ⟨[], []⟩) (fuel := n) (c := Try.f55.body.getD .skip) (rs := Try.f55.results.toList) tt_ok mix (FsOK.cons (ok63 n) (FsOK.nil)) Try.func55 (by kernel_rfl) (by kernel_rfl) rfl (by kernel_rfl) rfl rfl (by kernel_rfl)
-- watchfire/lab.Value
def sig56 : Sig := ⟨(.cons (.one (.c .str)) .nil), (.cons (.one (.c .bool)) .nil)⟩
def F56 : Nat → List UInt8 → Option (Bool × Unit) := fun (n : Nat) (x : List UInt8) =>
 obind (F63 n (x, (16 : Int64), true)) fun (x_1 : Bool × Unit) => some (Prod.fst x_1, ())
theorem ok56 (n : Nat) : FunOK Try.prog ⟨56, sig56, F56 n⟩ :=
 fun_ok (hints := ⟨[], []⟩) (fuel := n) (c := Try.f56.body.getD .skip) (rs := Try.f56.results.toList) tt_ok mix (FsOK.cons (ok63 n) (FsOK.nil)) Try.func56 (by kernel_rfl) (by kernel_rfl) rfl (by kernel_rfl) rfl rfl (by kernel_rfl)
-- (watchfire/match.Ask).Check
def sig41 : Sig := ⟨(.cons (.agg (.cons .str (.cons (.int .u8) (.cons .str .nil)))) .nil), (.cons (.one (.c (.int .i64))) .nil)⟩
def F41 : Nat → List UInt8 × UInt8 × List UInt8 → Option (Int64 × Unit) := fun (n : Nat) (x : List UInt8 × UInt8 × List UInt8) =>
 obind (F55 n (Prod.fst x)) fun (x_1 : Bool × Unit) =>
 oite (!Prod.fst x_1) (some ((8 : Int64), ()))
 (oite (decide (Prod.fst (Prod.snd x) < (1 : UInt8))) (some ((12 : Int64), ()))
 (oite (decide ((5 : UInt8) < Prod.fst (Prod.snd x))) (some ((12 : Int64), ()))
 (oite (decide ((4 : UInt8) ≤ Prod.fst (Prod.snd x)))
 (oite (!Prod.snd (Prod.snd x) == []) (some ((27 : Int64), ()))
 (oite (decide (Prod.fst (Prod.snd x) < (4 : UInt8)))
 (obind (F56 n (Prod.snd (Prod.snd x))) fun (x_2 : Bool × Unit) =>
 oite (!Prod.fst x_2) (some ((27 : Int64), ())) (some ((0 : Int64), ())))
 (some ((0 : Int64), ()))))
 (oite (decide (Prod.fst (Prod.snd x) < (4 : UInt8)))
 (obind (F56 n (Prod.snd (Prod.snd x))) fun (x_2 : Bool × Unit) =>
 oite (!Prod.fst x_2) (some ((27 : Int64), ())) (some ((0 : Int64), ())))
 (some ((0 : Int64), ()))))))
theorem ok41 (n : Nat) : FunOK Try.prog ⟨41, sig41, F41 n⟩ :=
 fun_ok (hints := ⟨[], []⟩) (fuel := n) (c := Try.f41.body.getD .skip) (rs := Try.f41.results.toList) tt_ok mix (FsOK.cons (ok55 n) (FsOK.cons (ok56 n) (FsOK.nil))) Try.func41 (by kernel_rfl) (by kernel_rfl) rfl (by kernel_rfl) rfl rfl (by kernel_rfl)
-- (watchfire/match.Asks).Check
def sig35 : Sig := ⟨(.cons (.one (.c (.ro (.cons .str (.cons (.int .u8) (.cons .str .nil)))))) .nil), (.cons (.one (.c (.int .i64))) .nil)⟩
def F35_L29 : Nat →
 Arr
 [PT.list (CTs.cons CT.str (CTs.cons (CT.int IntKind.u8) (CTs.cons CT.str CTs.nil))), PT.int IntKind.i64,
 PT.int IntKind.i64]
 (Option (Int64 × Unit)) →
 List (List UInt8 × UInt8 × List UInt8) → Int64 → Int64 → Option (Int64 × Unit) := fun (n : Nat)
 (rec :
 Arr
 [PT.list (CTs.cons CT.str (CTs.cons (CT.int IntKind.u8) (CTs.cons CT.str CTs.nil))), PT.int IntKind.i64,
 PT.int IntKind.i64]
 (Option (Int64 × Unit)))
 (t : List (List UInt8 × UInt8 × List UInt8)) (t_1 t_2 : Int64) =>
 oite (decide (t_2 < t_1))
 (obind (at? t (Int64.toInt t_2)) fun (x_1 : List UInt8 × UInt8 × List UInt8) =>
 obind (F41 n (Prod.fst x_1, Prod.fst (Prod.snd x_1), Prod.snd (Prod.snd x_1))) fun (x_2 : Int64 × Unit) =>
 oite (!decide (Prod.fst x_2 = (0 : Int64))) (some (Prod.fst x_2, ())) (rec t t_1 (t_2 + (1 : Int64))))
 (some ((0 : Int64), ()))
def F35_R29 : Nat →
 Nat →
 PT.T (PT.list (CTs.cons CT.str (CTs.cons (CT.int IntKind.u8) (CTs.cons CT.str CTs.nil)))) →
 Int64 → Int64 → Option (Int64 × Unit) := fun (n : Nat) =>
 ofixA (29 : Nat)
 [PT.list (CTs.cons CT.str (CTs.cons (CT.int IntKind.u8) (CTs.cons CT.str CTs.nil))), PT.int IntKind.i64,
 PT.int IntKind.i64]
 (F35_L29 n)
def F35 : Nat → List (List UInt8 × UInt8 × List UInt8) → Option (Int64 × Unit) := fun (n : Nat) (x : List (List UInt8 × UInt8 × List UInt8)) =>
 oite (decide ((8 : Int64) < Int64.ofInt ↑(List.length x))) (some ((5 : Int64), ()))
 (F35_R29 n n x (Int64.ofInt ↑(List.length x)) (0 : Int64))
theorem F35_R29_s (n : Nat) (m_ : Nat) : F35_R29 n (m_ + 1) = F35_L29 n (F35_R29 n m_) := rfl
theorem ok35 (n : Nat) : FunOK Try.prog ⟨35, sig35, F35 n⟩ :=
 fun_ok (hints := ⟨[], [(29, ⟨[(9, .one (.ro (.cons .str (.cons (.int .u8) (.cons .str .nil))))), (10, .one (.int .i64)), (11, .one (.int .i64))], [], 1⟩)]⟩) (fuel := n) (c := Try.f35.body.getD .skip) (rs := Try.f35.results.toList) tt_ok mix (FsOK.cons (ok41 n) (FsOK.nil)) Try.func35 (by kernel_rfl) (by kernel_rfl) rfl (by kernel_rfl) rfl rfl (by kernel_rfl)
-- (watchfire/quiet.Quiet).Check
def sig28 : Sig := ⟨(.cons (.agg (.cons (.ro (.cons .str (.cons (.int .u8) (.cons .str .nil)))) (.cons (.int .u64) (.cons (.int .u64) .nil)))) .nil), (.cons (.one (.c (.int .i64))) .nil)⟩
def F28 : Nat → List (List UInt8 × UInt8 × List UInt8) × UInt64 × UInt64 → Option (Int64 × Unit) := fun (n : Nat) (x : List (List UInt8 × UInt8 × List UInt8) × UInt64 × UInt64) =>
 oite (decide (Int64.ofInt ↑(List.length (Prod.fst x)) = (0 : Int64))) (some ((2 : Int64), ()))
 (oite (decide (Prod.snd (Prod.snd x) ≤ Prod.fst (Prod.snd x))) (some ((6 : Int64), ()))
 (oite (decide ((1099511627776 : UInt64) < Prod.snd (Prod.snd x))) (some ((6 : Int64), ()))
 (obind (F35 n (Prod.fst x)) fun (x_1 : Int64 × Unit) => some (Prod.fst x_1, ()))))
theorem ok28 (n : Nat) : FunOK Try.prog ⟨28, sig28, F28 n⟩ :=
 fun_ok (hints := ⟨[], []⟩) (fuel := n) (c := Try.f28.body.getD .skip) (rs := Try.f28.results.toList) tt_ok mix (FsOK.cons (ok35 n) (FsOK.nil)) Try.func28 (by kernel_rfl) (by kernel_rfl) rfl (by kernel_rfl) rfl rfl (by kernel_rfl)
-- slices.Clone[watchfire/match.Asks,watchfire/match.Ask]
def sig29 : Sig := ⟨(.cons (.one (.c (.ro (.cons .str (.cons (.int .u8) (.cons .str .nil)))))) .nil), (.cons (.one (.row (.cons .str (.cons (.int .u8) (.cons .str .nil))))) .nil)⟩
def F29 (n : Nat) (xs : List (CTs.T (.cons .str (.cons (.int .u8) (.cons .str .nil))))) : Option (List (CTs.T (.cons .str (.cons (.int .u8) (.cons .str .nil)))) × Unit) := cloneF (.cons .str (.cons (.int .u8) (.cons .str .nil))) xs
theorem ok29 (n : Nat) : FunOK Try.prog ⟨29, sig29, F29 n⟩ :=
 clone_ok (c := Try.f29.body.getD .skip) (rs := Try.f29.results.toList) tt_ok mix Try.func29 (by kernel_rfl) rfl (by kernel_rfl) rfl rfl ⟨rfl, rfl, rfl⟩ ⟨rfl, rfl, rfl⟩ ⟨rfl, rfl, rfl⟩ (by kernel_rfl) (by kernel_rfl) (fun xs => by kernel_rfl)
-- (*watchfire/quiet.List).Add
def sig15 : Sig := ⟨(.cons (.one (.ptr (.cons (.map (.one (.int .i64)) (.agg (.cons (.ro (.cons .str (.cons (.int .u8) (.cons .str .nil)))) (.cons (.int .u64) (.cons (.int .u64) .nil))))) (.cons (.c (.int .i64)) .nil)))) (.cons (.agg (.cons (.ro (.cons .str (.cons (.int .u8) (.cons .str .nil)))) (.cons (.int .u64) (.cons (.int .u64) .nil)))) .nil)), (.cons (.one (.c (.int .i64))) (.cons (.one (.c (.int .i64))) .nil))⟩
def F15 : Nat →
 Option (List (Int64 × List (List UInt8 × UInt8 × List UInt8) × UInt64 × UInt64) × Int64) ×
 List (List UInt8 × UInt8 × List UInt8) × UInt64 × UInt64 →
 Option ((Int64 × Int64) × Option (List (Int64 × List (List UInt8 × UInt8 × List UInt8) × UInt64 × UInt64) × Int64)) := fun (n : Nat)
 (x :
 Option (List (Int64 × List (List UInt8 × UInt8 × List UInt8) × UInt64 × UInt64) × Int64) ×
 List (List UInt8 × UInt8 × List UInt8) × UInt64 × UInt64) =>
 oelim (Prod.fst x) (some (((0 : Int64), (1 : Int64)), none))
 fun (x_1 : List (Int64 × List (List UInt8 × UInt8 × List UInt8) × UInt64 × UInt64) × Int64) =>
 obind (F28 n (Prod.fst (Prod.snd x), Prod.fst (Prod.snd (Prod.snd x)), Prod.snd (Prod.snd (Prod.snd x))))
 fun (x_2 : Int64 × Unit) =>
 oite (!decide (Prod.fst x_2 = (0 : Int64)))
 (some (((0 : Int64), Prod.fst x_2), some (Prod.fst x_1, Prod.snd x_1)))
 (oite (Nat.ble (List.length (Prod.fst x_1)) (4294967296 : Nat))
 (oite (decide (Int64.ofInt ↑(List.length (Prod.fst x_1)) = (32 : Int64)))
 (some (((0 : Int64), (5 : Int64)), some (Prod.fst x_1, Prod.snd x_1)))
 (obind (F29 n (Prod.fst (Prod.snd x))) fun (x_3 : List (List UInt8 × UInt8 × List UInt8) × Unit) =>
 some
 ((Prod.snd x_1 + (1 : Int64), (0 : Int64)),
 some
 (mput (VT.one (CT.int IntKind.i64))
 (VT.agg
 (CTs.cons (CT.ro (CTs.cons CT.str (CTs.cons (CT.int IntKind.u8) (CTs.cons CT.str CTs.nil))))
 (CTs.cons (CT.int IntKind.u64) (CTs.cons (CT.int IntKind.u64) CTs.nil))))
 (Prod.snd x_1 + (1 : Int64))
 (Prod.fst x_3, Prod.fst (Prod.snd (Prod.snd x)), Prod.snd (Prod.snd (Prod.snd x)))
 (Prod.fst x_1),
 Prod.snd x_1 + (1 : Int64)))))
 none)
theorem ok15 (n : Nat) : FunOK Try.prog ⟨15, sig15, F15 n⟩ :=
 fun_ok (hints := ⟨[], []⟩) (fuel := n) (c := Try.f15.body.getD .skip) (rs := Try.f15.results.toList) tt_ok mix (FsOK.cons (ok28 n) (FsOK.cons (ok29 n) (FsOK.nil))) Try.func15 (by kernel_rfl) (by kernel_rfl) rfl (by kernel_rfl) rfl rfl (by kernel_rfl)
-- (*watchfire/quiet.List).End
def sig16 : Sig := ⟨(.cons (.one (.ptr (.cons (.map (.one (.int .i64)) (.agg (.cons (.ro (.cons .str (.cons (.int .u8) (.cons .str .nil)))) (.cons (.int .u64) (.cons (.int .u64) .nil))))) (.cons (.c (.int .i64)) .nil)))) (.cons (.one (.c (.int .i64))) (.cons (.one (.c (.int .u64))) .nil))), (.cons (.one (.c (.int .i64))) .nil)⟩
def F16 : Nat →
 Option (List (Int64 × List (List UInt8 × UInt8 × List UInt8) × UInt64 × UInt64) × Int64) × Int64 × UInt64 →
 Option (Int64 × Option (List (Int64 × List (List UInt8 × UInt8 × List UInt8) × UInt64 × UInt64) × Int64)) := fun (n : Nat)
 (x : Option (List (Int64 × List (List UInt8 × UInt8 × List UInt8) × UInt64 × UInt64) × Int64) × Int64 × UInt64) =>
 oelim (Prod.fst x) (some ((1 : Int64), none))
 fun (x_1 : List (Int64 × List (List UInt8 × UInt8 × List UInt8) × UInt64 × UInt64) × Int64) =>
 oite
 (!Option.isSome
 (mget (VT.one (CT.int IntKind.i64))
 (VT.agg
 (CTs.cons (CT.ro (CTs.cons CT.str (CTs.cons (CT.int IntKind.u8) (CTs.cons CT.str CTs.nil))))
 (CTs.cons (CT.int IntKind.u64) (CTs.cons (CT.int IntKind.u64) CTs.nil))))
 (Prod.fst (Prod.snd x)) (Prod.fst x_1)))
 (some ((14 : Int64), some (Prod.fst x_1, Prod.snd x_1)))
 (oite
 (decide
 (Prod.snd (Prod.snd x) ≤
 Prod.fst
 (Prod.snd
 (Option.getD
 (mget (VT.one (CT.int IntKind.i64))
 (VT.agg
 (CTs.cons (CT.ro (CTs.cons CT.str (CTs.cons (CT.int IntKind.u8) (CTs.cons CT.str CTs.nil))))
 (CTs.cons (CT.int IntKind.u64) (CTs.cons (CT.int IntKind.u64) CTs.nil))))
 (Prod.fst (Prod.snd x)) (Prod.fst x_1))
 (@List.nil (List UInt8 × UInt8 × List UInt8), (0 : UInt64), (0 : UInt64))))))
 (some
 ((0 : Int64),
 some
 (mdel (VT.one (CT.int IntKind.i64))
 (VT.agg
 (CTs.cons (CT.ro (CTs.cons CT.str (CTs.cons (CT.int IntKind.u8) (CTs.cons CT.str CTs.nil))))
 (CTs.cons (CT.int IntKind.u64) (CTs.cons (CT.int IntKind.u64) CTs.nil))))
 (Prod.fst (Prod.snd x)) (Prod.fst x_1),
 Prod.snd x_1)))
 (some
 ((0 : Int64),
 some
 (mput (VT.one (CT.int IntKind.i64))
 (VT.agg
 (CTs.cons (CT.ro (CTs.cons CT.str (CTs.cons (CT.int IntKind.u8) (CTs.cons CT.str CTs.nil))))
 (CTs.cons (CT.int IntKind.u64) (CTs.cons (CT.int IntKind.u64) CTs.nil))))
 (Prod.fst (Prod.snd x))
 (Prod.fst
 (Option.getD
 (mget (VT.one (CT.int IntKind.i64))
 (VT.agg
 (CTs.cons (CT.ro (CTs.cons CT.str (CTs.cons (CT.int IntKind.u8) (CTs.cons CT.str CTs.nil))))
 (CTs.cons (CT.int IntKind.u64) (CTs.cons (CT.int IntKind.u64) CTs.nil))))
 (Prod.fst (Prod.snd x)) (Prod.fst x_1))
 (@List.nil (List UInt8 × UInt8 × List UInt8), (0 : UInt64), (0 : UInt64))),
 Prod.fst
 (Prod.snd
 (Option.getD
 (mget (VT.one (CT.int IntKind.i64))
 (VT.agg
 (CTs.cons
 (CT.ro (CTs.cons CT.str (CTs.cons (CT.int IntKind.u8) (CTs.cons CT.str CTs.nil))))
 (CTs.cons (CT.int IntKind.u64) (CTs.cons (CT.int IntKind.u64) CTs.nil))))
 (Prod.fst (Prod.snd x)) (Prod.fst x_1))
 (@List.nil (List UInt8 × UInt8 × List UInt8), (0 : UInt64), (0 : UInt64)))),
 IK.minI IntKind.u64
 (Prod.snd
 (Prod.snd
 (Option.getD
 (mget (VT.one (CT.int IntKind.i64))
 (VT.agg
 (CTs.cons
 (CT.ro (CTs.cons CT.str (CTs.cons (CT.int IntKind.u8) (CTs.cons CT.str CTs.nil))))
 (CTs.cons (CT.int IntKind.u64) (CTs.cons (CT.int IntKind.u64) CTs.nil))))
 (Prod.fst (Prod.snd x)) (Prod.fst x_1))
 (@List.nil (List UInt8 × UInt8 × List UInt8), (0 : UInt64), (0 : UInt64)))))
 (Prod.snd (Prod.snd x)))
 (Prod.fst x_1),
 Prod.snd x_1))))
theorem ok16 (n : Nat) : FunOK Try.prog ⟨16, sig16, F16 n⟩ :=
 fun_ok (hints := ⟨[], []⟩) (fuel := n) (c := Try.f16.body.getD .skip) (rs := Try.f16.results.toList) tt_ok mix (FsOK.nil) Try.func16 (by kernel_rfl) (by kernel_rfl) rfl (by kernel_rfl) rfl rfl (by kernel_rfl)
-- (*watchfire/quiet.List).Numbers
def sig20 : Sig := ⟨(.cons (.one (.ptr (.cons (.map (.one (.int .i64)) (.agg (.cons (.ro (.cons .str (.cons (.int .u8) (.cons .str .nil)))) (.cons (.int .u64) (.cons (.int .u64) .nil))))) (.cons (.c (.int .i64)) .nil)))) .nil), (.cons (.one (.c (.ro (.cons (.int .i64) .nil)))) .nil)⟩
noncomputable def F20_L61 : Nat →
 Arr
 [PT.int IntKind.i64, PT.list (CTs.cons (CT.int IntKind.i64) CTs.nil),
 PT.ents (VT.one (CT.int IntKind.i64))
 (VT.agg
 (CTs.cons (CT.ro (CTs.cons CT.str (CTs.cons (CT.int IntKind.u8) (CTs.cons CT.str CTs.nil))))
 (CTs.cons (CT.int IntKind.u64) (CTs.cons (CT.int IntKind.u64) CTs.nil)))),
 PT.ents (VT.one (CT.int IntKind.i64))
 (VT.agg
 (CTs.cons (CT.ro (CTs.cons CT.str (CTs.cons (CT.int IntKind.u8) (CTs.cons CT.str CTs.nil))))
 (CTs.cons (CT.int IntKind.u64) (CTs.cons (CT.int IntKind.u64) CTs.nil))))]
 (Option (List Int64 × Option (List (Int64 × List (List UInt8 × UInt8 × List UInt8) × UInt64 × UInt64) × Int64))) →
 Int64 →
 List Int64 →
 List (Int64 × List (List UInt8 × UInt8 × List UInt8) × UInt64 × UInt64) →
 List (Int64 × List (List UInt8 × UInt8 × List UInt8) × UInt64 × UInt64) →
 Option
 (List Int64 × Option (List (Int64 × List (List UInt8 × UInt8 × List UInt8) × UInt64 × UInt64) × Int64)) := fun (n : Nat)
 (rec :
 Arr
 [PT.int IntKind.i64, PT.list (CTs.cons (CT.int IntKind.i64) CTs.nil),
 PT.ents (VT.one (CT.int IntKind.i64))
 (VT.agg
 (CTs.cons (CT.ro (CTs.cons CT.str (CTs.cons (CT.int IntKind.u8) (CTs.cons CT.str CTs.nil))))
 (CTs.cons (CT.int IntKind.u64) (CTs.cons (CT.int IntKind.u64) CTs.nil)))),
 PT.ents (VT.one (CT.int IntKind.i64))
 (VT.agg
 (CTs.cons (CT.ro (CTs.cons CT.str (CTs.cons (CT.int IntKind.u8) (CTs.cons CT.str CTs.nil))))
 (CTs.cons (CT.int IntKind.u64) (CTs.cons (CT.int IntKind.u64) CTs.nil))))]
 (Option
 (List Int64 × Option (List (Int64 × List (List UInt8 × UInt8 × List UInt8) × UInt64 × UInt64) × Int64))))
 (c01 : Int64) (out : List Int64)
 (tm tr : List (Int64 × List (List UInt8 × UInt8 × List UInt8) × UInt64 × UInt64)) =>
 oite (Nat.blt (0 : Nat) (List.length tr))
 (oallN (List.length tr) fun (j : Nat) =>
 obind tr[j]? fun (p : Int64 × List (List UInt8 × UInt8 × List UInt8) × UInt64 × UInt64) =>
 oite (Nat.ble (List.length out + List.length [Prod.fst p]) (4294967296 : Nat))
 (rec c01 (out ++ [Prod.fst p]) tm (List.eraseIdx tr j)) none)
 (obind (F31 n out) fun (x_2 : Unit × List Int64) => some (Prod.snd x_2, some (tm, c01)))
noncomputable def F20_R61 : Nat →
 Nat →
 PT.T (PT.int IntKind.i64) →
 List Int64 →
 List (Int64 × List (List UInt8 × UInt8 × List UInt8) × UInt64 × UInt64) →
 List (Int64 × List (List UInt8 × UInt8 × List UInt8) × UInt64 × UInt64) →
 Option
 (List Int64 × Option (List (Int64 × List (List UInt8 × UInt8 × List UInt8) × UInt64 × UInt64) × Int64)) := fun (n : Nat) =>
 ofixA (61 : Nat)
 [PT.int IntKind.i64, PT.list (CTs.cons (CT.int IntKind.i64) CTs.nil),
 PT.ents (VT.one (CT.int IntKind.i64))
 (VT.agg
 (CTs.cons (CT.ro (CTs.cons CT.str (CTs.cons (CT.int IntKind.u8) (CTs.cons CT.str CTs.nil))))
 (CTs.cons (CT.int IntKind.u64) (CTs.cons (CT.int IntKind.u64) CTs.nil)))),
 PT.ents (VT.one (CT.int IntKind.i64))
 (VT.agg
 (CTs.cons (CT.ro (CTs.cons CT.str (CTs.cons (CT.int IntKind.u8) (CTs.cons CT.str CTs.nil))))
 (CTs.cons (CT.int IntKind.u64) (CTs.cons (CT.int IntKind.u64) CTs.nil))))]
 (F20_L61 n)
noncomputable def F20 : Nat →
 Option (List (Int64 × List (List UInt8 × UInt8 × List UInt8) × UInt64 × UInt64) × Int64) →
 Option (List Int64 × Option (List (Int64 × List (List UInt8 × UInt8 × List UInt8) × UInt64 × UInt64) × Int64)) := fun (n : Nat) (x : Option (List (Int64 × List (List UInt8 × UInt8 × List UInt8) × UInt64 × UInt64) × Int64)) =>
 oelim x (some (@List.nil Int64, none))
 fun (x_1 : List (Int64 × List (List UInt8 × UInt8 × List UInt8) × UInt64 × UInt64) × Int64) =>
 F20_R61 n n (Prod.snd x_1) [] (Prod.fst x_1) (Prod.fst x_1)
theorem F20_R61_s (n : Nat) (m_ : Nat) : F20_R61 n (m_ + 1) = F20_L61 n (F20_R61 n m_) := rfl
theorem ok20 (n : Nat) : FunOK Try.prog ⟨20, sig20, F20 n⟩ :=
 fun_ok (hints := ⟨[], [(61, ⟨[(3, .one (.own 1)), (11, .one (.own 2))], [(0, .cells [.own 3, .int .i64]), (1, .row (.cons (.int .i64) .nil)), (2, .miter 3 (.one (.int .i64)) (.agg (.cons (.ro (.cons .str (.cons (.int .u8) (.cons .str .nil)))) (.cons (.int .u64) (.cons (.int .u64) .nil)))))], 4⟩)]⟩) (fuel := n) (c := Try.f20.body.getD .skip) (rs := Try.f20.results.toList) tt_ok mix (FsOK.cons (ok31 n) (FsOK.nil)) Try.func20 (by kernel_rfl) (by kernel_rfl) rfl (by kernel_rfl) rfl rfl (by kernel_rfl)
-- (*watchfire/quiet.List).Trim
def sig17 : Sig := ⟨(.cons (.one (.ptr (.cons (.map (.one (.int .i64)) (.agg (.cons (.ro (.cons .str (.cons (.int .u8) (.cons .str .nil)))) (.cons (.int .u64) (.cons (.int .u64) .nil))))) (.cons (.c (.int .i64)) .nil)))) (.cons (.one (.c (.int .u64))) .nil)), (.cons (.one (.c (.int .i64))) .nil)⟩
noncomputable def F17_L29 : Arr
 [PT.int IntKind.u64, PT.int IntKind.i64, PT.list (CTs.cons (CT.int IntKind.i64) CTs.nil), PT.int IntKind.i64,
 PT.int IntKind.i64,
 PT.opt
 (OTs.cons
 (OT.map (VT.one (CT.int IntKind.i64))
 (VT.agg
 (CTs.cons (CT.ro (CTs.cons CT.str (CTs.cons (CT.int IntKind.u8) (CTs.cons CT.str CTs.nil))))
 (CTs.cons (CT.int IntKind.u64) (CTs.cons (CT.int IntKind.u64) CTs.nil)))))
 (OTs.cons (OT.c (CT.int IntKind.i64)) OTs.nil))]
 (Option (Int64 × Option (List (Int64 × List (List UInt8 × UInt8 × List UInt8) × UInt64 × UInt64) × Int64))) →
 UInt64 →
 Int64 →
 List Int64 →
 Int64 →
 Int64 →
 Option (List (Int64 × List (List UInt8 × UInt8 × List UInt8) × UInt64 × UInt64) × Int64) →
 Option (Int64 × Option (List (Int64 × List (List UInt8 × UInt8 × List UInt8) × UInt64 × UInt64) × Int64)) := fun
 (rec :
 Arr
 [PT.int IntKind.u64, PT.int IntKind.i64, PT.list (CTs.cons (CT.int IntKind.i64) CTs.nil), PT.int IntKind.i64,
 PT.int IntKind.i64,
 PT.opt
 (OTs.cons
 (OT.map (VT.one (CT.int IntKind.i64))
 (VT.agg
 (CTs.cons (CT.ro (CTs.cons CT.str (CTs.cons (CT.int IntKind.u8) (CTs.cons CT.str CTs.nil))))
 (CTs.cons (CT.int IntKind.u64) (CTs.cons (CT.int IntKind.u64) CTs.nil)))))
 (OTs.cons (OT.c (CT.int IntKind.i64)) OTs.nil))]
 (Option (Int64 × Option (List (Int64 × List (List UInt8 × UInt8 × List UInt8) × UInt64 × UInt64) × Int64))))
 (now : UInt64) (n_ : Int64) (t : List Int64) (t_1 t_2 : Int64)
 (l : Option (List (Int64 × List (List UInt8 × UInt8 × List UInt8) × UInt64 × UInt64) × Int64)) =>
 oite (decide (t_2 < t_1))
 (obind (at? t (Int64.toInt t_2)) fun (x_2 : Int64) =>
 obind l fun (x_3 : List (Int64 × List (List UInt8 × UInt8 × List UInt8) × UInt64 × UInt64) × Int64) =>
 oite
 (decide
 (Prod.snd
 (Prod.snd
 (Option.getD
 (mget (VT.one (CT.int IntKind.i64))
 (VT.agg
 (CTs.cons (CT.ro (CTs.cons CT.str (CTs.cons (CT.int IntKind.u8) (CTs.cons CT.str CTs.nil))))
 (CTs.cons (CT.int IntKind.u64) (CTs.cons (CT.int IntKind.u64) CTs.nil))))
 x_2 (Prod.fst x_3))
 (@List.nil (List UInt8 × UInt8 × List UInt8), (0 : UInt64), (0 : UInt64)))) ≤
 now))
 (rec now (n_ + (1 : Int64)) t t_1 (t_2 + (1 : Int64))
 (some
 (mdel (VT.one (CT.int IntKind.i64))
 (VT.agg
 (CTs.cons (CT.ro (CTs.cons CT.str (CTs.cons (CT.int IntKind.u8) (CTs.cons CT.str CTs.nil))))
 (CTs.cons (CT.int IntKind.u64) (CTs.cons (CT.int IntKind.u64) CTs.nil))))
 x_2 (Prod.fst x_3),
 Prod.snd x_3)))
 (rec now n_ t t_1 (t_2 + (1 : Int64)) (some (Prod.fst x_3, Prod.snd x_3))))
 (some (n_, l))
noncomputable def F17_R29 : Nat →
 PT.T (PT.int IntKind.u64) →
 Int64 →
 List Int64 →
 Int64 →
 Int64 →
 Option (List (Int64 × List (List UInt8 × UInt8 × List UInt8) × UInt64 × UInt64) × Int64) →
 Option (Int64 × Option (List (Int64 × List (List UInt8 × UInt8 × List UInt8) × UInt64 × UInt64) × Int64)) := ofixA (29 : Nat)
 [PT.int IntKind.u64, PT.int IntKind.i64, PT.list (CTs.cons (CT.int IntKind.i64) CTs.nil), PT.int IntKind.i64,
 PT.int IntKind.i64,
 PT.opt
 (OTs.cons
 (OT.map (VT.one (CT.int IntKind.i64))
 (VT.agg
 (CTs.cons (CT.ro (CTs.cons CT.str (CTs.cons (CT.int IntKind.u8) (CTs.cons CT.str CTs.nil))))
 (CTs.cons (CT.int IntKind.u64) (CTs.cons (CT.int IntKind.u64) CTs.nil)))))
 (OTs.cons (OT.c (CT.int IntKind.i64)) OTs.nil))]
 F17_L29
noncomputable def F17 : Nat →
 Option (List (Int64 × List (List UInt8 × UInt8 × List UInt8) × UInt64 × UInt64) × Int64) × UInt64 →
 Option (Int64 × Option (List (Int64 × List (List UInt8 × UInt8 × List UInt8) × UInt64 × UInt64) × Int64)) := fun (n : Nat) (x : Option (List (Int64 × List (List UInt8 × UInt8 × List UInt8) × UInt64 × UInt64) × Int64) × UInt64) =>
 obind (F20 n (Prod.fst x))
 fun (x_1 : List Int64 × Option (List (Int64 × List (List UInt8 × UInt8 × List UInt8) × UInt64 × UInt64) × Int64)) =>
 F17_R29 n (Prod.snd x) (0 : Int64) (Prod.fst x_1) (Int64.ofInt ↑(List.length (Prod.fst x_1))) (0 : Int64)
 (Prod.snd x_1)
theorem F17_R29_s  (m_ : Nat) : F17_R29  (m_ + 1) = F17_L29  (F17_R29  m_) := rfl
theorem ok17 (n : Nat) : FunOK Try.prog ⟨17, sig17, F17 n⟩ :=
 fun_ok (hints := ⟨[], [(29, ⟨[(0, .one (.own 0)), (1, .one (.int .u64)), (5, .one (.int .i64)), (9, .one (.ro (.cons (.int .i64) .nil))), (10, .one (.int .i64)), (11, .one (.int .i64))], [(0, .fold (.cons (.map (.one (.int .i64)) (.agg (.cons (.ro (.cons .str (.cons (.int .u8) (.cons .str .nil)))) (.cons (.int .u64) (.cons (.int .u64) .nil))))) (.cons (.c (.int .i64)) .nil)))], 2⟩)]⟩) (fuel := n) (c := Try.f17.body.getD .skip) (rs := Try.f17.results.toList) tt_ok mix (FsOK.cons (ok20 n) (FsOK.nil)) Try.func17 (by kernel_rfl) (by kernel_rfl) rfl (by kernel_rfl) rfl rfl (by kernel_rfl)
-- (*watchfire/quiet.List).Covers
def sig18 : Sig := ⟨(.cons (.one (.ptr (.cons (.map (.one (.int .i64)) (.agg (.cons (.ro (.cons .str (.cons (.int .u8) (.cons .str .nil)))) (.cons (.int .u64) (.cons (.int .u64) .nil))))) (.cons (.c (.int .i64)) .nil)))) (.cons (.agg (.cons (.int .u8) (.cons .str (.cons (.ro (.cons .str (.cons .str .nil))) (.cons (.int .u8) (.cons (.int .u64) (.cons (.int .u8) (.cons (.int .i64) .nil)))))))) (.cons (.one (.c (.int .u64))) .nil))), (.cons (.one (.c (.int .i64))) .nil)⟩
noncomputable def F18_L13 : Nat →
 Arr
 [PT.int IntKind.u64, PT.list (CTs.cons (CT.int IntKind.i64) CTs.nil), PT.int IntKind.i64, PT.int IntKind.i64,
 PT.opt
 (OTs.cons
 (OT.map (VT.one (CT.int IntKind.i64))
 (VT.agg
 (CTs.cons (CT.ro (CTs.cons CT.str (CTs.cons (CT.int IntKind.u8) (CTs.cons CT.str CTs.nil))))
 (CTs.cons (CT.int IntKind.u64) (CTs.cons (CT.int IntKind.u64) CTs.nil)))))
 (OTs.cons (OT.c (CT.int IntKind.i64)) OTs.nil)),
 PT.int IntKind.u8, PT.bytes, PT.list (CTs.cons CT.str (CTs.cons CT.str CTs.nil)), PT.int IntKind.u8,
 PT.int IntKind.u64, PT.int IntKind.u8, PT.int IntKind.i64]
 (Option (Int64 × Option (List (Int64 × List (List UInt8 × UInt8 × List UInt8) × UInt64 × UInt64) × Int64))) →
 UInt64 →
 List Int64 →
 Int64 →
 Int64 →
 Option (List (Int64 × List (List UInt8 × UInt8 × List UInt8) × UInt64 × UInt64) × Int64) →
 UInt8 →
 List UInt8 →
 List (List UInt8 × List UInt8) →
 UInt8 →
 UInt64 →
 UInt8 →
 Int64 →
 Option
 (Int64 ×
 Option
 (List (Int64 × List (List UInt8 × UInt8 × List UInt8) × UInt64 × UInt64) × Int64)) := fun (n : Nat)
 (rec :
 Arr
 [PT.int IntKind.u64, PT.list (CTs.cons (CT.int IntKind.i64) CTs.nil), PT.int IntKind.i64, PT.int IntKind.i64,
 PT.opt
 (OTs.cons
 (OT.map (VT.one (CT.int IntKind.i64))
 (VT.agg
 (CTs.cons (CT.ro (CTs.cons CT.str (CTs.cons (CT.int IntKind.u8) (CTs.cons CT.str CTs.nil))))
 (CTs.cons (CT.int IntKind.u64) (CTs.cons (CT.int IntKind.u64) CTs.nil)))))
 (OTs.cons (OT.c (CT.int IntKind.i64)) OTs.nil)),
 PT.int IntKind.u8, PT.bytes, PT.list (CTs.cons CT.str (CTs.cons CT.str CTs.nil)), PT.int IntKind.u8,
 PT.int IntKind.u64, PT.int IntKind.u8, PT.int IntKind.i64]
 (Option (Int64 × Option (List (Int64 × List (List UInt8 × UInt8 × List UInt8) × UInt64 × UInt64) × Int64))))
 (now : UInt64) (t : List Int64) (t_1 t_2 : Int64)
 (l : Option (List (Int64 × List (List UInt8 × UInt8 × List UInt8) × UInt64 × UInt64) × Int64)) (a0 : UInt8)
 (a1 : List UInt8) (a2 : List (List UInt8 × List UInt8)) (a3 : UInt8) (a4 : UInt64) (a5 : UInt8) (a6 : Int64) =>
 oite (decide (t_2 < t_1))
 (obind (at? t (Int64.toInt t_2)) fun (x_2 : Int64) =>
 obind l fun (x_3 : List (Int64 × List (List UInt8 × UInt8 × List UInt8) × UInt64 × UInt64) × Int64) =>
 obind
 (F13 n
 ((Prod.fst
 (Option.getD
 (mget (VT.one (CT.int IntKind.i64))
 (VT.agg
 (CTs.cons (CT.ro (CTs.cons CT.str (CTs.cons (CT.int IntKind.u8) (CTs.cons CT.str CTs.nil))))
 (CTs.cons (CT.int IntKind.u64) (CTs.cons (CT.int IntKind.u64) CTs.nil))))
 x_2 (Prod.fst x_3))
 (@List.nil (List UInt8 × UInt8 × List UInt8), (0 : UInt64), (0 : UInt64))),
 Prod.fst
 (Prod.snd
 (Option.getD
 (mget (VT.one (CT.int IntKind.i64))
 (VT.agg
 (CTs.cons (CT.ro (CTs.cons CT.str (CTs.cons (CT.int IntKind.u8) (CTs.cons CT.str CTs.nil))))
 (CTs.cons (CT.int IntKind.u64) (CTs.cons (CT.int IntKind.u64) CTs.nil))))
 x_2 (Prod.fst x_3))
 (@List.nil (List UInt8 × UInt8 × List UInt8), (0 : UInt64), (0 : UInt64)))),
 Prod.snd
 (Prod.snd
 (Option.getD
 (mget (VT.one (CT.int IntKind.i64))
 (VT.agg
 (CTs.cons (CT.ro (CTs.cons CT.str (CTs.cons (CT.int IntKind.u8) (CTs.cons CT.str CTs.nil))))
 (CTs.cons (CT.int IntKind.u64) (CTs.cons (CT.int IntKind.u64) CTs.nil))))
 x_2 (Prod.fst x_3))
 (@List.nil (List UInt8 × UInt8 × List UInt8), (0 : UInt64), (0 : UInt64))))),
 (a0, a1, a2, a3, a4, a5, a6), now))
 fun (x_4 : Bool × Unit) =>
 oite (Prod.fst x_4) (some (x_2, some (Prod.fst x_3, Prod.snd x_3)))
 (rec now t t_1 (t_2 + (1 : Int64)) (some (Prod.fst x_3, Prod.snd x_3)) a0 a1 a2 a3 a4 a5 a6))
 (some ((0 : Int64), l))
noncomputable def F18_R13 : Nat →
 Nat →
 PT.T (PT.int IntKind.u64) →
 List Int64 →
 Int64 →
 Int64 →
 Option (List (Int64 × List (List UInt8 × UInt8 × List UInt8) × UInt64 × UInt64) × Int64) →
 UInt8 →
 List UInt8 →
 List (List UInt8 × List UInt8) →
 UInt8 →
 UInt64 →
 UInt8 →
 Int64 →
 Option
 (Int64 ×
 Option
 (List (Int64 × List (List UInt8 × UInt8 × List UInt8) × UInt64 × UInt64) × Int64)) := fun (n : Nat) =>
 ofixA (13 : Nat)
 [PT.int IntKind.u64, PT.list (CTs.cons (CT.int IntKind.i64) CTs.nil), PT.int IntKind.i64, PT.int IntKind.i64,
 PT.opt
 (OTs.cons
 (OT.map (VT.one (CT.int IntKind.i64))
 (VT.agg
 (CTs.cons (CT.ro (CTs.cons CT.str (CTs.cons (CT.int IntKind.u8) (CTs.cons CT.str CTs.nil))))
 (CTs.cons (CT.int IntKind.u64) (CTs.cons (CT.int IntKind.u64) CTs.nil)))))
 (OTs.cons (OT.c (CT.int IntKind.i64)) OTs.nil)),
 PT.int IntKind.u8, PT.bytes, PT.list (CTs.cons CT.str (CTs.cons CT.str CTs.nil)), PT.int IntKind.u8,
 PT.int IntKind.u64, PT.int IntKind.u8, PT.int IntKind.i64]
 (F18_L13 n)
noncomputable def F18 : Nat →
 Option (List (Int64 × List (List UInt8 × UInt8 × List UInt8) × UInt64 × UInt64) × Int64) ×
 (UInt8 × List UInt8 × List (List UInt8 × List UInt8) × UInt8 × UInt64 × UInt8 × Int64) × UInt64 →
 Option (Int64 × Option (List (Int64 × List (List UInt8 × UInt8 × List UInt8) × UInt64 × UInt64) × Int64)) := fun (n : Nat)
 (x :
 Option (List (Int64 × List (List UInt8 × UInt8 × List UInt8) × UInt64 × UInt64) × Int64) ×
 (UInt8 × List UInt8 × List (List UInt8 × List UInt8) × UInt8 × UInt64 × UInt8 × Int64) × UInt64) =>
 obind (F20 n (Prod.fst x))
 fun (x_1 : List Int64 × Option (List (Int64 × List (List UInt8 × UInt8 × List UInt8) × UInt64 × UInt64) × Int64)) =>
 F18_R13 n n (Prod.snd (Prod.snd x)) (Prod.fst x_1) (Int64.ofInt ↑(List.length (Prod.fst x_1))) (0 : Int64)
 (Prod.snd x_1) (Prod.fst (Prod.fst (Prod.snd x))) (Prod.fst (Prod.snd (Prod.fst (Prod.snd x))))
 (Prod.fst (Prod.snd (Prod.snd (Prod.fst (Prod.snd x)))))
 (Prod.fst (Prod.snd (Prod.snd (Prod.snd (Prod.fst (Prod.snd x))))))
 (Prod.fst (Prod.snd (Prod.snd (Prod.snd (Prod.snd (Prod.fst (Prod.snd x)))))))
 (Prod.fst (Prod.snd (Prod.snd (Prod.snd (Prod.snd (Prod.snd (Prod.fst (Prod.snd x))))))))
 (Prod.snd (Prod.snd (Prod.snd (Prod.snd (Prod.snd (Prod.snd (Prod.fst (Prod.snd x))))))))
theorem F18_R13_s (n : Nat) (m_ : Nat) : F18_R13 n (m_ + 1) = F18_L13 n (F18_R13 n m_) := rfl
theorem ok18 (n : Nat) : FunOK Try.prog ⟨18, sig18, F18 n⟩ :=
 fun_ok (hints := ⟨[], [(13, ⟨[(0, .one (.own 0)), (2, .one (.int .u64)), (4, .one (.own 3)), (10, .one (.ro (.cons (.int .i64) .nil))), (11, .one (.int .i64)), (12, .one (.int .i64))], [(0, .fold (.cons (.map (.one (.int .i64)) (.agg (.cons (.ro (.cons .str (.cons (.int .u8) (.cons .str .nil)))) (.cons (.int .u64) (.cons (.int .u64) .nil))))) (.cons (.c (.int .i64)) .nil))), (3, .cells [.int .u8, .str, .ro (.cons .str (.cons .str .nil)), .int .u8, .int .u64, .int .u8, .int .i64])], 4⟩)]⟩) (fuel := n) (c := Try.f18.body.getD .skip) (rs := Try.f18.results.toList) tt_ok mix (FsOK.cons (ok20 n) (FsOK.cons (ok13 n) (FsOK.nil))) Try.func18 (by kernel_rfl) (by kernel_rfl) rfl (by kernel_rfl) rfl rfl (by kernel_rfl)
-- watchfire/watchfireref01.small
def sig42 : Sig := ⟨(.cons (.one (.c (.int .u8))) .nil), (.cons (.one (.c .bool)) .nil)⟩
def F42 : Nat → UInt8 → Option (Bool × Unit) := fun (n : Nat) (x : UInt8) =>
 oite (decide ((97 : UInt8) ≤ x)) (some (decide (x ≤ (122 : UInt8)), ())) (some (false, ()))
theorem ok42 (n : Nat) : FunOK Try.prog ⟨42, sig42, F42 n⟩ :=
 fun_ok (hints := ⟨[], []⟩) (fuel := n) (c := Try.f42.body.getD .skip) (rs := Try.f42.results.toList) tt_ok mix (FsOK.nil) Try.func42 (by kernel_rfl) (by kernel_rfl) rfl (by kernel_rfl) rfl rfl (by kernel_rfl)
-- watchfire/watchfireref01.Key
def sig36 : Sig := ⟨(.cons (.one (.c .str)) .nil), (.cons (.one (.c .bool)) .nil)⟩
def F36_L13 : Nat → Arr [PT.bytes, PT.int IntKind.i64] (Option (Bool × Unit)) → List UInt8 → Int64 → Option (Bool × Unit) := fun (n : Nat) (rec : Arr [PT.bytes, PT.int IntKind.i64] (Option (Bool × Unit))) (s : List UInt8) (i : Int64) =>
 oite (decide (i < Int64.ofInt ↑(List.length s)))
 (obind (at? s (Int64.toInt i)) fun (x_1 : UInt8) =>
 obind (F42 n x_1) fun (x_2 : Bool × Unit) =>
 oite (!Prod.fst x_2) (some (false, ())) (rec s (i + (1 : Int64))))
 (oite (decide ((1 : Int64) ≤ Int64.ofInt ↑(List.length s)))
 (some (decide (Int64.ofInt ↑(List.length s) ≤ (8 : Int64)), ())) (some (false, ())))
def F36_R13 : Nat → Nat → PT.T PT.bytes → Int64 → Option (Bool × Unit) := fun (n : Nat) => ofixA (13 : Nat) [PT.bytes, PT.int IntKind.i64] (F36_L13 n)
def F36 : Nat → List UInt8 → Option (Bool × Unit) := fun (n : Nat) (x : List UInt8) => F36_R13 n n x (0 : Int64)
theorem F36_R13_s (n : Nat) (m_ : Nat) : F36_R13 n (m_ + 1) = F36_L13 n (F36_R13 n m_) := rfl
theorem ok36 (n : Nat) : FunOK Try.prog ⟨36, sig36, F36 n⟩ :=
 fun_ok (hints := ⟨[], [(13, ⟨[(0, .one (.str)), (3, .one (.int .i64))], [], 1⟩)]⟩) (fuel := n) (c := Try.f36.body.getD .skip) (rs := Try.f36.results.toList) tt_ok mix (FsOK.cons (ok42 n) (FsOK.nil)) Try.func36 (by kernel_rfl) (by kernel_rfl) rfl (by kernel_rfl) rfl rfl (by kernel_rfl)
-- watchfire/watchfireref01.Value
def sig37 : Sig := ⟨(.cons (.one (.c .str)) .nil), (.cons (.one (.c .bool)) .nil)⟩
def F37_J53 : Arr [PT.bytes, PT.int IntKind.i64] (Option (Bool × Unit)) → List UInt8 → Int64 → Option (Bool × Unit) := fun (rec : Arr [PT.bytes, PT.int IntKind.i64] (Option (Bool × Unit))) (s_1 : List UInt8) (i_1 : Int64) =>
 rec s_1 (i_1 + (1 : Int64))
def F37_L13 : Nat → Arr [PT.bytes, PT.int IntKind.i64] (Option (Bool × Unit)) → List UInt8 → Int64 → Option (Bool × Unit) := fun (n : Nat) (rec : Arr [PT.bytes, PT.int IntKind.i64] (Option (Bool × Unit))) (s : List UInt8) (i : Int64) =>
 oite (decide (i < Int64.ofInt ↑(List.length s)))
 (ojoinA (53 : Nat) [PT.bytes, PT.int IntKind.i64]
 (fun (J : Arr [PT.bytes, PT.int IntKind.i64] (Option (Bool × Unit))) =>
 obind (at? s (Int64.toInt i)) fun (x_1 : UInt8) =>
 obind (F42 n x_1) fun (x_2 : Bool × Unit) =>
 oite (!Prod.fst x_2)
 (oite (decide ((48 : UInt8) ≤ x_1))
 (oite (!decide (x_1 ≤ (57 : UInt8)))
 (oite (!decide (x_1 = (46 : UInt8)))
 (oite (!decide (x_1 = (95 : UInt8)))
 (oite (!decide (x_1 = (45 : UInt8))) (some (false, ())) (J s i)) (J s i))
 (J s i))
 (J s i))
 (oite (!decide (x_1 = (46 : UInt8)))
 (oite (!decide (x_1 = (95 : UInt8)))
 (oite (!decide (x_1 = (45 : UInt8))) (some (false, ())) (J s i)) (J s i))
 (J s i)))
 (J s i))
 (F37_J53 rec))
 (oite (decide ((1 : Int64) ≤ Int64.ofInt ↑(List.length s)))
 (some (decide (Int64.ofInt ↑(List.length s) ≤ (16 : Int64)), ())) (some (false, ())))
def F37_R13 : Nat → Nat → PT.T PT.bytes → Int64 → Option (Bool × Unit) := fun (n : Nat) => ofixA (13 : Nat) [PT.bytes, PT.int IntKind.i64] (F37_L13 n)
def F37 : Nat → List UInt8 → Option (Bool × Unit) := fun (n : Nat) (x : List UInt8) => F37_R13 n n x (0 : Int64)
theorem F37_R13_s (n : Nat) (m_ : Nat) : F37_R13 n (m_ + 1) = F37_L13 n (F37_R13 n m_) := rfl
theorem ok37 (n : Nat) : FunOK Try.prog ⟨37, sig37, F37 n⟩ :=
 fun_ok (hints := ⟨[(53, ⟨[(0, .one (.str)), (3, .one (.int .i64))], [], 1⟩)], [(13, ⟨[(0, .one (.str)), (3, .one (.int .i64))], [], 1⟩)]⟩) (fuel := n) (c := Try.f37.body.getD .skip) (rs := Try.f37.results.toList) tt_ok mix (FsOK.cons (ok42 n) (FsOK.nil)) Try.func37 (by kernel_rfl) (by kernel_rfl) rfl (by kernel_rfl) rfl rfl (by kernel_rfl)
-- (watchfire/watchfireref17.Ask).Check
def sig30 : Sig := ⟨(.cons (.agg (.cons .str (.cons (.int .i64) (.cons .str .nil)))) .nil), (.cons (.one (.c (.int .i64))) .nil)⟩
def F30 : Nat → List UInt8 × Int64 × List UInt8 → Option (Int64 × Unit) := fun (n : Nat) (x : List UInt8 × Int64 × List UInt8) =>
 obind (F36 n (Prod.fst x)) fun (x_1 : Bool × Unit) =>
 oite (!Prod.fst x_1) (some ((8 : Int64), ()))
 (oite (decide (Prod.fst (Prod.snd x) < (1 : Int64))) (some ((12 : Int64), ()))
 (oite (decide ((5 : Int64) < Prod.fst (Prod.snd x))) (some ((12 : Int64), ()))
 (oite (decide ((4 : Int64) ≤ Prod.fst (Prod.snd x)))
 (oite (!Prod.snd (Prod.snd x) == []) (some ((27 : Int64), ()))
 (oite (decide (Prod.fst (Prod.snd x) < (4 : Int64)))
 (obind (F37 n (Prod.snd (Prod.snd x))) fun (x_2 : Bool × Unit) =>
 oite (!Prod.fst x_2) (some ((27 : Int64), ())) (some ((0 : Int64), ())))
 (some ((0 : Int64), ()))))
 (oite (decide (Prod.fst (Prod.snd x) < (4 : Int64)))
 (obind (F37 n (Prod.snd (Prod.snd x))) fun (x_2 : Bool × Unit) =>
 oite (!Prod.fst x_2) (some ((27 : Int64), ())) (some ((0 : Int64), ())))
 (some ((0 : Int64), ()))))))
theorem ok30 (n : Nat) : FunOK Try.prog ⟨30, sig30, F30 n⟩ :=
 fun_ok (hints := ⟨[], []⟩) (fuel := n) (c := Try.f30.body.getD .skip) (rs := Try.f30.results.toList) tt_ok mix (FsOK.cons (ok36 n) (FsOK.cons (ok37 n) (FsOK.nil))) Try.func30 (by kernel_rfl) (by kernel_rfl) rfl (by kernel_rfl) rfl rfl (by kernel_rfl)
-- watchfire/watchfireref17.Asks
def sig19 : Sig := ⟨(.cons (.one (.c (.ro (.cons .str (.cons (.int .i64) (.cons .str .nil)))))) .nil), (.cons (.one (.c (.int .i64))) .nil)⟩
def F19_L29 : Nat →
 Arr [PT.list (CTs.cons CT.str (CTs.cons (CT.int IntKind.i64) (CTs.cons CT.str CTs.nil))), PT.int IntKind.i64]
 (Option (Int64 × Unit)) →
 List (List UInt8 × Int64 × List UInt8) → Int64 → Option (Int64 × Unit) := fun (n : Nat)
 (rec :
 Arr [PT.list (CTs.cons CT.str (CTs.cons (CT.int IntKind.i64) (CTs.cons CT.str CTs.nil))), PT.int IntKind.i64]
 (Option (Int64 × Unit)))
 (l : List (List UInt8 × Int64 × List UInt8)) (i : Int64) =>
 oite (decide (i < Int64.ofInt ↑(List.length l)))
 (obind (at? l (Int64.toInt i)) fun (x_1 : List UInt8 × Int64 × List UInt8) =>
 obind (F30 n (Prod.fst x_1, Prod.fst (Prod.snd x_1), Prod.snd (Prod.snd x_1))) fun (x_2 : Int64 × Unit) =>
 oite (!decide (Prod.fst x_2 = (0 : Int64))) (some (Prod.fst x_2, ())) (rec l (i + (1 : Int64))))
 (some ((0 : Int64), ()))
def F19_R29 : Nat →
 Nat →
 PT.T (PT.list (CTs.cons CT.str (CTs.cons (CT.int IntKind.i64) (CTs.cons CT.str CTs.nil)))) →
 Int64 → Option (Int64 × Unit) := fun (n : Nat) =>
 ofixA (29 : Nat)
 [PT.list (CTs.cons CT.str (CTs.cons (CT.int IntKind.i64) (CTs.cons CT.str CTs.nil))), PT.int IntKind.i64]
 (F19_L29 n)
def F19 : Nat → List (List UInt8 × Int64 × List UInt8) → Option (Int64 × Unit) := fun (n : Nat) (x : List (List UInt8 × Int64 × List UInt8)) =>
 oite (decide ((8 : Int64) < Int64.ofInt ↑(List.length x))) (some ((5 : Int64), ()))
 (F19_R29 n n x (0 : Int64))
theorem F19_R29_s (n : Nat) (m_ : Nat) : F19_R29 n (m_ + 1) = F19_L29 n (F19_R29 n m_) := rfl
theorem ok19 (n : Nat) : FunOK Try.prog ⟨19, sig19, F19 n⟩ :=
 fun_ok (hints := ⟨[], [(29, ⟨[(0, .one (.ro (.cons .str (.cons (.int .i64) (.cons .str .nil))))), (3, .one (.int .i64))], [], 1⟩)]⟩) (fuel := n) (c := Try.f19.body.getD .skip) (rs := Try.f19.results.toList) tt_ok mix (FsOK.cons (ok30 n) (FsOK.nil)) Try.func19 (by kernel_rfl) (by kernel_rfl) rfl (by kernel_rfl) rfl rfl (by kernel_rfl)
-- (*watchfire/quiet.List).Get
def sig21 : Sig := ⟨(.cons (.one (.ptr (.cons (.map (.one (.int .i64)) (.agg (.cons (.ro (.cons .str (.cons (.int .u8) (.cons .str .nil)))) (.cons (.int .u64) (.cons (.int .u64) .nil))))) (.cons (.c (.int .i64)) .nil)))) (.cons (.one (.c (.int .i64))) .nil)), (.cons (.agg (.cons (.ro (.cons .str (.cons (.int .u8) (.cons .str .nil)))) (.cons (.int .u64) (.cons (.int .u64) .nil)))) (.cons (.one (.c .bool)) .nil))⟩
def F21 : Nat →
 Option (List (Int64 × List (List UInt8 × UInt8 × List UInt8) × UInt64 × UInt64) × Int64) × Int64 →
 Option
 (((List (List UInt8 × UInt8 × List UInt8) × UInt64 × UInt64) × Bool) ×
 Option (List (Int64 × List (List UInt8 × UInt8 × List UInt8) × UInt64 × UInt64) × Int64)) := fun (n : Nat) (x : Option (List (Int64 × List (List UInt8 × UInt8 × List UInt8) × UInt64 × UInt64) × Int64) × Int64) =>
 oelim (Prod.fst x) (some (((@List.nil (List UInt8 × UInt8 × List UInt8), (0 : UInt64), (0 : UInt64)), false), none))
 fun (x_1 : List (Int64 × List (List UInt8 × UInt8 × List UInt8) × UInt64 × UInt64) × Int64) =>
 obind
 (F29 n
 (Prod.fst
 (Option.getD
 (mget (VT.one (CT.int IntKind.i64))
 (VT.agg
 (CTs.cons (CT.ro (CTs.cons CT.str (CTs.cons (CT.int IntKind.u8) (CTs.cons CT.str CTs.nil))))
 (CTs.cons (CT.int IntKind.u64) (CTs.cons (CT.int IntKind.u64) CTs.nil))))
 (Prod.snd x) (Prod.fst x_1))
 (@List.nil (List UInt8 × UInt8 × List UInt8), (0 : UInt64), (0 : UInt64)))))
 fun (x_2 : List (List UInt8 × UInt8 × List UInt8) × Unit) =>
 some
 (((Prod.fst x_2,
 Prod.fst
 (Prod.snd
 (Option.getD
 (mget (VT.one (CT.int IntKind.i64))
 (VT.agg
 (CTs.cons (CT.ro (CTs.cons CT.str (CTs.cons (CT.int IntKind.u8) (CTs.cons CT.str CTs.nil))))
 (CTs.cons (CT.int IntKind.u64) (CTs.cons (CT.int IntKind.u64) CTs.nil))))
 (Prod.snd x) (Prod.fst x_1))
 (@List.nil (List UInt8 × UInt8 × List UInt8), (0 : UInt64), (0 : UInt64)))),
 Prod.snd
 (Prod.snd
 (Option.getD
 (mget (VT.one (CT.int IntKind.i64))
 (VT.agg
 (CTs.cons (CT.ro (CTs.cons CT.str (CTs.cons (CT.int IntKind.u8) (CTs.cons CT.str CTs.nil))))
 (CTs.cons (CT.int IntKind.u64) (CTs.cons (CT.int IntKind.u64) CTs.nil))))
 (Prod.snd x) (Prod.fst x_1))
 (@List.nil (List UInt8 × UInt8 × List UInt8), (0 : UInt64), (0 : UInt64))))),
 Option.isSome
 (mget (VT.one (CT.int IntKind.i64))
 (VT.agg
 (CTs.cons (CT.ro (CTs.cons CT.str (CTs.cons (CT.int IntKind.u8) (CTs.cons CT.str CTs.nil))))
 (CTs.cons (CT.int IntKind.u64) (CTs.cons (CT.int IntKind.u64) CTs.nil))))
 (Prod.snd x) (Prod.fst x_1))),
 some (Prod.fst x_1, Prod.snd x_1))
theorem ok21 (n : Nat) : FunOK Try.prog ⟨21, sig21, F21 n⟩ :=
 fun_ok (hints := ⟨[], []⟩) (fuel := n) (c := Try.f21.body.getD .skip) (rs := Try.f21.results.toList) tt_ok mix (FsOK.cons (ok29 n) (FsOK.nil)) Try.func21 (by kernel_rfl) (by kernel_rfl) rfl (by kernel_rfl) rfl rfl (by kernel_rfl)
end Go.Proofs.Ytehpdcdpkdhcgaa
