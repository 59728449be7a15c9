/- What the functions of this seat compute, found by walking their code symbolically: each F is what the walk finds, each ok says that the Go function keeps it as a contract. Printed by a program of this repo's. -/
import Derived.Test.YtimmkhgbnfihgaaDoorProg
import Derived.KernelRfl
import Derived.Test.YtimmkhgbnfihgaaDoorSxClone
import Derived.Test.YtimmkhgbnfihgaaDoorHand
open Go Go.Sx
namespace Go.Proofs.YtimmkhgbnfihgaaDoor
set_option maxRecDepth 100000
set_option linter.unusedVariables false
def tt : TT := [(2, ⟨.int .i64, 1, 8, some (.int .i64 0), false⟩), (3, ⟨.int .i64, 1, 8, some (.int .i64 0), false⟩), (4, ⟨.bool, 1, 1, some (.bool false), false⟩), (5, ⟨.int .u8, 1, 1, some (.int .u8 0), false⟩), (9, ⟨.str, 1, 16, some (.string ⟨#[]⟩), false⟩), (21, ⟨.int .i32, 1, 4, some (.int .i32 0), false⟩), (22, ⟨.slice 32, 1, 24, some (.slice none 0 0), false⟩), (23, ⟨.int .u8, 1, 1, some (.int .u8 0), false⟩), (24, ⟨.int .u64, 1, 8, some (.int .u64 0), false⟩), (26, ⟨.struct [(0, 5, false), (1, 9, false), (2, 22, false), (3, 23, false), (4, 24, false), (5, 5, false), (6, 2, false)], 7, 80, some (.agg #[.int .u8 0, .string ⟨#[]⟩, .slice none 0 0, .int .u8 0, .int .u64 0, .int .u8 0, .int .i64 0]), false⟩), (28, ⟨.slice 46, 1, 24, some (.slice none 0 0), false⟩), (32, ⟨.struct [(0, 9, false), (1, 9, false)], 2, 32, some (.agg #[.string ⟨#[]⟩, .string ⟨#[]⟩]), false⟩), (36, ⟨.slice 48, 1, 24, some (.slice none 0 0), false⟩), (39, ⟨.slice 69, 1, 24, some (.slice none 0 0), false⟩), (41, ⟨.slice 28, 1, 24, some (.slice none 0 0), false⟩), (44, ⟨.int .u8, 1, 1, some (.int .u8 0), false⟩), (46, ⟨.struct [(0, 9, false), (1, 44, false), (2, 9, false)], 3, 40, some (.agg #[.string ⟨#[]⟩, .int .u8 0, .string ⟨#[]⟩]), false⟩), (48, ⟨.struct [(0, 9, false), (1, 3, false), (2, 9, false)], 3, 40, some (.agg #[.string ⟨#[]⟩, .int .i64 0, .string ⟨#[]⟩]), false⟩), (49, ⟨.int .i64, 1, 8, some (.int .i64 0), false⟩), (53, ⟨.slice 5, 1, 24, some (.slice none 0 0), false⟩), (54, ⟨.slice 9, 1, 24, some (.slice none 0 0), false⟩), (69, ⟨.struct [(0, 5, false), (1, 5, false), (2, 5, false)], 3, 3, some (.agg #[.int .u8 0, .int .u8 0, .int .u8 0]), false⟩), (77, ⟨.slice 3, 1, 24, some (.slice none 0 0), false⟩), (95, ⟨.slice 44, 1, 24, some (.slice none 0 0), false⟩)]
theorem tt_ok : TTOK Tryd.prog tt := TTOK.of_rows (by kernel_rfl)
theorem mix : Tryd.prog.follows .mixedOrders = true := by kernel_rfl
-- internal/stringslite.HasPrefix
def sig43 : Sig := ⟨(.cons (.one (.c .str)) (.cons (.one (.c .str)) .nil)), (.cons (.one (.c .bool)) .nil)⟩
def F43 : Nat → List UInt8 × List UInt8 → Option (Bool × Unit) := fun (n : Nat) (x : List UInt8 × List UInt8) =>
 oite (decide (Int64.ofInt ↑(List.length (Prod.snd x)) ≤ Int64.ofInt ↑(List.length (Prod.fst x))))
 (oite
 (decide ((0 : Int) ≤ Int64.toInt (Int64.ofInt ↑(List.length (Prod.snd x)))) &&
 Nat.ble (Int.toNat (Int64.toInt (Int64.ofInt ↑(List.length (Prod.snd x))))) (List.length (Prod.fst x)) &&
 true)
 (some
 (List.drop (0 : Nat)
 (List.take (Int.toNat (Int64.toInt (Int64.ofInt ↑(List.length (Prod.snd x))))) (Prod.fst x)) ==
 Prod.snd x,
 ()))
 none)
 (some (false, ()))
theorem ok43 (n : Nat) : FunOK Tryd.prog ⟨43, sig43, F43 n⟩ :=
 fun_ok (hints := ⟨[], []⟩) (fuel := n) (c := Tryd.f43.body.getD .skip) (rs := Tryd.f43.results.toList) tt_ok mix (FsOK.nil) Tryd.func43 (by kernel_rfl) (by kernel_rfl) rfl (by kernel_rfl) rfl rfl (by kernel_rfl)
-- internal/stringslite.CutPrefix
def sig58 : Sig := ⟨(.cons (.one (.c .str)) (.cons (.one (.c .str)) .nil)), (.cons (.one (.c .str)) (.cons (.one (.c .bool)) .nil))⟩
def F58 : Nat → List UInt8 × List UInt8 → Option ((List UInt8 × Bool) × Unit) := fun (n : Nat) (x : List UInt8 × List UInt8) =>
 obind (F43 n (Prod.fst x, Prod.snd x)) fun (x_1 : Bool × Unit) =>
 oite (!Prod.fst x_1) (some ((Prod.fst x, false), ()))
 (oite
 (decide ((0 : Int) ≤ Int64.toInt (Int64.ofInt ↑(List.length (Prod.snd x)))) &&
 Nat.ble (Int.toNat (Int64.toInt (Int64.ofInt ↑(List.length (Prod.snd x))))) (List.length (Prod.fst x)))
 (some
 ((List.drop (Int.toNat (Int64.toInt (Int64.ofInt ↑(List.length (Prod.snd x)))))
 (List.take (List.length (Prod.fst x)) (Prod.fst x)),
 true),
 ()))
 none)
theorem ok58 (n : Nat) : FunOK Tryd.prog ⟨58, sig58, F58 n⟩ :=
 fun_ok (hints := ⟨[], []⟩) (fuel := n) (c := Tryd.f58.body.getD .skip) (rs := Tryd.f58.results.toList) tt_ok mix (FsOK.cons (ok43 n) (FsOK.nil)) Tryd.func58 (by kernel_rfl) (by kernel_rfl) rfl (by kernel_rfl) rfl rfl (by kernel_rfl)
-- strings.CutPrefix
def sig50 : Sig := ⟨(.cons (.one (.c .str)) (.cons (.one (.c .str)) .nil)), (.cons (.one (.c .str)) (.cons (.one (.c .bool)) .nil))⟩
def F50 : Nat → List UInt8 × List UInt8 → Option ((List UInt8 × Bool) × Unit) := fun (n : Nat) (x : List UInt8 × List UInt8) =>
 obind (F58 n (Prod.fst x, Prod.snd x)) fun (x_1 : (List UInt8 × Bool) × Unit) =>
 some ((Prod.fst (Prod.fst x_1), Prod.snd (Prod.fst x_1)), ())
theorem ok50 (n : Nat) : FunOK Tryd.prog ⟨50, sig50, F50 n⟩ :=
 fun_ok (hints := ⟨[], []⟩) (fuel := n) (c := Tryd.f50.body.getD .skip) (rs := Tryd.f50.results.toList) tt_ok mix (FsOK.cons (ok58 n) (FsOK.nil)) Tryd.func50 (by kernel_rfl) (by kernel_rfl) rfl (by kernel_rfl) rfl rfl (by kernel_rfl)
-- watchfire/lab.word
def sig44 : Sig := ⟨(.cons (.one (.c .str)) (.cons (.one (.c (.int .i64))) (.cons (.one (.c .bool)) .nil))), (.cons (.one (.c .bool)) .nil)⟩
def F44_J471 : Arr [PT.bool, PT.bytes, PT.nat] (Option (Bool × Unit)) → Bool → Int32 → Bool → List UInt8 → Nat → Option (Bool × Unit) := fun (rec : Arr [PT.bool, PT.bytes, PT.nat] (Option (Bool × Unit))) (also_1 : Bool) (c : Int32) (t_1 : Bool)
 (t_1_1 : List UInt8) (x_2 : Nat) =>
 oite t_1 (rec also_1 t_1_1 x_2)
 (oite also_1
 (oite (decide ((48 : Int32) ≤ c))
 (oite (decide (c ≤ (57 : Int32))) (rec also_1 t_1_1 x_2)
 (oite (decide (c = (46 : Int32))) (rec also_1 t_1_1 x_2)
 (oite (decide (c = (95 : Int32))) (rec also_1 t_1_1 x_2)
 (oite (decide (c = (45 : Int32))) (rec also_1 t_1_1 x_2) (some (false, ()))))))
 (oite (decide (c = (46 : Int32))) (rec also_1 t_1_1 x_2)
 (oite (decide (c = (95 : Int32))) (rec also_1 t_1_1 x_2)
 (oite (decide (c = (45 : Int32))) (rec also_1 t_1_1 x_2) (some (false, ()))))))
 (some (false, ())))
def F44_L29 : Arr [PT.bool, PT.bytes, PT.nat] (Option (Bool × Unit)) → Bool → List UInt8 → Nat → Option (Bool × Unit) := fun (rec : Arr [PT.bool, PT.bytes, PT.nat] (Option (Bool × Unit))) (also : Bool) (t : List UInt8) (x_1 : Nat) =>
 oite (Nat.blt x_1 (List.length t))
 (ojoinA (471 : Nat) [PT.bool, PT.int IntKind.i32, PT.bool, PT.bytes, PT.nat]
 (fun (J : Arr [PT.bool, PT.int IntKind.i32, PT.bool, PT.bytes, PT.nat] (Option (Bool × Unit))) =>
 oite (decide ((97 : Int32) ≤ Int32.ofInt ↑(runeAt t x_1)))
 (J also (Int32.ofInt ↑(runeAt t x_1)) (decide (Int32.ofInt ↑(runeAt t x_1) ≤ (122 : Int32))) t
 (x_1 + runeLen t x_1))
 (J also (Int32.ofInt ↑(runeAt t x_1)) false t (x_1 + runeLen t x_1)))
 (F44_J471 rec))
 (some (true, ()))
def F44_R29 : Nat → PT.T PT.bool → List UInt8 → Nat → Option (Bool × Unit) := ofixA (29 : Nat) [PT.bool, PT.bytes, PT.nat] F44_L29
def F44 : Nat → List UInt8 × Int64 × Bool → Option (Bool × Unit) := fun (n : Nat) (x : List UInt8 × Int64 × Bool) =>
 oite (decide (Int64.ofInt ↑(List.length (Prod.fst x)) < (1 : Int64))) (some (false, ()))
 (oite (decide (Prod.fst (Prod.snd x) < Int64.ofInt ↑(List.length (Prod.fst x)))) (some (false, ()))
 (F44_R29 n (Prod.snd (Prod.snd x)) (Prod.fst x) (0 : Nat)))
theorem F44_R29_s  (m_ : Nat) : F44_R29  (m_ + 1) = F44_L29  (F44_R29  m_) := rfl
theorem ok44 (n : Nat) : FunOK Tryd.prog ⟨44, sig44, F44 n⟩ :=
 fun_ok (hints := ⟨[(471, ⟨[(2, .one (.bool)), (8, .one (.int .i32)), (19, .one (.own 3)), (23, .one (.bool))], [(3, .iter)], 4⟩)], [(29, ⟨[(2, .one (.bool)), (19, .one (.own 3))], [(3, .iter)], 4⟩)]⟩) (fuel := n) (c := Tryd.f44.body.getD .skip) (rs := Tryd.f44.results.toList) tt_ok mix (FsOK.nil) Tryd.func44 (by kernel_rfl) (by kernel_rfl) rfl (by kernel_rfl) rfl rfl (by kernel_rfl)
-- watchfire/lab.Key
def sig33 : Sig := ⟨(.cons (.one (.c .str)) .nil), (.cons (.one (.c .bool)) .nil)⟩
def F33 : Nat → List UInt8 → Option (Bool × Unit) := fun (n : Nat) (x : List UInt8) =>
 obind (F44 n (x, (8 : Int64), false)) fun (x_1 : Bool × Unit) => some (Prod.fst x_1, ())
theorem ok33 (n : Nat) : FunOK Tryd.prog ⟨33, sig33, F33 n⟩ :=
 fun_ok (hints := ⟨[], []⟩) (fuel := n) (c := Tryd.f33.body.getD .skip) (rs := Tryd.f33.results.toList) tt_ok mix (FsOK.cons (ok44 n) (FsOK.nil)) Tryd.func33 (by kernel_rfl) (by kernel_rfl) rfl (by kernel_rfl) rfl rfl (by kernel_rfl)
-- watchfire/lab.Value
def sig34 : Sig := ⟨(.cons (.one (.c .str)) .nil), (.cons (.one (.c .bool)) .nil)⟩
def F34 : Nat → List UInt8 → Option (Bool × Unit) := fun (n : Nat) (x : List UInt8) =>
 obind (F44 n (x, (16 : Int64), true)) fun (x_1 : Bool × Unit) => some (Prod.fst x_1, ())
theorem ok34 (n : Nat) : FunOK Tryd.prog ⟨34, sig34, F34 n⟩ :=
 fun_ok (hints := ⟨[], []⟩) (fuel := n) (c := Tryd.f34.body.getD .skip) (rs := Tryd.f34.results.toList) tt_ok mix (FsOK.cons (ok44 n) (FsOK.nil)) Tryd.func34 (by kernel_rfl) (by kernel_rfl) rfl (by kernel_rfl) rfl rfl (by kernel_rfl)
-- (watchfire/match.Ask).Check
def sig19 : Sig := ⟨(.cons (.agg (.cons .str (.cons (.int .u8) (.cons .str .nil)))) .nil), (.cons (.one (.c (.int .i64))) .nil)⟩
def F19 : Nat → List UInt8 × UInt8 × List UInt8 → Option (Int64 × Unit) := fun (n : Nat) (x : List UInt8 × UInt8 × List UInt8) =>
 obind (F33 n (Prod.fst x)) fun (x_1 : Bool × Unit) =>
 oite (!Prod.fst x_1) (some ((8 : Int64), ()))
 (oite (decide (Prod.fst (Prod.snd x) < (1 : UInt8))) (some ((12 : Int64), ()))
 (oite (decide ((5 : UInt8) < Prod.fst (Prod.snd x))) (some ((12 : Int64), ()))
 (oite (decide ((4 : UInt8) ≤ Prod.fst (Prod.snd x)))
 (oite (!Prod.snd (Prod.snd x) == []) (some ((27 : Int64), ()))
 (oite (decide (Prod.fst (Prod.snd x) < (4 : UInt8)))
 (obind (F34 n (Prod.snd (Prod.snd x))) fun (x_2 : Bool × Unit) =>
 oite (!Prod.fst x_2) (some ((27 : Int64), ())) (some ((0 : Int64), ())))
 (some ((0 : Int64), ()))))
 (oite (decide (Prod.fst (Prod.snd x) < (4 : UInt8)))
 (obind (F34 n (Prod.snd (Prod.snd x))) fun (x_2 : Bool × Unit) =>
 oite (!Prod.fst x_2) (some ((27 : Int64), ())) (some ((0 : Int64), ())))
 (some ((0 : Int64), ()))))))
theorem ok19 (n : Nat) : FunOK Tryd.prog ⟨19, sig19, F19 n⟩ :=
 fun_ok (hints := ⟨[], []⟩) (fuel := n) (c := Tryd.f19.body.getD .skip) (rs := Tryd.f19.results.toList) tt_ok mix (FsOK.cons (ok33 n) (FsOK.cons (ok34 n) (FsOK.nil))) Tryd.func19 (by kernel_rfl) (by kernel_rfl) rfl (by kernel_rfl) rfl rfl (by kernel_rfl)
-- watchfire/match.signs
def sig51 : Sig := ⟨.nil, (.cons (.one (.c (.ro (.cons .str .nil)))) .nil)⟩
def F51 : Nat → Unit → Option (List (List UInt8) × Unit) := fun (n : Nat) (x : Unit) =>
 some ([[(33 : UInt8), (61 : UInt8)], [(94 : UInt8), (61 : UInt8)], [(61 : UInt8)]], ())
theorem ok51 (n : Nat) : FunOK Tryd.prog ⟨51, sig51, F51 n⟩ :=
 fun_ok (hints := ⟨[], []⟩) (fuel := n) (c := Tryd.f51.body.getD .skip) (rs := Tryd.f51.results.toList) tt_ok mix (FsOK.nil) Tryd.func51 (by kernel_rfl) (by kernel_rfl) rfl (by kernel_rfl) rfl rfl (by kernel_rfl)
-- watchfire/match.parse
def sig40 : Sig := ⟨(.cons (.one (.c .str)) .nil), (.cons (.agg (.cons .str (.cons (.int .u8) (.cons .str .nil)))) (.cons (.one (.c (.int .i64))) .nil))⟩
noncomputable def F40_L29 : Nat →
 Arr
 [PT.bytes, PT.list (CTs.cons CT.str CTs.nil), PT.int IntKind.i64, PT.int IntKind.i64, PT.bytes, PT.int IntKind.u8,
 PT.bytes]
 (Option (((List UInt8 × UInt8 × List UInt8) × Int64) × Unit)) →
 List UInt8 →
 List (List UInt8) →
 Int64 → Int64 → List UInt8 → UInt8 → List UInt8 → Option (((List UInt8 × UInt8 × List UInt8) × Int64) × Unit) := fun (n : Nat)
 (rec :
 Arr
 [PT.bytes, PT.list (CTs.cons CT.str CTs.nil), PT.int IntKind.i64, PT.int IntKind.i64, PT.bytes,
 PT.int IntKind.u8, PT.bytes]
 (Option (((List UInt8 × UInt8 × List UInt8) × Int64) × Unit)))
 (s : List UInt8) (t : List (List UInt8)) (t_1 t_2 : Int64) (t0 : List UInt8) (t1 : UInt8) (t2 : List UInt8) =>
 oite (decide (t_2 < t_1))
 (obind (at? t (Int64.toInt t_2)) fun (x_3 : List UInt8) =>
 obind (F52 n (s, x_3)) fun (x_4 : (List UInt8 × List UInt8 × Bool) × Unit) =>
 oite (Prod.snd (Prod.snd (Prod.fst x_4)))
 (oite
 (decide ((0 : Int) ≤ Int64.toInt t_2) &&
 Nat.blt (Int.toNat (Int64.toInt t_2)) (List.length [(2 : UInt8), (3 : UInt8), (1 : UInt8)]))
 (obind [(2 : UInt8), (3 : UInt8), (1 : UInt8)][Int.toNat (Int64.toInt t_2)]? fun (x_5 : UInt8) =>
 obind (F19 n (Prod.fst (Prod.fst x_4), x_5, Prod.fst (Prod.snd (Prod.fst x_4))))
 fun (x_6 : Int64 × Unit) =>
 some (((Prod.fst (Prod.fst x_4), x_5, Prod.fst (Prod.snd (Prod.fst x_4))), Prod.fst x_6), ()))
 none)
 (rec s t t_1 (t_2 + (1 : Int64)) t0 t1 t2))
 (obind (F19 n (s, (4 : UInt8), @List.nil UInt8)) fun (x_3 : Int64 × Unit) =>
 some (((s, (4 : UInt8), @List.nil UInt8), Prod.fst x_3), ()))
noncomputable def F40_R29 : Nat →
 Nat →
 PT.T PT.bytes →
 List (List UInt8) →
 Int64 → Int64 → List UInt8 → UInt8 → List UInt8 → Option (((List UInt8 × UInt8 × List UInt8) × Int64) × Unit) := fun (n : Nat) =>
 ofixA (29 : Nat)
 [PT.bytes, PT.list (CTs.cons CT.str CTs.nil), PT.int IntKind.i64, PT.int IntKind.i64, PT.bytes, PT.int IntKind.u8,
 PT.bytes]
 (F40_L29 n)
noncomputable def F40 : Nat → List UInt8 → Option (((List UInt8 × UInt8 × List UInt8) × Int64) × Unit) := fun (n : Nat) (x : List UInt8) =>
 obind (F50 n (x, [(33 : UInt8)])) fun (x_1 : (List UInt8 × Bool) × Unit) =>
 oite (Prod.snd (Prod.fst x_1))
 (obind (F19 n (Prod.fst (Prod.fst x_1), (5 : UInt8), @List.nil UInt8)) fun (x_2 : Int64 × Unit) =>
 some (((Prod.fst (Prod.fst x_1), (5 : UInt8), @List.nil UInt8), Prod.fst x_2), ()))
 (obind (F51 n ()) fun (x_2 : List (List UInt8) × Unit) =>
 F40_R29 n n x (Prod.fst x_2) (Int64.ofInt ↑(List.length (Prod.fst x_2))) (0 : Int64) [] (0 : UInt8) [])
theorem F40_R29_s (n : Nat) (m_ : Nat) : F40_R29 n (m_ + 1) = F40_L29 n (F40_R29 n m_) := rfl
theorem ok40 (n : Nat) : FunOK Tryd.prog ⟨40, sig40, F40 n⟩ :=
 fun_ok (hints := ⟨[], [(29, ⟨[(0, .one (.str)), (2, .one (.own 1)), (25, .one (.ro (.cons .str .nil))), (26, .one (.int .i64)), (27, .one (.int .i64))], [(1, .cells [.str, .int .u8, .str])], 2⟩)]⟩) (fuel := n) (c := Tryd.f40.body.getD .skip) (rs := Tryd.f40.results.toList) tt_ok mix (FsOK.cons (ok50 n) (FsOK.cons (ok19 n) (FsOK.cons (ok51 n) (FsOK.cons (ok52 n) (FsOK.nil))))) Tryd.func40 (by kernel_rfl) (by kernel_rfl) rfl (by kernel_rfl) rfl rfl (by kernel_rfl)
-- watchfire/match.Parse
def sig22 : Sig := ⟨(.cons (.one (.c .str)) .nil), (.cons (.one (.c (.ro (.cons .str (.cons (.int .u8) (.cons .str .nil)))))) (.cons (.one (.c (.int .i64))) .nil))⟩
noncomputable def F22_L125 : Nat →
 Arr
 [PT.int IntKind.i64, PT.int IntKind.i64,
 PT.list (CTs.cons CT.str (CTs.cons (CT.int IntKind.u8) (CTs.cons CT.str CTs.nil))),
 PT.list (CTs.cons CT.str CTs.nil)]
 (Option ((List (List UInt8 × UInt8 × List UInt8) × Int64) × Unit)) →
 Int64 →
 Int64 →
 List (List UInt8 × UInt8 × List UInt8) →
 List (List UInt8) → Option ((List (List UInt8 × UInt8 × List UInt8) × Int64) × Unit) := fun (n : Nat)
 (rec :
 Arr
 [PT.int IntKind.i64, PT.int IntKind.i64,
 PT.list (CTs.cons CT.str (CTs.cons (CT.int IntKind.u8) (CTs.cons CT.str CTs.nil))),
 PT.list (CTs.cons CT.str CTs.nil)]
 (Option ((List (List UInt8 × UInt8 × List UInt8) × Int64) × Unit)))
 (t t_1 : Int64) (out : List (List UInt8 × UInt8 × List UInt8)) (t_2 : List (List UInt8)) =>
 oite (decide (t_1 < t))
 (oite (decide ((0 : Int) ≤ Int64.toInt t_1) && Nat.blt (Int.toNat (Int64.toInt t_1)) (List.length t_2))
 (obind t_2[Int.toNat (Int64.toInt t_1)]? fun (x_2 : List UInt8) =>
 obind (F40 n x_2) fun (x_3 : ((List UInt8 × UInt8 × List UInt8) × Int64) × Unit) =>
 oite (!decide (Prod.snd (Prod.fst x_3) = (0 : Int64)))
 (some ((@List.nil (List UInt8 × UInt8 × List UInt8), Prod.snd (Prod.fst x_3)), ()))
 (oite
 (Nat.ble
 (List.length out +
 List.length
 [(Prod.fst (Prod.fst (Prod.fst x_3)), Prod.fst (Prod.snd (Prod.fst (Prod.fst x_3))),
 Prod.snd (Prod.snd (Prod.fst (Prod.fst x_3))))])
 (4294967296 : Nat))
 (oite
 (decide
 ((8 : Int64) <
 Int64.ofInt
 ↑(List.length
 (out ++
 [(Prod.fst (Prod.fst (Prod.fst x_3)), Prod.fst (Prod.snd (Prod.fst (Prod.fst x_3))),
 Prod.snd (Prod.snd (Prod.fst (Prod.fst x_3))))]))))
 (some ((@List.nil (List UInt8 × UInt8 × List UInt8), (5 : Int64)), ()))
 (rec t (t_1 + (1 : Int64))
 (out ++
 [(Prod.fst (Prod.fst (Prod.fst x_3)), Prod.fst (Prod.snd (Prod.fst (Prod.fst x_3))),
 Prod.snd (Prod.snd (Prod.fst (Prod.fst x_3))))])
 t_2))
 none))
 none)
 (some ((out, (0 : Int64)), ()))
noncomputable def F22_R125 : Nat →
 Nat →
 PT.T (PT.int IntKind.i64) →
 Int64 →
 List (List UInt8 × UInt8 × List UInt8) →
 List (List UInt8) → Option ((List (List UInt8 × UInt8 × List UInt8) × Int64) × Unit) := fun (n : Nat) =>
 ofixA (125 : Nat)
 [PT.int IntKind.i64, PT.int IntKind.i64,
 PT.list (CTs.cons CT.str (CTs.cons (CT.int IntKind.u8) (CTs.cons CT.str CTs.nil))),
 PT.list (CTs.cons CT.str CTs.nil)]
 (F22_L125 n)
noncomputable def F22 : Nat → List UInt8 → Option ((List (List UInt8 × UInt8 × List UInt8) × Int64) × Unit) := fun (n : Nat) (x : List UInt8) =>
 oite (decide ((65536 : Int64) < Int64.ofInt ↑(List.length x)))
 (some ((@List.nil (List UInt8 × UInt8 × List UInt8), (4 : Int64)), ()))
 (oite (x == [(42 : UInt8)]) (some ((@List.nil (List UInt8 × UInt8 × List UInt8), (0 : Int64)), ()))
 (obind (F39 n (x, [(44 : UInt8)])) fun (x_1 : List (List UInt8) × Unit) =>
 F22_R125 n n (Int64.ofInt ↑(List.length (Prod.fst x_1))) (0 : Int64) [] (Prod.fst x_1)))
theorem F22_R125_s (n : Nat) (m_ : Nat) : F22_R125 n (m_ + 1) = F22_L125 n (F22_R125 n m_) := rfl
theorem ok22 (n : Nat) : FunOK Tryd.prog ⟨22, sig22, F22 n⟩ :=
 fun_ok (hints := ⟨[], [(125, ⟨[(4, .one (.own 1)), (15, .one (.own 2)), (16, .one (.int .i64)), (17, .one (.int .i64))], [(1, .row (.cons .str (.cons (.int .u8) (.cons .str .nil)))), (2, .row (.cons .str .nil))], 3⟩)]⟩) (fuel := n) (c := Tryd.f22.body.getD .skip) (rs := Tryd.f22.results.toList) tt_ok mix (FsOK.cons (ok39 n) (FsOK.cons (ok40 n) (FsOK.nil))) Tryd.func22 (by kernel_rfl) (by kernel_rfl) rfl (by kernel_rfl) rfl rfl (by kernel_rfl)
-- watchfire/watchfirelaw17.Awake
def sig7 : Sig := ⟨.nil, (.cons (.one (.c .bool)) .nil)⟩
noncomputable def F7 : Nat → Unit → Option (Bool × Unit) := fun (n : Nat) (x : Unit) =>
 obind (F22 n [(97 : UInt8), (61 : UInt8), (98 : UInt8), (44 : UInt8), (33 : UInt8), (99 : UInt8)])
 fun (x_1 : (List (List UInt8 × UInt8 × List UInt8) × Int64) × Unit) =>
 oite (decide (Prod.snd (Prod.fst x_1) = (0 : Int64)))
 (oite (decide (Int64.ofInt ↑(List.length (Prod.fst (Prod.fst x_1))) = (2 : Int64)))
 (obind (at? (Prod.fst (Prod.fst x_1)) (Int64.toInt (0 : Int64))) fun (x_2 : List UInt8 × UInt8 × List UInt8) =>
 oite
 (Prod.fst x_2 == [(97 : UInt8)] &&
 (decide (Prod.fst (Prod.snd x_2) = (1 : UInt8)) && (Prod.snd (Prod.snd x_2) == [(98 : UInt8)] && true)))
 (obind (at? (Prod.fst (Prod.fst x_1)) (Int64.toInt (1 : Int64)))
 fun (x_3 : List UInt8 × UInt8 × List UInt8) =>
 some
 (Prod.fst x_3 == [(99 : UInt8)] &&
 (decide (Prod.fst (Prod.snd x_3) = (5 : UInt8)) && (Prod.snd (Prod.snd x_3) == [] && true)),
 ()))
 (some (false, ())))
 (some (false, ())))
 (some (false, ()))
theorem ok7 (n : Nat) : FunOK Tryd.prog ⟨7, sig7, F7 n⟩ :=
 fun_ok (hints := ⟨[], []⟩) (fuel := n) (c := Tryd.f7.body.getD .skip) (rs := Tryd.f7.results.toList) tt_ok mix (FsOK.cons (ok22 n) (FsOK.nil)) Tryd.func7 (by kernel_rfl) (by kernel_rfl) rfl (by kernel_rfl) rfl rfl (by kernel_rfl)
-- watchfire/match.number
def sig27 : Sig := ⟨(.cons (.one (.c (.int .u8))) .nil), (.cons (.one (.c .str)) .nil)⟩
def G27 : Nat → (UInt8 → Option (List UInt8 × Unit)) → UInt8 → Option (List UInt8 × Unit) := fun (n : Nat) (rc : UInt8 → Option (List UInt8 × Unit)) (x : UInt8) =>
 oite (decide ((9 : UInt8) < x))
 (obind (rc (x / (10 : UInt8))) fun (x_1 : List UInt8 × Unit) =>
 obind (rc (x % (10 : UInt8))) fun (x_2 : List UInt8 × Unit) =>
 oite (Nat.ble (List.length (Prod.fst x_1) + List.length (Prod.fst x_2)) (4294967296 : Nat))
 (some (Prod.fst x_1 ++ Prod.fst x_2, ())) none)
 (some ([(48 : UInt8) + x], ()))
theorem okG27 (n : Nat) (rc : sig27.In → Option sig27.Out) (h : FunOK Tryd.prog ⟨27, sig27, rc⟩) : FunOK Tryd.prog ⟨27, sig27, G27 n rc⟩ :=
 fun_ok (hints := ⟨[], []⟩) (fuel := n) (c := Tryd.f27.body.getD .skip) (rs := Tryd.f27.results.toList) tt_ok mix (FsOK.cons h (FsOK.nil)) Tryd.func27 (by kernel_rfl) (by kernel_rfl) rfl (by kernel_rfl) rfl rfl (by kernel_rfl)
def F27 (n : Nat) : UInt8 → Option (List UInt8 × Unit) := selfN (sig := sig27) (G27 n) n
theorem ok27 (n : Nat) : FunOK Tryd.prog ⟨27, sig27, F27 n⟩ :=
 self_ok (c := Tryd.f27.body.getD .skip) Tryd.func27 (by kernel_rfl) (by kernel_rfl) (fun F h => okG27 n F h) rfl n
-- watchfire/lab.Get
def sig28 : Sig := ⟨(.cons (.one (.c (.ro (.cons .str (.cons .str .nil))))) (.cons (.one (.c .str)) .nil)), (.cons (.one (.c .str)) (.cons (.one (.c .bool)) .nil))⟩
def F28_L13 : Arr [PT.bytes, PT.list (CTs.cons CT.str (CTs.cons CT.str CTs.nil)), PT.int IntKind.i64, PT.int IntKind.i64]
 (Option ((List UInt8 × Bool) × Unit)) →
 List UInt8 → List (List UInt8 × List UInt8) → Int64 → Int64 → Option ((List UInt8 × Bool) × Unit) := fun
 (rec :
 Arr [PT.bytes, PT.list (CTs.cons CT.str (CTs.cons CT.str CTs.nil)), PT.int IntKind.i64, PT.int IntKind.i64]
 (Option ((List UInt8 × Bool) × Unit)))
 (key : List UInt8) (t : List (List UInt8 × List UInt8)) (t_1 t_2 : Int64) =>
 oite (decide (t_2 < t_1))
 (obind (at? t (Int64.toInt t_2)) fun (x_1 : List UInt8 × List UInt8) =>
 oite (Prod.fst x_1 == key) (some ((Prod.snd x_1, true), ())) (rec key t t_1 (t_2 + (1 : Int64))))
 (some ((@List.nil UInt8, false), ()))
def F28_R13 : Nat → PT.T PT.bytes → List (List UInt8 × List UInt8) → Int64 → Int64 → Option ((List UInt8 × Bool) × Unit) := ofixA (13 : Nat) [PT.bytes, PT.list (CTs.cons CT.str (CTs.cons CT.str CTs.nil)), PT.int IntKind.i64, PT.int IntKind.i64]
 F28_L13
def F28 : Nat → List (List UInt8 × List UInt8) × List UInt8 → Option ((List UInt8 × Bool) × Unit) := fun (n : Nat) (x : List (List UInt8 × List UInt8) × List UInt8) =>
 F28_R13 n (Prod.snd x) (Prod.fst x) (Int64.ofInt ↑(List.length (Prod.fst x))) (0 : Int64)
theorem F28_R13_s  (m_ : Nat) : F28_R13  (m_ + 1) = F28_L13  (F28_R13  m_) := rfl
theorem ok28 (n : Nat) : FunOK Tryd.prog ⟨28, sig28, F28 n⟩ :=
 fun_ok (hints := ⟨[], [(13, ⟨[(1, .one (.str)), (8, .one (.ro (.cons .str (.cons .str .nil)))), (9, .one (.int .i64)), (10, .one (.int .i64))], [], 2⟩)]⟩) (fuel := n) (c := Tryd.f28.body.getD .skip) (rs := Tryd.f28.results.toList) tt_ok mix (FsOK.nil) Tryd.func28 (by kernel_rfl) (by kernel_rfl) rfl (by kernel_rfl) rfl rfl (by kernel_rfl)
-- watchfire/match.Names
def sig8 : Sig := ⟨(.cons (.agg (.cons (.int .u8) (.cons .str (.cons (.ro (.cons .str (.cons .str .nil))) (.cons (.int .u8) (.cons (.int .u64) (.cons (.int .u8) (.cons (.int .i64) .nil)))))))) .nil), (.cons (.one (.c (.ro (.cons .str (.cons .str .nil))))) .nil)⟩
def F8_L29 : Nat →
 Arr
 [PT.int IntKind.i64, PT.int IntKind.i64, PT.int IntKind.u8, PT.bytes,
 PT.list (CTs.cons CT.str (CTs.cons CT.str CTs.nil)), PT.int IntKind.u8, PT.int IntKind.u64, PT.int IntKind.u8,
 PT.int IntKind.i64, PT.list (CTs.cons CT.str (CTs.cons CT.str CTs.nil)),
 PT.list (CTs.cons CT.str (CTs.cons CT.str CTs.nil))]
 (Option (List (List UInt8 × List UInt8) × Unit)) →
 Int64 →
 Int64 →
 UInt8 →
 List UInt8 →
 List (List UInt8 × List UInt8) →
 UInt8 →
 UInt64 →
 UInt8 →
 Int64 →
 List (List UInt8 × List UInt8) →
 List (List UInt8 × List UInt8) → Option (List (List UInt8 × List UInt8) × Unit) := fun (n : Nat)
 (rec :
 Arr
 [PT.int IntKind.i64, PT.int IntKind.i64, PT.int IntKind.u8, PT.bytes,
 PT.list (CTs.cons CT.str (CTs.cons CT.str CTs.nil)), PT.int IntKind.u8, PT.int IntKind.u64, PT.int IntKind.u8,
 PT.int IntKind.i64, PT.list (CTs.cons CT.str (CTs.cons CT.str CTs.nil)),
 PT.list (CTs.cons CT.str (CTs.cons CT.str CTs.nil))]
 (Option (List (List UInt8 × List UInt8) × Unit)))
 (t t_1 : Int64) (a0 : UInt8) (a1 : List UInt8) (a2 : List (List UInt8 × List UInt8)) (a3 : UInt8) (a4 : UInt64)
 (a5 : UInt8) (a6 : Int64) (out t_2 : List (List UInt8 × List UInt8)) =>
 oite (decide (t_1 < t))
 (oite (decide ((0 : Int) ≤ Int64.toInt t_1) && Nat.blt (Int.toNat (Int64.toInt t_1)) (List.length t_2))
 (obind t_2[Int.toNat (Int64.toInt t_1)]? fun (x_2 : List UInt8 × List UInt8) =>
 obind (F28 n (a2, Prod.fst x_2)) fun (x_3 : (List UInt8 × Bool) × Unit) =>
 oite (!Prod.snd (Prod.fst x_3))
 (oite (Nat.ble (List.length out + List.length [(Prod.fst x_2, Prod.snd x_2)]) (4294967296 : Nat))
 (rec t (t_1 + (1 : Int64)) a0 a1 a2 a3 a4 a5 a6 (out ++ [(Prod.fst x_2, Prod.snd x_2)]) t_2) none)
 (rec t (t_1 + (1 : Int64)) a0 a1 a2 a3 a4 a5 a6 out t_2))
 none)
 (some (out, ()))
def F8_R29 : Nat →
 Nat →
 PT.T (PT.int IntKind.i64) →
 Int64 →
 UInt8 →
 List UInt8 →
 List (List UInt8 × List UInt8) →
 UInt8 →
 UInt64 →
 UInt8 →
 Int64 →
 List (List UInt8 × List UInt8) →
 List (List UInt8 × List UInt8) → Option (List (List UInt8 × List UInt8) × Unit) := fun (n : Nat) =>
 ofixA (29 : Nat)
 [PT.int IntKind.i64, PT.int IntKind.i64, PT.int IntKind.u8, PT.bytes,
 PT.list (CTs.cons CT.str (CTs.cons CT.str CTs.nil)), PT.int IntKind.u8, PT.int IntKind.u64, PT.int IntKind.u8,
 PT.int IntKind.i64, PT.list (CTs.cons CT.str (CTs.cons CT.str CTs.nil)),
 PT.list (CTs.cons CT.str (CTs.cons CT.str CTs.nil))]
 (F8_L29 n)
def F8 : Nat →
 UInt8 × List UInt8 × List (List UInt8 × List UInt8) × UInt8 × UInt64 × UInt8 × Int64 →
 Option (List (List UInt8 × List UInt8) × Unit) := fun (n : Nat) (x : UInt8 × List UInt8 × List (List UInt8 × List UInt8) × UInt8 × UInt64 × UInt8 × Int64) =>
 oite (Nat.ble ((0 : Nat) + List.length (Prod.fst (Prod.snd (Prod.snd x)))) (4294967296 : Nat))
 (obind (F27 n (Prod.fst x)) fun (x_1 : List UInt8 × Unit) =>
 F8_R29 n n
 (Int64.ofInt
 ↑(List.length
 [([(114 : UInt8), (117 : UInt8), (108 : UInt8), (101 : UInt8)], Prod.fst (Prod.snd x)),
 ([(111 : UInt8), (114 : UInt8), (105 : UInt8), (103 : UInt8), (105 : UInt8), (110 : UInt8)],
 Prod.fst x_1)]))
 (0 : Int64) (Prod.fst x) (Prod.fst (Prod.snd x)) (Prod.fst (Prod.snd (Prod.snd x)))
 (Prod.fst (Prod.snd (Prod.snd (Prod.snd x)))) (Prod.fst (Prod.snd (Prod.snd (Prod.snd (Prod.snd x)))))
 (Prod.fst (Prod.snd (Prod.snd (Prod.snd (Prod.snd (Prod.snd x))))))
 (Prod.snd (Prod.snd (Prod.snd (Prod.snd (Prod.snd (Prod.snd x)))))) ([] ++ Prod.fst (Prod.snd (Prod.snd x)))
 [([(114 : UInt8), (117 : UInt8), (108 : UInt8), (101 : UInt8)], Prod.fst (Prod.snd x)),
 ([(111 : UInt8), (114 : UInt8), (105 : UInt8), (103 : UInt8), (105 : UInt8), (110 : UInt8)], Prod.fst x_1)])
 none
theorem F8_R29_s (n : Nat) (m_ : Nat) : F8_R29 n (m_ + 1) = F8_L29 n (F8_R29 n m_) := rfl
theorem ok8 (n : Nat) : FunOK Tryd.prog ⟨8, sig8, F8 n⟩ :=
 fun_ok (hints := ⟨[], [(29, ⟨[(1, .one (.own 1)), (3, .one (.own 2)), (19, .one (.own 3)), (20, .one (.int .i64)), (21, .one (.int .i64))], [(1, .cells [.int .u8, .str, .ro (.cons .str (.cons .str .nil)), .int .u8, .int .u64, .int .u8, .int .i64]), (2, .row (.cons .str (.cons .str .nil))), (3, .row (.cons .str (.cons .str .nil)))], 4⟩)]⟩) (fuel := n) (c := Tryd.f8.body.getD .skip) (rs := Tryd.f8.results.toList) tt_ok mix (FsOK.cons (ok27 n) (FsOK.cons (ok28 n) (FsOK.nil))) Tryd.func8 (by kernel_rfl) (by kernel_rfl) rfl (by kernel_rfl) rfl rfl (by kernel_rfl)
-- watchfire/watchfireref01.Get
def sig29 : Sig := ⟨(.cons (.one (.c (.ro (.cons .str (.cons .str .nil))))) (.cons (.one (.c .str)) .nil)), (.cons (.one (.c .str)) (.cons (.one (.c .bool)) .nil))⟩
def F29_L13 : Arr [PT.list (CTs.cons CT.str (CTs.cons CT.str CTs.nil)), PT.bytes, PT.int IntKind.i64]
 (Option ((List UInt8 × Bool) × Unit)) →
 List (List UInt8 × List UInt8) → List UInt8 → Int64 → Option ((List UInt8 × Bool) × Unit) := fun
 (rec :
 Arr [PT.list (CTs.cons CT.str (CTs.cons CT.str CTs.nil)), PT.bytes, PT.int IntKind.i64]
 (Option ((List UInt8 × Bool) × Unit)))
 (l : List (List UInt8 × List UInt8)) (key : List UInt8) (i : Int64) =>
 oite (decide (i < Int64.ofInt ↑(List.length l)))
 (obind (at? l (Int64.toInt i)) fun (x_1 : List UInt8 × List UInt8) =>
 oite (Prod.fst x_1 == key)
 (obind (at? l (Int64.toInt i)) fun (x_2 : List UInt8 × List UInt8) => some ((Prod.snd x_2, true), ()))
 (rec l key (i + (1 : Int64))))
 (some ((@List.nil UInt8, false), ()))
def F29_R13 : Nat →
 PT.T (PT.list (CTs.cons CT.str (CTs.cons CT.str CTs.nil))) → List UInt8 → Int64 → Option ((List UInt8 × Bool) × Unit) := ofixA (13 : Nat) [PT.list (CTs.cons CT.str (CTs.cons CT.str CTs.nil)), PT.bytes, PT.int IntKind.i64] F29_L13
def F29 : Nat → List (List UInt8 × List UInt8) × List UInt8 → Option ((List UInt8 × Bool) × Unit) := fun (n : Nat) (x : List (List UInt8 × List UInt8) × List UInt8) => F29_R13 n (Prod.fst x) (Prod.snd x) (0 : Int64)
theorem F29_R13_s  (m_ : Nat) : F29_R13  (m_ + 1) = F29_L13  (F29_R13  m_) := rfl
theorem ok29 (n : Nat) : FunOK Tryd.prog ⟨29, sig29, F29 n⟩ :=
 fun_ok (hints := ⟨[], [(13, ⟨[(0, .one (.ro (.cons .str (.cons .str .nil)))), (1, .one (.str)), (6, .one (.int .i64))], [], 2⟩)]⟩) (fuel := n) (c := Tryd.f29.body.getD .skip) (rs := Tryd.f29.results.toList) tt_ok mix (FsOK.nil) Tryd.func29 (by kernel_rfl) (by kernel_rfl) rfl (by kernel_rfl) rfl rfl (by kernel_rfl)
-- watchfire/watchfireref01.Itoa
def sig30 : Sig := ⟨(.cons (.one (.c (.int .u64))) .nil), (.cons (.one (.c .str)) .nil)⟩
def G30 : Nat → (UInt64 → Option (List UInt8 × Unit)) → UInt64 → Option (List UInt8 × Unit) := fun (n : Nat) (rc : UInt64 → Option (List UInt8 × Unit)) (x : UInt64) =>
 oite (decide ((9 : UInt64) < x))
 (obind (rc (x / (10 : UInt64))) fun (x_1 : List UInt8 × Unit) =>
 oite
 (Nat.ble
 (List.length (Prod.fst x_1) + List.length [UInt8.ofInt ↑(UInt64.toNat ((48 : UInt64) + x % (10 : UInt64)))])
 (4294967296 : Nat))
 (some (Prod.fst x_1 ++ [UInt8.ofInt ↑(UInt64.toNat ((48 : UInt64) + x % (10 : UInt64)))], ())) none)
 (some ([UInt8.ofInt ↑(UInt64.toNat ((48 : UInt64) + x % (10 : UInt64)))], ()))
theorem okG30 (n : Nat) (rc : sig30.In → Option sig30.Out) (h : FunOK Tryd.prog ⟨30, sig30, rc⟩) : FunOK Tryd.prog ⟨30, sig30, G30 n rc⟩ :=
 fun_ok (hints := ⟨[], []⟩) (fuel := n) (c := Tryd.f30.body.getD .skip) (rs := Tryd.f30.results.toList) tt_ok mix (FsOK.cons h (FsOK.nil)) Tryd.func30 (by kernel_rfl) (by kernel_rfl) rfl (by kernel_rfl) rfl rfl (by kernel_rfl)
def F30 (n : Nat) : UInt64 → Option (List UInt8 × Unit) := selfN (sig := sig30) (G30 n) n
theorem ok30 (n : Nat) : FunOK Tryd.prog ⟨30, sig30, F30 n⟩ :=
 self_ok (c := Tryd.f30.body.getD .skip) Tryd.func30 (by kernel_rfl) (by kernel_rfl) (fun F h => okG30 n F h) rfl n
-- watchfire/watchfireref17.Names
def sig10 : Sig := ⟨(.cons (.agg (.cons (.int .u8) (.cons .str (.cons (.ro (.cons .str (.cons .str .nil))) (.cons (.int .u8) (.cons (.int .u64) (.cons (.int .u8) (.cons (.int .i64) .nil)))))))) .nil), (.cons (.one (.c (.ro (.cons .str (.cons .str .nil))))) .nil)⟩
def F10_J7 : Nat →
 UInt8 →
 List UInt8 →
 List (List UInt8 × List UInt8) →
 UInt8 →
 UInt64 → UInt8 → Int64 → List (List UInt8 × List UInt8) → Option (List (List UInt8 × List UInt8) × Unit) := fun (n : Nat) (a0 : UInt8) (a1 : List UInt8) (a2 : List (List UInt8 × List UInt8)) (a3 : UInt8) (a4 : UInt64)
 (a5 : UInt8) (a6 : Int64) (out : List (List UInt8 × List UInt8)) =>
 obind (F29 n (a2, [(111 : UInt8), (114 : UInt8), (105 : UInt8), (103 : UInt8), (105 : UInt8), (110 : UInt8)]))
 fun (x_1 : (List UInt8 × Bool) × Unit) =>
 oite (!Prod.snd (Prod.fst x_1))
 (obind (F30 n (UInt64.ofInt ↑(UInt8.toNat a0))) fun (x_2 : List UInt8 × Unit) =>
 oite
 (Nat.ble
 (List.length out +
 List.length
 [([(111 : UInt8), (114 : UInt8), (105 : UInt8), (103 : UInt8), (105 : UInt8), (110 : UInt8)],
 Prod.fst x_2)])
 (4294967296 : Nat))
 (some
 (out ++
 [([(111 : UInt8), (114 : UInt8), (105 : UInt8), (103 : UInt8), (105 : UInt8), (110 : UInt8)],
 Prod.fst x_2)],
 ()))
 none)
 (some (out, ()))
def F10 : Nat →
 UInt8 × List UInt8 × List (List UInt8 × List UInt8) × UInt8 × UInt64 × UInt8 × Int64 →
 Option (List (List UInt8 × List UInt8) × Unit) := fun (n : Nat) (x : UInt8 × List UInt8 × List (List UInt8 × List UInt8) × UInt8 × UInt64 × UInt8 × Int64) =>
 oite (Nat.ble ((0 : Nat) + List.length (Prod.fst (Prod.snd (Prod.snd x)))) (4294967296 : Nat))
 (ojoinA (7 : Nat)
 [PT.int IntKind.u8, PT.bytes, PT.list (CTs.cons CT.str (CTs.cons CT.str CTs.nil)), PT.int IntKind.u8,
 PT.int IntKind.u64, PT.int IntKind.u8, PT.int IntKind.i64, PT.list (CTs.cons CT.str (CTs.cons CT.str CTs.nil))]
 (fun
 (J :
 Arr
 [PT.int IntKind.u8, PT.bytes, PT.list (CTs.cons CT.str (CTs.cons CT.str CTs.nil)), PT.int IntKind.u8,
 PT.int IntKind.u64, PT.int IntKind.u8, PT.int IntKind.i64,
 PT.list (CTs.cons CT.str (CTs.cons CT.str CTs.nil))]
 (Option (List (List UInt8 × List UInt8) × Unit))) =>
 obind (F29 n (Prod.fst (Prod.snd (Prod.snd x)), [(114 : UInt8), (117 : UInt8), (108 : UInt8), (101 : UInt8)]))
 fun (x_1 : (List UInt8 × Bool) × Unit) =>
 oite (!Prod.snd (Prod.fst x_1))
 (oite
 (Nat.ble
 (List.length ([] ++ Prod.fst (Prod.snd (Prod.snd x))) +
 List.length [([(114 : UInt8), (117 : UInt8), (108 : UInt8), (101 : UInt8)], Prod.fst (Prod.snd x))])
 (4294967296 : Nat))
 (J (Prod.fst x) (Prod.fst (Prod.snd x)) (Prod.fst (Prod.snd (Prod.snd x)))
 (Prod.fst (Prod.snd (Prod.snd (Prod.snd x)))) (Prod.fst (Prod.snd (Prod.snd (Prod.snd (Prod.snd x)))))
 (Prod.fst (Prod.snd (Prod.snd (Prod.snd (Prod.snd (Prod.snd x))))))
 (Prod.snd (Prod.snd (Prod.snd (Prod.snd (Prod.snd (Prod.snd x))))))
 ([] ++ Prod.fst (Prod.snd (Prod.snd x)) ++
 [([(114 : UInt8), (117 : UInt8), (108 : UInt8), (101 : UInt8)], Prod.fst (Prod.snd x))]))
 none)
 (J (Prod.fst x) (Prod.fst (Prod.snd x)) (Prod.fst (Prod.snd (Prod.snd x)))
 (Prod.fst (Prod.snd (Prod.snd (Prod.snd x)))) (Prod.fst (Prod.snd (Prod.snd (Prod.snd (Prod.snd x)))))
 (Prod.fst (Prod.snd (Prod.snd (Prod.snd (Prod.snd (Prod.snd x))))))
 (Prod.snd (Prod.snd (Prod.snd (Prod.snd (Prod.snd (Prod.snd x))))))
 ([] ++ Prod.fst (Prod.snd (Prod.snd x)))))
 (F10_J7 n))
 none
theorem ok10 (n : Nat) : FunOK Tryd.prog ⟨10, sig10, F10 n⟩ :=
 fun_ok (hints := ⟨[(7, ⟨[(1, .one (.own 1)), (3, .one (.own 2))], [(1, .cells [.int .u8, .str, .ro (.cons .str (.cons .str .nil)), .int .u8, .int .u64, .int .u8, .int .i64]), (2, .row (.cons .str (.cons .str .nil)))], 3⟩)], []⟩) (fuel := n) (c := Tryd.f10.body.getD .skip) (rs := Tryd.f10.results.toList) tt_ok mix (FsOK.cons (ok29 n) (FsOK.cons (ok30 n) (FsOK.nil))) Tryd.func10 (by kernel_rfl) (by kernel_rfl) rfl (by kernel_rfl) rfl rfl (by kernel_rfl)
-- watchfire/watchfireref01.Same
def sig9 : Sig := ⟨(.cons (.one (.c (.ro (.cons .str (.cons .str .nil))))) (.cons (.one (.c (.ro (.cons .str (.cons .str .nil))))) .nil)), (.cons (.one (.c .bool)) .nil)⟩
def F9_L29 : Arr
 [PT.list (CTs.cons CT.str (CTs.cons CT.str CTs.nil)), PT.list (CTs.cons CT.str (CTs.cons CT.str CTs.nil)),
 PT.int IntKind.i64]
 (Option (Bool × Unit)) →
 List (List UInt8 × List UInt8) → List (List UInt8 × List UInt8) → Int64 → Option (Bool × Unit) := fun
 (rec :
 Arr
 [PT.list (CTs.cons CT.str (CTs.cons CT.str CTs.nil)), PT.list (CTs.cons CT.str (CTs.cons CT.str CTs.nil)),
 PT.int IntKind.i64]
 (Option (Bool × Unit)))
 (a b : List (List UInt8 × List UInt8)) (i : Int64) =>
 oite (decide (i < Int64.ofInt ↑(List.length a)))
 (obind (at? a (Int64.toInt i)) fun (x_1 : List UInt8 × List UInt8) =>
 obind (at? b (Int64.toInt i)) fun (x_2 : List UInt8 × List UInt8) =>
 oite (!(Prod.fst x_1 == Prod.fst x_2 && (Prod.snd x_1 == Prod.snd x_2 && true))) (some (false, ()))
 (rec a b (i + (1 : Int64))))
 (some (true, ()))
def F9_R29 : Nat →
 PT.T (PT.list (CTs.cons CT.str (CTs.cons CT.str CTs.nil))) →
 List (List UInt8 × List UInt8) → Int64 → Option (Bool × Unit) := ofixA (29 : Nat)
 [PT.list (CTs.cons CT.str (CTs.cons CT.str CTs.nil)), PT.list (CTs.cons CT.str (CTs.cons CT.str CTs.nil)),
 PT.int IntKind.i64]
 F9_L29
def F9 : Nat → List (List UInt8 × List UInt8) × List (List UInt8 × List UInt8) → Option (Bool × Unit) := fun (n : Nat) (x : List (List UInt8 × List UInt8) × List (List UInt8 × List UInt8)) =>
 oite (!decide (Int64.ofInt ↑(List.length (Prod.fst x)) = Int64.ofInt ↑(List.length (Prod.snd x))))
 (some (false, ())) (F9_R29 n (Prod.fst x) (Prod.snd x) (0 : Int64))
theorem F9_R29_s  (m_ : Nat) : F9_R29  (m_ + 1) = F9_L29  (F9_R29  m_) := rfl
theorem ok9 (n : Nat) : FunOK Tryd.prog ⟨9, sig9, F9 n⟩ :=
 fun_ok (hints := ⟨[], [(29, ⟨[(0, .one (.ro (.cons .str (.cons .str .nil)))), (1, .one (.ro (.cons .str (.cons .str .nil)))), (5, .one (.int .i64))], [], 2⟩)]⟩) (fuel := n) (c := Tryd.f9.body.getD .skip) (rs := Tryd.f9.results.toList) tt_ok mix (FsOK.nil) Tryd.func9 (by kernel_rfl) (by kernel_rfl) rfl (by kernel_rfl) rfl rfl (by kernel_rfl)
-- watchfire/match.Same
def sig11 : Sig := ⟨(.cons (.one (.c (.ro (.cons .str (.cons (.int .u8) (.cons .str .nil)))))) (.cons (.one (.c (.ro (.cons .str (.cons (.int .u8) (.cons .str .nil)))))) .nil)), (.cons (.one (.c .bool)) .nil)⟩
def F11_L29 : Arr
 [PT.list (CTs.cons CT.str (CTs.cons (CT.int IntKind.u8) (CTs.cons CT.str CTs.nil))),
 PT.list (CTs.cons CT.str (CTs.cons (CT.int IntKind.u8) (CTs.cons CT.str CTs.nil))), PT.int IntKind.i64,
 PT.int IntKind.i64]
 (Option (Bool × Unit)) →
 List (List UInt8 × UInt8 × List UInt8) →
 List (List UInt8 × UInt8 × List UInt8) → Int64 → Int64 → Option (Bool × Unit) := fun
 (rec :
 Arr
 [PT.list (CTs.cons CT.str (CTs.cons (CT.int IntKind.u8) (CTs.cons CT.str CTs.nil))),
 PT.list (CTs.cons CT.str (CTs.cons (CT.int IntKind.u8) (CTs.cons CT.str CTs.nil))), PT.int IntKind.i64,
 PT.int IntKind.i64]
 (Option (Bool × Unit)))
 (a b : List (List UInt8 × UInt8 × List UInt8)) (t t_1 : Int64) =>
 oite (decide (t_1 < t))
 (obind (at? a (Int64.toInt t_1)) fun (x_1 : List UInt8 × UInt8 × List UInt8) =>
 obind (at? b (Int64.toInt t_1)) fun (x_2 : List UInt8 × UInt8 × List UInt8) =>
 oite
 (!(Prod.fst x_1 == Prod.fst x_2 &&
 (decide (Prod.fst (Prod.snd x_1) = Prod.fst (Prod.snd x_2)) &&
 (Prod.snd (Prod.snd x_1) == Prod.snd (Prod.snd x_2) && true))))
 (some (false, ())) (rec a b t (t_1 + (1 : Int64))))
 (some (true, ()))
def F11_R29 : Nat →
 PT.T (PT.list (CTs.cons CT.str (CTs.cons (CT.int IntKind.u8) (CTs.cons CT.str CTs.nil)))) →
 List (List UInt8 × UInt8 × List UInt8) → Int64 → Int64 → Option (Bool × Unit) := ofixA (29 : Nat)
 [PT.list (CTs.cons CT.str (CTs.cons (CT.int IntKind.u8) (CTs.cons CT.str CTs.nil))),
 PT.list (CTs.cons CT.str (CTs.cons (CT.int IntKind.u8) (CTs.cons CT.str CTs.nil))), PT.int IntKind.i64,
 PT.int IntKind.i64]
 F11_L29
def F11 : Nat → List (List UInt8 × UInt8 × List UInt8) × List (List UInt8 × UInt8 × List UInt8) → Option (Bool × Unit) := fun (n : Nat) (x : List (List UInt8 × UInt8 × List UInt8) × List (List UInt8 × UInt8 × List UInt8)) =>
 oite (!decide (Int64.ofInt ↑(List.length (Prod.fst x)) = Int64.ofInt ↑(List.length (Prod.snd x))))
 (some (false, ()))
 (F11_R29 n (Prod.fst x) (Prod.snd x) (Int64.ofInt ↑(List.length (Prod.fst x))) (0 : Int64))
theorem F11_R29_s  (m_ : Nat) : F11_R29  (m_ + 1) = F11_L29  (F11_R29  m_) := rfl
theorem ok11 (n : Nat) : FunOK Tryd.prog ⟨11, sig11, F11 n⟩ :=
 fun_ok (hints := ⟨[], [(29, ⟨[(0, .one (.ro (.cons .str (.cons (.int .u8) (.cons .str .nil))))), (1, .one (.ro (.cons .str (.cons (.int .u8) (.cons .str .nil))))), (12, .one (.int .i64)), (13, .one (.int .i64))], [], 2⟩)]⟩) (fuel := n) (c := Tryd.f11.body.getD .skip) (rs := Tryd.f11.results.toList) tt_ok mix (FsOK.nil) Tryd.func11 (by kernel_rfl) (by kernel_rfl) rfl (by kernel_rfl) rfl rfl (by kernel_rfl)
-- watchfire/watchfirelaw17.Ref
def sig13 : Sig := ⟨(.cons (.one (.c (.ro (.cons .str (.cons (.int .u8) (.cons .str .nil)))))) .nil), (.cons (.one (.c (.ro (.cons .str (.cons (.int .i64) (.cons .str .nil)))))) .nil)⟩
def F13_L29 : Arr
 [PT.list (CTs.cons CT.str (CTs.cons (CT.int IntKind.u8) (CTs.cons CT.str CTs.nil))), PT.int IntKind.i64,
 PT.int IntKind.i64, PT.list (CTs.cons CT.str (CTs.cons (CT.int IntKind.i64) (CTs.cons CT.str CTs.nil)))]
 (Option (List (List UInt8 × Int64 × List UInt8) × Unit)) →
 List (List UInt8 × UInt8 × List UInt8) →
 Int64 → Int64 → List (List UInt8 × Int64 × List UInt8) → Option (List (List UInt8 × Int64 × List UInt8) × Unit) := fun
 (rec :
 Arr
 [PT.list (CTs.cons CT.str (CTs.cons (CT.int IntKind.u8) (CTs.cons CT.str CTs.nil))), PT.int IntKind.i64,
 PT.int IntKind.i64, PT.list (CTs.cons CT.str (CTs.cons (CT.int IntKind.i64) (CTs.cons CT.str CTs.nil)))]
 (Option (List (List UInt8 × Int64 × List UInt8) × Unit)))
 (t : List (List UInt8 × UInt8 × List UInt8)) (t_1 t_2 : Int64) (out : List (List UInt8 × Int64 × List UInt8)) =>
 oite (decide (t_2 < t_1))
 (obind (at? t (Int64.toInt t_2)) fun (x_1 : List UInt8 × UInt8 × List UInt8) =>
 oite
 (Nat.ble
 (List.length out +
 List.length [(Prod.fst x_1, Int64.ofInt ↑(UInt8.toNat (Prod.fst (Prod.snd x_1))), Prod.snd (Prod.snd x_1))])
 (4294967296 : Nat))
 (rec t t_1 (t_2 + (1 : Int64))
 (out ++ [(Prod.fst x_1, Int64.ofInt ↑(UInt8.toNat (Prod.fst (Prod.snd x_1))), Prod.snd (Prod.snd x_1))]))
 none)
 (some (out, ()))
def F13_R29 : Nat →
 PT.T (PT.list (CTs.cons CT.str (CTs.cons (CT.int IntKind.u8) (CTs.cons CT.str CTs.nil)))) →
 Int64 → Int64 → List (List UInt8 × Int64 × List UInt8) → Option (List (List UInt8 × Int64 × List UInt8) × Unit) := ofixA (29 : Nat)
 [PT.list (CTs.cons CT.str (CTs.cons (CT.int IntKind.u8) (CTs.cons CT.str CTs.nil))), PT.int IntKind.i64,
 PT.int IntKind.i64, PT.list (CTs.cons CT.str (CTs.cons (CT.int IntKind.i64) (CTs.cons CT.str CTs.nil)))]
 F13_L29
def F13 : Nat → List (List UInt8 × UInt8 × List UInt8) → Option (List (List UInt8 × Int64 × List UInt8) × Unit) := fun (n : Nat) (x : List (List UInt8 × UInt8 × List UInt8)) => F13_R29 n x (Int64.ofInt ↑(List.length x)) (0 : Int64) []
theorem F13_R29_s  (m_ : Nat) : F13_R29  (m_ + 1) = F13_L29  (F13_R29  m_) := rfl
theorem ok13 (n : Nat) : FunOK Tryd.prog ⟨13, sig13, F13 n⟩ :=
 fun_ok (hints := ⟨[], [(29, ⟨[(3, .one (.own 1)), (6, .one (.ro (.cons .str (.cons (.int .u8) (.cons .str .nil))))), (7, .one (.int .i64)), (8, .one (.int .i64))], [(1, .row (.cons .str (.cons (.int .i64) (.cons .str .nil))))], 2⟩)]⟩) (fuel := n) (c := Tryd.f13.body.getD .skip) (rs := Tryd.f13.results.toList) tt_ok mix (FsOK.nil) Tryd.func13 (by kernel_rfl) (by kernel_rfl) rfl (by kernel_rfl) rfl rfl (by kernel_rfl)
-- watchfire/watchfirelaw17.same
def sig12 : Sig := ⟨(.cons (.one (.c (.ro (.cons .str (.cons (.int .i64) (.cons .str .nil)))))) (.cons (.one (.c (.ro (.cons .str (.cons (.int .i64) (.cons .str .nil)))))) .nil)), (.cons (.one (.c .bool)) .nil)⟩
def F12_L29 : Arr
 [PT.list (CTs.cons CT.str (CTs.cons (CT.int IntKind.i64) (CTs.cons CT.str CTs.nil))),
 PT.list (CTs.cons CT.str (CTs.cons (CT.int IntKind.i64) (CTs.cons CT.str CTs.nil))), PT.int IntKind.i64,
 PT.int IntKind.i64]
 (Option (Bool × Unit)) →
 List (List UInt8 × Int64 × List UInt8) →
 List (List UInt8 × Int64 × List UInt8) → Int64 → Int64 → Option (Bool × Unit) := fun
 (rec :
 Arr
 [PT.list (CTs.cons CT.str (CTs.cons (CT.int IntKind.i64) (CTs.cons CT.str CTs.nil))),
 PT.list (CTs.cons CT.str (CTs.cons (CT.int IntKind.i64) (CTs.cons CT.str CTs.nil))), PT.int IntKind.i64,
 PT.int IntKind.i64]
 (Option (Bool × Unit)))
 (a b : List (List UInt8 × Int64 × List UInt8)) (t t_1 : Int64) =>
 oite (decide (t_1 < t))
 (obind (at? a (Int64.toInt t_1)) fun (x_1 : List UInt8 × Int64 × List UInt8) =>
 obind (at? b (Int64.toInt t_1)) fun (x_2 : List UInt8 × Int64 × List UInt8) =>
 oite
 (!(Prod.fst x_1 == Prod.fst x_2 &&
 (decide (Prod.fst (Prod.snd x_1) = Prod.fst (Prod.snd x_2)) &&
 (Prod.snd (Prod.snd x_1) == Prod.snd (Prod.snd x_2) && true))))
 (some (false, ())) (rec a b t (t_1 + (1 : Int64))))
 (some (true, ()))
def F12_R29 : Nat →
 PT.T (PT.list (CTs.cons CT.str (CTs.cons (CT.int IntKind.i64) (CTs.cons CT.str CTs.nil)))) →
 List (List UInt8 × Int64 × List UInt8) → Int64 → Int64 → Option (Bool × Unit) := ofixA (29 : Nat)
 [PT.list (CTs.cons CT.str (CTs.cons (CT.int IntKind.i64) (CTs.cons CT.str CTs.nil))),
 PT.list (CTs.cons CT.str (CTs.cons (CT.int IntKind.i64) (CTs.cons CT.str CTs.nil))), PT.int IntKind.i64,
 PT.int IntKind.i64]
 F12_L29
def F12 : Nat → List (List UInt8 × Int64 × List UInt8) × List (List UInt8 × Int64 × List UInt8) → Option (Bool × Unit) := fun (n : Nat) (x : List (List UInt8 × Int64 × List UInt8) × List (List UInt8 × Int64 × List UInt8)) =>
 oite (!decide (Int64.ofInt ↑(List.length (Prod.fst x)) = Int64.ofInt ↑(List.length (Prod.snd x))))
 (some (false, ()))
 (F12_R29 n (Prod.fst x) (Prod.snd x) (Int64.ofInt ↑(List.length (Prod.fst x))) (0 : Int64))
theorem F12_R29_s  (m_ : Nat) : F12_R29  (m_ + 1) = F12_L29  (F12_R29  m_) := rfl
theorem ok12 (n : Nat) : FunOK Tryd.prog ⟨12, sig12, F12 n⟩ :=
 fun_ok (hints := ⟨[], [(29, ⟨[(0, .one (.ro (.cons .str (.cons (.int .i64) (.cons .str .nil))))), (1, .one (.ro (.cons .str (.cons (.int .i64) (.cons .str .nil))))), (12, .one (.int .i64)), (13, .one (.int .i64))], [], 2⟩)]⟩) (fuel := n) (c := Tryd.f12.body.getD .skip) (rs := Tryd.f12.results.toList) tt_ok mix (FsOK.nil) Tryd.func12 (by kernel_rfl) (by kernel_rfl) rfl (by kernel_rfl) rfl rfl (by kernel_rfl)
-- watchfire/watchfirelaw17.MatchNames
def sig3 : Sig := ⟨(.cons (.agg (.cons (.int .u8) (.cons .str (.cons (.ro (.cons .str (.cons .str .nil))) (.cons (.int .u8) (.cons (.int .u64) (.cons (.int .u8) (.cons (.int .i64) .nil)))))))) (.cons (.one (.c (.ro (.cons .str (.cons (.int .u8) (.cons .str .nil)))))) (.cons (.one (.c (.ro (.cons .str (.cons (.int .u8) (.cons .str .nil)))))) .nil))), (.cons (.one (.c .bool)) .nil)⟩
noncomputable def F3_L253 : Nat →
 Arr
 [PT.list (CTs.cons CT.str (CTs.cons (CT.int IntKind.u8) (CTs.cons CT.str CTs.nil))),
 PT.list (CTs.cons CT.str (CTs.cons (CT.int IntKind.u8) (CTs.cons CT.str CTs.nil))),
 PT.list (CTs.cons CT.str (CTs.cons CT.str CTs.nil)), PT.int IntKind.i64, PT.int IntKind.i64, PT.int IntKind.u8,
 PT.bytes, PT.list (CTs.cons CT.str (CTs.cons CT.str CTs.nil)), PT.int IntKind.u8, PT.int IntKind.u64,
 PT.int IntKind.u8, PT.int IntKind.i64, PT.list (CTs.cons CT.str (CTs.cons CT.str CTs.nil))]
 (Option (Bool × Unit)) →
 List (List UInt8 × UInt8 × List UInt8) →
 List (List UInt8 × UInt8 × List UInt8) →
 List (List UInt8 × List UInt8) →
 Int64 →
 Int64 →
 UInt8 →
 List UInt8 →
 List (List UInt8 × List UInt8) →
 UInt8 → UInt64 → UInt8 → Int64 → List (List UInt8 × List UInt8) → Option (Bool × Unit) := fun (n : Nat)
 (rec :
 Arr
 [PT.list (CTs.cons CT.str (CTs.cons (CT.int IntKind.u8) (CTs.cons CT.str CTs.nil))),
 PT.list (CTs.cons CT.str (CTs.cons (CT.int IntKind.u8) (CTs.cons CT.str CTs.nil))),
 PT.list (CTs.cons CT.str (CTs.cons CT.str CTs.nil)), PT.int IntKind.i64, PT.int IntKind.i64,
 PT.int IntKind.u8, PT.bytes, PT.list (CTs.cons CT.str (CTs.cons CT.str CTs.nil)), PT.int IntKind.u8,
 PT.int IntKind.u64, PT.int IntKind.u8, PT.int IntKind.i64,
 PT.list (CTs.cons CT.str (CTs.cons CT.str CTs.nil))]
 (Option (Bool × Unit)))
 (x_ y : List (List UInt8 × UInt8 × List UInt8)) (got : List (List UInt8 × List UInt8)) (t t_1 : Int64) (a0 : UInt8)
 (a1 : List UInt8) (a2 : List (List UInt8 × List UInt8)) (a3 : UInt8) (a4 : UInt64) (a5 : UInt8) (a6 : Int64)
 (was : List (List UInt8 × List UInt8)) =>
 oite (decide (t_1 < t))
 (oite (decide (t_1 < Int64.ofInt ↑(List.length a2)))
 (obind (at? got (Int64.toInt t_1)) fun (x_3 : List UInt8 × List UInt8) =>
 obind (at? a2 (Int64.toInt t_1)) fun (x_4 : List UInt8 × List UInt8) =>
 oite (!(Prod.fst x_3 == Prod.fst x_4 && (Prod.snd x_3 == Prod.snd x_4 && true))) (some (false, ()))
 (rec x_ y got t (t_1 + (1 : Int64)) a0 a1 a2 a3 a4 a5 a6 was))
 (rec x_ y got t (t_1 + (1 : Int64)) a0 a1 a2 a3 a4 a5 a6 was))
 (obind (F10 n (a0, a1, a2, a3, a4, a5, a6)) fun (x_3 : List (List UInt8 × List UInt8) × Unit) =>
 obind (F9 n (got, Prod.fst x_3)) fun (x_4 : Bool × Unit) =>
 oite (Prod.fst x_4)
 (obind (F9 n (a2, was)) fun (x_5 : Bool × Unit) =>
 oite (Prod.fst x_5)
 (obind (F11 n (x_, y)) fun (x_6 : Bool × Unit) =>
 obind (F13 n x_) fun (x_7 : List (List UInt8 × Int64 × List UInt8) × Unit) =>
 obind (F13 n y) fun (x_8 : List (List UInt8 × Int64 × List UInt8) × Unit) =>
 obind (F12 n (Prod.fst x_7, Prod.fst x_8)) fun (x_9 : Bool × Unit) =>
 some (Prod.fst x_6 == Prod.fst x_9, ()))
 (some (false, ())))
 (some (false, ())))
noncomputable def F3_R253 : Nat →
 Nat →
 PT.T (PT.list (CTs.cons CT.str (CTs.cons (CT.int IntKind.u8) (CTs.cons CT.str CTs.nil)))) →
 List (List UInt8 × UInt8 × List UInt8) →
 List (List UInt8 × List UInt8) →
 Int64 →
 Int64 →
 UInt8 →
 List UInt8 →
 List (List UInt8 × List UInt8) →
 UInt8 → UInt64 → UInt8 → Int64 → List (List UInt8 × List UInt8) → Option (Bool × Unit) := fun (n : Nat) =>
 ofixA (253 : Nat)
 [PT.list (CTs.cons CT.str (CTs.cons (CT.int IntKind.u8) (CTs.cons CT.str CTs.nil))),
 PT.list (CTs.cons CT.str (CTs.cons (CT.int IntKind.u8) (CTs.cons CT.str CTs.nil))),
 PT.list (CTs.cons CT.str (CTs.cons CT.str CTs.nil)), PT.int IntKind.i64, PT.int IntKind.i64, PT.int IntKind.u8,
 PT.bytes, PT.list (CTs.cons CT.str (CTs.cons CT.str CTs.nil)), PT.int IntKind.u8, PT.int IntKind.u64,
 PT.int IntKind.u8, PT.int IntKind.i64, PT.list (CTs.cons CT.str (CTs.cons CT.str CTs.nil))]
 (F3_L253 n)
noncomputable def F3 : Nat →
 (UInt8 × List UInt8 × List (List UInt8 × List UInt8) × UInt8 × UInt64 × UInt8 × Int64) ×
 List (List UInt8 × UInt8 × List UInt8) × List (List UInt8 × UInt8 × List UInt8) →
 Option (Bool × Unit) := fun (n : Nat)
 (x :
 (UInt8 × List UInt8 × List (List UInt8 × List UInt8) × UInt8 × UInt64 × UInt8 × Int64) ×
 List (List UInt8 × UInt8 × List UInt8) × List (List UInt8 × UInt8 × List UInt8)) =>
 obind (F7 n ()) fun (x_1 : Bool × Unit) =>
 oite (!Prod.fst x_1) (some (false, ()))
 (oite (decide ((12 : Int64) < Int64.ofInt ↑(List.length (Prod.fst (Prod.snd (Prod.snd (Prod.fst x)))))))
 (some (true, ()))
 (oite (decide ((12 : Int64) < Int64.ofInt ↑(List.length (Prod.fst (Prod.snd x))))) (some (true, ()))
 (oite (decide ((12 : Int64) < Int64.ofInt ↑(List.length (Prod.snd (Prod.snd x))))) (some (true, ()))
 (oite (Nat.ble ((0 : Nat) + List.length (Prod.fst (Prod.snd (Prod.snd (Prod.fst x))))) (4294967296 : Nat))
 (obind
 (F8 n
 (Prod.fst (Prod.fst x), Prod.fst (Prod.snd (Prod.fst x)), Prod.fst (Prod.snd (Prod.snd (Prod.fst x))),
 Prod.fst (Prod.snd (Prod.snd (Prod.snd (Prod.fst x)))),
 Prod.fst (Prod.snd (Prod.snd (Prod.snd (Prod.snd (Prod.fst x))))),
 Prod.fst (Prod.snd (Prod.snd (Prod.snd (Prod.snd (Prod.snd (Prod.fst x)))))),
 Prod.snd (Prod.snd (Prod.snd (Prod.snd (Prod.snd (Prod.snd (Prod.fst x))))))))
 fun (x_2 : List (List UInt8 × List UInt8) × Unit) =>
 F3_R253 n n (Prod.fst (Prod.snd x)) (Prod.snd (Prod.snd x)) (Prod.fst x_2)
 (Int64.ofInt ↑(List.length (Prod.fst x_2))) (0 : Int64) (Prod.fst (Prod.fst x))
 (Prod.fst (Prod.snd (Prod.fst x))) (Prod.fst (Prod.snd (Prod.snd (Prod.fst x))))
 (Prod.fst (Prod.snd (Prod.snd (Prod.snd (Prod.fst x)))))
 (Prod.fst (Prod.snd (Prod.snd (Prod.snd (Prod.snd (Prod.fst x))))))
 (Prod.fst (Prod.snd (Prod.snd (Prod.snd (Prod.snd (Prod.snd (Prod.fst x)))))))
 (Prod.snd (Prod.snd (Prod.snd (Prod.snd (Prod.snd (Prod.snd (Prod.fst x)))))))
 ([] ++ Prod.fst (Prod.snd (Prod.snd (Prod.fst x)))))
 none))))
theorem F3_R253_s (n : Nat) (m_ : Nat) : F3_R253 n (m_ + 1) = F3_L253 n (F3_R253 n m_) := rfl
theorem ok3 (n : Nat) : FunOK Tryd.prog ⟨3, sig3, F3 n⟩ :=
 fun_ok (hints := ⟨[], [(253, ⟨[(1, .one (.ro (.cons .str (.cons (.int .u8) (.cons .str .nil))))), (2, .one (.ro (.cons .str (.cons (.int .u8) (.cons .str .nil))))), (3, .one (.own 3)), (7, .one (.own 4)), (8, .one (.ro (.cons .str (.cons .str .nil)))), (33, .one (.int .i64)), (34, .one (.int .i64))], [(3, .cells [.int .u8, .str, .ro (.cons .str (.cons .str .nil)), .int .u8, .int .u64, .int .u8, .int .i64]), (4, .row (.cons .str (.cons .str .nil)))], 5⟩)]⟩) (fuel := n) (c := Tryd.f3.body.getD .skip) (rs := Tryd.f3.results.toList) tt_ok mix (FsOK.cons (ok7 n) (FsOK.cons (ok8 n) (FsOK.cons (ok10 n) (FsOK.cons (ok9 n) (FsOK.cons (ok11 n) (FsOK.cons (ok13 n) (FsOK.cons (ok12 n) (FsOK.nil)))))))) Tryd.func3 (by kernel_rfl) (by kernel_rfl) rfl (by kernel_rfl) rfl rfl (by kernel_rfl)
-- (watchfire/watchfirelaw17.Small).Ask
def sig31 : Sig := ⟨(.cons (.agg (.cons (.int .u8) (.cons (.int .u8) (.cons (.int .u8) .nil)))) .nil), (.cons (.agg (.cons .str (.cons (.int .u8) (.cons .str .nil)))) .nil)⟩
def F31 : Nat → UInt8 × UInt8 × UInt8 → Option ((List UInt8 × UInt8 × List UInt8) × Unit) := fun (n : Nat) (x : UInt8 × UInt8 × UInt8) =>
 oite
 (decide ((0 : Int) ≤ ↑(UInt8.toNat (Prod.fst x % (5 : UInt8)))) &&
 Nat.blt (Int.toNat ↑(UInt8.toNat (Prod.fst x % (5 : UInt8))))
 (List.length
 [[(97 : UInt8)], [(98 : UInt8)], [(114 : UInt8), (117 : UInt8), (108 : UInt8), (101 : UInt8)],
 [(111 : UInt8), (114 : UInt8), (105 : UInt8), (103 : UInt8), (105 : UInt8), (110 : UInt8)],
 [(110 : UInt8), (111 : UInt8), (100 : UInt8), (101 : UInt8)]]))
 (obind
 [[(97 : UInt8)], [(98 : UInt8)], [(114 : UInt8), (117 : UInt8), (108 : UInt8), (101 : UInt8)],
 [(111 : UInt8), (114 : UInt8), (105 : UInt8), (103 : UInt8), (105 : UInt8), (110 : UInt8)],
 [(110 : UInt8), (111 : UInt8), (100 : UInt8),
 (101 : UInt8)]][Int.toNat ↑(UInt8.toNat (Prod.fst x % (5 : UInt8)))]?
 fun (x_1 : List UInt8) =>
 oite
 (decide ((0 : Int) ≤ ↑(UInt8.toNat (Prod.snd (Prod.snd x) % (5 : UInt8)))) &&
 Nat.blt (Int.toNat ↑(UInt8.toNat (Prod.snd (Prod.snd x) % (5 : UInt8))))
 (List.length
 [[(120 : UInt8)], [(121 : UInt8)], [(48 : UInt8)], [(104 : UInt8), (111 : UInt8), (116 : UInt8)],
 [(49 : UInt8)]]))
 (obind
 [[(120 : UInt8)], [(121 : UInt8)], [(48 : UInt8)], [(104 : UInt8), (111 : UInt8), (116 : UInt8)],
 [(49 : UInt8)]][Int.toNat ↑(UInt8.toNat (Prod.snd (Prod.snd x) % (5 : UInt8)))]?
 fun (x_2 : List UInt8) =>
 oite (decide ((4 : UInt8) ≤ (1 : UInt8) + Prod.fst (Prod.snd x) % (5 : UInt8)))
 (some ((x_1, (1 : UInt8) + Prod.fst (Prod.snd x) % (5 : UInt8), @List.nil UInt8), ()))
 (some ((x_1, (1 : UInt8) + Prod.fst (Prod.snd x) % (5 : UInt8), x_2), ())))
 none)
 none
theorem ok31 (n : Nat) : FunOK Tryd.prog ⟨31, sig31, F31 n⟩ :=
 fun_ok (hints := ⟨[], []⟩) (fuel := n) (c := Tryd.f31.body.getD .skip) (rs := Tryd.f31.results.toList) tt_ok mix (FsOK.nil) Tryd.func31 (by kernel_rfl) (by kernel_rfl) rfl (by kernel_rfl) rfl rfl (by kernel_rfl)
-- watchfire/watchfirelaw17.Asks
def sig14 : Sig := ⟨(.cons (.one (.c (.ro (.cons (.int .u8) (.cons (.int .u8) (.cons (.int .u8) .nil)))))) (.cons (.one (.c (.int .i64))) .nil)), (.cons (.one (.c (.ro (.cons .str (.cons (.int .u8) (.cons .str .nil)))))) .nil)⟩
def F14_L29 : Nat →
 Arr
 [PT.int IntKind.i64,
 PT.list (CTs.cons (CT.int IntKind.u8) (CTs.cons (CT.int IntKind.u8) (CTs.cons (CT.int IntKind.u8) CTs.nil))),
 PT.int IntKind.i64, PT.int IntKind.i64,
 PT.list (CTs.cons CT.str (CTs.cons (CT.int IntKind.u8) (CTs.cons CT.str CTs.nil)))]
 (Option (List (List UInt8 × UInt8 × List UInt8) × Unit)) →
 Int64 →
 List (UInt8 × UInt8 × UInt8) →
 Int64 → Int64 → List (List UInt8 × UInt8 × List UInt8) → Option (List (List UInt8 × UInt8 × List UInt8) × Unit) := fun (n : Nat)
 (rec :
 Arr
 [PT.int IntKind.i64,
 PT.list (CTs.cons (CT.int IntKind.u8) (CTs.cons (CT.int IntKind.u8) (CTs.cons (CT.int IntKind.u8) CTs.nil))),
 PT.int IntKind.i64, PT.int IntKind.i64,
 PT.list (CTs.cons CT.str (CTs.cons (CT.int IntKind.u8) (CTs.cons CT.str CTs.nil)))]
 (Option (List (List UInt8 × UInt8 × List UInt8) × Unit)))
 (most : Int64) (t : List (UInt8 × UInt8 × UInt8)) (t_1 t_2 : Int64)
 (out : List (List UInt8 × UInt8 × List UInt8)) =>
 oite (decide (t_2 < t_1))
 (obind (at? t (Int64.toInt t_2)) fun (x_1 : UInt8 × UInt8 × UInt8) =>
 oite (decide (t_2 < most))
 (obind (F31 n (Prod.fst x_1, Prod.fst (Prod.snd x_1), Prod.snd (Prod.snd x_1)))
 fun (x_2 : (List UInt8 × UInt8 × List UInt8) × Unit) =>
 oite
 (Nat.ble
 (List.length out +
 List.length
 [(Prod.fst (Prod.fst x_2), Prod.fst (Prod.snd (Prod.fst x_2)), Prod.snd (Prod.snd (Prod.fst x_2)))])
 (4294967296 : Nat))
 (rec most t t_1 (t_2 + (1 : Int64))
 (out ++
 [(Prod.fst (Prod.fst x_2), Prod.fst (Prod.snd (Prod.fst x_2)), Prod.snd (Prod.snd (Prod.fst x_2)))]))
 none)
 (rec most t t_1 (t_2 + (1 : Int64)) out))
 (some (out, ()))
def F14_R29 : Nat →
 Nat →
 PT.T (PT.int IntKind.i64) →
 List (UInt8 × UInt8 × UInt8) →
 Int64 → Int64 → List (List UInt8 × UInt8 × List UInt8) → Option (List (List UInt8 × UInt8 × List UInt8) × Unit) := fun (n : Nat) =>
 ofixA (29 : Nat)
 [PT.int IntKind.i64,
 PT.list (CTs.cons (CT.int IntKind.u8) (CTs.cons (CT.int IntKind.u8) (CTs.cons (CT.int IntKind.u8) CTs.nil))),
 PT.int IntKind.i64, PT.int IntKind.i64,
 PT.list (CTs.cons CT.str (CTs.cons (CT.int IntKind.u8) (CTs.cons CT.str CTs.nil)))]
 (F14_L29 n)
def F14 : Nat → List (UInt8 × UInt8 × UInt8) × Int64 → Option (List (List UInt8 × UInt8 × List UInt8) × Unit) := fun (n : Nat) (x : List (UInt8 × UInt8 × UInt8) × Int64) =>
 F14_R29 n n (Prod.snd x) (Prod.fst x) (Int64.ofInt ↑(List.length (Prod.fst x))) (0 : Int64) []
theorem F14_R29_s (n : Nat) (m_ : Nat) : F14_R29 n (m_ + 1) = F14_L29 n (F14_R29 n m_) := rfl
theorem ok14 (n : Nat) : FunOK Tryd.prog ⟨14, sig14, F14 n⟩ :=
 fun_ok (hints := ⟨[], [(29, ⟨[(1, .one (.int .i64)), (5, .one (.own 2)), (8, .one (.ro (.cons (.int .u8) (.cons (.int .u8) (.cons (.int .u8) .nil))))), (9, .one (.int .i64)), (10, .one (.int .i64))], [(2, .row (.cons .str (.cons (.int .u8) (.cons .str .nil))))], 3⟩)]⟩) (fuel := n) (c := Tryd.f14.body.getD .skip) (rs := Tryd.f14.results.toList) tt_ok mix (FsOK.cons (ok31 n) (FsOK.nil)) Tryd.func14 (by kernel_rfl) (by kernel_rfl) rfl (by kernel_rfl) rfl rfl (by kernel_rfl)
-- strings.HasPrefix
def sig32 : Sig := ⟨(.cons (.one (.c .str)) (.cons (.one (.c .str)) .nil)), (.cons (.one (.c .bool)) .nil)⟩
def F32 : Nat → List UInt8 × List UInt8 → Option (Bool × Unit) := fun (n : Nat) (x : List UInt8 × List UInt8) =>
 obind (F43 n (Prod.fst x, Prod.snd x)) fun (x_1 : Bool × Unit) => some (Prod.fst x_1, ())
theorem ok32 (n : Nat) : FunOK Tryd.prog ⟨32, sig32, F32 n⟩ :=
 fun_ok (hints := ⟨[], []⟩) (fuel := n) (c := Tryd.f32.body.getD .skip) (rs := Tryd.f32.results.toList) tt_ok mix (FsOK.cons (ok43 n) (FsOK.nil)) Tryd.func32 (by kernel_rfl) (by kernel_rfl) rfl (by kernel_rfl) rfl rfl (by kernel_rfl)
-- (watchfire/match.Ask).Holds
def sig17 : Sig := ⟨(.cons (.agg (.cons .str (.cons (.int .u8) (.cons .str .nil)))) (.cons (.one (.c (.ro (.cons .str (.cons .str .nil))))) .nil)), (.cons (.one (.c .bool)) .nil)⟩
def F17 : Nat → (List UInt8 × UInt8 × List UInt8) × List (List UInt8 × List UInt8) → Option (Bool × Unit) := fun (n : Nat) (x : (List UInt8 × UInt8 × List UInt8) × List (List UInt8 × List UInt8)) =>
 obind (F28 n (Prod.snd x, Prod.fst (Prod.fst x))) fun (x_1 : (List UInt8 × Bool) × Unit) =>
 oite (decide (Prod.fst (Prod.snd (Prod.fst x)) = (1 : UInt8)))
 (oite (Prod.snd (Prod.fst x_1)) (some (Prod.fst (Prod.fst x_1) == Prod.snd (Prod.snd (Prod.fst x)), ()))
 (some (false, ())))
 (oite (decide (Prod.fst (Prod.snd (Prod.fst x)) = (2 : UInt8)))
 (oite (!Prod.snd (Prod.fst x_1)) (some (true, ()))
 (some (!Prod.fst (Prod.fst x_1) == Prod.snd (Prod.snd (Prod.fst x)), ())))
 (oite (decide (Prod.fst (Prod.snd (Prod.fst x)) = (3 : UInt8)))
 (oite (Prod.snd (Prod.fst x_1))
 (obind (F32 n (Prod.fst (Prod.fst x_1), Prod.snd (Prod.snd (Prod.fst x)))) fun (x_2 : Bool × Unit) =>
 some (Prod.fst x_2, ()))
 (some (false, ())))
 (oite (decide (Prod.fst (Prod.snd (Prod.fst x)) = (4 : UInt8))) (some (Prod.snd (Prod.fst x_1), ()))
 (oite (decide (Prod.fst (Prod.snd (Prod.fst x)) = (5 : UInt8)))
 (some (!Prod.snd (Prod.fst x_1), ())) (some (false, ()))))))
theorem ok17 (n : Nat) : FunOK Tryd.prog ⟨17, sig17, F17 n⟩ :=
 fun_ok (hints := ⟨[], []⟩) (fuel := n) (c := Tryd.f17.body.getD .skip) (rs := Tryd.f17.results.toList) tt_ok mix (FsOK.cons (ok28 n) (FsOK.cons (ok32 n) (FsOK.nil))) Tryd.func17 (by kernel_rfl) (by kernel_rfl) rfl (by kernel_rfl) rfl rfl (by kernel_rfl)
-- (watchfire/match.Asks).Holds
def sig15 : Sig := ⟨(.cons (.one (.c (.ro (.cons .str (.cons (.int .u8) (.cons .str .nil)))))) (.cons (.one (.c (.ro (.cons .str (.cons .str .nil))))) .nil)), (.cons (.one (.c .bool)) .nil)⟩
def F15_L13 : Nat →
 Arr
 [PT.list (CTs.cons CT.str (CTs.cons CT.str CTs.nil)),
 PT.list (CTs.cons CT.str (CTs.cons (CT.int IntKind.u8) (CTs.cons CT.str CTs.nil))), PT.int IntKind.i64,
 PT.int IntKind.i64]
 (Option (Bool × Unit)) →
 List (List UInt8 × List UInt8) → List (List UInt8 × UInt8 × List UInt8) → Int64 → Int64 → Option (Bool × Unit) := fun (n : Nat)
 (rec :
 Arr
 [PT.list (CTs.cons CT.str (CTs.cons CT.str CTs.nil)),
 PT.list (CTs.cons CT.str (CTs.cons (CT.int IntKind.u8) (CTs.cons CT.str CTs.nil))), PT.int IntKind.i64,
 PT.int IntKind.i64]
 (Option (Bool × Unit)))
 (labels : List (List UInt8 × List UInt8)) (t : List (List UInt8 × UInt8 × List UInt8)) (t_1 t_2 : Int64) =>
 oite (decide (t_2 < t_1))
 (obind (at? t (Int64.toInt t_2)) fun (x_1 : List UInt8 × UInt8 × List UInt8) =>
 obind (F17 n ((Prod.fst x_1, Prod.fst (Prod.snd x_1), Prod.snd (Prod.snd x_1)), labels))
 fun (x_2 : Bool × Unit) =>
 oite (!Prod.fst x_2) (some (false, ())) (rec labels t t_1 (t_2 + (1 : Int64))))
 (some (true, ()))
def F15_R13 : Nat →
 Nat →
 PT.T (PT.list (CTs.cons CT.str (CTs.cons CT.str CTs.nil))) →
 List (List UInt8 × UInt8 × List UInt8) → Int64 → Int64 → Option (Bool × Unit) := fun (n : Nat) =>
 ofixA (13 : Nat)
 [PT.list (CTs.cons CT.str (CTs.cons CT.str CTs.nil)),
 PT.list (CTs.cons CT.str (CTs.cons (CT.int IntKind.u8) (CTs.cons CT.str CTs.nil))), PT.int IntKind.i64,
 PT.int IntKind.i64]
 (F15_L13 n)
def F15 : Nat → List (List UInt8 × UInt8 × List UInt8) × List (List UInt8 × List UInt8) → Option (Bool × Unit) := fun (n : Nat) (x : List (List UInt8 × UInt8 × List UInt8) × List (List UInt8 × List UInt8)) =>
 F15_R13 n n (Prod.snd x) (Prod.fst x) (Int64.ofInt ↑(List.length (Prod.fst x))) (0 : Int64)
theorem F15_R13_s (n : Nat) (m_ : Nat) : F15_R13 n (m_ + 1) = F15_L13 n (F15_R13 n m_) := rfl
theorem ok15 (n : Nat) : FunOK Tryd.prog ⟨15, sig15, F15 n⟩ :=
 fun_ok (hints := ⟨[], [(13, ⟨[(1, .one (.ro (.cons .str (.cons .str .nil)))), (7, .one (.ro (.cons .str (.cons (.int .u8) (.cons .str .nil))))), (8, .one (.int .i64)), (9, .one (.int .i64))], [], 2⟩)]⟩) (fuel := n) (c := Tryd.f15.body.getD .skip) (rs := Tryd.f15.results.toList) tt_ok mix (FsOK.cons (ok17 n) (FsOK.nil)) Tryd.func15 (by kernel_rfl) (by kernel_rfl) rfl (by kernel_rfl) rfl rfl (by kernel_rfl)
-- (watchfire/watchfireref17.Ask).Holds
def sig18 : Sig := ⟨(.cons (.agg (.cons .str (.cons (.int .i64) (.cons .str .nil)))) (.cons (.one (.c (.ro (.cons .str (.cons .str .nil))))) .nil)), (.cons (.one (.c .bool)) .nil)⟩
def F18 : Nat → (List UInt8 × Int64 × List UInt8) × List (List UInt8 × List UInt8) → Option (Bool × Unit) := fun (n : Nat) (x : (List UInt8 × Int64 × List UInt8) × List (List UInt8 × List UInt8)) =>
 obind (F29 n (Prod.snd x, Prod.fst (Prod.fst x))) fun (x_1 : (List UInt8 × Bool) × Unit) =>
 oite (decide (Prod.fst (Prod.snd (Prod.fst x)) = (1 : Int64)))
 (oite (Prod.snd (Prod.fst x_1)) (some (Prod.fst (Prod.fst x_1) == Prod.snd (Prod.snd (Prod.fst x)), ()))
 (some (false, ())))
 (oite (decide (Prod.fst (Prod.snd (Prod.fst x)) = (2 : Int64)))
 (oite (Prod.snd (Prod.fst x_1))
 (some (!Prod.fst (Prod.fst x_1) == Prod.snd (Prod.snd (Prod.fst x)), ())) (some (true, ())))
 (oite (decide (Prod.fst (Prod.snd (Prod.fst x)) = (3 : Int64)))
 (oite (Prod.snd (Prod.fst x_1))
 (oite
 (decide
 (Int64.ofInt ↑(List.length (Prod.snd (Prod.snd (Prod.fst x)))) ≤
 Int64.ofInt ↑(List.length (Prod.fst (Prod.fst x_1)))))
 (oite
 (decide ((0 : Int) ≤ Int64.toInt (Int64.ofInt ↑(List.length (Prod.snd (Prod.snd (Prod.fst x)))))) &&
 Nat.ble (Int.toNat (Int64.toInt (Int64.ofInt ↑(List.length (Prod.snd (Prod.snd (Prod.fst x)))))))
 (List.length (Prod.fst (Prod.fst x_1))) &&
 true)
 (some
 (List.drop (0 : Nat)
 (List.take
 (Int.toNat (Int64.toInt (Int64.ofInt ↑(List.length (Prod.snd (Prod.snd (Prod.fst x)))))))
 (Prod.fst (Prod.fst x_1))) ==
 Prod.snd (Prod.snd (Prod.fst x)),
 ()))
 none)
 (some (false, ())))
 (some (false, ())))
 (oite (decide (Prod.fst (Prod.snd (Prod.fst x)) = (4 : Int64))) (some (Prod.snd (Prod.fst x_1), ()))
 (oite (decide (Prod.fst (Prod.snd (Prod.fst x)) = (5 : Int64)))
 (some (!Prod.snd (Prod.fst x_1), ())) (some (false, ()))))))
theorem ok18 (n : Nat) : FunOK Tryd.prog ⟨18, sig18, F18 n⟩ :=
 fun_ok (hints := ⟨[], []⟩) (fuel := n) (c := Tryd.f18.body.getD .skip) (rs := Tryd.f18.results.toList) tt_ok mix (FsOK.cons (ok29 n) (FsOK.nil)) Tryd.func18 (by kernel_rfl) (by kernel_rfl) rfl (by kernel_rfl) rfl rfl (by kernel_rfl)
-- watchfire/watchfireref17.All
def sig16 : Sig := ⟨(.cons (.one (.c (.ro (.cons .str (.cons (.int .i64) (.cons .str .nil)))))) (.cons (.one (.c (.ro (.cons .str (.cons .str .nil))))) .nil)), (.cons (.one (.c .bool)) .nil)⟩
def F16_L13 : Nat →
 Arr
 [PT.list (CTs.cons CT.str (CTs.cons (CT.int IntKind.i64) (CTs.cons CT.str CTs.nil))),
 PT.list (CTs.cons CT.str (CTs.cons CT.str CTs.nil)), PT.int IntKind.i64]
 (Option (Bool × Unit)) →
 List (List UInt8 × Int64 × List UInt8) → List (List UInt8 × List UInt8) → Int64 → Option (Bool × Unit) := fun (n : Nat)
 (rec :
 Arr
 [PT.list (CTs.cons CT.str (CTs.cons (CT.int IntKind.i64) (CTs.cons CT.str CTs.nil))),
 PT.list (CTs.cons CT.str (CTs.cons CT.str CTs.nil)), PT.int IntKind.i64]
 (Option (Bool × Unit)))
 (l : List (List UInt8 × Int64 × List UInt8)) (labels : List (List UInt8 × List UInt8)) (i : Int64) =>
 oite (decide (i < Int64.ofInt ↑(List.length l)))
 (obind (at? l (Int64.toInt i)) fun (x_1 : List UInt8 × Int64 × List UInt8) =>
 obind (F18 n ((Prod.fst x_1, Prod.fst (Prod.snd x_1), Prod.snd (Prod.snd x_1)), labels))
 fun (x_2 : Bool × Unit) => oite (!Prod.fst x_2) (some (false, ())) (rec l labels (i + (1 : Int64))))
 (some (true, ()))
def F16_R13 : Nat →
 Nat →
 PT.T (PT.list (CTs.cons CT.str (CTs.cons (CT.int IntKind.i64) (CTs.cons CT.str CTs.nil)))) →
 List (List UInt8 × List UInt8) → Int64 → Option (Bool × Unit) := fun (n : Nat) =>
 ofixA (13 : Nat)
 [PT.list (CTs.cons CT.str (CTs.cons (CT.int IntKind.i64) (CTs.cons CT.str CTs.nil))),
 PT.list (CTs.cons CT.str (CTs.cons CT.str CTs.nil)), PT.int IntKind.i64]
 (F16_L13 n)
def F16 : Nat → List (List UInt8 × Int64 × List UInt8) × List (List UInt8 × List UInt8) → Option (Bool × Unit) := fun (n : Nat) (x : List (List UInt8 × Int64 × List UInt8) × List (List UInt8 × List UInt8)) =>
 F16_R13 n n (Prod.fst x) (Prod.snd x) (0 : Int64)
theorem F16_R13_s (n : Nat) (m_ : Nat) : F16_R13 n (m_ + 1) = F16_L13 n (F16_R13 n m_) := rfl
theorem ok16 (n : Nat) : FunOK Tryd.prog ⟨16, sig16, F16 n⟩ :=
 fun_ok (hints := ⟨[], [(13, ⟨[(0, .one (.ro (.cons .str (.cons (.int .i64) (.cons .str .nil))))), (1, .one (.ro (.cons .str (.cons .str .nil)))), (5, .one (.int .i64))], [], 2⟩)]⟩) (fuel := n) (c := Tryd.f16.body.getD .skip) (rs := Tryd.f16.results.toList) tt_ok mix (FsOK.cons (ok18 n) (FsOK.nil)) Tryd.func16 (by kernel_rfl) (by kernel_rfl) rfl (by kernel_rfl) rfl rfl (by kernel_rfl)
-- watchfire/watchfireref01.small
def sig45 : Sig := ⟨(.cons (.one (.c (.int .u8))) .nil), (.cons (.one (.c .bool)) .nil)⟩
def F45 : Nat → UInt8 → Option (Bool × Unit) := fun (n : Nat) (x : UInt8) =>
 oite (decide ((97 : UInt8) ≤ x)) (some (decide (x ≤ (122 : UInt8)), ())) (some (false, ()))
theorem ok45 (n : Nat) : FunOK Tryd.prog ⟨45, sig45, F45 n⟩ :=
 fun_ok (hints := ⟨[], []⟩) (fuel := n) (c := Tryd.f45.body.getD .skip) (rs := Tryd.f45.results.toList) tt_ok mix (FsOK.nil) Tryd.func45 (by kernel_rfl) (by kernel_rfl) rfl (by kernel_rfl) rfl rfl (by kernel_rfl)
-- watchfire/watchfireref01.Key
def sig35 : Sig := ⟨(.cons (.one (.c .str)) .nil), (.cons (.one (.c .bool)) .nil)⟩
def F35_L13 : Nat → Arr [PT.bytes, PT.int IntKind.i64] (Option (Bool × Unit)) → List UInt8 → Int64 → Option (Bool × Unit) := fun (n : Nat) (rec : Arr [PT.bytes, PT.int IntKind.i64] (Option (Bool × Unit))) (s : List UInt8) (i : Int64) =>
 oite (decide (i < Int64.ofInt ↑(List.length s)))
 (obind (at? s (Int64.toInt i)) fun (x_1 : UInt8) =>
 obind (F45 n x_1) fun (x_2 : Bool × Unit) =>
 oite (!Prod.fst x_2) (some (false, ())) (rec s (i + (1 : Int64))))
 (oite (decide ((1 : Int64) ≤ Int64.ofInt ↑(List.length s)))
 (some (decide (Int64.ofInt ↑(List.length s) ≤ (8 : Int64)), ())) (some (false, ())))
def F35_R13 : Nat → Nat → PT.T PT.bytes → Int64 → Option (Bool × Unit) := fun (n : Nat) => ofixA (13 : Nat) [PT.bytes, PT.int IntKind.i64] (F35_L13 n)
def F35 : Nat → List UInt8 → Option (Bool × Unit) := fun (n : Nat) (x : List UInt8) => F35_R13 n n x (0 : Int64)
theorem F35_R13_s (n : Nat) (m_ : Nat) : F35_R13 n (m_ + 1) = F35_L13 n (F35_R13 n m_) := rfl
theorem ok35 (n : Nat) : FunOK Tryd.prog ⟨35, sig35, F35 n⟩ :=
 fun_ok (hints := ⟨[], [(13, ⟨[(0, .one (.str)), (3, .one (.int .i64))], [], 1⟩)]⟩) (fuel := n) (c := Tryd.f35.body.getD .skip) (rs := Tryd.f35.results.toList) tt_ok mix (FsOK.cons (ok45 n) (FsOK.nil)) Tryd.func35 (by kernel_rfl) (by kernel_rfl) rfl (by kernel_rfl) rfl rfl (by kernel_rfl)
-- watchfire/watchfireref01.Value
def sig36 : Sig := ⟨(.cons (.one (.c .str)) .nil), (.cons (.one (.c .bool)) .nil)⟩
def F36_J53 : Arr [PT.bytes, PT.int IntKind.i64] (Option (Bool × Unit)) → List UInt8 → Int64 → Option (Bool × Unit) := fun (rec : Arr [PT.bytes, PT.int IntKind.i64] (Option (Bool × Unit))) (s_1 : List UInt8) (i_1 : Int64) =>
 rec s_1 (i_1 + (1 : Int64))
def F36_L13 : Nat → Arr [PT.bytes, PT.int IntKind.i64] (Option (Bool × Unit)) → List UInt8 → Int64 → Option (Bool × Unit) := fun (n : Nat) (rec : Arr [PT.bytes, PT.int IntKind.i64] (Option (Bool × Unit))) (s : List UInt8) (i : Int64) =>
 oite (decide (i < Int64.ofInt ↑(List.length s)))
 (ojoinA (53 : Nat) [PT.bytes, PT.int IntKind.i64]
 (fun (J : Arr [PT.bytes, PT.int IntKind.i64] (Option (Bool × Unit))) =>
 obind (at? s (Int64.toInt i)) fun (x_1 : UInt8) =>
 obind (F45 n x_1) fun (x_2 : Bool × Unit) =>
 oite (!Prod.fst x_2)
 (oite (decide ((48 : UInt8) ≤ x_1))
 (oite (!decide (x_1 ≤ (57 : UInt8)))
 (oite (!decide (x_1 = (46 : UInt8)))
 (oite (!decide (x_1 = (95 : UInt8)))
 (oite (!decide (x_1 = (45 : UInt8))) (some (false, ())) (J s i)) (J s i))
 (J s i))
 (J s i))
 (oite (!decide (x_1 = (46 : UInt8)))
 (oite (!decide (x_1 = (95 : UInt8)))
 (oite (!decide (x_1 = (45 : UInt8))) (some (false, ())) (J s i)) (J s i))
 (J s i)))
 (J s i))
 (F36_J53 rec))
 (oite (decide ((1 : Int64) ≤ Int64.ofInt ↑(List.length s)))
 (some (decide (Int64.ofInt ↑(List.length s) ≤ (16 : Int64)), ())) (some (false, ())))
def F36_R13 : Nat → Nat → PT.T PT.bytes → Int64 → Option (Bool × Unit) := fun (n : Nat) => ofixA (13 : Nat) [PT.bytes, PT.int IntKind.i64] (F36_L13 n)
def F36 : Nat → List UInt8 → Option (Bool × Unit) := fun (n : Nat) (x : List UInt8) => F36_R13 n n x (0 : Int64)
theorem F36_R13_s (n : Nat) (m_ : Nat) : F36_R13 n (m_ + 1) = F36_L13 n (F36_R13 n m_) := rfl
theorem ok36 (n : Nat) : FunOK Tryd.prog ⟨36, sig36, F36 n⟩ :=
 fun_ok (hints := ⟨[(53, ⟨[(0, .one (.str)), (3, .one (.int .i64))], [], 1⟩)], [(13, ⟨[(0, .one (.str)), (3, .one (.int .i64))], [], 1⟩)]⟩) (fuel := n) (c := Tryd.f36.body.getD .skip) (rs := Tryd.f36.results.toList) tt_ok mix (FsOK.cons (ok45 n) (FsOK.nil)) Tryd.func36 (by kernel_rfl) (by kernel_rfl) rfl (by kernel_rfl) rfl rfl (by kernel_rfl)
-- (watchfire/watchfireref17.Ask).Check
def sig20 : Sig := ⟨(.cons (.agg (.cons .str (.cons (.int .i64) (.cons .str .nil)))) .nil), (.cons (.one (.c (.int .i64))) .nil)⟩
def F20 : Nat → List UInt8 × Int64 × List UInt8 → Option (Int64 × Unit) := fun (n : Nat) (x : List UInt8 × Int64 × List UInt8) =>
 obind (F35 n (Prod.fst x)) fun (x_1 : Bool × Unit) =>
 oite (!Prod.fst x_1) (some ((8 : Int64), ()))
 (oite (decide (Prod.fst (Prod.snd x) < (1 : Int64))) (some ((12 : Int64), ()))
 (oite (decide ((5 : Int64) < Prod.fst (Prod.snd x))) (some ((12 : Int64), ()))
 (oite (decide ((4 : Int64) ≤ Prod.fst (Prod.snd x)))
 (oite (!Prod.snd (Prod.snd x) == []) (some ((27 : Int64), ()))
 (oite (decide (Prod.fst (Prod.snd x) < (4 : Int64)))
 (obind (F36 n (Prod.snd (Prod.snd x))) fun (x_2 : Bool × Unit) =>
 oite (!Prod.fst x_2) (some ((27 : Int64), ())) (some ((0 : Int64), ())))
 (some ((0 : Int64), ()))))
 (oite (decide (Prod.fst (Prod.snd x) < (4 : Int64)))
 (obind (F36 n (Prod.snd (Prod.snd x))) fun (x_2 : Bool × Unit) =>
 oite (!Prod.fst x_2) (some ((27 : Int64), ())) (some ((0 : Int64), ())))
 (some ((0 : Int64), ()))))))
theorem ok20 (n : Nat) : FunOK Tryd.prog ⟨20, sig20, F20 n⟩ :=
 fun_ok (hints := ⟨[], []⟩) (fuel := n) (c := Tryd.f20.body.getD .skip) (rs := Tryd.f20.results.toList) tt_ok mix (FsOK.cons (ok35 n) (FsOK.cons (ok36 n) (FsOK.nil))) Tryd.func20 (by kernel_rfl) (by kernel_rfl) rfl (by kernel_rfl) rfl rfl (by kernel_rfl)
-- watchfire/watchfirelaw17.MatchHolds
def sig4 : Sig := ⟨(.cons (.one (.c (.ro (.cons .str (.cons (.int .u8) (.cons .str .nil)))))) (.cons (.one (.c (.ro (.cons (.int .u8) (.cons (.int .u8) (.cons (.int .u8) .nil)))))) (.cons (.one (.c (.ro (.cons .str (.cons .str .nil))))) .nil))), (.cons (.one (.c .bool)) .nil)⟩
noncomputable def F4_L7863 : Nat →
 Arr
 [PT.list (CTs.cons CT.str (CTs.cons CT.str CTs.nil)), PT.int IntKind.i64, PT.int IntKind.i64,
 PT.list (CTs.cons (CT.ro (CTs.cons CT.str (CTs.cons (CT.int IntKind.u8) (CTs.cons CT.str CTs.nil)))) CTs.nil)]
 (Option (Bool × Unit)) →
 Arr
 [PT.list (CTs.cons CT.str (CTs.cons CT.str CTs.nil)), PT.int IntKind.i64, PT.int IntKind.i64,
 PT.list (CTs.cons CT.str (CTs.cons (CT.int IntKind.u8) (CTs.cons CT.str CTs.nil))), PT.int IntKind.i64,
 PT.int IntKind.i64,
 PT.list (CTs.cons (CT.ro (CTs.cons CT.str (CTs.cons (CT.int IntKind.u8) (CTs.cons CT.str CTs.nil)))) CTs.nil)]
 (Option (Bool × Unit)) →
 List (List UInt8 × List UInt8) →
 Int64 →
 Int64 →
 List (List UInt8 × UInt8 × List UInt8) →
 Int64 → Int64 → List (List (List UInt8 × UInt8 × List UInt8)) → Option (Bool × Unit) := fun (n : Nat)
 (rec :
 Arr
 [PT.list (CTs.cons CT.str (CTs.cons CT.str CTs.nil)), PT.int IntKind.i64, PT.int IntKind.i64,
 PT.list (CTs.cons (CT.ro (CTs.cons CT.str (CTs.cons (CT.int IntKind.u8) (CTs.cons CT.str CTs.nil)))) CTs.nil)]
 (Option (Bool × Unit)))
 (rec_1 :
 Arr
 [PT.list (CTs.cons CT.str (CTs.cons CT.str CTs.nil)), PT.int IntKind.i64, PT.int IntKind.i64,
 PT.list (CTs.cons CT.str (CTs.cons (CT.int IntKind.u8) (CTs.cons CT.str CTs.nil))), PT.int IntKind.i64,
 PT.int IntKind.i64,
 PT.list (CTs.cons (CT.ro (CTs.cons CT.str (CTs.cons (CT.int IntKind.u8) (CTs.cons CT.str CTs.nil)))) CTs.nil)]
 (Option (Bool × Unit)))
 (l_1 : List (List UInt8 × List UInt8)) (t_3 t_1_1 : Int64) (t_2_1 : List (List UInt8 × UInt8 × List UInt8))
 (t_3_1 t_4 : Int64) (t_5 : List (List (List UInt8 × UInt8 × List UInt8))) =>
 oite (decide (t_4 < t_3_1))
 (obind (at? t_2_1 (Int64.toInt t_4)) fun (x_7 : List UInt8 × UInt8 × List UInt8) =>
 obind (F17 n ((Prod.fst x_7, Prod.fst (Prod.snd x_7), Prod.snd (Prod.snd x_7)), l_1)) fun (x_8 : Bool × Unit) =>
 obind
 (F18 n ((Prod.fst x_7, Int64.ofInt ↑(UInt8.toNat (Prod.fst (Prod.snd x_7))), Prod.snd (Prod.snd x_7)), l_1))
 fun (x_9 : Bool × Unit) =>
 oite (!Prod.fst x_8 == Prod.fst x_9) (some (false, ()))
 (obind (F19 n (Prod.fst x_7, Prod.fst (Prod.snd x_7), Prod.snd (Prod.snd x_7)))
 fun (x_10 : Int64 × Unit) =>
 obind
 (F20 n (Prod.fst x_7, Int64.ofInt ↑(UInt8.toNat (Prod.fst (Prod.snd x_7))), Prod.snd (Prod.snd x_7)))
 fun (x_11 : Int64 × Unit) =>
 oite (!decide (Prod.fst x_10 = Prod.fst x_11)) (some (false, ()))
 (rec_1 l_1 t_3 t_1_1 t_2_1 t_3_1 (t_4 + (1 : Int64)) t_5)))
 (rec l_1 t_3 (t_1_1 + (1 : Int64)) t_5)
noncomputable def F4_R7863 : Nat →
 Arr
 [PT.list (CTs.cons CT.str (CTs.cons CT.str CTs.nil)), PT.int IntKind.i64, PT.int IntKind.i64,
 PT.list (CTs.cons (CT.ro (CTs.cons CT.str (CTs.cons (CT.int IntKind.u8) (CTs.cons CT.str CTs.nil)))) CTs.nil)]
 (Option (Bool × Unit)) →
 Nat →
 PT.T (PT.list (CTs.cons CT.str (CTs.cons CT.str CTs.nil))) →
 Int64 →
 Int64 →
 List (List UInt8 × UInt8 × List UInt8) →
 Int64 → Int64 → List (List (List UInt8 × UInt8 × List UInt8)) → Option (Bool × Unit) := fun (n : Nat)
 (rec :
 Arr
 [PT.list (CTs.cons CT.str (CTs.cons CT.str CTs.nil)), PT.int IntKind.i64, PT.int IntKind.i64,
 PT.list (CTs.cons (CT.ro (CTs.cons CT.str (CTs.cons (CT.int IntKind.u8) (CTs.cons CT.str CTs.nil)))) CTs.nil)]
 (Option (Bool × Unit))) =>
 ofixA (7863 : Nat)
 [PT.list (CTs.cons CT.str (CTs.cons CT.str CTs.nil)), PT.int IntKind.i64, PT.int IntKind.i64,
 PT.list (CTs.cons CT.str (CTs.cons (CT.int IntKind.u8) (CTs.cons CT.str CTs.nil))), PT.int IntKind.i64,
 PT.int IntKind.i64,
 PT.list (CTs.cons (CT.ro (CTs.cons CT.str (CTs.cons (CT.int IntKind.u8) (CTs.cons CT.str CTs.nil)))) CTs.nil)]
 (F4_L7863 n rec)
noncomputable def F4_L61 : Nat →
 Arr
 [PT.list (CTs.cons CT.str (CTs.cons CT.str CTs.nil)), PT.int IntKind.i64, PT.int IntKind.i64,
 PT.list (CTs.cons (CT.ro (CTs.cons CT.str (CTs.cons (CT.int IntKind.u8) (CTs.cons CT.str CTs.nil)))) CTs.nil)]
 (Option (Bool × Unit)) →
 List (List UInt8 × List UInt8) →
 Int64 → Int64 → List (List (List UInt8 × UInt8 × List UInt8)) → Option (Bool × Unit) := fun (n : Nat)
 (rec :
 Arr
 [PT.list (CTs.cons CT.str (CTs.cons CT.str CTs.nil)), PT.int IntKind.i64, PT.int IntKind.i64,
 PT.list (CTs.cons (CT.ro (CTs.cons CT.str (CTs.cons (CT.int IntKind.u8) (CTs.cons CT.str CTs.nil)))) CTs.nil)]
 (Option (Bool × Unit)))
 (l : List (List UInt8 × List UInt8)) (t t_1 : Int64) (t_2 : List (List (List UInt8 × UInt8 × List UInt8))) =>
 oite (decide (t_1 < t))
 (oite (decide ((0 : Int) ≤ Int64.toInt t_1) && Nat.blt (Int.toNat (Int64.toInt t_1)) (List.length t_2))
 (obind t_2[Int.toNat (Int64.toInt t_1)]? fun (x_3 : List (List UInt8 × UInt8 × List UInt8)) =>
 obind (F15 n (x_3, l)) fun (x_4 : Bool × Unit) =>
 obind (F13 n x_3) fun (x_5 : List (List UInt8 × Int64 × List UInt8) × Unit) =>
 obind (F16 n (Prod.fst x_5, l)) fun (x_6 : Bool × Unit) =>
 oite (!Prod.fst x_4 == Prod.fst x_6) (some (false, ()))
 (F4_R7863 n rec n l t t_1 x_3 (Int64.ofInt ↑(List.length x_3)) (0 : Int64) t_2))
 none)
 (some (true, ()))
noncomputable def F4_R61 : Nat →
 Nat →
 PT.T (PT.list (CTs.cons CT.str (CTs.cons CT.str CTs.nil))) →
 Int64 → Int64 → List (List (List UInt8 × UInt8 × List UInt8)) → Option (Bool × Unit) := fun (n : Nat) =>
 ofixA (61 : Nat)
 [PT.list (CTs.cons CT.str (CTs.cons CT.str CTs.nil)), PT.int IntKind.i64, PT.int IntKind.i64,
 PT.list (CTs.cons (CT.ro (CTs.cons CT.str (CTs.cons (CT.int IntKind.u8) (CTs.cons CT.str CTs.nil)))) CTs.nil)]
 (F4_L61 n)
noncomputable def F4 : Nat →
 List (List UInt8 × UInt8 × List UInt8) × List (UInt8 × UInt8 × UInt8) × List (List UInt8 × List UInt8) →
 Option (Bool × Unit) := fun (n : Nat)
 (x : List (List UInt8 × UInt8 × List UInt8) × List (UInt8 × UInt8 × UInt8) × List (List UInt8 × List UInt8)) =>
 obind (F7 n ()) fun (x_1 : Bool × Unit) =>
 oite (!Prod.fst x_1) (some (false, ()))
 (oite (decide ((12 : Int64) < Int64.ofInt ↑(List.length (Prod.fst x)))) (some (true, ()))
 (oite (decide ((8 : Int64) < Int64.ofInt ↑(List.length (Prod.fst (Prod.snd x))))) (some (true, ()))
 (oite (decide ((12 : Int64) < Int64.ofInt ↑(List.length (Prod.snd (Prod.snd x))))) (some (true, ()))
 (obind (F14 n (Prod.fst (Prod.snd x), (8 : Int64)))
 fun (x_2 : List (List UInt8 × UInt8 × List UInt8) × Unit) =>
 F4_R61 n n (Prod.snd (Prod.snd x)) (Int64.ofInt ↑(List.length [Prod.fst x, Prod.fst x_2])) (0 : Int64)
 [Prod.fst x, Prod.fst x_2]))))
theorem F4_R7863_s (n : Nat) (rec : Arr [PT.list (CTs.cons CT.str (CTs.cons CT.str CTs.nil)), PT.int IntKind.i64, PT.int IntKind.i64, PT.list (CTs.cons (CT.ro (CTs.cons CT.str (CTs.cons (CT.int IntKind.u8) (CTs.cons CT.str CTs.nil)))) CTs.nil)] (Option (Bool × Unit))) (m_ : Nat) : F4_R7863 n rec (m_ + 1) = F4_L7863 n rec (F4_R7863 n rec m_) := rfl
theorem F4_R61_s (n : Nat) (m_ : Nat) : F4_R61 n (m_ + 1) = F4_L61 n (F4_R61 n m_) := rfl
theorem ok4 (n : Nat) : FunOK Tryd.prog ⟨4, sig4, F4 n⟩ :=
 fun_ok (hints := ⟨[], [(61, ⟨[(2, .one (.ro (.cons .str (.cons .str .nil)))), (30, .one (.own 3)), (31, .one (.int .i64)), (32, .one (.int .i64))], [(3, .row (.cons (.ro (.cons .str (.cons (.int .u8) (.cons .str .nil)))) .nil))], 4⟩), (7863, ⟨[(2, .one (.ro (.cons .str (.cons .str .nil)))), (30, .one (.own 3)), (31, .one (.int .i64)), (32, .one (.int .i64)), (44, .one (.ro (.cons .str (.cons (.int .u8) (.cons .str .nil))))), (45, .one (.int .i64)), (46, .one (.int .i64))], [(3, .row (.cons (.ro (.cons .str (.cons (.int .u8) (.cons .str .nil)))) .nil))], 4⟩)]⟩) (fuel := n) (c := Tryd.f4.body.getD .skip) (rs := Tryd.f4.results.toList) tt_ok mix (FsOK.cons (ok7 n) (FsOK.cons (ok14 n) (FsOK.cons (ok15 n) (FsOK.cons (ok13 n) (FsOK.cons (ok16 n) (FsOK.cons (ok17 n) (FsOK.cons (ok18 n) (FsOK.cons (ok19 n) (FsOK.cons (ok20 n) (FsOK.nil)))))))))) Tryd.func4 (by kernel_rfl) (by kernel_rfl) rfl (by kernel_rfl) rfl rfl (by kernel_rfl)
-- (watchfire/match.Ask).Text
def sig37 : Sig := ⟨(.cons (.agg (.cons .str (.cons (.int .u8) (.cons .str .nil)))) .nil), (.cons (.one (.c .str)) .nil)⟩
def F37 : Nat → List UInt8 × UInt8 × List UInt8 → Option (List UInt8 × Unit) := fun (n : Nat) (x : List UInt8 × UInt8 × List UInt8) =>
 oite (decide (Prod.fst (Prod.snd x) = (1 : UInt8)))
 (oite (Nat.ble (List.length (Prod.fst x) + List.length [(61 : UInt8)]) (4294967296 : Nat))
 (oite
 (Nat.ble (List.length (Prod.fst x ++ [(61 : UInt8)]) + List.length (Prod.snd (Prod.snd x))) (4294967296 : Nat))
 (some (Prod.fst x ++ [(61 : UInt8)] ++ Prod.snd (Prod.snd x), ())) none)
 none)
 (oite (decide (Prod.fst (Prod.snd x) = (2 : UInt8)))
 (oite (Nat.ble (List.length (Prod.fst x) + List.length [(33 : UInt8), (61 : UInt8)]) (4294967296 : Nat))
 (oite
 (Nat.ble (List.length (Prod.fst x ++ [(33 : UInt8), (61 : UInt8)]) + List.length (Prod.snd (Prod.snd x)))
 (4294967296 : Nat))
 (some (Prod.fst x ++ [(33 : UInt8), (61 : UInt8)] ++ Prod.snd (Prod.snd x), ())) none)
 none)
 (oite (decide (Prod.fst (Prod.snd x) = (3 : UInt8)))
 (oite (Nat.ble (List.length (Prod.fst x) + List.length [(94 : UInt8), (61 : UInt8)]) (4294967296 : Nat))
 (oite
 (Nat.ble (List.length (Prod.fst x ++ [(94 : UInt8), (61 : UInt8)]) + List.length (Prod.snd (Prod.snd x)))
 (4294967296 : Nat))
 (some (Prod.fst x ++ [(94 : UInt8), (61 : UInt8)] ++ Prod.snd (Prod.snd x), ())) none)
 none)
 (oite (decide (Prod.fst (Prod.snd x) = (4 : UInt8))) (some (Prod.fst x, ()))
 (oite (decide (Prod.fst (Prod.snd x) = (5 : UInt8)))
 (oite (Nat.ble (List.length [(33 : UInt8)] + List.length (Prod.fst x)) (4294967296 : Nat))
 (some ([(33 : UInt8)] ++ Prod.fst x, ())) none)
 (some (@List.nil UInt8, ()))))))
theorem ok37 (n : Nat) : FunOK Tryd.prog ⟨37, sig37, F37 n⟩ :=
 fun_ok (hints := ⟨[], []⟩) (fuel := n) (c := Tryd.f37.body.getD .skip) (rs := Tryd.f37.results.toList) tt_ok mix (FsOK.nil) Tryd.func37 (by kernel_rfl) (by kernel_rfl) rfl (by kernel_rfl) rfl rfl (by kernel_rfl)
-- (watchfire/match.Asks).Text
def sig21 : Sig := ⟨(.cons (.one (.c (.ro (.cons .str (.cons (.int .u8) (.cons .str .nil)))))) .nil), (.cons (.one (.c .str)) .nil)⟩
noncomputable def F21_L61 : Nat →
 Arr
 [PT.list (CTs.cons CT.str (CTs.cons (CT.int IntKind.u8) (CTs.cons CT.str CTs.nil))), PT.int IntKind.i64,
 PT.int IntKind.i64, PT.list (CTs.cons CT.str CTs.nil)]
 (Option (List UInt8 × Unit)) →
 List (List UInt8 × UInt8 × List UInt8) → Int64 → Int64 → List (List UInt8) → Option (List UInt8 × Unit) := fun (n : Nat)
 (rec :
 Arr
 [PT.list (CTs.cons CT.str (CTs.cons (CT.int IntKind.u8) (CTs.cons CT.str CTs.nil))), PT.int IntKind.i64,
 PT.int IntKind.i64, PT.list (CTs.cons CT.str CTs.nil)]
 (Option (List UInt8 × Unit)))
 (t : List (List UInt8 × UInt8 × List UInt8)) (t_1 t_2 : Int64) (out : List (List UInt8)) =>
 oite (decide (t_2 < t_1))
 (obind (at? t (Int64.toInt t_2)) fun (x_1 : List UInt8 × UInt8 × List UInt8) =>
 obind (F37 n (Prod.fst x_1, Prod.fst (Prod.snd x_1), Prod.snd (Prod.snd x_1))) fun (x_2 : List UInt8 × Unit) =>
 oite (Nat.ble (List.length out + List.length [Prod.fst x_2]) (4294967296 : Nat))
 (rec t t_1 (t_2 + (1 : Int64)) (out ++ [Prod.fst x_2])) none)
 (obind (F38 n (out, [(44 : UInt8)])) fun (x_1 : List UInt8 × Unit) => some (Prod.fst x_1, ()))
noncomputable def F21_R61 : Nat →
 Nat →
 PT.T (PT.list (CTs.cons CT.str (CTs.cons (CT.int IntKind.u8) (CTs.cons CT.str CTs.nil)))) →
 Int64 → Int64 → List (List UInt8) → Option (List UInt8 × Unit) := fun (n : Nat) =>
 ofixA (61 : Nat)
 [PT.list (CTs.cons CT.str (CTs.cons (CT.int IntKind.u8) (CTs.cons CT.str CTs.nil))), PT.int IntKind.i64,
 PT.int IntKind.i64, PT.list (CTs.cons CT.str CTs.nil)]
 (F21_L61 n)
noncomputable def F21 : Nat → List (List UInt8 × UInt8 × List UInt8) → Option (List UInt8 × Unit) := fun (n : Nat) (x : List (List UInt8 × UInt8 × List UInt8)) =>
 oite (decide (Int64.ofInt ↑(List.length x) = (0 : Int64))) (some ([(42 : UInt8)], ()))
 (F21_R61 n n x (Int64.ofInt ↑(List.length x)) (0 : Int64) [])
theorem F21_R61_s (n : Nat) (m_ : Nat) : F21_R61 n (m_ + 1) = F21_L61 n (F21_R61 n m_) := rfl
theorem ok21 (n : Nat) : FunOK Tryd.prog ⟨21, sig21, F21 n⟩ :=
 fun_ok (hints := ⟨[], [(61, ⟨[(3, .one (.own 1)), (9, .one (.ro (.cons .str (.cons (.int .u8) (.cons .str .nil))))), (10, .one (.int .i64)), (11, .one (.int .i64))], [(1, .row (.cons .str .nil))], 2⟩)]⟩) (fuel := n) (c := Tryd.f21.body.getD .skip) (rs := Tryd.f21.results.toList) tt_ok mix (FsOK.cons (ok37 n) (FsOK.cons (ok38 n) (FsOK.nil))) Tryd.func21 (by kernel_rfl) (by kernel_rfl) rfl (by kernel_rfl) rfl rfl (by kernel_rfl)
-- watchfire/watchfireref01.Split
def sig41 : Sig := ⟨(.cons (.one (.c .str)) (.cons (.one (.c (.int .u8))) .nil)), (.cons (.one (.c (.ro (.cons .str .nil)))) .nil)⟩
def F41_L61 : Arr [PT.bytes, PT.int IntKind.u8, PT.int IntKind.i64, PT.int IntKind.i64, PT.list (CTs.cons CT.str CTs.nil)]
 (Option (List (List UInt8) × Unit)) →
 List UInt8 → UInt8 → Int64 → Int64 → List (List UInt8) → Option (List (List UInt8) × Unit) := fun
 (rec :
 Arr [PT.bytes, PT.int IntKind.u8, PT.int IntKind.i64, PT.int IntKind.i64, PT.list (CTs.cons CT.str CTs.nil)]
 (Option (List (List UInt8) × Unit)))
 (s : List UInt8) (sign : UInt8) (from_ i : Int64) (out : List (List UInt8)) =>
 oite (decide (i < Int64.ofInt ↑(List.length s)))
 (obind (at? s (Int64.toInt i)) fun (x_1 : UInt8) =>
 oite (decide (x_1 = sign))
 (oite
 (decide ((0 : Int) ≤ Int64.toInt i) && Nat.ble (Int.toNat (Int64.toInt i)) (List.length s) &&
 (decide ((0 : Int) ≤ Int64.toInt from_) &&
 Nat.ble (Int.toNat (Int64.toInt from_)) (Int.toNat (Int64.toInt i))))
 (oite
 (Nat.ble
 (List.length out +
 List.length [List.drop (Int.toNat (Int64.toInt from_)) (List.take (Int.toNat (Int64.toInt i)) s)])
 (4294967296 : Nat))
 (rec s sign (i + (1 : Int64)) (i + (1 : Int64))
 (out ++ [List.drop (Int.toNat (Int64.toInt from_)) (List.take (Int.toNat (Int64.toInt i)) s)]))
 none)
 none)
 (rec s sign from_ (i + (1 : Int64)) out))
 (oite (decide ((0 : Int) ≤ Int64.toInt from_) && Nat.ble (Int.toNat (Int64.toInt from_)) (List.length s))
 (oite
 (Nat.ble
 (List.length out + List.length [List.drop (Int.toNat (Int64.toInt from_)) (List.take (List.length s) s)])
 (4294967296 : Nat))
 (some (out ++ [List.drop (Int.toNat (Int64.toInt from_)) (List.take (List.length s) s)], ())) none)
 none)
def F41_R61 : Nat → PT.T PT.bytes → UInt8 → Int64 → Int64 → List (List UInt8) → Option (List (List UInt8) × Unit) := ofixA (61 : Nat)
 [PT.bytes, PT.int IntKind.u8, PT.int IntKind.i64, PT.int IntKind.i64, PT.list (CTs.cons CT.str CTs.nil)] F41_L61
def F41 : Nat → List UInt8 × UInt8 → Option (List (List UInt8) × Unit) := fun (n : Nat) (x : List UInt8 × UInt8) => F41_R61 n (Prod.fst x) (Prod.snd x) (0 : Int64) (0 : Int64) []
theorem F41_R61_s  (m_ : Nat) : F41_R61  (m_ + 1) = F41_L61  (F41_R61  m_) := rfl
theorem ok41 (n : Nat) : FunOK Tryd.prog ⟨41, sig41, F41 n⟩ :=
 fun_ok (hints := ⟨[], [(61, ⟨[(0, .one (.str)), (1, .one (.int .u8)), (5, .one (.own 2)), (6, .one (.int .i64)), (7, .one (.int .i64))], [(2, .row (.cons .str .nil))], 3⟩)]⟩) (fuel := n) (c := Tryd.f41.body.getD .skip) (rs := Tryd.f41.results.toList) tt_ok mix (FsOK.nil) Tryd.func41 (by kernel_rfl) (by kernel_rfl) rfl (by kernel_rfl) rfl rfl (by kernel_rfl)
-- watchfire/watchfireref17.at
def sig42 : Sig := ⟨(.cons (.one (.c .str)) (.cons (.one (.c .str)) .nil)), (.cons (.one (.c (.int .i64))) .nil)⟩
def F42_L13 : Arr [PT.bytes, PT.bytes, PT.int IntKind.i64] (Option (Int64 × Unit)) →
 List UInt8 → List UInt8 → Int64 → Option (Int64 × Unit) := fun (rec : Arr [PT.bytes, PT.bytes, PT.int IntKind.i64] (Option (Int64 × Unit))) (s x_ : List UInt8) (i : Int64) =>
 oite (decide (i + Int64.ofInt ↑(List.length x_) ≤ Int64.ofInt ↑(List.length s)))
 (oite
 (decide ((0 : Int) ≤ Int64.toInt (i + Int64.ofInt ↑(List.length x_))) &&
 Nat.ble (Int.toNat (Int64.toInt (i + Int64.ofInt ↑(List.length x_)))) (List.length s) &&
 (decide ((0 : Int) ≤ Int64.toInt i) &&
 Nat.ble (Int.toNat (Int64.toInt i)) (Int.toNat (Int64.toInt (i + Int64.ofInt ↑(List.length x_))))))
 (oite
 (List.drop (Int.toNat (Int64.toInt i))
 (List.take (Int.toNat (Int64.toInt (i + Int64.ofInt ↑(List.length x_)))) s) ==
 x_)
 (some (i, ())) (rec s x_ (i + (1 : Int64))))
 none)
 (some ((-1 : Int64), ()))
def F42_R13 : Nat → PT.T PT.bytes → List UInt8 → Int64 → Option (Int64 × Unit) := ofixA (13 : Nat) [PT.bytes, PT.bytes, PT.int IntKind.i64] F42_L13
def F42 : Nat → List UInt8 × List UInt8 → Option (Int64 × Unit) := fun (n : Nat) (x : List UInt8 × List UInt8) => F42_R13 n (Prod.fst x) (Prod.snd x) (0 : Int64)
theorem F42_R13_s  (m_ : Nat) : F42_R13  (m_ + 1) = F42_L13  (F42_R13  m_) := rfl
theorem ok42 (n : Nat) : FunOK Tryd.prog ⟨42, sig42, F42 n⟩ :=
 fun_ok (hints := ⟨[], [(13, ⟨[(0, .one (.str)), (1, .one (.str)), (5, .one (.int .i64))], [], 2⟩)]⟩) (fuel := n) (c := Tryd.f42.body.getD .skip) (rs := Tryd.f42.results.toList) tt_ok mix (FsOK.nil) Tryd.func42 (by kernel_rfl) (by kernel_rfl) rfl (by kernel_rfl) rfl rfl (by kernel_rfl)
-- watchfire/watchfireref17.Parse
def sig23 : Sig := ⟨(.cons (.one (.c .str)) .nil), (.cons (.one (.c (.ro (.cons .str (.cons (.int .i64) (.cons .str .nil)))))) (.cons (.one (.c (.int .i64))) .nil))⟩
def F23_J32683 : Nat →
 Arr
 [PT.list (CTs.cons CT.str CTs.nil), PT.int IntKind.i64, PT.list (CTs.cons CT.str CTs.nil),
 PT.list (CTs.cons (CT.int IntKind.i64) CTs.nil),
 PT.list (CTs.cons CT.str (CTs.cons (CT.int IntKind.i64) (CTs.cons CT.str CTs.nil)))]
 (Option ((List (List UInt8 × Int64 × List UInt8) × Int64) × Unit)) →
 List (List UInt8) →
 Int64 →
 List (List UInt8) →
 List Int64 →
 List (List UInt8 × Int64 × List UInt8) →
 List UInt8 → Int64 → List UInt8 → Option ((List (List UInt8 × Int64 × List UInt8) × Int64) × Unit) := fun (n : Nat)
 (rec :
 Arr
 [PT.list (CTs.cons CT.str CTs.nil), PT.int IntKind.i64, PT.list (CTs.cons CT.str CTs.nil),
 PT.list (CTs.cons (CT.int IntKind.i64) CTs.nil),
 PT.list (CTs.cons CT.str (CTs.cons (CT.int IntKind.i64) (CTs.cons CT.str CTs.nil)))]
 (Option ((List (List UInt8 × Int64 × List UInt8) × Int64) × Unit)))
 (parts_1 : List (List UInt8)) (i_1 : Int64) (signs_1 : List (List UInt8)) (ops_1 : List Int64)
 (out_1 : List (List UInt8 × Int64 × List UInt8)) (a0 : List UInt8) (a1 : Int64) (a2 : List UInt8) =>
 obind (F20 n (a0, a1, a2)) fun (x_3 : Int64 × Unit) =>
 oite (!decide (Prod.fst x_3 = (0 : Int64)))
 (some ((@List.nil (List UInt8 × Int64 × List UInt8), Prod.fst x_3), ()))
 (oite (decide (Int64.ofInt ↑(List.length out_1) = (8 : Int64)))
 (some ((@List.nil (List UInt8 × Int64 × List UInt8), (5 : Int64)), ()))
 (oite (Nat.ble (List.length out_1 + List.length [(a0, a1, a2)]) (4294967296 : Nat))
 (rec parts_1 (i_1 + (1 : Int64)) signs_1 ops_1 (out_1 ++ [(a0, a1, a2)])) none))
def F23_L522935 : Nat →
 Arr
 [PT.list (CTs.cons CT.str CTs.nil), PT.int IntKind.i64, PT.list (CTs.cons CT.str CTs.nil),
 PT.list (CTs.cons (CT.int IntKind.i64) CTs.nil),
 PT.list (CTs.cons CT.str (CTs.cons (CT.int IntKind.i64) (CTs.cons CT.str CTs.nil))), PT.bytes,
 PT.int IntKind.i64, PT.bytes]
 (Option ((List (List UInt8 × Int64 × List UInt8) × Int64) × Unit)) →
 Arr
 [PT.list (CTs.cons CT.str CTs.nil), PT.int IntKind.i64, PT.bytes, PT.int IntKind.i64,
 PT.list (CTs.cons CT.str CTs.nil), PT.list (CTs.cons (CT.int IntKind.i64) CTs.nil),
 PT.list (CTs.cons CT.str (CTs.cons (CT.int IntKind.i64) (CTs.cons CT.str CTs.nil))), PT.bytes,
 PT.int IntKind.i64, PT.bytes]
 (Option ((List (List UInt8 × Int64 × List UInt8) × Int64) × Unit)) →
 List (List UInt8) →
 Int64 →
 List UInt8 →
 Int64 →
 List (List UInt8) →
 List Int64 →
 List (List UInt8 × Int64 × List UInt8) →
 List UInt8 → Int64 → List UInt8 → Option ((List (List UInt8 × Int64 × List UInt8) × Int64) × Unit) := fun (n : Nat)
 (J :
 Arr
 [PT.list (CTs.cons CT.str CTs.nil), PT.int IntKind.i64, PT.list (CTs.cons CT.str CTs.nil),
 PT.list (CTs.cons (CT.int IntKind.i64) CTs.nil),
 PT.list (CTs.cons CT.str (CTs.cons (CT.int IntKind.i64) (CTs.cons CT.str CTs.nil))), PT.bytes,
 PT.int IntKind.i64, PT.bytes]
 (Option ((List (List UInt8 × Int64 × List UInt8) × Int64) × Unit)))
 (rec_1 :
 Arr
 [PT.list (CTs.cons CT.str CTs.nil), PT.int IntKind.i64, PT.bytes, PT.int IntKind.i64,
 PT.list (CTs.cons CT.str CTs.nil), PT.list (CTs.cons (CT.int IntKind.i64) CTs.nil),
 PT.list (CTs.cons CT.str (CTs.cons (CT.int IntKind.i64) (CTs.cons CT.str CTs.nil))), PT.bytes,
 PT.int IntKind.i64, PT.bytes]
 (Option ((List (List UInt8 × Int64 × List UInt8) × Int64) × Unit)))
 (parts_2 : List (List UInt8)) (i_2 : Int64) (x__1 : List UInt8) (k : Int64) (signs_2 : List (List UInt8))
 (ops_2 : List Int64) (out_2 : List (List UInt8 × Int64 × List UInt8)) (a0_1 : List UInt8) (a1_1 : Int64)
 (a2_1 : List UInt8) =>
 oite (decide ((0 : Int64) ≤ k))
 (oite (decide ((0 : Int) ≤ Int64.toInt k) && Nat.blt (Int.toNat (Int64.toInt k)) (List.length signs_2))
 (obind signs_2[Int.toNat (Int64.toInt k)]? fun (x_3 : List UInt8) =>
 obind (F42 n (x__1, x_3)) fun (x_4 : Int64 × Unit) =>
 oite (decide ((0 : Int64) ≤ Prod.fst x_4))
 (oite
 (decide ((0 : Int) ≤ Int64.toInt (Prod.fst x_4)) &&
 Nat.ble (Int.toNat (Int64.toInt (Prod.fst x_4))) (List.length x__1) &&
 true)
 (oite (decide ((0 : Int) ≤ Int64.toInt k) && Nat.blt (Int.toNat (Int64.toInt k)) (List.length ops_2))
 (obind ops_2[Int.toNat (Int64.toInt k)]? fun (x_5 : Int64) =>
 oite (decide ((0 : Int) ≤ Int64.toInt k) && Nat.blt (Int.toNat (Int64.toInt k)) (List.length signs_2))
 (obind signs_2[Int.toNat (Int64.toInt k)]? fun (x_6 : List UInt8) =>
 oite
 (decide ((0 : Int) ≤ Int64.toInt (Prod.fst x_4 + Int64.ofInt ↑(List.length x_6))) &&
 Nat.ble (Int.toNat (Int64.toInt (Prod.fst x_4 + Int64.ofInt ↑(List.length x_6))))
 (List.length x__1))
 (rec_1 parts_2 i_2 x__1 (k - (1 : Int64)) signs_2 ops_2 out_2
 (List.drop (0 : Nat) (List.take (Int.toNat (Int64.toInt (Prod.fst x_4))) x__1)) x_5
 (List.drop (Int.toNat (Int64.toInt (Prod.fst x_4 + Int64.ofInt ↑(List.length x_6))))
 (List.take (List.length x__1) x__1)))
 none)
 none)
 none)
 none)
 (rec_1 parts_2 i_2 x__1 (k - (1 : Int64)) signs_2 ops_2 out_2 a0_1 a1_1 a2_1))
 none)
 (J parts_2 i_2 signs_2 ops_2 out_2 a0_1 a1_1 a2_1)
def F23_R522935 : Nat →
 Arr
 [PT.list (CTs.cons CT.str CTs.nil), PT.int IntKind.i64, PT.list (CTs.cons CT.str CTs.nil),
 PT.list (CTs.cons (CT.int IntKind.i64) CTs.nil),
 PT.list (CTs.cons CT.str (CTs.cons (CT.int IntKind.i64) (CTs.cons CT.str CTs.nil))), PT.bytes,
 PT.int IntKind.i64, PT.bytes]
 (Option ((List (List UInt8 × Int64 × List UInt8) × Int64) × Unit)) →
 Nat →
 PT.T (PT.list (CTs.cons CT.str CTs.nil)) →
 Int64 →
 List UInt8 →
 Int64 →
 List (List UInt8) →
 List Int64 →
 List (List UInt8 × Int64 × List UInt8) →
 List UInt8 → Int64 → List UInt8 → Option ((List (List UInt8 × Int64 × List UInt8) × Int64) × Unit) := fun (n : Nat)
 (J :
 Arr
 [PT.list (CTs.cons CT.str CTs.nil), PT.int IntKind.i64, PT.list (CTs.cons CT.str CTs.nil),
 PT.list (CTs.cons (CT.int IntKind.i64) CTs.nil),
 PT.list (CTs.cons CT.str (CTs.cons (CT.int IntKind.i64) (CTs.cons CT.str CTs.nil))), PT.bytes,
 PT.int IntKind.i64, PT.bytes]
 (Option ((List (List UInt8 × Int64 × List UInt8) × Int64) × Unit))) =>
 ofixA (522935 : Nat)
 [PT.list (CTs.cons CT.str CTs.nil), PT.int IntKind.i64, PT.bytes, PT.int IntKind.i64,
 PT.list (CTs.cons CT.str CTs.nil), PT.list (CTs.cons (CT.int IntKind.i64) CTs.nil),
 PT.list (CTs.cons CT.str (CTs.cons (CT.int IntKind.i64) (CTs.cons CT.str CTs.nil))), PT.bytes, PT.int IntKind.i64,
 PT.bytes]
 (F23_L522935 n J)
def F23_J65366 : Nat →
 Arr
 [PT.list (CTs.cons CT.str CTs.nil), PT.int IntKind.i64, PT.list (CTs.cons CT.str CTs.nil),
 PT.list (CTs.cons (CT.int IntKind.i64) CTs.nil),
 PT.list (CTs.cons CT.str (CTs.cons (CT.int IntKind.i64) (CTs.cons CT.str CTs.nil))), PT.bytes,
 PT.int IntKind.i64, PT.bytes]
 (Option ((List (List UInt8 × Int64 × List UInt8) × Int64) × Unit)) →
 List (List UInt8) →
 Int64 →
 List UInt8 →
 Bool →
 List (List UInt8) →
 List Int64 →
 List (List UInt8 × Int64 × List UInt8) →
 List UInt8 → Int64 → List UInt8 → Option ((List (List UInt8 × Int64 × List UInt8) × Int64) × Unit) := fun (n : Nat)
 (J :
 Arr
 [PT.list (CTs.cons CT.str CTs.nil), PT.int IntKind.i64, PT.list (CTs.cons CT.str CTs.nil),
 PT.list (CTs.cons (CT.int IntKind.i64) CTs.nil),
 PT.list (CTs.cons CT.str (CTs.cons (CT.int IntKind.i64) (CTs.cons CT.str CTs.nil))), PT.bytes,
 PT.int IntKind.i64, PT.bytes]
 (Option ((List (List UInt8 × Int64 × List UInt8) × Int64) × Unit)))
 (parts_1 : List (List UInt8)) (i_1 : Int64) (x_ : List UInt8) (t : Bool) (signs_1 : List (List UInt8))
 (ops_1 : List Int64) (out_1 : List (List UInt8 × Int64 × List UInt8)) (a0 : List UInt8) (a1 : Int64)
 (a2 : List UInt8) =>
 oite t
 (oite (Nat.ble (Int.toNat (Int64.toInt (1 : Int64))) (List.length x_))
 (J parts_1 i_1 signs_1 ops_1 out_1
 (List.drop (Int.toNat (Int64.toInt (1 : Int64))) (List.take (List.length x_) x_)) (5 : Int64) [])
 none)
 (F23_R522935 n J n parts_1 i_1 x_ (2 : Int64) signs_1 ops_1 out_1 a0 a1 a2)
def F23_L1021 : Nat →
 Arr
 [PT.list (CTs.cons CT.str CTs.nil), PT.int IntKind.i64, PT.list (CTs.cons CT.str CTs.nil),
 PT.list (CTs.cons (CT.int IntKind.i64) CTs.nil),
 PT.list (CTs.cons CT.str (CTs.cons (CT.int IntKind.i64) (CTs.cons CT.str CTs.nil)))]
 (Option ((List (List UInt8 × Int64 × List UInt8) × Int64) × Unit)) →
 List (List UInt8) →
 Int64 →
 List (List UInt8) →
 List Int64 →
 List (List UInt8 × Int64 × List UInt8) → Option ((List (List UInt8 × Int64 × List UInt8) × Int64) × Unit) := fun (n : Nat)
 (rec :
 Arr
 [PT.list (CTs.cons CT.str CTs.nil), PT.int IntKind.i64, PT.list (CTs.cons CT.str CTs.nil),
 PT.list (CTs.cons (CT.int IntKind.i64) CTs.nil),
 PT.list (CTs.cons CT.str (CTs.cons (CT.int IntKind.i64) (CTs.cons CT.str CTs.nil)))]
 (Option ((List (List UInt8 × Int64 × List UInt8) × Int64) × Unit)))
 (parts : List (List UInt8)) (i : Int64) (signs : List (List UInt8)) (ops : List Int64)
 (out : List (List UInt8 × Int64 × List UInt8)) =>
 oite (decide (i < Int64.ofInt ↑(List.length parts)))
 (obind (at? parts (Int64.toInt i)) fun (x_2 : List UInt8) =>
 ojoinA (32683 : Nat)
 [PT.list (CTs.cons CT.str CTs.nil), PT.int IntKind.i64, PT.list (CTs.cons CT.str CTs.nil),
 PT.list (CTs.cons (CT.int IntKind.i64) CTs.nil),
 PT.list (CTs.cons CT.str (CTs.cons (CT.int IntKind.i64) (CTs.cons CT.str CTs.nil))), PT.bytes,
 PT.int IntKind.i64, PT.bytes]
 (fun
 (J :
 Arr
 [PT.list (CTs.cons CT.str CTs.nil), PT.int IntKind.i64, PT.list (CTs.cons CT.str CTs.nil),
 PT.list (CTs.cons (CT.int IntKind.i64) CTs.nil),
 PT.list (CTs.cons CT.str (CTs.cons (CT.int IntKind.i64) (CTs.cons CT.str CTs.nil))), PT.bytes,
 PT.int IntKind.i64, PT.bytes]
 (Option ((List (List UInt8 × Int64 × List UInt8) × Int64) × Unit))) =>
 ojoinA (65366 : Nat)
 [PT.list (CTs.cons CT.str CTs.nil), PT.int IntKind.i64, PT.bytes, PT.bool,
 PT.list (CTs.cons CT.str CTs.nil), PT.list (CTs.cons (CT.int IntKind.i64) CTs.nil),
 PT.list (CTs.cons CT.str (CTs.cons (CT.int IntKind.i64) (CTs.cons CT.str CTs.nil))), PT.bytes,
 PT.int IntKind.i64, PT.bytes]
 (fun
 (J_1 :
 Arr
 [PT.list (CTs.cons CT.str CTs.nil), PT.int IntKind.i64, PT.bytes, PT.bool,
 PT.list (CTs.cons CT.str CTs.nil), PT.list (CTs.cons (CT.int IntKind.i64) CTs.nil),
 PT.list (CTs.cons CT.str (CTs.cons (CT.int IntKind.i64) (CTs.cons CT.str CTs.nil))), PT.bytes,
 PT.int IntKind.i64, PT.bytes]
 (Option ((List (List UInt8 × Int64 × List UInt8) × Int64) × Unit))) =>
 oite (decide ((0 : Int64) < Int64.ofInt ↑(List.length x_2)))
 (obind (at? x_2 (Int64.toInt (0 : Int64))) fun (x_3 : UInt8) =>
 J_1 parts i x_2 (decide (x_3 = (33 : UInt8))) signs ops out x_2 (4 : Int64) [])
 (J_1 parts i x_2 false signs ops out x_2 (4 : Int64) []))
 (F23_J65366 n J))
 (F23_J32683 n rec))
 (some ((out, (0 : Int64)), ()))
def F23_R1021 : Nat →
 Nat →
 PT.T (PT.list (CTs.cons CT.str CTs.nil)) →
 Int64 →
 List (List UInt8) →
 List Int64 →
 List (List UInt8 × Int64 × List UInt8) → Option ((List (List UInt8 × Int64 × List UInt8) × Int64) × Unit) := fun (n : Nat) =>
 ofixA (1021 : Nat)
 [PT.list (CTs.cons CT.str CTs.nil), PT.int IntKind.i64, PT.list (CTs.cons CT.str CTs.nil),
 PT.list (CTs.cons (CT.int IntKind.i64) CTs.nil),
 PT.list (CTs.cons CT.str (CTs.cons (CT.int IntKind.i64) (CTs.cons CT.str CTs.nil)))]
 (F23_L1021 n)
def F23 : Nat → List UInt8 → Option ((List (List UInt8 × Int64 × List UInt8) × Int64) × Unit) := fun (n : Nat) (x : List UInt8) =>
 oite (decide ((65536 : Int64) < Int64.ofInt ↑(List.length x)))
 (some ((@List.nil (List UInt8 × Int64 × List UInt8), (4 : Int64)), ()))
 (oite (x == [(42 : UInt8)]) (some ((@List.nil (List UInt8 × Int64 × List UInt8), (0 : Int64)), ()))
 (obind (F41 n (x, (44 : UInt8))) fun (x_1 : List (List UInt8) × Unit) =>
 F23_R1021 n n (Prod.fst x_1) (0 : Int64)
 [[(33 : UInt8), (61 : UInt8)], [(94 : UInt8), (61 : UInt8)], [(61 : UInt8)]]
 [(2 : Int64), (3 : Int64), (1 : Int64)] []))
theorem F23_R522935_s (n : Nat) (J : Arr [PT.list (CTs.cons CT.str CTs.nil), PT.int IntKind.i64, PT.list (CTs.cons CT.str CTs.nil), PT.list (CTs.cons (CT.int IntKind.i64) CTs.nil), PT.list (CTs.cons CT.str (CTs.cons (CT.int IntKind.i64) (CTs.cons CT.str CTs.nil))), PT.bytes, PT.int IntKind.i64, PT.bytes] (Option ((List (List UInt8 × Int64 × List UInt8) × Int64) × Unit))) (m_ : Nat) : F23_R522935 n J (m_ + 1) = F23_L522935 n J (F23_R522935 n J m_) := rfl
theorem F23_R1021_s (n : Nat) (m_ : Nat) : F23_R1021 n (m_ + 1) = F23_L1021 n (F23_R1021 n m_) := rfl
theorem ok23 (n : Nat) : FunOK Tryd.prog ⟨23, sig23, F23 n⟩ :=
 fun_ok (hints := ⟨[(32683, ⟨[(4, .one (.own 1)), (5, .one (.own 2)), (6, .one (.ro (.cons .str .nil))), (7, .one (.own 3)), (8, .one (.int .i64)), (10, .one (.own 4))], [(1, .row (.cons .str .nil)), (2, .row (.cons (.int .i64) .nil)), (3, .row (.cons .str (.cons (.int .i64) (.cons .str .nil)))), (4, .cells [.str, .int .i64, .str])], 5⟩), (65366, ⟨[(4, .one (.own 1)), (5, .one (.own 2)), (6, .one (.ro (.cons .str .nil))), (7, .one (.own 3)), (8, .one (.int .i64)), (9, .one (.str)), (10, .one (.own 4)), (42, .one (.bool))], [(1, .row (.cons .str .nil)), (2, .row (.cons (.int .i64) .nil)), (3, .row (.cons .str (.cons (.int .i64) (.cons .str .nil)))), (4, .cells [.str, .int .i64, .str])], 5⟩)], [(1021, ⟨[(4, .one (.own 1)), (5, .one (.own 2)), (6, .one (.ro (.cons .str .nil))), (7, .one (.own 3)), (8, .one (.int .i64))], [(1, .row (.cons .str .nil)), (2, .row (.cons (.int .i64) .nil)), (3, .row (.cons .str (.cons (.int .i64) (.cons .str .nil))))], 4⟩), (522935, ⟨[(4, .one (.own 1)), (5, .one (.own 2)), (6, .one (.ro (.cons .str .nil))), (7, .one (.own 3)), (8, .one (.int .i64)), (9, .one (.str)), (10, .one (.own 4)), (11, .one (.int .i64))], [(1, .row (.cons .str .nil)), (2, .row (.cons (.int .i64) .nil)), (3, .row (.cons .str (.cons (.int .i64) (.cons .str .nil)))), (4, .cells [.str, .int .i64, .str])], 5⟩)]⟩) (fuel := n) (c := Tryd.f23.body.getD .skip) (rs := Tryd.f23.results.toList) tt_ok mix (FsOK.cons (ok41 n) (FsOK.cons (ok42 n) (FsOK.cons (ok20 n) (FsOK.nil)))) Tryd.func23 (by kernel_rfl) (by kernel_rfl) rfl (by kernel_rfl) rfl rfl (by kernel_rfl)
-- watchfire/watchfireref17.Text
def sig24 : Sig := ⟨(.cons (.one (.c (.ro (.cons .str (.cons (.int .i64) (.cons .str .nil)))))) .nil), (.cons (.one (.c .str)) .nil)⟩
def F24_J245 : Arr [PT.list (CTs.cons CT.str (CTs.cons (CT.int IntKind.i64) (CTs.cons CT.str CTs.nil))), PT.bytes, PT.int IntKind.i64]
 (Option (List UInt8 × Unit)) →
 List (List UInt8 × Int64 × List UInt8) → List UInt8 → Int64 → Option (List UInt8 × Unit) := fun
 (rec :
 Arr
 [PT.list (CTs.cons CT.str (CTs.cons (CT.int IntKind.i64) (CTs.cons CT.str CTs.nil))), PT.bytes,
 PT.int IntKind.i64]
 (Option (List UInt8 × Unit)))
 (l_1 : List (List UInt8 × Int64 × List UInt8)) (s_1 : List UInt8) (i_1 : Int64) =>
 rec l_1 s_1 (i_1 + (1 : Int64))
def F24_J490 : Arr [PT.list (CTs.cons CT.str (CTs.cons (CT.int IntKind.i64) (CTs.cons CT.str CTs.nil))), PT.bytes, PT.int IntKind.i64]
 (Option (List UInt8 × Unit)) →
 List (List UInt8 × Int64 × List UInt8) → List UInt8 → Int64 → Option (List UInt8 × Unit) := fun
 (J :
 Arr
 [PT.list (CTs.cons CT.str (CTs.cons (CT.int IntKind.i64) (CTs.cons CT.str CTs.nil))), PT.bytes,
 PT.int IntKind.i64]
 (Option (List UInt8 × Unit)))
 (l_1 : List (List UInt8 × Int64 × List UInt8)) (s_1 : List UInt8) (i_1 : Int64) =>
 obind (at? l_1 (Int64.toInt i_1)) fun (x_1 : List UInt8 × Int64 × List UInt8) =>
 oite (decide (Prod.fst (Prod.snd x_1) = (1 : Int64)))
 (obind (at? l_1 (Int64.toInt i_1)) fun (x_2 : List UInt8 × Int64 × List UInt8) =>
 oite (Nat.ble (List.length s_1 + List.length (Prod.fst x_2)) (4294967296 : Nat))
 (oite (Nat.ble (List.length (s_1 ++ Prod.fst x_2) + List.length [(61 : UInt8)]) (4294967296 : Nat))
 (obind (at? l_1 (Int64.toInt i_1)) fun (x_3 : List UInt8 × Int64 × List UInt8) =>
 oite
 (Nat.ble (List.length (s_1 ++ Prod.fst x_2 ++ [(61 : UInt8)]) + List.length (Prod.snd (Prod.snd x_3)))
 (4294967296 : Nat))
 (J l_1 (s_1 ++ Prod.fst x_2 ++ [(61 : UInt8)] ++ Prod.snd (Prod.snd x_3)) i_1) none)
 none)
 none)
 (oite (decide (Prod.fst (Prod.snd x_1) = (2 : Int64)))
 (obind (at? l_1 (Int64.toInt i_1)) fun (x_2 : List UInt8 × Int64 × List UInt8) =>
 oite (Nat.ble (List.length s_1 + List.length (Prod.fst x_2)) (4294967296 : Nat))
 (oite
 (Nat.ble (List.length (s_1 ++ Prod.fst x_2) + List.length [(33 : UInt8), (61 : UInt8)])
 (4294967296 : Nat))
 (obind (at? l_1 (Int64.toInt i_1)) fun (x_3 : List UInt8 × Int64 × List UInt8) =>
 oite
 (Nat.ble
 (List.length (s_1 ++ Prod.fst x_2 ++ [(33 : UInt8), (61 : UInt8)]) +
 List.length (Prod.snd (Prod.snd x_3)))
 (4294967296 : Nat))
 (J l_1 (s_1 ++ Prod.fst x_2 ++ [(33 : UInt8), (61 : UInt8)] ++ Prod.snd (Prod.snd x_3)) i_1) none)
 none)
 none)
 (oite (decide (Prod.fst (Prod.snd x_1) = (3 : Int64)))
 (obind (at? l_1 (Int64.toInt i_1)) fun (x_2 : List UInt8 × Int64 × List UInt8) =>
 oite (Nat.ble (List.length s_1 + List.length (Prod.fst x_2)) (4294967296 : Nat))
 (oite
 (Nat.ble (List.length (s_1 ++ Prod.fst x_2) + List.length [(94 : UInt8), (61 : UInt8)])
 (4294967296 : Nat))
 (obind (at? l_1 (Int64.toInt i_1)) fun (x_3 : List UInt8 × Int64 × List UInt8) =>
 oite
 (Nat.ble
 (List.length (s_1 ++ Prod.fst x_2 ++ [(94 : UInt8), (61 : UInt8)]) +
 List.length (Prod.snd (Prod.snd x_3)))
 (4294967296 : Nat))
 (J l_1 (s_1 ++ Prod.fst x_2 ++ [(94 : UInt8), (61 : UInt8)] ++ Prod.snd (Prod.snd x_3)) i_1) none)
 none)
 none)
 (oite (decide (Prod.fst (Prod.snd x_1) = (4 : Int64)))
 (obind (at? l_1 (Int64.toInt i_1)) fun (x_2 : List UInt8 × Int64 × List UInt8) =>
 oite (Nat.ble (List.length s_1 + List.length (Prod.fst x_2)) (4294967296 : Nat))
 (J l_1 (s_1 ++ Prod.fst x_2) i_1) none)
 (oite (decide (Prod.fst (Prod.snd x_1) = (5 : Int64)))
 (oite (Nat.ble (List.length s_1 + List.length [(33 : UInt8)]) (4294967296 : Nat))
 (obind (at? l_1 (Int64.toInt i_1)) fun (x_2 : List UInt8 × Int64 × List UInt8) =>
 oite (Nat.ble (List.length (s_1 ++ [(33 : UInt8)]) + List.length (Prod.fst x_2)) (4294967296 : Nat))
 (J l_1 (s_1 ++ [(33 : UInt8)] ++ Prod.fst x_2) i_1) none)
 none)
 (J l_1 s_1 i_1)))))
def F24_L61 : Arr [PT.list (CTs.cons CT.str (CTs.cons (CT.int IntKind.i64) (CTs.cons CT.str CTs.nil))), PT.bytes, PT.int IntKind.i64]
 (Option (List UInt8 × Unit)) →
 List (List UInt8 × Int64 × List UInt8) → List UInt8 → Int64 → Option (List UInt8 × Unit) := fun
 (rec :
 Arr
 [PT.list (CTs.cons CT.str (CTs.cons (CT.int IntKind.i64) (CTs.cons CT.str CTs.nil))), PT.bytes,
 PT.int IntKind.i64]
 (Option (List UInt8 × Unit)))
 (l : List (List UInt8 × Int64 × List UInt8)) (s : List UInt8) (i : Int64) =>
 oite (decide (i < Int64.ofInt ↑(List.length l)))
 (ojoinA (245 : Nat)
 [PT.list (CTs.cons CT.str (CTs.cons (CT.int IntKind.i64) (CTs.cons CT.str CTs.nil))), PT.bytes,
 PT.int IntKind.i64]
 (fun
 (J :
 Arr
 [PT.list (CTs.cons CT.str (CTs.cons (CT.int IntKind.i64) (CTs.cons CT.str CTs.nil))), PT.bytes,
 PT.int IntKind.i64]
 (Option (List UInt8 × Unit))) =>
 ojoinA (490 : Nat)
 [PT.list (CTs.cons CT.str (CTs.cons (CT.int IntKind.i64) (CTs.cons CT.str CTs.nil))), PT.bytes,
 PT.int IntKind.i64]
 (fun
 (J_1 :
 Arr
 [PT.list (CTs.cons CT.str (CTs.cons (CT.int IntKind.i64) (CTs.cons CT.str CTs.nil))), PT.bytes,
 PT.int IntKind.i64]
 (Option (List UInt8 × Unit))) =>
 oite (decide ((0 : Int64) < i))
 (oite (Nat.ble (List.length s + List.length [(44 : UInt8)]) (4294967296 : Nat))
 (J_1 l (s ++ [(44 : UInt8)]) i) none)
 (J_1 l s i))
 (F24_J490 J))
 (F24_J245 rec))
 (some (s, ()))
def F24_R61 : Nat →
 PT.T (PT.list (CTs.cons CT.str (CTs.cons (CT.int IntKind.i64) (CTs.cons CT.str CTs.nil)))) →
 List UInt8 → Int64 → Option (List UInt8 × Unit) := ofixA (61 : Nat)
 [PT.list (CTs.cons CT.str (CTs.cons (CT.int IntKind.i64) (CTs.cons CT.str CTs.nil))), PT.bytes, PT.int IntKind.i64]
 F24_L61
def F24 : Nat → List (List UInt8 × Int64 × List UInt8) → Option (List UInt8 × Unit) := fun (n : Nat) (x : List (List UInt8 × Int64 × List UInt8)) =>
 oite (decide (Int64.ofInt ↑(List.length x) = (0 : Int64))) (some ([(42 : UInt8)], ()))
 (F24_R61 n x [] (0 : Int64))
theorem F24_R61_s  (m_ : Nat) : F24_R61  (m_ + 1) = F24_L61  (F24_R61  m_) := rfl
theorem ok24 (n : Nat) : FunOK Tryd.prog ⟨24, sig24, F24 n⟩ :=
 fun_ok (hints := ⟨[(245, ⟨[(0, .one (.ro (.cons .str (.cons (.int .i64) (.cons .str .nil))))), (3, .one (.str)), (4, .one (.int .i64))], [], 1⟩), (490, ⟨[(0, .one (.ro (.cons .str (.cons (.int .i64) (.cons .str .nil))))), (3, .one (.str)), (4, .one (.int .i64))], [], 1⟩)], [(61, ⟨[(0, .one (.ro (.cons .str (.cons (.int .i64) (.cons .str .nil))))), (3, .one (.str)), (4, .one (.int .i64))], [], 1⟩)]⟩) (fuel := n) (c := Tryd.f24.body.getD .skip) (rs := Tryd.f24.results.toList) tt_ok mix (FsOK.nil) Tryd.func24 (by kernel_rfl) (by kernel_rfl) rfl (by kernel_rfl) rfl rfl (by kernel_rfl)
-- (watchfire/match.Asks).Check
def sig25 : Sig := ⟨(.cons (.one (.c (.ro (.cons .str (.cons (.int .u8) (.cons .str .nil)))))) .nil), (.cons (.one (.c (.int .i64))) .nil)⟩
def F25_L29 : Nat →
 Arr
 [PT.list (CTs.cons CT.str (CTs.cons (CT.int IntKind.u8) (CTs.cons CT.str CTs.nil))), PT.int IntKind.i64,
 PT.int IntKind.i64]
 (Option (Int64 × Unit)) →
 List (List UInt8 × UInt8 × List UInt8) → Int64 → Int64 → Option (Int64 × Unit) := fun (n : Nat)
 (rec :
 Arr
 [PT.list (CTs.cons CT.str (CTs.cons (CT.int IntKind.u8) (CTs.cons CT.str CTs.nil))), PT.int IntKind.i64,
 PT.int IntKind.i64]
 (Option (Int64 × Unit)))
 (t : List (List UInt8 × UInt8 × List UInt8)) (t_1 t_2 : Int64) =>
 oite (decide (t_2 < t_1))
 (obind (at? t (Int64.toInt t_2)) fun (x_1 : List UInt8 × UInt8 × List UInt8) =>
 obind (F19 n (Prod.fst x_1, Prod.fst (Prod.snd x_1), Prod.snd (Prod.snd x_1))) fun (x_2 : Int64 × Unit) =>
 oite (!decide (Prod.fst x_2 = (0 : Int64))) (some (Prod.fst x_2, ())) (rec t t_1 (t_2 + (1 : Int64))))
 (some ((0 : Int64), ()))
def F25_R29 : Nat →
 Nat →
 PT.T (PT.list (CTs.cons CT.str (CTs.cons (CT.int IntKind.u8) (CTs.cons CT.str CTs.nil)))) →
 Int64 → Int64 → Option (Int64 × Unit) := fun (n : Nat) =>
 ofixA (29 : Nat)
 [PT.list (CTs.cons CT.str (CTs.cons (CT.int IntKind.u8) (CTs.cons CT.str CTs.nil))), PT.int IntKind.i64,
 PT.int IntKind.i64]
 (F25_L29 n)
def F25 : Nat → List (List UInt8 × UInt8 × List UInt8) → Option (Int64 × Unit) := fun (n : Nat) (x : List (List UInt8 × UInt8 × List UInt8)) =>
 oite (decide ((8 : Int64) < Int64.ofInt ↑(List.length x))) (some ((5 : Int64), ()))
 (F25_R29 n n x (Int64.ofInt ↑(List.length x)) (0 : Int64))
theorem F25_R29_s (n : Nat) (m_ : Nat) : F25_R29 n (m_ + 1) = F25_L29 n (F25_R29 n m_) := rfl
theorem ok25 (n : Nat) : FunOK Tryd.prog ⟨25, sig25, F25 n⟩ :=
 fun_ok (hints := ⟨[], [(29, ⟨[(9, .one (.ro (.cons .str (.cons (.int .u8) (.cons .str .nil))))), (10, .one (.int .i64)), (11, .one (.int .i64))], [], 1⟩)]⟩) (fuel := n) (c := Tryd.f25.body.getD .skip) (rs := Tryd.f25.results.toList) tt_ok mix (FsOK.cons (ok19 n) (FsOK.nil)) Tryd.func25 (by kernel_rfl) (by kernel_rfl) rfl (by kernel_rfl) rfl rfl (by kernel_rfl)
-- watchfire/watchfireref17.Asks
def sig26 : Sig := ⟨(.cons (.one (.c (.ro (.cons .str (.cons (.int .i64) (.cons .str .nil)))))) .nil), (.cons (.one (.c (.int .i64))) .nil)⟩
def F26_L29 : Nat →
 Arr [PT.list (CTs.cons CT.str (CTs.cons (CT.int IntKind.i64) (CTs.cons CT.str CTs.nil))), PT.int IntKind.i64]
 (Option (Int64 × Unit)) →
 List (List UInt8 × Int64 × List UInt8) → Int64 → Option (Int64 × Unit) := fun (n : Nat)
 (rec :
 Arr [PT.list (CTs.cons CT.str (CTs.cons (CT.int IntKind.i64) (CTs.cons CT.str CTs.nil))), PT.int IntKind.i64]
 (Option (Int64 × Unit)))
 (l : List (List UInt8 × Int64 × List UInt8)) (i : Int64) =>
 oite (decide (i < Int64.ofInt ↑(List.length l)))
 (obind (at? l (Int64.toInt i)) fun (x_1 : List UInt8 × Int64 × List UInt8) =>
 obind (F20 n (Prod.fst x_1, Prod.fst (Prod.snd x_1), Prod.snd (Prod.snd x_1))) fun (x_2 : Int64 × Unit) =>
 oite (!decide (Prod.fst x_2 = (0 : Int64))) (some (Prod.fst x_2, ())) (rec l (i + (1 : Int64))))
 (some ((0 : Int64), ()))
def F26_R29 : Nat →
 Nat →
 PT.T (PT.list (CTs.cons CT.str (CTs.cons (CT.int IntKind.i64) (CTs.cons CT.str CTs.nil)))) →
 Int64 → Option (Int64 × Unit) := fun (n : Nat) =>
 ofixA (29 : Nat)
 [PT.list (CTs.cons CT.str (CTs.cons (CT.int IntKind.i64) (CTs.cons CT.str CTs.nil))), PT.int IntKind.i64]
 (F26_L29 n)
def F26 : Nat → List (List UInt8 × Int64 × List UInt8) → Option (Int64 × Unit) := fun (n : Nat) (x : List (List UInt8 × Int64 × List UInt8)) =>
 oite (decide ((8 : Int64) < Int64.ofInt ↑(List.length x))) (some ((5 : Int64), ()))
 (F26_R29 n n x (0 : Int64))
theorem F26_R29_s (n : Nat) (m_ : Nat) : F26_R29 n (m_ + 1) = F26_L29 n (F26_R29 n m_) := rfl
theorem ok26 (n : Nat) : FunOK Tryd.prog ⟨26, sig26, F26 n⟩ :=
 fun_ok (hints := ⟨[], [(29, ⟨[(0, .one (.ro (.cons .str (.cons (.int .i64) (.cons .str .nil))))), (3, .one (.int .i64))], [], 1⟩)]⟩) (fuel := n) (c := Tryd.f26.body.getD .skip) (rs := Tryd.f26.results.toList) tt_ok mix (FsOK.cons (ok20 n) (FsOK.nil)) Tryd.func26 (by kernel_rfl) (by kernel_rfl) rfl (by kernel_rfl) rfl rfl (by kernel_rfl)
-- watchfire/watchfirelaw17.MatchTexts
def sig5 : Sig := ⟨(.cons (.one (.c .str)) (.cons (.one (.c (.ro (.cons (.int .u8) .nil)))) (.cons (.one (.c (.ro (.cons .str (.cons (.int .u8) (.cons .str .nil)))))) .nil))), (.cons (.one (.c .bool)) .nil)⟩
noncomputable def F5_L509 : Nat →
 Arr
 [PT.list (CTs.cons CT.str (CTs.cons (CT.int IntKind.u8) (CTs.cons CT.str CTs.nil))), PT.int IntKind.i64,
 PT.int IntKind.i64, PT.list (CTs.cons CT.str CTs.nil)]
 (Option (Bool × Unit)) →
 List (List UInt8 × UInt8 × List UInt8) → Int64 → Int64 → List (List UInt8) → Option (Bool × Unit) := fun (n : Nat)
 (rec_1 :
 Arr
 [PT.list (CTs.cons CT.str (CTs.cons (CT.int IntKind.u8) (CTs.cons CT.str CTs.nil))), PT.int IntKind.i64,
 PT.int IntKind.i64, PT.list (CTs.cons CT.str CTs.nil)]
 (Option (Bool × Unit)))
 (asks_1 : List (List UInt8 × UInt8 × List UInt8)) (t_3 t_1_1 : Int64) (t_2_1 : List (List UInt8)) =>
 oite (decide (t_1_1 < t_3))
 (oite (decide ((0 : Int) ≤ Int64.toInt t_1_1) && Nat.blt (Int.toNat (Int64.toInt t_1_1)) (List.length t_2_1))
 (obind t_2_1[Int.toNat (Int64.toInt t_1_1)]? fun (x_3 : List UInt8) =>
 obind (F22 n x_3) fun (x_4 : (List (List UInt8 × UInt8 × List UInt8) × Int64) × Unit) =>
 obind (F23 n x_3) fun (x_5 : (List (List UInt8 × Int64 × List UInt8) × Int64) × Unit) =>
 oite (!decide (Prod.snd (Prod.fst x_4) = Prod.snd (Prod.fst x_5))) (some (false, ()))
 (obind (F13 n (Prod.fst (Prod.fst x_4))) fun (x_6 : List (List UInt8 × Int64 × List UInt8) × Unit) =>
 obind (F12 n (Prod.fst x_6, Prod.fst (Prod.fst x_5))) fun (x_7 : Bool × Unit) =>
 oite (!Prod.fst x_7) (some (false, ())) (rec_1 asks_1 t_3 (t_1_1 + (1 : Int64)) t_2_1)))
 none)
 (obind (F21 n asks_1) fun (x_3 : List UInt8 × Unit) =>
 obind (F13 n asks_1) fun (x_4 : List (List UInt8 × Int64 × List UInt8) × Unit) =>
 obind (F24 n (Prod.fst x_4)) fun (x_5 : List UInt8 × Unit) =>
 oite (Prod.fst x_3 == Prod.fst x_5)
 (obind (F25 n asks_1) fun (x_6 : Int64 × Unit) =>
 obind (F13 n asks_1) fun (x_7 : List (List UInt8 × Int64 × List UInt8) × Unit) =>
 obind (F26 n (Prod.fst x_7)) fun (x_8 : Int64 × Unit) =>
 some (decide (Prod.fst x_6 = Prod.fst x_8), ()))
 (some (false, ())))
noncomputable def F5_R509 : Nat →
 Nat →
 PT.T (PT.list (CTs.cons CT.str (CTs.cons (CT.int IntKind.u8) (CTs.cons CT.str CTs.nil)))) →
 Int64 → Int64 → List (List UInt8) → Option (Bool × Unit) := fun (n : Nat) =>
 ofixA (509 : Nat)
 [PT.list (CTs.cons CT.str (CTs.cons (CT.int IntKind.u8) (CTs.cons CT.str CTs.nil))), PT.int IntKind.i64,
 PT.int IntKind.i64, PT.list (CTs.cons CT.str CTs.nil)]
 (F5_L509 n)
noncomputable def F5_L253 : Nat →
 Arr
 [PT.bytes, PT.list (CTs.cons CT.str (CTs.cons (CT.int IntKind.u8) (CTs.cons CT.str CTs.nil))), PT.bytes,
 PT.list (CTs.cons (CT.int IntKind.u8) CTs.nil), PT.int IntKind.i64, PT.int IntKind.i64,
 PT.list (CTs.cons CT.str CTs.nil)]
 (Option (Bool × Unit)) →
 List UInt8 →
 List (List UInt8 × UInt8 × List UInt8) →
 List UInt8 → List UInt8 → Int64 → Int64 → List (List UInt8) → Option (Bool × Unit) := fun (n : Nat)
 (rec :
 Arr
 [PT.bytes, PT.list (CTs.cons CT.str (CTs.cons (CT.int IntKind.u8) (CTs.cons CT.str CTs.nil))), PT.bytes,
 PT.list (CTs.cons (CT.int IntKind.u8) CTs.nil), PT.int IntKind.i64, PT.int IntKind.i64,
 PT.list (CTs.cons CT.str CTs.nil)]
 (Option (Bool × Unit)))
 (s : List UInt8) (asks : List (List UInt8 × UInt8 × List UInt8)) (text t : List UInt8) (t_1 t_2 : Int64)
 (some : List (List UInt8)) =>
 oite (decide (t_2 < t_1))
 (obind (at? t (Int64.toInt t_2)) fun (x_2 : UInt8) =>
 oite (decide (t_2 < (20 : Int64)))
 (oite (decide (Int64.ofInt ↑(UInt8.toNat x_2) < Int64.ofInt ↑(List.length some)))
 (oite
 (decide ((0 : Int) ≤ Int64.toInt (Int64.ofInt ↑(UInt8.toNat x_2))) &&
 Nat.blt (Int.toNat (Int64.toInt (Int64.ofInt ↑(UInt8.toNat x_2)))) (List.length some))
 (obind some[Int.toNat (Int64.toInt (Int64.ofInt ↑(UInt8.toNat x_2)))]? fun (x_3 : List UInt8) =>
 oite (Nat.ble (List.length text + List.length x_3) (4294967296 : Nat))
 (rec s asks (text ++ x_3) t t_1 (t_2 + (1 : Int64)) some) none)
 none)
 (oite (Nat.ble (List.length text + List.length [(44 : UInt8)]) (4294967296 : Nat))
 (rec s asks (text ++ [(44 : UInt8)]) t t_1 (t_2 + (1 : Int64)) some) none))
 (rec s asks text t t_1 (t_2 + (1 : Int64)) some))
 (obind (F21 n asks) fun (x_2 : List UInt8 × Unit) =>
 F5_R509 n n asks (Int64.ofInt ↑(List.length [s, text, Prod.fst x_2])) (0 : Int64) [s, text, Prod.fst x_2])
noncomputable def F5_R253 : Nat →
 Nat →
 PT.T PT.bytes →
 List (List UInt8 × UInt8 × List UInt8) →
 List UInt8 → List UInt8 → Int64 → Int64 → List (List UInt8) → Option (Bool × Unit) := fun (n : Nat) =>
 ofixA (253 : Nat)
 [PT.bytes, PT.list (CTs.cons CT.str (CTs.cons (CT.int IntKind.u8) (CTs.cons CT.str CTs.nil))), PT.bytes,
 PT.list (CTs.cons (CT.int IntKind.u8) CTs.nil), PT.int IntKind.i64, PT.int IntKind.i64,
 PT.list (CTs.cons CT.str CTs.nil)]
 (F5_L253 n)
noncomputable def F5 : Nat → List UInt8 × List UInt8 × List (List UInt8 × UInt8 × List UInt8) → Option (Bool × Unit) := fun (n : Nat) (x : List UInt8 × List UInt8 × List (List UInt8 × UInt8 × List UInt8)) =>
 obind (F7 n ()) fun (x_1 : Bool × Unit) =>
 oite (!Prod.fst x_1) (some (false, ()))
 (oite (decide ((300 : Int64) < Int64.ofInt ↑(List.length (Prod.fst x)))) (some (true, ()))
 (oite (decide ((12 : Int64) < Int64.ofInt ↑(List.length (Prod.snd (Prod.snd x))))) (some (true, ()))
 (F5_R253 n n (Prod.fst x) (Prod.snd (Prod.snd x)) [] (Prod.fst (Prod.snd x))
 (Int64.ofInt ↑(List.length (Prod.fst (Prod.snd x)))) (0 : Int64)
 [[(97 : UInt8), (61 : UInt8), (98 : UInt8)], [(44 : UInt8)],
 [(97 : UInt8), (33 : UInt8), (61 : UInt8), (98 : UInt8)],
 [(97 : UInt8), (94 : UInt8), (61 : UInt8), (98 : UInt8), (46 : UInt8)], [(33 : UInt8), (97 : UInt8)],
 [(97 : UInt8)], [(42 : UInt8)], [(61 : UInt8)], [(33 : UInt8)],
 [(97 : UInt8), (61 : UInt8), (98 : UInt8), (33 : UInt8), (61 : UInt8), (99 : UInt8)],
 [(65 : UInt8), (61 : UInt8), (98 : UInt8)], [(97 : UInt8), (61 : UInt8)],
 [(97 : UInt8), (94 : UInt8), (61 : UInt8)],
 [(120 : UInt8), (61 : UInt8), (121 : UInt8), (94 : UInt8), (61 : UInt8), (122 : UInt8)],
 [(116 : UInt8), (111 : UInt8), (111 : UInt8), (108 : UInt8), (111 : UInt8), (110 : UInt8), (103 : UInt8),
 (107 : UInt8), (101 : UInt8), (121 : UInt8), (61 : UInt8), (97 : UInt8)],
 [(97 : UInt8), (61 : UInt8), (33 : UInt8)]])))
theorem F5_R509_s (n : Nat) (m_ : Nat) : F5_R509 n (m_ + 1) = F5_L509 n (F5_R509 n m_) := rfl
theorem F5_R253_s (n : Nat) (m_ : Nat) : F5_R253 n (m_ + 1) = F5_L253 n (F5_R253 n m_) := rfl
theorem ok5 (n : Nat) : FunOK Tryd.prog ⟨5, sig5, F5 n⟩ :=
 fun_ok (hints := ⟨[], [(253, ⟨[(0, .one (.str)), (2, .one (.ro (.cons .str (.cons (.int .u8) (.cons .str .nil))))), (7, .one (.own 3)), (8, .one (.str)), (29, .one (.ro (.cons (.int .u8) .nil))), (30, .one (.int .i64)), (31, .one (.int .i64))], [(3, .row (.cons .str .nil))], 4⟩), (509, ⟨[(2, .one (.ro (.cons .str (.cons (.int .u8) (.cons .str .nil))))), (57, .one (.own 3)), (58, .one (.int .i64)), (59, .one (.int .i64))], [(3, .row (.cons .str .nil))], 4⟩)]⟩) (fuel := n) (c := Tryd.f5.body.getD .skip) (rs := Tryd.f5.results.toList) tt_ok mix (FsOK.cons (ok7 n) (FsOK.cons (ok21 n) (FsOK.cons (ok22 n) (FsOK.cons (ok23 n) (FsOK.cons (ok13 n) (FsOK.cons (ok12 n) (FsOK.cons (ok24 n) (FsOK.cons (ok25 n) (FsOK.cons (ok26 n) (FsOK.nil)))))))))) Tryd.func5 (by kernel_rfl) (by kernel_rfl) rfl (by kernel_rfl) rfl rfl (by kernel_rfl)
-- watchfire/watchfirelaw17.MatchBack
def sig6 : Sig := ⟨(.cons (.one (.c (.ro (.cons (.int .u8) (.cons (.int .u8) (.cons (.int .u8) .nil)))))) .nil), (.cons (.one (.c .bool)) .nil)⟩
noncomputable def F6 : Nat → List (UInt8 × UInt8 × UInt8) → Option (Bool × Unit) := fun (n : Nat) (x : List (UInt8 × UInt8 × UInt8)) =>
 obind (F7 n ()) fun (x_1 : Bool × Unit) =>
 oite (!Prod.fst x_1) (some (false, ()))
 (obind (F14 n (x, (8 : Int64))) fun (x_2 : List (List UInt8 × UInt8 × List UInt8) × Unit) =>
 obind (F21 n (Prod.fst x_2)) fun (x_3 : List UInt8 × Unit) =>
 obind (F22 n (Prod.fst x_3)) fun (x_4 : (List (List UInt8 × UInt8 × List UInt8) × Int64) × Unit) =>
 oite (decide (Prod.snd (Prod.fst x_4) = (0 : Int64)))
 (obind (F11 n (Prod.fst (Prod.fst x_4), Prod.fst x_2)) fun (x_5 : Bool × Unit) =>
 oite (Prod.fst x_5)
 (obind (F13 n (Prod.fst (Prod.fst x_4))) fun (x_6 : List (List UInt8 × Int64 × List UInt8) × Unit) =>
 obind (F13 n (Prod.fst x_2)) fun (x_7 : List (List UInt8 × Int64 × List UInt8) × Unit) =>
 obind (F12 n (Prod.fst x_6, Prod.fst x_7)) fun (x_8 : Bool × Unit) =>
 oite (Prod.fst x_8)
 (obind (F25 n (Prod.fst x_2)) fun (x_9 : Int64 × Unit) =>
 some (decide (Prod.fst x_9 = (0 : Int64)), ()))
 (some (false, ())))
 (some (false, ())))
 (some (false, ())))
theorem ok6 (n : Nat) : FunOK Tryd.prog ⟨6, sig6, F6 n⟩ :=
 fun_ok (hints := ⟨[], []⟩) (fuel := n) (c := Tryd.f6.body.getD .skip) (rs := Tryd.f6.results.toList) tt_ok mix (FsOK.cons (ok7 n) (FsOK.cons (ok14 n) (FsOK.cons (ok21 n) (FsOK.cons (ok22 n) (FsOK.cons (ok11 n) (FsOK.cons (ok13 n) (FsOK.cons (ok12 n) (FsOK.cons (ok25 n) (FsOK.nil))))))))) Tryd.func6 (by kernel_rfl) (by kernel_rfl) rfl (by kernel_rfl) rfl rfl (by kernel_rfl)
end Go.Proofs.YtimmkhgbnfihgaaDoor
