/- What the functions of this seat compute, found by walking their code symbolically: each F is what the walk finds, each ok says that the Go function keeps it as a contract. Printed by a program of this repo's. -/
import Derived.Test.YtcfckkmiaeegpaaFns4
open Go Go.Sx
namespace Go.Proofs.Ytcfckkmiaeegpaa
set_option maxRecDepth 100000
set_option linter.unusedVariables false
-- (watchfire/watchfirelaw18.Alert).Alert
def sig7 : Sig := ⟨(.cons (.agg (.cons (.int .u8) (.cons (.int .u8) (.cons (.int .u8) (.cons (.int .u8) (.cons (.int .u8) (.cons (.int .u8) .nil))))))) .nil), (.cons (.agg zc4) .nil)⟩
def F7_L29 : Arr
 [PT.int IntKind.i64, PT.int IntKind.i64, PT.int IntKind.u8, PT.bytes, PT.int IntKind.u8, PT.int IntKind.u64,
 PT.int IntKind.u8, PT.int IntKind.i64, PT.int IntKind.u8, PT.bytes, PT.int IntKind.u8, PT.int IntKind.u64,
 PT.int IntKind.u8, PT.int IntKind.i64, PT.list (CTs.cons (CT.int IntKind.u8) CTs.nil),
 PT.list zc5]
 (Option (zt3 × Unit)) →
 Int64 →
 Int64 →
 UInt8 →
 List UInt8 →
 UInt8 →
 UInt64 →
 UInt8 →
 Int64 →
 UInt8 →
 List UInt8 →
 UInt8 →
 UInt64 →
 UInt8 →
 Int64 →
 List UInt8 →
 List zt10 →
 Option
 (zt3 ×
 Unit) := fun
 (rec :
 Arr
 [PT.int IntKind.i64, PT.int IntKind.i64, PT.int IntKind.u8, PT.bytes, PT.int IntKind.u8, PT.int IntKind.u64,
 PT.int IntKind.u8, PT.int IntKind.i64, PT.int IntKind.u8, PT.bytes, PT.int IntKind.u8, PT.int IntKind.u64,
 PT.int IntKind.u8, PT.int IntKind.i64, PT.list (CTs.cons (CT.int IntKind.u8) CTs.nil),
 PT.list zc5]
 (Option (zt3 × Unit)))
 (t t_1 : Int64) (t0 : UInt8) (t1 : List UInt8) (t3 : UInt8) (t4 : UInt64) (t5 : UInt8) (t6 : Int64) (a0 : UInt8)
 (a1 : List UInt8) (a3 : UInt8) (a4 : UInt64) (a5 : UInt8) (a6 : Int64) (t_2 : List UInt8)
 (al : List zt10) =>
 oite (decide (t_1 < t))
 (oite (decide ((0 : Int) ≤ Int64.toInt t_1) && Nat.blt (Int.toNat (Int64.toInt t_1)) (List.length t_2))
 (obind t_2[Int.toNat (Int64.toInt t_1)]? fun (x_3 : UInt8) =>
 oite (decide ((0 : UInt8) < x_3 % (3 : UInt8)))
 (oite
 (decide ((0 : Int) ≤ Int64.toInt t_1) &&
 Nat.blt (Int.toNat (Int64.toInt t_1))
 (List.length
 [[(97 : UInt8)], [(98 : UInt8)], [(110 : UInt8), (111 : UInt8), (100 : UInt8), (101 : UInt8)]]))
 (obind
 [[(97 : UInt8)], [(98 : UInt8)],
 [(110 : UInt8), (111 : UInt8), (100 : UInt8), (101 : UInt8)]][Int.toNat (Int64.toInt t_1)]?
 fun (x_4 : List UInt8) =>
 oite
 (decide ((0 : Int) ≤ ↑(UInt8.toNat (x_3 % (3 : UInt8)))) &&
 Nat.blt (Int.toNat ↑(UInt8.toNat (x_3 % (3 : UInt8))))
 (List.length [[], [(120 : UInt8)], [(121 : UInt8)]]))
 (obind [[], [(120 : UInt8)], [(121 : UInt8)]][Int.toNat ↑(UInt8.toNat (x_3 % (3 : UInt8)))]?
 fun (x_5 : List UInt8) =>
 oite (Nat.ble (List.length al + List.length [(x_4, x_5)]) (4294967296 : Nat))
 (rec t (t_1 + (1 : Int64)) t0 t1 t3 t4 t5 t6 a0 a1 a3 a4 a5 a6 t_2 (al ++ [(x_4, x_5)])) none)
 none)
 none)
 (rec t (t_1 + (1 : Int64)) t0 t1 t3 t4 t5 t6 a0 a1 a3 a4 a5 a6 t_2 al))
 none)
 (some ((a0, a1, al, a3, a4, a5, a6), ()))
def F7_R29 : Nat →
 PT.T (PT.int IntKind.i64) →
 Int64 →
 UInt8 →
 List UInt8 →
 UInt8 →
 UInt64 →
 UInt8 →
 Int64 →
 UInt8 →
 List UInt8 →
 UInt8 →
 UInt64 →
 UInt8 →
 Int64 →
 List UInt8 →
 List zt10 →
 Option
 (zt3 ×
 Unit) := ofixA (29 : Nat)
 [PT.int IntKind.i64, PT.int IntKind.i64, PT.int IntKind.u8, PT.bytes, PT.int IntKind.u8, PT.int IntKind.u64,
 PT.int IntKind.u8, PT.int IntKind.i64, PT.int IntKind.u8, PT.bytes, PT.int IntKind.u8, PT.int IntKind.u64,
 PT.int IntKind.u8, PT.int IntKind.i64, PT.list (CTs.cons (CT.int IntKind.u8) CTs.nil),
 PT.list zc5]
 F7_L29
def F7 : Nat →
 UInt8 × UInt8 × UInt8 × UInt8 × UInt8 × UInt8 →
 Option (zt3 × Unit) := fun (n : Nat) (x : UInt8 × UInt8 × UInt8 × UInt8 × UInt8 × UInt8) =>
 oite
 (decide ((0 : Int) ≤ ↑(UInt8.toNat (x.2.1 % (3 : UInt8)))) &&
 Nat.blt (Int.toNat ↑(UInt8.toNat (x.2.1 % (3 : UInt8))))
 (List.length
 [[(104 : UInt8), (111 : UInt8), (116 : UInt8)], [(99 : UInt8), (111 : UInt8), (108 : UInt8), (100 : UInt8)],
 [(120 : UInt8)]]))
 (obind
 [[(104 : UInt8), (111 : UInt8), (116 : UInt8)], [(99 : UInt8), (111 : UInt8), (108 : UInt8), (100 : UInt8)],
 [(120 : UInt8)]][Int.toNat ↑(UInt8.toNat (x.2.1 % (3 : UInt8)))]?
 fun (x_1 : List UInt8) =>
 oite
 (decide ((0 : Int) ≤ ↑(UInt8.toNat (x.2.2.2.2.2 % (4 : UInt8)))) &&
 Nat.blt (Int.toNat ↑(UInt8.toNat (x.2.2.2.2.2 % (4 : UInt8))))
 (List.length [(0 : UInt8), (2 : UInt8), (3 : UInt8), (2 : UInt8)]))
 (obind
 [(0 : UInt8), (2 : UInt8), (3 : UInt8),
 (2 :
 UInt8)][Int.toNat
 ↑(UInt8.toNat (x.2.2.2.2.2 % (4 : UInt8)))]?
 fun (x_2 : UInt8) =>
 F7_R29 n
 (Int64.ofInt
 ↑(List.length
 [x.2.2.1, x.2.2.2.1,
 x.2.2.2.2.1]))
 (0 : Int64) (0 : UInt8) [] (0 : UInt8) (0 : UInt64) (0 : UInt8) (0 : Int64) (x.1 % (3 : UInt8)) x_1
 x_2 (0 : UInt64) (x.2.2.2.2.2 / (4 : UInt8) % (8 : UInt8))
 (Int64.ofInt ↑(UInt8.toNat x.2.2.1))
 [x.2.2.1, x.2.2.2.1,
 x.2.2.2.2.1]
 [])
 none)
 none
theorem F7_R29_s  (m_ : Nat) : F7_R29  (m_ + 1) = F7_L29  (F7_R29  m_) := rfl
theorem ok7 (n : Nat) : FunOK Try.prog ⟨7, sig7, F7 n⟩ :=
 fun_ok (hints := ⟨[], [(29, ⟨[(2, .one (.own 1)), (3, .one (.own 2)), (35, .one (.own 3)), (36, .one (.int .i64)), (37, .one (.int .i64))], [(1, .cells [.int .u8, .str, .nils, .int .u8, .int .u64, .int .u8, .int .i64]), (2, .cells [.int .u8, .str, .own 4, .int .u8, .int .u64, .int .u8, .int .i64]), (3, .row (.cons (.int .u8) .nil)), (4, .row zc11)], 5⟩)]⟩) (fuel := n) (c := Try.f7.body.getD .skip) (rs := Try.f7.results.toList) tt_ok mix (FsOK.nil) Try.func7 (by kernel_rfl) (by kernel_rfl) rfl (by kernel_rfl) rfl rfl (by kernel_rfl)
-- watchfire/watchfireref01.Less
def sig39 : Sig := ⟨(.cons (.agg zc11) (.cons (.agg zc11) .nil)), (.cons (.one (.c .bool)) .nil)⟩
def F39 : Nat → zt10 × List UInt8 × List UInt8 → Option (Bool × Unit) := fun (n : Nat) (x : zt10 × List UInt8 × List UInt8) =>
 oite (!x.1.1 == x.2.1)
 (some (bytesLt x.1.1 x.2.1, ()))
 (some (bytesLt x.1.2 x.2.2, ()))
theorem ok39 (n : Nat) : FunOK Try.prog ⟨39, sig39, F39 n⟩ :=
 fun_ok (hints := ⟨[], []⟩) (fuel := n) (c := Try.f39.body.getD .skip) (rs := Try.f39.results.toList) tt_ok mix (FsOK.nil) Try.func39 (by kernel_rfl) (by kernel_rfl) rfl (by kernel_rfl) rfl rfl (by kernel_rfl)
-- watchfire/watchfireref01.Compare
def sig22 : Sig := ⟨(.cons (.one (.c (.ro zc11))) (.cons (.one (.c (.ro zc11))) .nil)), (.cons (.one (.c (.int .i64))) .nil)⟩
def F22_J3 : List zt10 → List zt10 → Option (Int64 × Unit) := fun (a b : List zt10) =>
 oite (decide (Int64.ofInt ↑(List.length a) < Int64.ofInt ↑(List.length b))) (some ((-1 : Int64), ()))
 (oite (decide (Int64.ofInt ↑(List.length b) < Int64.ofInt ↑(List.length a))) (some ((1 : Int64), ()))
 (some ((0 : Int64), ())))
def F22_L13 : Nat →
 Arr [PT.list zc5, PT.list zc5]
 (Option (Int64 × Unit)) →
 Arr
 [PT.list zc5, PT.list zc5,
 PT.int IntKind.i64]
 (Option (Int64 × Unit)) →
 List zt10 → List zt10 → Int64 → Option (Int64 × Unit) := fun (n : Nat)
 (J :
 Arr [PT.list zc5, PT.list zc5]
 (Option (Int64 × Unit)))
 (rec :
 Arr
 [PT.list zc5, PT.list zc5,
 PT.int IntKind.i64]
 (Option (Int64 × Unit)))
 (a b : List zt10) (i : Int64) =>
 oite (decide (i < Int64.ofInt ↑(List.length a)))
 (oite (decide (i < Int64.ofInt ↑(List.length b)))
 (obind (at? a (Int64.toInt i)) fun (x_1 : List UInt8 × List UInt8) =>
 obind (at? b (Int64.toInt i)) fun (x_2 : List UInt8 × List UInt8) =>
 obind (F39 n ((x_1.1, x_1.2), x_2.1, x_2.2)) fun (x_3 : Bool × Unit) =>
 oite x_3.1 (some ((-1 : Int64), ()))
 (obind (at? b (Int64.toInt i)) fun (x_4 : List UInt8 × List UInt8) =>
 obind (at? a (Int64.toInt i)) fun (x_5 : List UInt8 × List UInt8) =>
 obind (F39 n ((x_4.1, x_4.2), x_5.1, x_5.2)) fun (x_6 : Bool × Unit) =>
 oite x_6.1 (some ((1 : Int64), ())) (rec a b (i + (1 : Int64)))))
 (J a b))
 (J a b)
def F22_R13 : Nat →
 Arr [PT.list zc5, PT.list zc5]
 (Option (Int64 × Unit)) →
 Nat →
 PT.T (PT.list zc5) →
 List zt10 → Int64 → Option (Int64 × Unit) := fun (n : Nat)
 (J :
 Arr [PT.list zc5, PT.list zc5]
 (Option (Int64 × Unit))) =>
 ofixA (13 : Nat)
 [PT.list zc5, PT.list zc5,
 PT.int IntKind.i64]
 (F22_L13 n J)
def F22 : Nat → List zt10 × List zt10 → Option (Int64 × Unit) := fun (n : Nat) (x : List zt10 × List zt10) =>
 ojoinA (3 : Nat)
 [PT.list zc5, PT.list zc5]
 (fun
 (J :
 Arr [PT.list zc5, PT.list zc5]
 (Option (Int64 × Unit))) =>
 F22_R13 n J n x.1 x.2 (0 : Int64))
 F22_J3
theorem F22_R13_s (n : Nat) (J : Arr [PT.list zc5, PT.list zc5] (Option (Int64 × Unit))) (m_ : Nat) : F22_R13 n J (m_ + 1) = F22_L13 n J (F22_R13 n J m_) := rfl
theorem ok22 (n : Nat) : FunOK Try.prog ⟨22, sig22, F22 n⟩ :=
 fun_ok (hints := ⟨[(3, ⟨[(0, .one (.ro zc11)), (1, .one (.ro zc11))], [], 2⟩)], [(13, ⟨[(0, .one (.ro zc11)), (1, .one (.ro zc11)), (5, .one (.int .i64))], [], 2⟩)]⟩) (fuel := n) (c := Try.f22.body.getD .skip) (rs := Try.f22.results.toList) tt_ok mix (FsOK.cons (ok39 n) (FsOK.nil)) Try.func22 (by kernel_rfl) (by kernel_rfl) rfl (by kernel_rfl) rfl rfl (by kernel_rfl)
-- watchfire/watchfireref17.Less
def sig9 : Sig := ⟨(.cons (.agg zc4) (.cons (.agg zc4) .nil)), (.cons (.one (.c .bool)) .nil)⟩
def F9 : Nat →
 zt3 ×
 UInt8 × List UInt8 × List zt10 × UInt8 × UInt64 × UInt8 × Int64 →
 Option (Bool × Unit) := fun (n : Nat)
 (x :
 zt3 ×
 UInt8 × List UInt8 × List zt10 × UInt8 × UInt64 × UInt8 × Int64) =>
 oite (!decide (x.1.1 = x.2.1))
 (some (decide (x.1.1 < x.2.1), ()))
 (oite (!x.1.2.1 == x.2.2.1)
 (some (bytesLt x.1.2.1 x.2.2.1, ()))
 (obind (F22 n (x.1.2.2.1, x.2.2.2.1))
 fun (x_1 : Int64 × Unit) => some (decide (x_1.1 < (0 : Int64)), ())))
theorem ok9 (n : Nat) : FunOK Try.prog ⟨9, sig9, F9 n⟩ :=
 fun_ok (hints := ⟨[], []⟩) (fuel := n) (c := Try.f9.body.getD .skip) (rs := Try.f9.results.toList) tt_ok mix (FsOK.cons (ok22 n) (FsOK.nil)) Try.func9 (by kernel_rfl) (by kernel_rfl) rfl (by kernel_rfl) rfl rfl (by kernel_rfl)
-- watchfire/watchfireref01.Same
def sig23 : Sig := ⟨(.cons (.one (.c (.ro zc11))) (.cons (.one (.c (.ro zc11))) .nil)), (.cons (.one (.c .bool)) .nil)⟩
def F23_L29 : Arr
 [PT.list zc5, PT.list zc5,
 PT.int IntKind.i64]
 (Option (Bool × Unit)) →
 List zt10 → List zt10 → Int64 → Option (Bool × Unit) := fun
 (rec :
 Arr
 [PT.list zc5, PT.list zc5,
 PT.int IntKind.i64]
 (Option (Bool × Unit)))
 (a b : List zt10) (i : Int64) =>
 oite (decide (i < Int64.ofInt ↑(List.length a)))
 (obind (at? a (Int64.toInt i)) fun (x_1 : List UInt8 × List UInt8) =>
 obind (at? b (Int64.toInt i)) fun (x_2 : List UInt8 × List UInt8) =>
 oite (!(x_1.1 == x_2.1 && (x_1.2 == x_2.2 && true))) (some (false, ()))
 (rec a b (i + (1 : Int64))))
 (some (true, ()))
def F23_R29 : Nat →
 PT.T (PT.list zc5) →
 List zt10 → Int64 → Option (Bool × Unit) := ofixA (29 : Nat)
 [PT.list zc5, PT.list zc5,
 PT.int IntKind.i64]
 F23_L29
def F23 : Nat → List zt10 × List zt10 → Option (Bool × Unit) := fun (n : Nat) (x : List zt10 × List zt10) =>
 oite (!decide (Int64.ofInt ↑(List.length x.1) = Int64.ofInt ↑(List.length x.2)))
 (some (false, ())) (F23_R29 n x.1 x.2 (0 : Int64))
theorem F23_R29_s  (m_ : Nat) : F23_R29  (m_ + 1) = F23_L29  (F23_R29  m_) := rfl
theorem ok23 (n : Nat) : FunOK Try.prog ⟨23, sig23, F23 n⟩ :=
 fun_ok (hints := ⟨[], [(29, ⟨[(0, .one (.ro zc11)), (1, .one (.ro zc11)), (5, .one (.int .i64))], [], 2⟩)]⟩) (fuel := n) (c := Try.f23.body.getD .skip) (rs := Try.f23.results.toList) tt_ok mix (FsOK.nil) Try.func23 (by kernel_rfl) (by kernel_rfl) rfl (by kernel_rfl) rfl rfl (by kernel_rfl)
-- watchfire/watchfireref17.One
def sig10 : Sig := ⟨(.cons (.agg zc4) (.cons (.agg zc4) .nil)), (.cons (.one (.c .bool)) .nil)⟩
def F10 : Nat →
 zt3 ×
 UInt8 × List UInt8 × List zt10 × UInt8 × UInt64 × UInt8 × Int64 →
 Option (Bool × Unit) := fun (n : Nat)
 (x :
 zt3 ×
 UInt8 × List UInt8 × List zt10 × UInt8 × UInt64 × UInt8 × Int64) =>
 oite (decide (x.1.1 = x.2.1))
 (oite (x.1.2.1 == x.2.2.1)
 (obind (F23 n (x.1.2.2.1, x.2.2.2.1))
 fun (x_1 : Bool × Unit) => some (x_1.1, ()))
 (some (false, ())))
 (some (false, ()))
theorem ok10 (n : Nat) : FunOK Try.prog ⟨10, sig10, F10 n⟩ :=
 fun_ok (hints := ⟨[], []⟩) (fuel := n) (c := Try.f10.body.getD .skip) (rs := Try.f10.results.toList) tt_ok mix (FsOK.cons (ok23 n) (FsOK.nil)) Try.func10 (by kernel_rfl) (by kernel_rfl) rfl (by kernel_rfl) rfl rfl (by kernel_rfl)
-- watchfire/watchfirelaw21.GroupOrder
def sig3 : Sig := ⟨(.cons (.agg zc4) (.cons (.agg zc4) (.cons (.agg (.cons (.int .u8) (.cons (.int .u8) (.cons (.int .u8) (.cons (.int .u8) (.cons (.int .u8) (.cons (.int .u8) .nil))))))) (.cons (.agg (.cons (.int .u8) (.cons (.int .u8) (.cons (.int .u8) (.cons (.int .u8) (.cons (.int .u8) (.cons (.int .u8) .nil))))))) .nil)))), (.cons (.one (.c .bool)) .nil)⟩
noncomputable def F3_L61 : Nat →
 Arr
 [PT.int IntKind.i64, PT.int IntKind.i64,
 PT.list
 (CTs.cons (CT.int IntKind.u8)
 (CTs.cons CT.str
 (CTs.cons (CT.ro zc5)
 (CTs.cons (CT.int IntKind.u8)
 (CTs.cons (CT.int IntKind.u64)
 (CTs.cons (CT.int IntKind.u8)
 (CTs.cons (CT.int IntKind.i64)
 zc0)))))))]
 (Option (Bool × Unit)) →
 Int64 →
 Int64 →
 List
 (UInt8 ×
 List UInt8 ×
 List zt10 ×
 UInt8 ×
 UInt64 ×
 UInt8 ×
 Int64 × UInt8 × List UInt8 × List zt10 × UInt8 × UInt64 × UInt8 × Int64) →
 Option (Bool × Unit) := fun (n : Nat)
 (rec :
 Arr
 [PT.int IntKind.i64, PT.int IntKind.i64,
 PT.list
 (CTs.cons (CT.int IntKind.u8)
 (CTs.cons CT.str
 (CTs.cons (CT.ro zc5)
 (CTs.cons (CT.int IntKind.u8)
 (CTs.cons (CT.int IntKind.u64)
 (CTs.cons (CT.int IntKind.u8)
 (CTs.cons (CT.int IntKind.i64)
 zc0)))))))]
 (Option (Bool × Unit)))
 (t t_1 : Int64)
 (t_2 :
 List
 (UInt8 ×
 List UInt8 ×
 List zt10 ×
 UInt8 ×
 UInt64 ×
 UInt8 ×
 Int64 × UInt8 × List UInt8 × List zt10 × UInt8 × UInt64 × UInt8 × Int64)) =>
 oite (decide (t_1 < t))
 (oite (decide ((0 : Int) ≤ Int64.toInt t_1) && Nat.blt (Int.toNat (Int64.toInt t_1)) (List.length t_2))
 (obind t_2[Int.toNat (Int64.toInt t_1)]?
 fun
 (x_4 :
 UInt8 ×
 List UInt8 ×
 List zt10 ×
 UInt8 ×
 UInt64 ×
 UInt8 ×
 Int64 × UInt8 × List UInt8 × List zt10 × UInt8 × UInt64 × UInt8 × Int64) =>
 obind
 (F8 n
 ((x_4.1, x_4.2.1, x_4.2.2.1,
 x_4.2.2.2.1, x_4.2.2.2.2.1,
 x_4.2.2.2.2.2.1,
 x_4.2.2.2.2.2.2.1),
 x_4.2.2.2.2.2.2.2.1,
 x_4.2.2.2.2.2.2.2.2.1,
 x_4.2.2.2.2.2.2.2.2.2.1,
 x_4.2.2.2.2.2.2.2.2.2.2.1,
 x_4.2.2.2.2.2.2.2.2.2.2.2.1,
 x_4.2.2.2.2.2.2.2.2.2.2.2.2.1,
 x_4.2.2.2.2.2.2.2.2.2.2.2.2.2))
 fun (x_5 : Int64 × Unit) =>
 obind
 (F9 n
 ((x_4.1, x_4.2.1, x_4.2.2.1,
 x_4.2.2.2.1,
 x_4.2.2.2.2.1,
 x_4.2.2.2.2.2.1,
 x_4.2.2.2.2.2.2.1),
 x_4.2.2.2.2.2.2.2.1,
 x_4.2.2.2.2.2.2.2.2.1,
 x_4.2.2.2.2.2.2.2.2.2.1,
 x_4.2.2.2.2.2.2.2.2.2.2.1,
 x_4.2.2.2.2.2.2.2.2.2.2.2.1,
 x_4.2.2.2.2.2.2.2.2.2.2.2.2.1,
 x_4.2.2.2.2.2.2.2.2.2.2.2.2.2))
 fun (x_6 : Bool × Unit) =>
 oite (!decide (x_5.1 < (0 : Int64)) == x_6.1) (some (false, ()))
 (obind
 (F9 n
 ((x_4.2.2.2.2.2.2.2.1,
 x_4.2.2.2.2.2.2.2.2.1,
 x_4.2.2.2.2.2.2.2.2.2.1,
 x_4.2.2.2.2.2.2.2.2.2.2.1,
 x_4.2.2.2.2.2.2.2.2.2.2.2.1,
 x_4.2.2.2.2.2.2.2.2.2.2.2.2.1,
 x_4.2.2.2.2.2.2.2.2.2.2.2.2.2),
 x_4.1, x_4.2.1, x_4.2.2.1,
 x_4.2.2.2.1,
 x_4.2.2.2.2.1,
 x_4.2.2.2.2.2.1,
 x_4.2.2.2.2.2.2.1))
 fun (x_7 : Bool × Unit) =>
 oite (!decide ((0 : Int64) < x_5.1) == x_7.1) (some (false, ()))
 (obind
 (F10 n
 ((x_4.1, x_4.2.1, x_4.2.2.1,
 x_4.2.2.2.1,
 x_4.2.2.2.2.1,
 x_4.2.2.2.2.2.1,
 x_4.2.2.2.2.2.2.1),
 x_4.2.2.2.2.2.2.2.1,
 x_4.2.2.2.2.2.2.2.2.1,
 x_4.2.2.2.2.2.2.2.2.2.1,
 x_4.2.2.2.2.2.2.2.2.2.2.1,
 x_4.2.2.2.2.2.2.2.2.2.2.2.1,
 x_4.2.2.2.2.2.2.2.2.2.2.2.2.1,
 x_4.2.2.2.2.2.2.2.2.2.2.2.2.2))
 fun (x_8 : Bool × Unit) =>
 oite (!decide (x_5.1 = (0 : Int64)) == x_8.1) (some (false, ()))
 (rec t (t_1 + (1 : Int64)) t_2))))
 none)
 (some (true, ()))
noncomputable def F3_R61 : Nat →
 Nat →
 PT.T (PT.int IntKind.i64) →
 Int64 →
 List
 (UInt8 ×
 List UInt8 ×
 List zt10 ×
 UInt8 ×
 UInt64 ×
 UInt8 ×
 Int64 × UInt8 × List UInt8 × List zt10 × UInt8 × UInt64 × UInt8 × Int64) →
 Option (Bool × Unit) := fun (n : Nat) =>
 ofixA (61 : Nat)
 [PT.int IntKind.i64, PT.int IntKind.i64,
 PT.list
 (CTs.cons (CT.int IntKind.u8)
 (CTs.cons CT.str
 (CTs.cons (CT.ro zc5)
 (CTs.cons (CT.int IntKind.u8)
 (CTs.cons (CT.int IntKind.u64)
 (CTs.cons (CT.int IntKind.u8)
 (CTs.cons (CT.int IntKind.i64)
 zc0)))))))]
 (F3_L61 n)
noncomputable def F3 : Nat →
 zt3 ×
 zt3 ×
 (UInt8 × UInt8 × UInt8 × UInt8 × UInt8 × UInt8) × UInt8 × UInt8 × UInt8 × UInt8 × UInt8 × UInt8 →
 Option (Bool × Unit) := fun (n : Nat)
 (x :
 zt3 ×
 zt3 ×
 (UInt8 × UInt8 × UInt8 × UInt8 × UInt8 × UInt8) × UInt8 × UInt8 × UInt8 × UInt8 × UInt8 × UInt8) =>
 obind (F6 n ()) fun (x_1 : Bool × Unit) =>
 oite (!x_1.1) (some (false, ()))
 (oite (decide ((12 : Int64) < Int64.ofInt ↑(List.length x.1.2.2.1)))
 (some (true, ()))
 (oite
 (decide ((12 : Int64) < Int64.ofInt ↑(List.length x.2.1.2.2.1)))
 (some (true, ()))
 (obind
 (F7 n
 (x.2.2.1.1, x.2.2.1.2.1,
 x.2.2.1.2.2.1,
 x.2.2.1.2.2.2.1,
 x.2.2.1.2.2.2.2.1,
 x.2.2.1.2.2.2.2.2))
 fun
 (x_2 : zt3 × Unit) =>
 obind
 (F7 n
 (x.2.2.2.1, x.2.2.2.2.1,
 x.2.2.2.2.2.1,
 x.2.2.2.2.2.2.1,
 x.2.2.2.2.2.2.2.1,
 x.2.2.2.2.2.2.2.2))
 fun
 (x_3 :
 zt3 × Unit) =>
 F3_R61 n n
 (Int64.ofInt
 ↑(List.length
 [(x.1.1, x.1.2.1,
 x.1.2.2.1,
 x.1.2.2.2.1,
 x.1.2.2.2.2.1,
 x.1.2.2.2.2.2.1,
 x.1.2.2.2.2.2.2,
 x.2.1.1, x.2.1.2.1,
 x.2.1.2.2.1,
 x.2.1.2.2.2.1,
 x.2.1.2.2.2.2.1,
 x.2.1.2.2.2.2.2.1,
 x.2.1.2.2.2.2.2.2),
 (x_2.1.1, x_2.1.2.1,
 x_2.1.2.2.1,
 x_2.1.2.2.2.1,
 x_2.1.2.2.2.2.1,
 x_2.1.2.2.2.2.2.1,
 x_2.1.2.2.2.2.2.2,
 x_3.1.1, x_3.1.2.1,
 x_3.1.2.2.1,
 x_3.1.2.2.2.1,
 x_3.1.2.2.2.2.1,
 x_3.1.2.2.2.2.2.1,
 x_3.1.2.2.2.2.2.2)]))
 (0 : Int64)
 [(x.1.1, x.1.2.1, x.1.2.2.1,
 x.1.2.2.2.1,
 x.1.2.2.2.2.1,
 x.1.2.2.2.2.2.1,
 x.1.2.2.2.2.2.2,
 x.2.1.1, x.2.1.2.1,
 x.2.1.2.2.1,
 x.2.1.2.2.2.1,
 x.2.1.2.2.2.2.1,
 x.2.1.2.2.2.2.2.1,
 x.2.1.2.2.2.2.2.2),
 (x_2.1.1, x_2.1.2.1,
 x_2.1.2.2.1,
 x_2.1.2.2.2.1,
 x_2.1.2.2.2.2.1,
 x_2.1.2.2.2.2.2.1,
 x_2.1.2.2.2.2.2.2,
 x_3.1.1, x_3.1.2.1,
 x_3.1.2.2.1,
 x_3.1.2.2.2.1,
 x_3.1.2.2.2.2.1,
 x_3.1.2.2.2.2.2.1,
 x_3.1.2.2.2.2.2.2)])))
theorem F3_R61_s (n : Nat) (m_ : Nat) : F3_R61 n (m_ + 1) = F3_L61 n (F3_R61 n m_) := rfl
theorem ok3 (n : Nat) : FunOK Try.prog ⟨3, sig3, F3 n⟩ :=
 fun_ok (hints := ⟨[], [(61, ⟨[(32, .one (.own 4)), (33, .one (.int .i64)), (34, .one (.int .i64))], [(4, .row (.cons (.int .u8) (.cons .str (.cons (.ro zc11) (.cons (.int .u8) (.cons (.int .u64) (.cons (.int .u8) (.cons (.int .i64) zc4))))))))], 5⟩)]⟩) (fuel := n) (c := Try.f3.body.getD .skip) (rs := Try.f3.results.toList) tt_ok mix (FsOK.cons (ok6 n) (FsOK.cons (ok7 n) (FsOK.cons (ok8 n) (FsOK.cons (ok9 n) (FsOK.cons (ok10 n) (FsOK.nil)))))) Try.func3 (by kernel_rfl) (by kernel_rfl) rfl (by kernel_rfl) rfl rfl (by kernel_rfl)
end Go.Proofs.Ytcfckkmiaeegpaa
