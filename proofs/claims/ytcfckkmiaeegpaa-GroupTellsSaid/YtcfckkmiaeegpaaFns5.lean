/- What the functions of this seat compute, found by walking their code symbolically: each F is what the walk finds, each ok says that the Go function keeps it as a contract. Printed by a program of this repo's. -/
import Derived.Test.YtcfckkmiaeegpaaFns4
open Go Go.Sx
namespace Go.Proofs.Ytcfckkmiaeegpaa
set_option maxRecDepth 100000
set_option linter.unusedVariables false
-- (watchfire/watchfirelaw18.Alert).Alert
def sig7 : Sig := ⟨(.cons (.agg (.cons (.int .u8) (.cons (.int .u8) (.cons (.int .u8) (.cons (.int .u8) (.cons (.int .u8) (.cons (.int .u8) .nil))))))) .nil), (.cons (.agg zc3) .nil)⟩
def F7_L29 : Arr
 [PT.int IntKind.i64, PT.int IntKind.i64, PT.int IntKind.u8, PT.bytes, PT.int IntKind.u8, PT.int IntKind.u64,
 PT.int IntKind.u8, PT.int IntKind.i64, PT.int IntKind.u8, PT.bytes, PT.int IntKind.u8, PT.int IntKind.u64,
 PT.int IntKind.u8, PT.int IntKind.i64, PT.list (CTs.cons (CT.int IntKind.u8) CTs.nil),
 PT.list zc5]
 (Option (zt4 × Unit)) →
 Int64 →
 Int64 →
 UInt8 →
 List UInt8 →
 UInt8 →
 UInt64 →
 UInt8 →
 Int64 →
 UInt8 →
 List UInt8 →
 UInt8 →
 UInt64 →
 UInt8 →
 Int64 →
 List UInt8 →
 List zt10 →
 Option
 (zt4 ×
 Unit) := fun
 (rec :
 Arr
 [PT.int IntKind.i64, PT.int IntKind.i64, PT.int IntKind.u8, PT.bytes, PT.int IntKind.u8, PT.int IntKind.u64,
 PT.int IntKind.u8, PT.int IntKind.i64, PT.int IntKind.u8, PT.bytes, PT.int IntKind.u8, PT.int IntKind.u64,
 PT.int IntKind.u8, PT.int IntKind.i64, PT.list (CTs.cons (CT.int IntKind.u8) CTs.nil),
 PT.list zc5]
 (Option (zt4 × Unit)))
 (t t_1 : Int64) (t0 : UInt8) (t1 : List UInt8) (t3 : UInt8) (t4 : UInt64) (t5 : UInt8) (t6 : Int64) (a0 : UInt8)
 (a1 : List UInt8) (a3 : UInt8) (a4 : UInt64) (a5 : UInt8) (a6 : Int64) (t_2 : List UInt8)
 (al : List zt10) =>
 oite (decide (t_1 < t))
 (oite (decide ((0 : Int) ≤ Int64.toInt t_1) && Nat.blt (Int.toNat (Int64.toInt t_1)) (List.length t_2))
 (obind t_2[Int.toNat (Int64.toInt t_1)]? fun (x_3 : UInt8) =>
 oite (decide ((0 : UInt8) < x_3 % (3 : UInt8)))
 (oite
 (decide ((0 : Int) ≤ Int64.toInt t_1) &&
 Nat.blt (Int.toNat (Int64.toInt t_1))
 (List.length
 [[(97 : UInt8)], [(98 : UInt8)], [(110 : UInt8), (111 : UInt8), (100 : UInt8), (101 : UInt8)]]))
 (obind
 [[(97 : UInt8)], [(98 : UInt8)],
 [(110 : UInt8), (111 : UInt8), (100 : UInt8), (101 : UInt8)]][Int.toNat (Int64.toInt t_1)]?
 fun (x_4 : List UInt8) =>
 oite
 (decide ((0 : Int) ≤ ↑(UInt8.toNat (x_3 % (3 : UInt8)))) &&
 Nat.blt (Int.toNat ↑(UInt8.toNat (x_3 % (3 : UInt8))))
 (List.length [[], [(120 : UInt8)], [(121 : UInt8)]]))
 (obind [[], [(120 : UInt8)], [(121 : UInt8)]][Int.toNat ↑(UInt8.toNat (x_3 % (3 : UInt8)))]?
 fun (x_5 : List UInt8) =>
 oite (Nat.ble (List.length al + List.length [(x_4, x_5)]) (4294967296 : Nat))
 (rec t (t_1 + (1 : Int64)) t0 t1 t3 t4 t5 t6 a0 a1 a3 a4 a5 a6 t_2 (al ++ [(x_4, x_5)])) none)
 none)
 none)
 (rec t (t_1 + (1 : Int64)) t0 t1 t3 t4 t5 t6 a0 a1 a3 a4 a5 a6 t_2 al))
 none)
 (some ((a0, a1, al, a3, a4, a5, a6), ()))
def F7_R29 : Nat →
 PT.T (PT.int IntKind.i64) →
 Int64 →
 UInt8 →
 List UInt8 →
 UInt8 →
 UInt64 →
 UInt8 →
 Int64 →
 UInt8 →
 List UInt8 →
 UInt8 →
 UInt64 →
 UInt8 →
 Int64 →
 List UInt8 →
 List zt10 →
 Option
 (zt4 ×
 Unit) := ofixA (29 : Nat)
 [PT.int IntKind.i64, PT.int IntKind.i64, PT.int IntKind.u8, PT.bytes, PT.int IntKind.u8, PT.int IntKind.u64,
 PT.int IntKind.u8, PT.int IntKind.i64, PT.int IntKind.u8, PT.bytes, PT.int IntKind.u8, PT.int IntKind.u64,
 PT.int IntKind.u8, PT.int IntKind.i64, PT.list (CTs.cons (CT.int IntKind.u8) CTs.nil),
 PT.list zc5]
 F7_L29
def F7 : Nat →
 UInt8 × UInt8 × UInt8 × UInt8 × UInt8 × UInt8 →
 Option (zt4 × Unit) := fun (n : Nat) (x : UInt8 × UInt8 × UInt8 × UInt8 × UInt8 × UInt8) =>
 oite
 (decide ((0 : Int) ≤ ↑(UInt8.toNat (x.2.1 % (3 : UInt8)))) &&
 Nat.blt (Int.toNat ↑(UInt8.toNat (x.2.1 % (3 : UInt8))))
 (List.length
 [[(104 : UInt8), (111 : UInt8), (116 : UInt8)], [(99 : UInt8), (111 : UInt8), (108 : UInt8), (100 : UInt8)],
 [(120 : UInt8)]]))
 (obind
 [[(104 : UInt8), (111 : UInt8), (116 : UInt8)], [(99 : UInt8), (111 : UInt8), (108 : UInt8), (100 : UInt8)],
 [(120 : UInt8)]][Int.toNat ↑(UInt8.toNat (x.2.1 % (3 : UInt8)))]?
 fun (x_1 : List UInt8) =>
 oite
 (decide ((0 : Int) ≤ ↑(UInt8.toNat (x.2.2.2.2.2 % (4 : UInt8)))) &&
 Nat.blt (Int.toNat ↑(UInt8.toNat (x.2.2.2.2.2 % (4 : UInt8))))
 (List.length [(0 : UInt8), (2 : UInt8), (3 : UInt8), (2 : UInt8)]))
 (obind
 [(0 : UInt8), (2 : UInt8), (3 : UInt8),
 (2 :
 UInt8)][Int.toNat
 ↑(UInt8.toNat (x.2.2.2.2.2 % (4 : UInt8)))]?
 fun (x_2 : UInt8) =>
 F7_R29 n
 (Int64.ofInt
 ↑(List.length
 [x.2.2.1, x.2.2.2.1,
 x.2.2.2.2.1]))
 (0 : Int64) (0 : UInt8) [] (0 : UInt8) (0 : UInt64) (0 : UInt8) (0 : Int64) (x.1 % (3 : UInt8)) x_1
 x_2 (0 : UInt64) (x.2.2.2.2.2 / (4 : UInt8) % (8 : UInt8))
 (Int64.ofInt ↑(UInt8.toNat x.2.2.1))
 [x.2.2.1, x.2.2.2.1,
 x.2.2.2.2.1]
 [])
 none)
 none
theorem F7_R29_s  (m_ : Nat) : F7_R29  (m_ + 1) = F7_L29  (F7_R29  m_) := rfl
theorem ok7 (n : Nat) : FunOK Try.prog ⟨7, sig7, F7 n⟩ :=
 fun_ok (hints := ⟨[], [(29, ⟨[(2, .one (.own 1)), (3, .one (.own 2)), (35, .one (.own 3)), (36, .one (.int .i64)), (37, .one (.int .i64))], [(1, .cells [.int .u8, .str, .nils, .int .u8, .int .u64, .int .u8, .int .i64]), (2, .cells [.int .u8, .str, .own 4, .int .u8, .int .u64, .int .u8, .int .i64]), (3, .row (.cons (.int .u8) .nil)), (4, .row zc11)], 5⟩)]⟩) (fuel := n) (c := Try.f7.body.getD .skip) (rs := Try.f7.results.toList) tt_ok mix (FsOK.nil) Try.func7 (by kernel_rfl) (by kernel_rfl) rfl (by kernel_rfl) rfl rfl (by kernel_rfl)
-- watchfire/watchfireref01.Same
def sig23 : Sig := ⟨(.cons (.one (.c (.ro zc11))) (.cons (.one (.c (.ro zc11))) .nil)), (.cons (.one (.c .bool)) .nil)⟩
def F23_L29 : Arr
 [PT.list zc5, PT.list zc5,
 PT.int IntKind.i64]
 (Option (Bool × Unit)) →
 List zt10 → List zt10 → Int64 → Option (Bool × Unit) := fun
 (rec :
 Arr
 [PT.list zc5, PT.list zc5,
 PT.int IntKind.i64]
 (Option (Bool × Unit)))
 (a b : List zt10) (i : Int64) =>
 oite (decide (i < Int64.ofInt ↑(List.length a)))
 (obind (at? a (Int64.toInt i)) fun (x_1 : List UInt8 × List UInt8) =>
 obind (at? b (Int64.toInt i)) fun (x_2 : List UInt8 × List UInt8) =>
 oite (!(x_1.1 == x_2.1 && (x_1.2 == x_2.2 && true))) (some (false, ()))
 (rec a b (i + (1 : Int64))))
 (some (true, ()))
def F23_R29 : Nat →
 PT.T (PT.list zc5) →
 List zt10 → Int64 → Option (Bool × Unit) := ofixA (29 : Nat)
 [PT.list zc5, PT.list zc5,
 PT.int IntKind.i64]
 F23_L29
def F23 : Nat → List zt10 × List zt10 → Option (Bool × Unit) := fun (n : Nat) (x : List zt10 × List zt10) =>
 oite (!decide (Int64.ofInt ↑(List.length x.1) = Int64.ofInt ↑(List.length x.2)))
 (some (false, ())) (F23_R29 n x.1 x.2 (0 : Int64))
theorem F23_R29_s  (m_ : Nat) : F23_R29  (m_ + 1) = F23_L29  (F23_R29  m_) := rfl
theorem ok23 (n : Nat) : FunOK Try.prog ⟨23, sig23, F23 n⟩ :=
 fun_ok (hints := ⟨[], [(29, ⟨[(0, .one (.ro zc11)), (1, .one (.ro zc11)), (5, .one (.int .i64))], [], 2⟩)]⟩) (fuel := n) (c := Try.f23.body.getD .skip) (rs := Try.f23.results.toList) tt_ok mix (FsOK.nil) Try.func23 (by kernel_rfl) (by kernel_rfl) rfl (by kernel_rfl) rfl rfl (by kernel_rfl)
-- watchfire/watchfireref17.One
def sig10 : Sig := ⟨(.cons (.agg zc3) (.cons (.agg zc3) .nil)), (.cons (.one (.c .bool)) .nil)⟩
def F10 : Nat →
 zt4 ×
 UInt8 × List UInt8 × List zt10 × UInt8 × UInt64 × UInt8 × Int64 →
 Option (Bool × Unit) := fun (n : Nat)
 (x :
 zt4 ×
 UInt8 × List UInt8 × List zt10 × UInt8 × UInt64 × UInt8 × Int64) =>
 oite (decide (x.1.1 = x.2.1))
 (oite (x.1.2.1 == x.2.2.1)
 (obind (F23 n (x.1.2.2.1, x.2.2.2.1))
 fun (x_1 : Bool × Unit) => some (x_1.1, ()))
 (some (false, ())))
 (some (false, ()))
theorem ok10 (n : Nat) : FunOK Try.prog ⟨10, sig10, F10 n⟩ :=
 fun_ok (hints := ⟨[], []⟩) (fuel := n) (c := Try.f10.body.getD .skip) (rs := Try.f10.results.toList) tt_ok mix (FsOK.cons (ok23 n) (FsOK.nil)) Try.func10 (by kernel_rfl) (by kernel_rfl) rfl (by kernel_rfl) rfl rfl (by kernel_rfl)
-- watchfire/watchfireref17.SameAlert
def sig14 : Sig := ⟨(.cons (.agg zc3) (.cons (.agg zc3) .nil)), (.cons (.one (.c .bool)) .nil)⟩
def F14 : Nat →
 zt4 ×
 UInt8 × List UInt8 × List zt10 × UInt8 × UInt64 × UInt8 × Int64 →
 Option (Bool × Unit) := fun (n : Nat)
 (x :
 zt4 ×
 UInt8 × List UInt8 × List zt10 × UInt8 × UInt64 × UInt8 × Int64) =>
 obind
 (F10 n
 ((x.1.1, x.1.2.1, x.1.2.2.1,
 x.1.2.2.2.1,
 x.1.2.2.2.2.1,
 x.1.2.2.2.2.2.1,
 x.1.2.2.2.2.2.2),
 x.2.1, x.2.2.1, x.2.2.2.1,
 x.2.2.2.2.1,
 x.2.2.2.2.2.1,
 x.2.2.2.2.2.2.1,
 x.2.2.2.2.2.2.2))
 fun (x_1 : Bool × Unit) =>
 oite x_1.1
 (oite
 (decide
 (x.1.2.2.2.1 =
 x.2.2.2.2.1))
 (oite
 (decide
 (x.1.2.2.2.2.1 =
 x.2.2.2.2.2.1))
 (oite
 (decide
 (x.1.2.2.2.2.2.1 =
 x.2.2.2.2.2.2.1))
 (some
 (decide
 (x.1.2.2.2.2.2.2 =
 x.2.2.2.2.2.2.2),
 ()))
 (some (false, ())))
 (some (false, ())))
 (some (false, ())))
 (some (false, ()))
theorem ok14 (n : Nat) : FunOK Try.prog ⟨14, sig14, F14 n⟩ :=
 fun_ok (hints := ⟨[], []⟩) (fuel := n) (c := Try.f14.body.getD .skip) (rs := Try.f14.results.toList) tt_ok mix (FsOK.cons (ok10 n) (FsOK.nil)) Try.func14 (by kernel_rfl) (by kernel_rfl) rfl (by kernel_rfl) rfl rfl (by kernel_rfl)
-- (*watchfire/group.Groups).Counts
def sig15 : Sig := ⟨(.cons (.one (.ptr (.cons (.c (.rop (.cons (.ro zc8) .nil))) (.cons (.map (.agg zc13) (.agg (.cons (.ro zc11) (.cons (.int .u64) (.cons .bool (.cons (.int .u64) (.cons (.rom (.cons (.int .u8) zc11) zc3) .nil))))))) (.cons (.c (.int .u64)) .nil))))) .nil), (.cons (.one (.c (.int .i64))) (.cons (.one (.c (.int .u64))) .nil))⟩
def F15 : Nat →
 Option
 zt1 →
 Option
 ((Int64 × UInt64) ×
 Option
 zt1) := fun (n : Nat)
 (x :
 Option
 zt1) =>
 oelim x (some (((0 : Int64), (0 : UInt64)), none))
 fun
 (x_1 :
 Option
 (List
 zt7) ×
 List
 ((Int64 × List UInt8) ×
 List zt10 ×
 UInt64 ×
 Bool ×
 UInt64 ×
 List
 zt6) ×
 UInt64) =>
 oite (Nat.ble (List.length x_1.2.1) (4294967296 : Nat))
 (some
 ((Int64.ofInt ↑(List.length x_1.2.1), x_1.2.2),
 some (x_1.1, x_1.2.1, x_1.2.2)))
 none
theorem ok15 (n : Nat) : FunOK Try.prog ⟨15, sig15, F15 n⟩ :=
 fun_ok (hints := ⟨[], []⟩) (fuel := n) (c := Try.f15.body.getD .skip) (rs := Try.f15.results.toList) tt_ok mix (FsOK.nil) Try.func15 (by kernel_rfl) (by kernel_rfl) rfl (by kernel_rfl) rfl rfl (by kernel_rfl)
-- watchfire/watchfirelaw21.GroupTells
def sig4 : Sig := ⟨(.cons (.one (.c (.int .u8))) (.cons (.one (.c (.int .u8))) (.cons (.one (.c (.int .u8))) (.cons (.agg (.cons (.int .u8) (.cons (.int .u8) (.cons (.int .u8) (.cons (.int .u8) (.cons (.int .u8) (.cons (.int .u8) .nil))))))) (.cons (.one (.c (.int .u8))) (.cons (.one (.c (.int .u8))) .nil)))))), (.cons (.one (.c .bool)) .nil)⟩
noncomputable def F4_J16771949 : Arr
 [PT.int IntKind.u8, PT.int IntKind.i64, PT.int IntKind.u64, PT.int IntKind.u64, PT.int IntKind.i64,
 PT.int IntKind.i64, PT.int IntKind.i64,
 PT.list
 (CTs.cons (CT.int IntKind.u64)
 (CTs.cons CT.str
 (CTs.cons (CT.ro zc5)
 (CTs.cons
 (CT.ro
 zc0)
 CTs.nil)))),
 PT.int IntKind.i64, PT.int IntKind.i64, PT.int IntKind.u64, PT.int IntKind.u64, PT.int IntKind.u64,
 PT.opt
 (OTs.cons
 (OT.c
 (CT.rop
 (CTs.cons
 (CT.ro
 zc2)
 CTs.nil)))
 (OTs.cons
 (OT.map zv9
 (VT.agg
 (CTs.cons (CT.ro zc5)
 (CTs.cons (CT.int IntKind.u64)
 (CTs.cons CT.bool
 (CTs.cons (CT.int IntKind.u64)
 (CTs.cons
 (CT.rom (CTs.cons (CT.int IntKind.u8) zc5)
 zc0)
 CTs.nil)))))))
 (OTs.cons (OT.c (CT.int IntKind.u64)) OTs.nil))),
 PT.int IntKind.u8, PT.bytes, PT.list zc5, PT.int IntKind.u8,
 PT.int IntKind.u64, PT.int IntKind.u8, PT.int IntKind.i64]
 (Option (Bool × Unit)) →
 UInt8 →
 Int64 →
 UInt64 →
 Int64 →
 Int64 →
 Int64 →
 List
 (UInt64 ×
 List UInt8 ×
 List zt10 ×
 List zt4) →
 Int64 →
 Int64 →
 UInt64 →
 UInt64 →
 UInt64 →
 Option
 zt1 →
 UInt8 →
 List UInt8 →
 List zt10 → UInt8 → UInt64 → UInt8 → Int64 → Option (Bool × Unit) := fun
 (rec_1 :
 Arr
 [PT.int IntKind.u8, PT.int IntKind.i64, PT.int IntKind.u64, PT.int IntKind.u64, PT.int IntKind.i64,
 PT.int IntKind.i64, PT.int IntKind.i64,
 PT.list
 (CTs.cons (CT.int IntKind.u64)
 (CTs.cons CT.str
 (CTs.cons (CT.ro zc5)
 (CTs.cons
 (CT.ro
 zc0)
 CTs.nil)))),
 PT.int IntKind.i64, PT.int IntKind.i64, PT.int IntKind.u64, PT.int IntKind.u64, PT.int IntKind.u64,
 PT.opt
 (OTs.cons
 (OT.c
 (CT.rop
 (CTs.cons
 (CT.ro
 zc2)
 CTs.nil)))
 (OTs.cons
 (OT.map zv9
 (VT.agg
 (CTs.cons (CT.ro zc5)
 (CTs.cons (CT.int IntKind.u64)
 (CTs.cons CT.bool
 (CTs.cons (CT.int IntKind.u64)
 (CTs.cons
 (CT.rom (CTs.cons (CT.int IntKind.u8) zc5)
 zc0)
 CTs.nil)))))))
 (OTs.cons (OT.c (CT.int IntKind.u64)) OTs.nil))),
 PT.int IntKind.u8, PT.bytes, PT.list zc5, PT.int IntKind.u8,
 PT.int IntKind.u64, PT.int IntKind.u8, PT.int IntKind.i64]
 (Option (Bool × Unit)))
 (idle_3 : UInt8) (e_3 : Int64) (now_2 : UInt64) (told_2 t_5 t_1_2 : Int64)
 (t_2_2 :
 List
 (UInt64 ×
 List UInt8 ×
 List zt10 ×
 List zt4))
 (t_3_1 t_4_1 : Int64) (times0_3 times1_3 times2_3 : UInt64)
 (g_3 :
 Option
 zt1)
 (x0_2 : UInt8) (x1_2 : List UInt8) (x2_2 : List zt10) (x3_2 : UInt8) (x4_2 : UInt64)
 (x5_2 : UInt8) (x6_2 : Int64) =>
 rec_1 idle_3 e_3 now_2 now_2 (told_2 + (1 : Int64)) t_5 t_1_2 t_2_2 t_3_1 (t_4_1 + (1 : Int64)) times0_3 times1_3
 times2_3 g_3 x0_2 x1_2 x2_2 x3_2 x4_2 x5_2 x6_2
noncomputable def F4_L524123 : Nat →
 Arr
 [PT.int IntKind.u8, PT.int IntKind.i64, PT.int IntKind.u64, PT.int IntKind.u64, PT.int IntKind.i64,
 PT.int IntKind.i64, PT.int IntKind.i64, PT.int IntKind.u64, PT.int IntKind.u64, PT.int IntKind.u64,
 PT.opt
 (OTs.cons
 (OT.c
 (CT.rop
 (CTs.cons
 (CT.ro
 zc2)
 CTs.nil)))
 (OTs.cons
 (OT.map zv9
 (VT.agg
 (CTs.cons (CT.ro zc5)
 (CTs.cons (CT.int IntKind.u64)
 (CTs.cons CT.bool
 (CTs.cons (CT.int IntKind.u64)
 (CTs.cons
 (CT.rom (CTs.cons (CT.int IntKind.u8) zc5)
 zc0)
 CTs.nil)))))))
 (OTs.cons (OT.c (CT.int IntKind.u64)) OTs.nil))),
 PT.int IntKind.u8, PT.bytes, PT.list zc5, PT.int IntKind.u8,
 PT.int IntKind.u64, PT.int IntKind.u8, PT.int IntKind.i64]
 (Option (Bool × Unit)) →
 Arr
 [PT.int IntKind.u8, PT.int IntKind.i64, PT.int IntKind.u64, PT.int IntKind.u64, PT.int IntKind.i64,
 PT.int IntKind.i64, PT.int IntKind.i64,
 PT.list
 (CTs.cons (CT.int IntKind.u64)
 (CTs.cons CT.str
 (CTs.cons (CT.ro zc5)
 (CTs.cons
 (CT.ro
 zc0)
 CTs.nil)))),
 PT.int IntKind.i64, PT.int IntKind.i64, PT.int IntKind.u64, PT.int IntKind.u64, PT.int IntKind.u64,
 PT.opt
 (OTs.cons
 (OT.c
 (CT.rop
 (CTs.cons
 (CT.ro
 zc2)
 CTs.nil)))
 (OTs.cons
 (OT.map zv9
 (VT.agg
 (CTs.cons (CT.ro zc5)
 (CTs.cons (CT.int IntKind.u64)
 (CTs.cons CT.bool
 (CTs.cons (CT.int IntKind.u64)
 (CTs.cons
 (CT.rom (CTs.cons (CT.int IntKind.u8) zc5)
 zc0)
 CTs.nil)))))))
 (OTs.cons (OT.c (CT.int IntKind.u64)) OTs.nil))),
 PT.int IntKind.u8, PT.bytes, PT.list zc5, PT.int IntKind.u8,
 PT.int IntKind.u64, PT.int IntKind.u8, PT.int IntKind.i64]
 (Option (Bool × Unit)) →
 UInt8 →
 Int64 →
 UInt64 →
 UInt64 →
 Int64 →
 Int64 →
 Int64 →
 List
 (UInt64 ×
 List UInt8 ×
 List zt10 ×
 List
 zt4) →
 Int64 →
 Int64 →
 UInt64 →
 UInt64 →
 UInt64 →
 Option
 zt1 →
 UInt8 →
 List UInt8 →
 List zt10 →
 UInt8 → UInt64 → UInt8 → Int64 → Option (Bool × Unit) := fun (n : Nat)
 (rec :
 Arr
 [PT.int IntKind.u8, PT.int IntKind.i64, PT.int IntKind.u64, PT.int IntKind.u64, PT.int IntKind.i64,
 PT.int IntKind.i64, PT.int IntKind.i64, PT.int IntKind.u64, PT.int IntKind.u64, PT.int IntKind.u64,
 PT.opt
 (OTs.cons
 (OT.c
 (CT.rop
 (CTs.cons
 (CT.ro
 zc2)
 CTs.nil)))
 (OTs.cons
 (OT.map zv9
 (VT.agg
 (CTs.cons (CT.ro zc5)
 (CTs.cons (CT.int IntKind.u64)
 (CTs.cons CT.bool
 (CTs.cons (CT.int IntKind.u64)
 (CTs.cons
 (CT.rom (CTs.cons (CT.int IntKind.u8) zc5)
 zc0)
 CTs.nil)))))))
 (OTs.cons (OT.c (CT.int IntKind.u64)) OTs.nil))),
 PT.int IntKind.u8, PT.bytes, PT.list zc5, PT.int IntKind.u8,
 PT.int IntKind.u64, PT.int IntKind.u8, PT.int IntKind.i64]
 (Option (Bool × Unit)))
 (rec_1 :
 Arr
 [PT.int IntKind.u8, PT.int IntKind.i64, PT.int IntKind.u64, PT.int IntKind.u64, PT.int IntKind.i64,
 PT.int IntKind.i64, PT.int IntKind.i64,
 PT.list
 (CTs.cons (CT.int IntKind.u64)
 (CTs.cons CT.str
 (CTs.cons (CT.ro zc5)
 (CTs.cons
 (CT.ro
 zc0)
 CTs.nil)))),
 PT.int IntKind.i64, PT.int IntKind.i64, PT.int IntKind.u64, PT.int IntKind.u64, PT.int IntKind.u64,
 PT.opt
 (OTs.cons
 (OT.c
 (CT.rop
 (CTs.cons
 (CT.ro
 zc2)
 CTs.nil)))
 (OTs.cons
 (OT.map zv9
 (VT.agg
 (CTs.cons (CT.ro zc5)
 (CTs.cons (CT.int IntKind.u64)
 (CTs.cons CT.bool
 (CTs.cons (CT.int IntKind.u64)
 (CTs.cons
 (CT.rom (CTs.cons (CT.int IntKind.u8) zc5)
 zc0)
 CTs.nil)))))))
 (OTs.cons (OT.c (CT.int IntKind.u64)) OTs.nil))),
 PT.int IntKind.u8, PT.bytes, PT.list zc5, PT.int IntKind.u8,
 PT.int IntKind.u64, PT.int IntKind.u8, PT.int IntKind.i64]
 (Option (Bool × Unit)))
 (idle_2 : UInt8) (e_2 : Int64) (last_1 now_1 : UInt64) (told_1 t_2 t_1_1 : Int64)
 (t_2_1 :
 List
 (UInt64 ×
 List UInt8 ×
 List zt10 ×
 List zt4))
 (t_3 t_4 : Int64) (times0_2 times1_2 times2_2 : UInt64)
 (g_2 :
 Option
 zt1)
 (x0_1 : UInt8) (x1_1 : List UInt8) (x2_1 : List zt10) (x3_1 : UInt8) (x4_1 : UInt64)
 (x5_1 : UInt8) (x6_1 : Int64) =>
 oite (decide (t_4 < t_3))
 (obind (at? t_2_1 (Int64.toInt t_4))
 fun
 (x_5 :
 UInt64 ×
 List UInt8 ×
 List zt10 ×
 List zt4) =>
 ojoinA (16771949 : Nat)
 [PT.int IntKind.u8, PT.int IntKind.i64, PT.int IntKind.u64, PT.int IntKind.i64, PT.int IntKind.i64,
 PT.int IntKind.i64,
 PT.list
 (CTs.cons (CT.int IntKind.u64)
 (CTs.cons CT.str
 (CTs.cons (CT.ro zc5)
 (CTs.cons
 (CT.ro
 zc0)
 CTs.nil)))),
 PT.int IntKind.i64, PT.int IntKind.i64, PT.int IntKind.u64, PT.int IntKind.u64, PT.int IntKind.u64,
 PT.opt
 (OTs.cons
 (OT.c
 (CT.rop
 (CTs.cons
 (CT.ro
 zc2)
 CTs.nil)))
 (OTs.cons
 (OT.map zv9
 (VT.agg
 (CTs.cons (CT.ro zc5)
 (CTs.cons (CT.int IntKind.u64)
 (CTs.cons CT.bool
 (CTs.cons (CT.int IntKind.u64)
 (CTs.cons
 (CT.rom (CTs.cons (CT.int IntKind.u8) zc5)
 zc0)
 CTs.nil)))))))
 (OTs.cons (OT.c (CT.int IntKind.u64)) OTs.nil))),
 PT.int IntKind.u8, PT.bytes, PT.list zc5, PT.int IntKind.u8,
 PT.int IntKind.u64, PT.int IntKind.u8, PT.int IntKind.i64]
 (fun
 (J :
 Arr
 [PT.int IntKind.u8, PT.int IntKind.i64, PT.int IntKind.u64, PT.int IntKind.i64, PT.int IntKind.i64,
 PT.int IntKind.i64,
 PT.list
 (CTs.cons (CT.int IntKind.u64)
 (CTs.cons CT.str
 (CTs.cons (CT.ro zc5)
 (CTs.cons
 (CT.ro
 zc0)
 CTs.nil)))),
 PT.int IntKind.i64, PT.int IntKind.i64, PT.int IntKind.u64, PT.int IntKind.u64, PT.int IntKind.u64,
 PT.opt
 (OTs.cons
 (OT.c
 (CT.rop
 (CTs.cons
 (CT.ro
 zc2)
 CTs.nil)))
 (OTs.cons
 (OT.map zv9
 (VT.agg
 (CTs.cons (CT.ro zc5)
 (CTs.cons (CT.int IntKind.u64)
 (CTs.cons CT.bool
 (CTs.cons (CT.int IntKind.u64)
 (CTs.cons
 (CT.rom (CTs.cons (CT.int IntKind.u8) zc5)
 zc0)
 CTs.nil)))))))
 (OTs.cons (OT.c (CT.int IntKind.u64)) OTs.nil))),
 PT.int IntKind.u8, PT.bytes, PT.list zc5, PT.int IntKind.u8,
 PT.int IntKind.u64, PT.int IntKind.u8, PT.int IntKind.i64]
 (Option (Bool × Unit))) =>
 oite (!x_5.2.1 == [(111 : UInt8), (112 : UInt8), (115 : UInt8)]) (some (false, ()))
 (oite (!decide (x_5.1 = now_1)) (some (false, ()))
 (oite (!decide (Int64.ofInt ↑(List.length x_5.2.2.2) = (1 : Int64)))
 (some (false, ()))
 (obind (at? x_5.2.2.2 (Int64.toInt (0 : Int64)))
 fun (x_6 : UInt8 × List UInt8 × List zt10 × UInt8 × UInt64 × UInt8 × Int64) =>
 obind
 (F14 n
 ((x_6.1, x_6.2.1, x_6.2.2.1,
 x_6.2.2.2.1,
 x_6.2.2.2.2.1,
 x_6.2.2.2.2.2.1,
 x_6.2.2.2.2.2.2),
 x0_1, x1_1, x2_1, x3_1, x4_1, x5_1, x6_1))
 fun (x_7 : Bool × Unit) =>
 oite (!x_7.1) (some (false, ()))
 (oite (decide (told_1 = (0 : Int64)))
 (oite (!decide (now_1 = (1 : UInt64) + times0_2)) (some (false, ()))
 (oite (decide ((0 : Int64) < told_1))
 (oite (decide (now_1 - last_1 < times2_2)) (some (false, ()))
 (oite (decide (times2_2 + times1_2 ≤ now_1 - last_1)) (some (false, ()))
 (J idle_2 e_2 now_1 told_1 t_2 t_1_1 t_2_1 t_3 t_4 times0_2 times1_2 times2_2 g_2 x0_1
 x1_1 x2_1 x3_1 x4_1 x5_1 x6_1)))
 (J idle_2 e_2 now_1 told_1 t_2 t_1_1 t_2_1 t_3 t_4 times0_2 times1_2 times2_2 g_2 x0_1 x1_1
 x2_1 x3_1 x4_1 x5_1 x6_1)))
 (oite (decide ((0 : Int64) < told_1))
 (oite (decide (now_1 - last_1 < times2_2)) (some (false, ()))
 (oite (decide (times2_2 + times1_2 ≤ now_1 - last_1)) (some (false, ()))
 (J idle_2 e_2 now_1 told_1 t_2 t_1_1 t_2_1 t_3 t_4 times0_2 times1_2 times2_2 g_2 x0_1
 x1_1 x2_1 x3_1 x4_1 x5_1 x6_1)))
 (J idle_2 e_2 now_1 told_1 t_2 t_1_1 t_2_1 t_3 t_4 times0_2 times1_2 times2_2 g_2 x0_1 x1_1
 x2_1 x3_1 x4_1 x5_1 x6_1)))))))
 (F4_J16771949 rec_1))
 (rec idle_2 e_2 last_1 now_1 told_1 t_2 (t_1_1 + (1 : Int64)) times0_2 times1_2 times2_2 g_2 x0_1 x1_1 x2_1 x3_1
 x4_1 x5_1 x6_1)
noncomputable def F4_R524123 : Nat →
 Arr
 [PT.int IntKind.u8, PT.int IntKind.i64, PT.int IntKind.u64, PT.int IntKind.u64, PT.int IntKind.i64,
 PT.int IntKind.i64, PT.int IntKind.i64, PT.int IntKind.u64, PT.int IntKind.u64, PT.int IntKind.u64,
 PT.opt
 (OTs.cons
 (OT.c
 (CT.rop
 (CTs.cons
 (CT.ro
 zc2)
 CTs.nil)))
 (OTs.cons
 (OT.map zv9
 (VT.agg
 (CTs.cons (CT.ro zc5)
 (CTs.cons (CT.int IntKind.u64)
 (CTs.cons CT.bool
 (CTs.cons (CT.int IntKind.u64)
 (CTs.cons
 (CT.rom (CTs.cons (CT.int IntKind.u8) zc5)
 zc0)
 CTs.nil)))))))
 (OTs.cons (OT.c (CT.int IntKind.u64)) OTs.nil))),
 PT.int IntKind.u8, PT.bytes, PT.list zc5, PT.int IntKind.u8,
 PT.int IntKind.u64, PT.int IntKind.u8, PT.int IntKind.i64]
 (Option (Bool × Unit)) →
 Nat →
 PT.T (PT.int IntKind.u8) →
 Int64 →
 UInt64 →
 UInt64 →
 Int64 →
 Int64 →
 Int64 →
 List
 (UInt64 ×
 List UInt8 ×
 List zt10 ×
 List
 zt4) →
 Int64 →
 Int64 →
 UInt64 →
 UInt64 →
 UInt64 →
 Option
 zt1 →
 UInt8 →
 List UInt8 →
 List zt10 →
 UInt8 → UInt64 → UInt8 → Int64 → Option (Bool × Unit) := fun (n : Nat)
 (rec :
 Arr
 [PT.int IntKind.u8, PT.int IntKind.i64, PT.int IntKind.u64, PT.int IntKind.u64, PT.int IntKind.i64,
 PT.int IntKind.i64, PT.int IntKind.i64, PT.int IntKind.u64, PT.int IntKind.u64, PT.int IntKind.u64,
 PT.opt
 (OTs.cons
 (OT.c
 (CT.rop
 (CTs.cons
 (CT.ro
 zc2)
 CTs.nil)))
 (OTs.cons
 (OT.map zv9
 (VT.agg
 (CTs.cons (CT.ro zc5)
 (CTs.cons (CT.int IntKind.u64)
 (CTs.cons CT.bool
 (CTs.cons (CT.int IntKind.u64)
 (CTs.cons
 (CT.rom (CTs.cons (CT.int IntKind.u8) zc5)
 zc0)
 CTs.nil)))))))
 (OTs.cons (OT.c (CT.int IntKind.u64)) OTs.nil))),
 PT.int IntKind.u8, PT.bytes, PT.list zc5, PT.int IntKind.u8,
 PT.int IntKind.u64, PT.int IntKind.u8, PT.int IntKind.i64]
 (Option (Bool × Unit))) =>
 ofixA (524123 : Nat)
 [PT.int IntKind.u8, PT.int IntKind.i64, PT.int IntKind.u64, PT.int IntKind.u64, PT.int IntKind.i64,
 PT.int IntKind.i64, PT.int IntKind.i64,
 PT.list
 (CTs.cons (CT.int IntKind.u64)
 (CTs.cons CT.str
 (CTs.cons (CT.ro zc5)
 (CTs.cons
 (CT.ro
 zc0)
 CTs.nil)))),
 PT.int IntKind.i64, PT.int IntKind.i64, PT.int IntKind.u64, PT.int IntKind.u64, PT.int IntKind.u64,
 PT.opt
 (OTs.cons
 (OT.c
 (CT.rop
 (CTs.cons
 (CT.ro
 zc2)
 CTs.nil)))
 (OTs.cons
 (OT.map zv9
 (VT.agg
 (CTs.cons (CT.ro zc5)
 (CTs.cons (CT.int IntKind.u64)
 (CTs.cons CT.bool
 (CTs.cons (CT.int IntKind.u64)
 (CTs.cons
 (CT.rom (CTs.cons (CT.int IntKind.u8) zc5)
 zc0)
 CTs.nil)))))))
 (OTs.cons (OT.c (CT.int IntKind.u64)) OTs.nil))),
 PT.int IntKind.u8, PT.bytes, PT.list zc5, PT.int IntKind.u8,
 PT.int IntKind.u64, PT.int IntKind.u8, PT.int IntKind.i64]
 (F4_L524123 n rec)
noncomputable def F4_L8388443 : Arr
 [PT.int IntKind.i64, PT.int IntKind.u64, PT.int IntKind.u64, PT.int IntKind.i64, PT.int IntKind.i64,
 PT.int IntKind.i64, PT.int IntKind.i64, PT.int IntKind.u64, PT.int IntKind.u64, PT.int IntKind.u64,
 PT.opt
 (OTs.cons
 (OT.c
 (CT.rop
 (CTs.cons
 (CT.ro
 zc2)
 CTs.nil)))
 (OTs.cons
 (OT.map zv9
 (VT.agg
 (CTs.cons (CT.ro zc5)
 (CTs.cons (CT.int IntKind.u64)
 (CTs.cons CT.bool
 (CTs.cons (CT.int IntKind.u64)
 (CTs.cons
 (CT.rom (CTs.cons (CT.int IntKind.u8) zc5)
 zc0)
 CTs.nil)))))))
 (OTs.cons (OT.c (CT.int IntKind.u64)) OTs.nil))),
 PT.int IntKind.u8, PT.bytes, PT.list zc5, PT.int IntKind.u8,
 PT.int IntKind.u64, PT.int IntKind.u8, PT.int IntKind.i64]
 (Option (Bool × Unit)) →
 Arr
 [PT.int IntKind.i64, PT.int IntKind.u64, PT.int IntKind.u64, PT.int IntKind.i64, PT.int IntKind.i64,
 PT.int IntKind.i64, PT.int IntKind.i64,
 PT.list
 (CTs.cons (CT.int IntKind.u64)
 (CTs.cons CT.str
 (CTs.cons (CT.ro zc5)
 (CTs.cons
 (CT.ro
 zc0)
 CTs.nil)))),
 PT.int IntKind.i64, PT.int IntKind.i64, PT.int IntKind.u64, PT.int IntKind.u64, PT.int IntKind.u64,
 PT.opt
 (OTs.cons
 (OT.c
 (CT.rop
 (CTs.cons
 (CT.ro
 zc2)
 CTs.nil)))
 (OTs.cons
 (OT.map zv9
 (VT.agg
 (CTs.cons (CT.ro zc5)
 (CTs.cons (CT.int IntKind.u64)
 (CTs.cons CT.bool
 (CTs.cons (CT.int IntKind.u64)
 (CTs.cons
 (CT.rom (CTs.cons (CT.int IntKind.u8) zc5)
 zc0)
 CTs.nil)))))))
 (OTs.cons (OT.c (CT.int IntKind.u64)) OTs.nil))),
 PT.int IntKind.u8, PT.bytes, PT.list zc5, PT.int IntKind.u8,
 PT.int IntKind.u64, PT.int IntKind.u8, PT.int IntKind.i64]
 (Option (Bool × Unit)) →
 Int64 →
 UInt64 →
 UInt64 →
 Int64 →
 Int64 →
 Int64 →
 Int64 →
 List
 (UInt64 ×
 List UInt8 ×
 List zt10 ×
 List
 zt4) →
 Int64 →
 Int64 →
 UInt64 →
 UInt64 →
 UInt64 →
 Option
 zt1 →
 UInt8 →
 List UInt8 →
 List zt10 →
 UInt8 → UInt64 → UInt8 → Int64 → Option (Bool × Unit) := fun
 (rec_1 :
 Arr
 [PT.int IntKind.i64, PT.int IntKind.u64, PT.int IntKind.u64, PT.int IntKind.i64, PT.int IntKind.i64,
 PT.int IntKind.i64, PT.int IntKind.i64, PT.int IntKind.u64, PT.int IntKind.u64, PT.int IntKind.u64,
 PT.opt
 (OTs.cons
 (OT.c
 (CT.rop
 (CTs.cons
 (CT.ro
 zc2)
 CTs.nil)))
 (OTs.cons
 (OT.map zv9
 (VT.agg
 (CTs.cons (CT.ro zc5)
 (CTs.cons (CT.int IntKind.u64)
 (CTs.cons CT.bool
 (CTs.cons (CT.int IntKind.u64)
 (CTs.cons
 (CT.rom (CTs.cons (CT.int IntKind.u8) zc5)
 zc0)
 CTs.nil)))))))
 (OTs.cons (OT.c (CT.int IntKind.u64)) OTs.nil))),
 PT.int IntKind.u8, PT.bytes, PT.list zc5, PT.int IntKind.u8,
 PT.int IntKind.u64, PT.int IntKind.u8, PT.int IntKind.i64]
 (Option (Bool × Unit)))
 (rec_2 :
 Arr
 [PT.int IntKind.i64, PT.int IntKind.u64, PT.int IntKind.u64, PT.int IntKind.i64, PT.int IntKind.i64,
 PT.int IntKind.i64, PT.int IntKind.i64,
 PT.list
 (CTs.cons (CT.int IntKind.u64)
 (CTs.cons CT.str
 (CTs.cons (CT.ro zc5)
 (CTs.cons
 (CT.ro
 zc0)
 CTs.nil)))),
 PT.int IntKind.i64, PT.int IntKind.i64, PT.int IntKind.u64, PT.int IntKind.u64, PT.int IntKind.u64,
 PT.opt
 (OTs.cons
 (OT.c
 (CT.rop
 (CTs.cons
 (CT.ro
 zc2)
 CTs.nil)))
 (OTs.cons
 (OT.map zv9
 (VT.agg
 (CTs.cons (CT.ro zc5)
 (CTs.cons (CT.int IntKind.u64)
 (CTs.cons CT.bool
 (CTs.cons (CT.int IntKind.u64)
 (CTs.cons
 (CT.rom (CTs.cons (CT.int IntKind.u8) zc5)
 zc0)
 CTs.nil)))))))
 (OTs.cons (OT.c (CT.int IntKind.u64)) OTs.nil))),
 PT.int IntKind.u8, PT.bytes, PT.list zc5, PT.int IntKind.u8,
 PT.int IntKind.u64, PT.int IntKind.u8, PT.int IntKind.i64]
 (Option (Bool × Unit)))
 (e_3 : Int64) (last_2 now_2 : UInt64) (told_2 over_1 t_3 t_1_2 : Int64)
 (t_2_1 :
 List
 (UInt64 ×
 List UInt8 ×
 List zt10 ×
 List zt4))
 (t_3_1 t_4 : Int64) (times0_3 times1_3 times2_3 : UInt64)
 (g_3 :
 Option
 zt1)
 (y0_1 : UInt8) (y1_1 : List UInt8) (y2_1 : List zt10) (y3_1 : UInt8) (y4_1 : UInt64)
 (y5_1 : UInt8) (y6_1 : Int64) =>
 oite (decide (t_4 < t_3_1))
 (obind (at? t_2_1 (Int64.toInt t_4))
 fun
 (x_5 :
 UInt64 ×
 List UInt8 ×
 List zt10 ×
 List zt4) =>
 oite (!decide (Int64.ofInt ↑(List.length x_5.2.2.2) = (1 : Int64)))
 (some (false, ()))
 (obind (at? x_5.2.2.2 (Int64.toInt (0 : Int64)))
 fun (x_6 : UInt8 × List UInt8 × List zt10 × UInt8 × UInt64 × UInt8 × Int64) =>
 oite (!decide (x_6.2.2.2.1 = (0 : UInt8))) (some (false, ()))
 (oite (decide (times2_3 + (2 : UInt64) * times1_3 < now_2 - last_2)) (some (false, ()))
 (rec_2 e_3 last_2 now_2 told_2 (over_1 + (1 : Int64)) t_3 t_1_2 t_2_1 t_3_1 (t_4 + (1 : Int64)) times0_3
 times1_3 times2_3 g_3 y0_1 y1_1 y2_1 y3_1 y4_1 y5_1 y6_1))))
 (rec_1 e_3 last_2 now_2 told_2 over_1 t_3 (t_1_2 + (1 : Int64)) times0_3 times1_3 times2_3 g_3 y0_1 y1_1 y2_1 y3_1
 y4_1 y5_1 y6_1)
noncomputable def F4_R8388443 : Arr
 [PT.int IntKind.i64, PT.int IntKind.u64, PT.int IntKind.u64, PT.int IntKind.i64, PT.int IntKind.i64,
 PT.int IntKind.i64, PT.int IntKind.i64, PT.int IntKind.u64, PT.int IntKind.u64, PT.int IntKind.u64,
 PT.opt
 (OTs.cons
 (OT.c
 (CT.rop
 (CTs.cons
 (CT.ro
 zc2)
 CTs.nil)))
 (OTs.cons
 (OT.map zv9
 (VT.agg
 (CTs.cons (CT.ro zc5)
 (CTs.cons (CT.int IntKind.u64)
 (CTs.cons CT.bool
 (CTs.cons (CT.int IntKind.u64)
 (CTs.cons
 (CT.rom (CTs.cons (CT.int IntKind.u8) zc5)
 zc0)
 CTs.nil)))))))
 (OTs.cons (OT.c (CT.int IntKind.u64)) OTs.nil))),
 PT.int IntKind.u8, PT.bytes, PT.list zc5, PT.int IntKind.u8,
 PT.int IntKind.u64, PT.int IntKind.u8, PT.int IntKind.i64]
 (Option (Bool × Unit)) →
 Nat →
 PT.T (PT.int IntKind.i64) →
 UInt64 →
 UInt64 →
 Int64 →
 Int64 →
 Int64 →
 Int64 →
 List
 (UInt64 ×
 List UInt8 ×
 List zt10 ×
 List
 zt4) →
 Int64 →
 Int64 →
 UInt64 →
 UInt64 →
 UInt64 →
 Option
 zt1 →
 UInt8 →
 List UInt8 →
 List zt10 →
 UInt8 → UInt64 → UInt8 → Int64 → Option (Bool × Unit) := fun
 (rec_1 :
 Arr
 [PT.int IntKind.i64, PT.int IntKind.u64, PT.int IntKind.u64, PT.int IntKind.i64, PT.int IntKind.i64,
 PT.int IntKind.i64, PT.int IntKind.i64, PT.int IntKind.u64, PT.int IntKind.u64, PT.int IntKind.u64,
 PT.opt
 (OTs.cons
 (OT.c
 (CT.rop
 (CTs.cons
 (CT.ro
 zc2)
 CTs.nil)))
 (OTs.cons
 (OT.map zv9
 (VT.agg
 (CTs.cons (CT.ro zc5)
 (CTs.cons (CT.int IntKind.u64)
 (CTs.cons CT.bool
 (CTs.cons (CT.int IntKind.u64)
 (CTs.cons
 (CT.rom (CTs.cons (CT.int IntKind.u8) zc5)
 zc0)
 CTs.nil)))))))
 (OTs.cons (OT.c (CT.int IntKind.u64)) OTs.nil))),
 PT.int IntKind.u8, PT.bytes, PT.list zc5, PT.int IntKind.u8,
 PT.int IntKind.u64, PT.int IntKind.u8, PT.int IntKind.i64]
 (Option (Bool × Unit))) =>
 ofixA (8388443 : Nat)
 [PT.int IntKind.i64, PT.int IntKind.u64, PT.int IntKind.u64, PT.int IntKind.i64, PT.int IntKind.i64,
 PT.int IntKind.i64, PT.int IntKind.i64,
 PT.list
 (CTs.cons (CT.int IntKind.u64)
 (CTs.cons CT.str
 (CTs.cons (CT.ro zc5)
 (CTs.cons
 (CT.ro
 zc0)
 CTs.nil)))),
 PT.int IntKind.i64, PT.int IntKind.i64, PT.int IntKind.u64, PT.int IntKind.u64, PT.int IntKind.u64,
 PT.opt
 (OTs.cons
 (OT.c
 (CT.rop
 (CTs.cons
 (CT.ro
 zc2)
 CTs.nil)))
 (OTs.cons
 (OT.map zv9
 (VT.agg
 (CTs.cons (CT.ro zc5)
 (CTs.cons (CT.int IntKind.u64)
 (CTs.cons CT.bool
 (CTs.cons (CT.int IntKind.u64)
 (CTs.cons
 (CT.rom (CTs.cons (CT.int IntKind.u8) zc5)
 zc0)
 CTs.nil)))))))
 (OTs.cons (OT.c (CT.int IntKind.u64)) OTs.nil))),
 PT.int IntKind.u8, PT.bytes, PT.list zc5, PT.int IntKind.u8,
 PT.int IntKind.u64, PT.int IntKind.u8, PT.int IntKind.i64]
 (F4_L8388443 rec_1)
noncomputable def F4_L131069 : Nat →
 Arr
 [PT.int IntKind.i64, PT.int IntKind.u64, PT.int IntKind.u64, PT.int IntKind.i64, PT.int IntKind.i64,
 PT.int IntKind.i64, PT.int IntKind.i64, PT.int IntKind.u64, PT.int IntKind.u64, PT.int IntKind.u64,
 PT.opt
 (OTs.cons
 (OT.c
 (CT.rop
 (CTs.cons
 (CT.ro
 zc2)
 CTs.nil)))
 (OTs.cons
 (OT.map zv9
 (VT.agg
 (CTs.cons (CT.ro zc5)
 (CTs.cons (CT.int IntKind.u64)
 (CTs.cons CT.bool
 (CTs.cons (CT.int IntKind.u64)
 (CTs.cons
 (CT.rom (CTs.cons (CT.int IntKind.u8) zc5)
 zc0)
 CTs.nil)))))))
 (OTs.cons (OT.c (CT.int IntKind.u64)) OTs.nil))),
 PT.int IntKind.u8, PT.bytes, PT.list zc5, PT.int IntKind.u8,
 PT.int IntKind.u64, PT.int IntKind.u8, PT.int IntKind.i64]
 (Option (Bool × Unit)) →
 Int64 →
 UInt64 →
 UInt64 →
 Int64 →
 Int64 →
 Int64 →
 Int64 →
 UInt64 →
 UInt64 →
 UInt64 →
 Option
 zt1 →
 UInt8 →
 List UInt8 →
 List zt10 → UInt8 → UInt64 → UInt8 → Int64 → Option (Bool × Unit) := fun (n : Nat)
 (rec_1 :
 Arr
 [PT.int IntKind.i64, PT.int IntKind.u64, PT.int IntKind.u64, PT.int IntKind.i64, PT.int IntKind.i64,
 PT.int IntKind.i64, PT.int IntKind.i64, PT.int IntKind.u64, PT.int IntKind.u64, PT.int IntKind.u64,
 PT.opt
 (OTs.cons
 (OT.c
 (CT.rop
 (CTs.cons
 (CT.ro
 zc2)
 CTs.nil)))
 (OTs.cons
 (OT.map zv9
 (VT.agg
 (CTs.cons (CT.ro zc5)
 (CTs.cons (CT.int IntKind.u64)
 (CTs.cons CT.bool
 (CTs.cons (CT.int IntKind.u64)
 (CTs.cons
 (CT.rom (CTs.cons (CT.int IntKind.u8) zc5)
 zc0)
 CTs.nil)))))))
 (OTs.cons (OT.c (CT.int IntKind.u64)) OTs.nil))),
 PT.int IntKind.u8, PT.bytes, PT.list zc5, PT.int IntKind.u8,
 PT.int IntKind.u64, PT.int IntKind.u8, PT.int IntKind.i64]
 (Option (Bool × Unit)))
 (e_2 : Int64) (last_1 now_1 : UInt64) (told_1 over t_2 t_1_1 : Int64) (times0_2 times1_2 times2_2 : UInt64)
 (g_2 :
 Option
 zt1)
 (y0 : UInt8) (y1 : List UInt8) (y2 : List zt10) (y3 : UInt8) (y4 : UInt64) (y5 : UInt8)
 (y6 : Int64) =>
 oite (decide (t_1_1 < t_2))
 (obind
 (F13 n
 (g_2, now_1 + (1 : UInt64),
 @List.nil zt4,
 [(y0, y1, y2, y3, y4, y5, y6)]))
 fun
 (x_4 :
 List
 (UInt64 ×
 List UInt8 ×
 List zt10 ×
 List zt4) ×
 Option
 zt1) =>
 F4_R8388443 rec_1 n e_2 last_1 (now_1 + (1 : UInt64)) told_1 over t_2 t_1_1 x_4.1
 (Int64.ofInt ↑(List.length x_4.1)) (0 : Int64) times0_2 times1_2 times2_2 x_4.2 y0 y1 y2 y3 y4
 y5 y6)
 (obind (F15 n g_2)
 fun
 (x_4 :
 (Int64 × UInt64) ×
 Option
 zt1) =>
 oite (decide (e_2 = (0 : Int64)))
 (oite (decide ((0 : Int64) < told_1))
 (oite (decide (over = (1 : Int64))) (some (decide (x_4.1.1 = (0 : Int64)), ()))
 (some (false, ())))
 (some (false, ())))
 (some (false, ())))
noncomputable def F4_R131069 : Nat →
 Nat →
 PT.T (PT.int IntKind.i64) →
 UInt64 →
 UInt64 →
 Int64 →
 Int64 →
 Int64 →
 Int64 →
 UInt64 →
 UInt64 →
 UInt64 →
 Option
 zt1 →
 UInt8 →
 List UInt8 →
 List zt10 → UInt8 → UInt64 → UInt8 → Int64 → Option (Bool × Unit) := fun (n : Nat) =>
 ofixA (131069 : Nat)
 [PT.int IntKind.i64, PT.int IntKind.u64, PT.int IntKind.u64, PT.int IntKind.i64, PT.int IntKind.i64,
 PT.int IntKind.i64, PT.int IntKind.i64, PT.int IntKind.u64, PT.int IntKind.u64, PT.int IntKind.u64,
 PT.opt
 (OTs.cons
 (OT.c
 (CT.rop
 (CTs.cons
 (CT.ro
 zc2)
 CTs.nil)))
 (OTs.cons
 (OT.map zv9
 (VT.agg
 (CTs.cons (CT.ro zc5)
 (CTs.cons (CT.int IntKind.u64)
 (CTs.cons CT.bool
 (CTs.cons (CT.int IntKind.u64)
 (CTs.cons
 (CT.rom (CTs.cons (CT.int IntKind.u8) zc5)
 zc0)
 CTs.nil)))))))
 (OTs.cons (OT.c (CT.int IntKind.u64)) OTs.nil))),
 PT.int IntKind.u8, PT.bytes, PT.list zc5, PT.int IntKind.u8,
 PT.int IntKind.u64, PT.int IntKind.u8, PT.int IntKind.i64]
 (F4_L131069 n)
noncomputable def F4_L8189 : Nat →
 Arr
 [PT.int IntKind.u8, PT.int IntKind.i64, PT.int IntKind.u64, PT.int IntKind.u64, PT.int IntKind.i64,
 PT.int IntKind.i64, PT.int IntKind.i64, PT.int IntKind.u64, PT.int IntKind.u64, PT.int IntKind.u64,
 PT.opt
 (OTs.cons
 (OT.c
 (CT.rop
 (CTs.cons
 (CT.ro
 zc2)
 CTs.nil)))
 (OTs.cons
 (OT.map zv9
 (VT.agg
 (CTs.cons (CT.ro zc5)
 (CTs.cons (CT.int IntKind.u64)
 (CTs.cons CT.bool
 (CTs.cons (CT.int IntKind.u64)
 (CTs.cons
 (CT.rom (CTs.cons (CT.int IntKind.u8) zc5)
 zc0)
 CTs.nil)))))))
 (OTs.cons (OT.c (CT.int IntKind.u64)) OTs.nil))),
 PT.int IntKind.u8, PT.bytes, PT.list zc5, PT.int IntKind.u8,
 PT.int IntKind.u64, PT.int IntKind.u8, PT.int IntKind.i64]
 (Option (Bool × Unit)) →
 UInt8 →
 Int64 →
 UInt64 →
 UInt64 →
 Int64 →
 Int64 →
 Int64 →
 UInt64 →
 UInt64 →
 UInt64 →
 Option
 zt1 →
 UInt8 →
 List UInt8 →
 List zt10 → UInt8 → UInt64 → UInt8 → Int64 → Option (Bool × Unit) := fun (n : Nat)
 (rec :
 Arr
 [PT.int IntKind.u8, PT.int IntKind.i64, PT.int IntKind.u64, PT.int IntKind.u64, PT.int IntKind.i64,
 PT.int IntKind.i64, PT.int IntKind.i64, PT.int IntKind.u64, PT.int IntKind.u64, PT.int IntKind.u64,
 PT.opt
 (OTs.cons
 (OT.c
 (CT.rop
 (CTs.cons
 (CT.ro
 zc2)
 CTs.nil)))
 (OTs.cons
 (OT.map zv9
 (VT.agg
 (CTs.cons (CT.ro zc5)
 (CTs.cons (CT.int IntKind.u64)
 (CTs.cons CT.bool
 (CTs.cons (CT.int IntKind.u64)
 (CTs.cons
 (CT.rom (CTs.cons (CT.int IntKind.u8) zc5)
 zc0)
 CTs.nil)))))))
 (OTs.cons (OT.c (CT.int IntKind.u64)) OTs.nil))),
 PT.int IntKind.u8, PT.bytes, PT.list zc5, PT.int IntKind.u8,
 PT.int IntKind.u64, PT.int IntKind.u8, PT.int IntKind.i64]
 (Option (Bool × Unit)))
 (idle_1 : UInt8) (e_1 : Int64) (last now : UInt64) (told t t_1 : Int64) (times0_1 times1_1 times2_1 : UInt64)
 (g_1 :
 Option
 zt1)
 (x0 : UInt8) (x1 : List UInt8) (x2 : List zt10) (x3 : UInt8) (x4 : UInt64) (x5 : UInt8)
 (x6 : Int64) =>
 oite (decide (t_1 < t))
 (obind (F13 n (g_1, now + (1 : UInt64), [(x0, x1, x2, x3, x4, x5, x6)], [(x0, x1, x2, x3, x4, x5, x6)]))
 fun
 (x_4 :
 List
 (UInt64 ×
 List UInt8 ×
 List zt10 ×
 List zt4) ×
 Option
 zt1) =>
 F4_R524123 n rec n idle_1 e_1 last (now + (1 : UInt64)) told t t_1 x_4.1
 (Int64.ofInt ↑(List.length x_4.1)) (0 : Int64) times0_1 times1_1 times2_1 x_4.2 x0 x1 x2 x3 x4
 x5 x6)
 (F4_R131069 n n e_1 last now told (0 : Int64) ((20 : Int64) + Int64.ofInt ↑(UInt8.toNat (idle_1 % (20 : UInt8))))
 (0 : Int64) times0_1 times1_1 times2_1 g_1 x0 x1 x2 (0 : UInt8) x4 x5 x6)
noncomputable def F4_R8189 : Nat →
 Nat →
 PT.T (PT.int IntKind.u8) →
 Int64 →
 UInt64 →
 UInt64 →
 Int64 →
 Int64 →
 Int64 →
 UInt64 →
 UInt64 →
 UInt64 →
 Option
 zt1 →
 UInt8 →
 List UInt8 →
 List zt10 → UInt8 → UInt64 → UInt8 → Int64 → Option (Bool × Unit) := fun (n : Nat) =>
 ofixA (8189 : Nat)
 [PT.int IntKind.u8, PT.int IntKind.i64, PT.int IntKind.u64, PT.int IntKind.u64, PT.int IntKind.i64,
 PT.int IntKind.i64, PT.int IntKind.i64, PT.int IntKind.u64, PT.int IntKind.u64, PT.int IntKind.u64,
 PT.opt
 (OTs.cons
 (OT.c
 (CT.rop
 (CTs.cons
 (CT.ro
 zc2)
 CTs.nil)))
 (OTs.cons
 (OT.map zv9
 (VT.agg
 (CTs.cons (CT.ro zc5)
 (CTs.cons (CT.int IntKind.u64)
 (CTs.cons CT.bool
 (CTs.cons (CT.int IntKind.u64)
 (CTs.cons
 (CT.rom (CTs.cons (CT.int IntKind.u8) zc5)
 zc0)
 CTs.nil)))))))
 (OTs.cons (OT.c (CT.int IntKind.u64)) OTs.nil))),
 PT.int IntKind.u8, PT.bytes, PT.list zc5, PT.int IntKind.u8,
 PT.int IntKind.u64, PT.int IntKind.u8, PT.int IntKind.i64]
 (F4_L8189 n)
noncomputable def F4_J63 : Nat →
 UInt8 →
 UInt8 →
 Int64 →
 UInt8 →
 UInt8 →
 UInt8 →
 UInt8 →
 UInt8 →
 UInt8 →
 UInt64 →
 UInt64 →
 UInt64 →
 Option
 zt1 →
 Option (Bool × Unit) := fun (n : Nat) (fires idle : UInt8) (e : Int64) (a0 a1 a2 a3 a4 a5 : UInt8) (times0 times1 times2 : UInt64)
 (g :
 Option
 zt1) =>
 obind (F7 n (a0, a1, a2, a3, a4, a5))
 fun (x_3 : zt4 × Unit) =>
 F4_R8189 n n idle e (0 : UInt64) (0 : UInt64) (0 : Int64) ((60 : Int64) + Int64.ofInt ↑(UInt8.toNat fires))
 (0 : Int64) times0 times1 times2 g x_3.1.1 x_3.1.2.1
 x_3.1.2.2.1 (2 : UInt8)
 x_3.1.2.2.2.2.1
 x_3.1.2.2.2.2.2.1
 x_3.1.2.2.2.2.2.2
noncomputable def F4 : Nat → UInt8 × UInt8 × UInt8 × (UInt8 × UInt8 × UInt8 × UInt8 × UInt8 × UInt8) × UInt8 × UInt8 → Option (Bool × Unit) := fun (n : Nat) (x : UInt8 × UInt8 × UInt8 × (UInt8 × UInt8 × UInt8 × UInt8 × UInt8 × UInt8) × UInt8 × UInt8) =>
 obind (F6 n ()) fun (x_1 : Bool × Unit) =>
 oite (!x_1.1) (some (false, ()))
 (obind
 (F11 n
 [(@List.nil zt15, [(111 : UInt8), (112 : UInt8), (115 : UInt8)],
 [[(97 : UInt8)]], UInt64.ofInt ↑(UInt8.toNat (x.1 % (6 : UInt8))),
 (1 : UInt64) + UInt64.ofInt ↑(UInt8.toNat (x.2.1 % (6 : UInt8))),
 (1 : UInt64) + UInt64.ofInt ↑(UInt8.toNat (x.2.1 % (6 : UInt8))) +
 UInt64.ofInt ↑(UInt8.toNat (x.2.2.1 % (20 : UInt8))),
 false, (-1 : Int64))])
 fun
 (x_2 :
 (Option
 (List
 zt7) ×
 Int64) ×
 Unit) =>
 ojoinA (63 : Nat)
 [PT.int IntKind.u8, PT.int IntKind.u8, PT.int IntKind.i64, PT.int IntKind.u8, PT.int IntKind.u8,
 PT.int IntKind.u8, PT.int IntKind.u8, PT.int IntKind.u8, PT.int IntKind.u8, PT.int IntKind.u64,
 PT.int IntKind.u64, PT.int IntKind.u64,
 PT.opt
 (OTs.cons
 (OT.c
 (CT.rop
 (CTs.cons
 (CT.ro
 zc2)
 CTs.nil)))
 (OTs.cons
 (OT.map zv9
 (VT.agg
 (CTs.cons (CT.ro zc5)
 (CTs.cons (CT.int IntKind.u64)
 (CTs.cons CT.bool
 (CTs.cons (CT.int IntKind.u64)
 (CTs.cons
 (CT.rom (CTs.cons (CT.int IntKind.u8) zc5)
 zc0)
 CTs.nil)))))))
 (OTs.cons (OT.c (CT.int IntKind.u64)) OTs.nil)))]
 (fun
 (J :
 Arr
 [PT.int IntKind.u8, PT.int IntKind.u8, PT.int IntKind.i64, PT.int IntKind.u8, PT.int IntKind.u8,
 PT.int IntKind.u8, PT.int IntKind.u8, PT.int IntKind.u8, PT.int IntKind.u8, PT.int IntKind.u64,
 PT.int IntKind.u64, PT.int IntKind.u64,
 PT.opt
 (OTs.cons
 (OT.c
 (CT.rop
 (CTs.cons
 (CT.ro
 zc2)
 CTs.nil)))
 (OTs.cons
 (OT.map zv9
 (VT.agg
 (CTs.cons (CT.ro zc5)
 (CTs.cons (CT.int IntKind.u64)
 (CTs.cons CT.bool
 (CTs.cons (CT.int IntKind.u64)
 (CTs.cons
 (CT.rom
 (CTs.cons (CT.int IntKind.u8) zc5)
 zc0)
 CTs.nil)))))))
 (OTs.cons (OT.c (CT.int IntKind.u64)) OTs.nil)))]
 (Option (Bool × Unit))) =>
 oelim x_2.1.1
 (obind (F12 n none)
 fun
 (x_3 :
 (Option
 zt1 ×
 Int64) ×
 Unit) =>
 J x.2.2.2.2.1
 x.2.2.2.2.2 x_3.1.2
 x.2.2.2.1.1
 x.2.2.2.1.2.1
 x.2.2.2.1.2.2.1
 x.2.2.2.1.2.2.2.1
 x.2.2.2.1.2.2.2.2.1
 x.2.2.2.1.2.2.2.2.2
 (UInt64.ofInt ↑(UInt8.toNat (x.1 % (6 : UInt8))))
 ((1 : UInt64) + UInt64.ofInt ↑(UInt8.toNat (x.2.1 % (6 : UInt8))))
 ((1 : UInt64) + UInt64.ofInt ↑(UInt8.toNat (x.2.1 % (6 : UInt8))) +
 UInt64.ofInt ↑(UInt8.toNat (x.2.2.1 % (20 : UInt8))))
 x_3.1.1)
 fun
 (x_3 :
 List
 zt7) =>
 obind (F12 n (some x_3))
 fun
 (x_4 :
 (Option
 zt1 ×
 Int64) ×
 Unit) =>
 J x.2.2.2.2.1
 x.2.2.2.2.2 x_4.1.2
 x.2.2.2.1.1
 x.2.2.2.1.2.1
 x.2.2.2.1.2.2.1
 x.2.2.2.1.2.2.2.1
 x.2.2.2.1.2.2.2.2.1
 x.2.2.2.1.2.2.2.2.2
 (UInt64.ofInt ↑(UInt8.toNat (x.1 % (6 : UInt8))))
 ((1 : UInt64) + UInt64.ofInt ↑(UInt8.toNat (x.2.1 % (6 : UInt8))))
 ((1 : UInt64) + UInt64.ofInt ↑(UInt8.toNat (x.2.1 % (6 : UInt8))) +
 UInt64.ofInt ↑(UInt8.toNat (x.2.2.1 % (20 : UInt8))))
 x_4.1.1)
 (F4_J63 n))
theorem F4_R524123_s (n : Nat) (rec : Arr [PT.int IntKind.u8, PT.int IntKind.i64, PT.int IntKind.u64, PT.int IntKind.u64, PT.int IntKind.i64, PT.int IntKind.i64, PT.int IntKind.i64, PT.int IntKind.u64, PT.int IntKind.u64, PT.int IntKind.u64, PT.opt (OTs.cons (OT.c (CT.rop (CTs.cons (CT.ro zc2) CTs.nil))) (OTs.cons (OT.map zv9 (VT.agg (CTs.cons (CT.ro zc5) (CTs.cons (CT.int IntKind.u64) (CTs.cons CT.bool (CTs.cons (CT.int IntKind.u64) (CTs.cons (CT.rom (CTs.cons (CT.int IntKind.u8) zc5) zc0) CTs.nil))))))) (OTs.cons (OT.c (CT.int IntKind.u64)) OTs.nil))), PT.int IntKind.u8, PT.bytes, PT.list zc5, PT.int IntKind.u8, PT.int IntKind.u64, PT.int IntKind.u8, PT.int IntKind.i64] (Option (Bool × Unit))) (m_ : Nat) : F4_R524123 n rec (m_ + 1) = F4_L524123 n rec (F4_R524123 n rec m_) := rfl
theorem F4_R8388443_s (rec_1 : Arr [PT.int IntKind.i64, PT.int IntKind.u64, PT.int IntKind.u64, PT.int IntKind.i64, PT.int IntKind.i64, PT.int IntKind.i64, PT.int IntKind.i64, PT.int IntKind.u64, PT.int IntKind.u64, PT.int IntKind.u64, PT.opt (OTs.cons (OT.c (CT.rop (CTs.cons (CT.ro zc2) CTs.nil))) (OTs.cons (OT.map zv9 (VT.agg (CTs.cons (CT.ro zc5) (CTs.cons (CT.int IntKind.u64) (CTs.cons CT.bool (CTs.cons (CT.int IntKind.u64) (CTs.cons (CT.rom (CTs.cons (CT.int IntKind.u8) zc5) zc0) CTs.nil))))))) (OTs.cons (OT.c (CT.int IntKind.u64)) OTs.nil))), PT.int IntKind.u8, PT.bytes, PT.list zc5, PT.int IntKind.u8, PT.int IntKind.u64, PT.int IntKind.u8, PT.int IntKind.i64] (Option (Bool × Unit))) (m_ : Nat) : F4_R8388443 rec_1 (m_ + 1) = F4_L8388443 rec_1 (F4_R8388443 rec_1 m_) := rfl
theorem F4_R131069_s (n : Nat) (m_ : Nat) : F4_R131069 n (m_ + 1) = F4_L131069 n (F4_R131069 n m_) := rfl
theorem F4_R8189_s (n : Nat) (m_ : Nat) : F4_R8189 n (m_ + 1) = F4_L8189 n (F4_R8189 n m_) := rfl
theorem ok4 (n : Nat) : FunOK Try.prog ⟨4, sig4, F4 n⟩ :=
 fun_ok (hints := ⟨[(63, ⟨[(4, .one (.int .u8)), (5, .one (.int .u8)), (9, .one (.own 6)), (13, .one (.own 7)), (16, .one (.own 8)), (17, .one (.int .i64))], [(6, .cells [.int .u8, .int .u8, .int .u8, .int .u8, .int .u8, .int .u8]), (7, .cells [.int .u64, .int .u64, .int .u64]), (8, .fold (.cons (.c (.rop (.cons (.ro zc8) .nil))) (.cons (.map (.agg zc13) (.agg (.cons (.ro zc11) (.cons (.int .u64) (.cons .bool (.cons (.int .u64) (.cons (.rom (.cons (.int .u8) zc11) zc3) .nil))))))) (.cons (.c (.int .u64)) .nil))))], 9⟩), (16771949, ⟨[(5, .one (.int .u8)), (13, .one (.own 6)), (16, .one (.own 7)), (17, .one (.int .i64)), (18, .one (.own 8)), (20, .one (.int .u64)), (21, .one (.int .i64)), (65, .one (.int .i64)), (66, .one (.int .i64)), (76, .one (.ro (.cons (.int .u64) (.cons .str (.cons (.ro zc11) (.cons (.ro zc3) .nil)))))), (77, .one (.int .i64)), (78, .one (.int .i64))], [(6, .cells [.int .u64, .int .u64, .int .u64]), (7, .fold (.cons (.c (.rop (.cons (.ro zc8) .nil))) (.cons (.map (.agg zc13) (.agg (.cons (.ro zc11) (.cons (.int .u64) (.cons .bool (.cons (.int .u64) (.cons (.rom (.cons (.int .u8) zc11) zc3) .nil))))))) (.cons (.c (.int .u64)) .nil)))), (8, .cells [.int .u8, .str, .ro zc11, .int .u8, .int .u64, .int .u8, .int .i64])], 9⟩)], [(8189, ⟨[(5, .one (.int .u8)), (13, .one (.own 6)), (16, .one (.own 7)), (17, .one (.int .i64)), (18, .one (.own 8)), (19, .one (.int .u64)), (20, .one (.int .u64)), (21, .one (.int .i64)), (65, .one (.int .i64)), (66, .one (.int .i64))], [(6, .cells [.int .u64, .int .u64, .int .u64]), (7, .fold (.cons (.c (.rop (.cons (.ro zc8) .nil))) (.cons (.map (.agg zc13) (.agg (.cons (.ro zc11) (.cons (.int .u64) (.cons .bool (.cons (.int .u64) (.cons (.rom (.cons (.int .u8) zc11) zc3) .nil))))))) (.cons (.c (.int .u64)) .nil)))), (8, .cells [.int .u8, .str, .ro zc11, .int .u8, .int .u64, .int .u8, .int .i64])], 9⟩), (131069, ⟨[(13, .one (.own 6)), (16, .one (.own 7)), (17, .one (.int .i64)), (19, .one (.int .u64)), (20, .one (.int .u64)), (21, .one (.int .i64)), (24, .one (.own 8)), (25, .one (.int .i64)), (150, .one (.int .i64)), (151, .one (.int .i64))], [(6, .cells [.int .u64, .int .u64, .int .u64]), (7, .fold (.cons (.c (.rop (.cons (.ro zc8) .nil))) (.cons (.map (.agg zc13) (.agg (.cons (.ro zc11) (.cons (.int .u64) (.cons .bool (.cons (.int .u64) (.cons (.rom (.cons (.int .u8) zc11) zc3) .nil))))))) (.cons (.c (.int .u64)) .nil)))), (8, .cells [.int .u8, .str, .ro zc11, .int .u8, .int .u64, .int .u8, .int .i64])], 9⟩), (524123, ⟨[(5, .one (.int .u8)), (13, .one (.own 6)), (16, .one (.own 7)), (17, .one (.int .i64)), (18, .one (.own 8)), (19, .one (.int .u64)), (20, .one (.int .u64)), (21, .one (.int .i64)), (65, .one (.int .i64)), (66, .one (.int .i64)), (76, .one (.ro (.cons (.int .u64) (.cons .str (.cons (.ro zc11) (.cons (.ro zc3) .nil)))))), (77, .one (.int .i64)), (78, .one (.int .i64))], [(6, .cells [.int .u64, .int .u64, .int .u64]), (7, .fold (.cons (.c (.rop (.cons (.ro zc8) .nil))) (.cons (.map (.agg zc13) (.agg (.cons (.ro zc11) (.cons (.int .u64) (.cons .bool (.cons (.int .u64) (.cons (.rom (.cons (.int .u8) zc11) zc3) .nil))))))) (.cons (.c (.int .u64)) .nil)))), (8, .cells [.int .u8, .str, .ro zc11, .int .u8, .int .u64, .int .u8, .int .i64])], 9⟩), (8388443, ⟨[(13, .one (.own 6)), (16, .one (.own 7)), (17, .one (.int .i64)), (19, .one (.int .u64)), (20, .one (.int .u64)), (21, .one (.int .i64)), (24, .one (.own 8)), (25, .one (.int .i64)), (150, .one (.int .i64)), (151, .one (.int .i64)), (159, .one (.ro (.cons (.int .u64) (.cons .str (.cons (.ro zc11) (.cons (.ro zc3) .nil)))))), (160, .one (.int .i64)), (161, .one (.int .i64))], [(6, .cells [.int .u64, .int .u64, .int .u64]), (7, .fold (.cons (.c (.rop (.cons (.ro zc8) .nil))) (.cons (.map (.agg zc13) (.agg (.cons (.ro zc11) (.cons (.int .u64) (.cons .bool (.cons (.int .u64) (.cons (.rom (.cons (.int .u8) zc11) zc3) .nil))))))) (.cons (.c (.int .u64)) .nil)))), (8, .cells [.int .u8, .str, .ro zc11, .int .u8, .int .u64, .int .u8, .int .i64])], 9⟩)]⟩) (fuel := n) (c := Try.f4.body.getD .skip) (rs := Try.f4.results.toList) tt_ok mix (FsOK.cons (ok6 n) (FsOK.cons (ok11 n) (FsOK.cons (ok12 n) (FsOK.cons (ok7 n) (FsOK.cons (ok13 n) (FsOK.cons (ok14 n) (FsOK.cons (ok15 n) (FsOK.nil)))))))) Try.func4 (by kernel_rfl) (by kernel_rfl) rfl (by kernel_rfl) rfl rfl (by kernel_rfl)
end Go.Proofs.Ytcfckkmiaeegpaa
