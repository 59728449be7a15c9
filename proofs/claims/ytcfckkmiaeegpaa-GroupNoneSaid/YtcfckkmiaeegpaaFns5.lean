/- What the functions of this seat compute, found by walking their code symbolically: each F is what the walk finds, each ok says that the Go function keeps it as a contract. Printed by a program of this repo's. -/
import Derived.Test.YtcfckkmiaeegpaaFns4
open Go Go.Sx
namespace Go.Proofs.Ytcfckkmiaeegpaa
set_option maxRecDepth 100000
set_option linter.unusedVariables false
-- (watchfire/watchfirelaw18.Alert).Alert
def sig7 : Sig := ⟨(.cons (.agg (.cons (.int .u8) (.cons (.int .u8) (.cons (.int .u8) (.cons (.int .u8) (.cons (.int .u8) (.cons (.int .u8) .nil))))))) .nil), (.cons (.agg zc4) .nil)⟩
def F7_L29 : Arr
 [PT.int IntKind.i64, PT.int IntKind.i64, PT.int IntKind.u8, PT.bytes, PT.int IntKind.u8, PT.int IntKind.u64,
 PT.int IntKind.u8, PT.int IntKind.i64, PT.int IntKind.u8, PT.bytes, PT.int IntKind.u8, PT.int IntKind.u64,
 PT.int IntKind.u8, PT.int IntKind.i64, PT.list (CTs.cons (CT.int IntKind.u8) CTs.nil),
 PT.list zc6]
 (Option (zt3 × Unit)) →
 Int64 →
 Int64 →
 UInt8 →
 List UInt8 →
 UInt8 →
 UInt64 →
 UInt8 →
 Int64 →
 UInt8 →
 List UInt8 →
 UInt8 →
 UInt64 →
 UInt8 →
 Int64 →
 List UInt8 →
 List zt10 →
 Option
 (zt3 ×
 Unit) := fun
 (rec :
 Arr
 [PT.int IntKind.i64, PT.int IntKind.i64, PT.int IntKind.u8, PT.bytes, PT.int IntKind.u8, PT.int IntKind.u64,
 PT.int IntKind.u8, PT.int IntKind.i64, PT.int IntKind.u8, PT.bytes, PT.int IntKind.u8, PT.int IntKind.u64,
 PT.int IntKind.u8, PT.int IntKind.i64, PT.list (CTs.cons (CT.int IntKind.u8) CTs.nil),
 PT.list zc6]
 (Option (zt3 × Unit)))
 (t t_1 : Int64) (t0 : UInt8) (t1 : List UInt8) (t3 : UInt8) (t4 : UInt64) (t5 : UInt8) (t6 : Int64) (a0 : UInt8)
 (a1 : List UInt8) (a3 : UInt8) (a4 : UInt64) (a5 : UInt8) (a6 : Int64) (t_2 : List UInt8)
 (al : List zt10) =>
 oite (decide (t_1 < t))
 (oite (decide ((0 : Int) ≤ Int64.toInt t_1) && Nat.blt (Int.toNat (Int64.toInt t_1)) (List.length t_2))
 (obind t_2[Int.toNat (Int64.toInt t_1)]? fun (x_3 : UInt8) =>
 oite (decide ((0 : UInt8) < x_3 % (3 : UInt8)))
 (oite
 (decide ((0 : Int) ≤ Int64.toInt t_1) &&
 Nat.blt (Int.toNat (Int64.toInt t_1))
 (List.length
 [[(97 : UInt8)], [(98 : UInt8)], [(110 : UInt8), (111 : UInt8), (100 : UInt8), (101 : UInt8)]]))
 (obind
 [[(97 : UInt8)], [(98 : UInt8)],
 [(110 : UInt8), (111 : UInt8), (100 : UInt8), (101 : UInt8)]][Int.toNat (Int64.toInt t_1)]?
 fun (x_4 : List UInt8) =>
 oite
 (decide ((0 : Int) ≤ ↑(UInt8.toNat (x_3 % (3 : UInt8)))) &&
 Nat.blt (Int.toNat ↑(UInt8.toNat (x_3 % (3 : UInt8))))
 (List.length [[], [(120 : UInt8)], [(121 : UInt8)]]))
 (obind [[], [(120 : UInt8)], [(121 : UInt8)]][Int.toNat ↑(UInt8.toNat (x_3 % (3 : UInt8)))]?
 fun (x_5 : List UInt8) =>
 oite (Nat.ble (List.length al + List.length [(x_4, x_5)]) (4294967296 : Nat))
 (rec t (t_1 + (1 : Int64)) t0 t1 t3 t4 t5 t6 a0 a1 a3 a4 a5 a6 t_2 (al ++ [(x_4, x_5)])) none)
 none)
 none)
 (rec t (t_1 + (1 : Int64)) t0 t1 t3 t4 t5 t6 a0 a1 a3 a4 a5 a6 t_2 al))
 none)
 (some ((a0, a1, al, a3, a4, a5, a6), ()))
def F7_R29 : Nat →
 PT.T (PT.int IntKind.i64) →
 Int64 →
 UInt8 →
 List UInt8 →
 UInt8 →
 UInt64 →
 UInt8 →
 Int64 →
 UInt8 →
 List UInt8 →
 UInt8 →
 UInt64 →
 UInt8 →
 Int64 →
 List UInt8 →
 List zt10 →
 Option
 (zt3 ×
 Unit) := ofixA (29 : Nat)
 [PT.int IntKind.i64, PT.int IntKind.i64, PT.int IntKind.u8, PT.bytes, PT.int IntKind.u8, PT.int IntKind.u64,
 PT.int IntKind.u8, PT.int IntKind.i64, PT.int IntKind.u8, PT.bytes, PT.int IntKind.u8, PT.int IntKind.u64,
 PT.int IntKind.u8, PT.int IntKind.i64, PT.list (CTs.cons (CT.int IntKind.u8) CTs.nil),
 PT.list zc6]
 F7_L29
def F7 : Nat →
 UInt8 × UInt8 × UInt8 × UInt8 × UInt8 × UInt8 →
 Option (zt3 × Unit) := fun (n : Nat) (x : UInt8 × UInt8 × UInt8 × UInt8 × UInt8 × UInt8) =>
 oite
 (decide ((0 : Int) ≤ ↑(UInt8.toNat (x.2.1 % (3 : UInt8)))) &&
 Nat.blt (Int.toNat ↑(UInt8.toNat (x.2.1 % (3 : UInt8))))
 (List.length
 [[(104 : UInt8), (111 : UInt8), (116 : UInt8)], [(99 : UInt8), (111 : UInt8), (108 : UInt8), (100 : UInt8)],
 [(120 : UInt8)]]))
 (obind
 [[(104 : UInt8), (111 : UInt8), (116 : UInt8)], [(99 : UInt8), (111 : UInt8), (108 : UInt8), (100 : UInt8)],
 [(120 : UInt8)]][Int.toNat ↑(UInt8.toNat (x.2.1 % (3 : UInt8)))]?
 fun (x_1 : List UInt8) =>
 oite
 (decide ((0 : Int) ≤ ↑(UInt8.toNat (x.2.2.2.2.2 % (4 : UInt8)))) &&
 Nat.blt (Int.toNat ↑(UInt8.toNat (x.2.2.2.2.2 % (4 : UInt8))))
 (List.length [(0 : UInt8), (2 : UInt8), (3 : UInt8), (2 : UInt8)]))
 (obind
 [(0 : UInt8), (2 : UInt8), (3 : UInt8),
 (2 :
 UInt8)][Int.toNat
 ↑(UInt8.toNat (x.2.2.2.2.2 % (4 : UInt8)))]?
 fun (x_2 : UInt8) =>
 F7_R29 n
 (Int64.ofInt
 ↑(List.length
 [x.2.2.1, x.2.2.2.1,
 x.2.2.2.2.1]))
 (0 : Int64) (0 : UInt8) [] (0 : UInt8) (0 : UInt64) (0 : UInt8) (0 : Int64) (x.1 % (3 : UInt8)) x_1
 x_2 (0 : UInt64) (x.2.2.2.2.2 / (4 : UInt8) % (8 : UInt8))
 (Int64.ofInt ↑(UInt8.toNat x.2.2.1))
 [x.2.2.1, x.2.2.2.1,
 x.2.2.2.2.1]
 [])
 none)
 none
theorem F7_R29_s  (m_ : Nat) : F7_R29  (m_ + 1) = F7_L29  (F7_R29  m_) := rfl
theorem ok7 (n : Nat) : FunOK Try.prog ⟨7, sig7, F7 n⟩ :=
 fun_ok (hints := ⟨[], [(29, ⟨[(2, .one (.own 1)), (3, .one (.own 2)), (35, .one (.own 3)), (36, .one (.int .i64)), (37, .one (.int .i64))], [(1, .cells [.int .u8, .str, .nils, .int .u8, .int .u64, .int .u8, .int .i64]), (2, .cells [.int .u8, .str, .own 4, .int .u8, .int .u64, .int .u8, .int .i64]), (3, .row (.cons (.int .u8) .nil)), (4, .row zc12)], 5⟩)]⟩) (fuel := n) (c := Try.f7.body.getD .skip) (rs := Try.f7.results.toList) tt_ok mix (FsOK.nil) Try.func7 (by kernel_rfl) (by kernel_rfl) rfl (by kernel_rfl) rfl rfl (by kernel_rfl)
-- (*watchfire/group.Groups).Counts
def sig15 : Sig := ⟨(.cons (.one (.ptr (.cons (.c (.rop (.cons (.ro zc8) .nil))) (.cons (.map (.agg zc15) (.agg (.cons (.ro zc12) (.cons (.int .u64) (.cons .bool (.cons (.int .u64) (.cons (.rom (.cons (.int .u8) zc12) zc4) .nil))))))) (.cons (.c (.int .u64)) .nil))))) .nil), (.cons (.one (.c (.int .i64))) (.cons (.one (.c (.int .u64))) .nil))⟩
def F15 : Nat →
 Option
 zt1 →
 Option
 ((Int64 × UInt64) ×
 Option
 zt1) := fun (n : Nat)
 (x :
 Option
 zt1) =>
 oelim x (some (((0 : Int64), (0 : UInt64)), none))
 fun
 (x_1 :
 Option
 (List
 zt5) ×
 List
 ((Int64 × List UInt8) ×
 List zt10 ×
 UInt64 ×
 Bool ×
 UInt64 ×
 List
 zt7) ×
 UInt64) =>
 oite (Nat.ble (List.length x_1.2.1) (4294967296 : Nat))
 (some
 ((Int64.ofInt ↑(List.length x_1.2.1), x_1.2.2),
 some (x_1.1, x_1.2.1, x_1.2.2)))
 none
theorem ok15 (n : Nat) : FunOK Try.prog ⟨15, sig15, F15 n⟩ :=
 fun_ok (hints := ⟨[], []⟩) (fuel := n) (c := Try.f15.body.getD .skip) (rs := Try.f15.results.toList) tt_ok mix (FsOK.nil) Try.func15 (by kernel_rfl) (by kernel_rfl) rfl (by kernel_rfl) rfl rfl (by kernel_rfl)
-- (*watchfire/group.Groups).Clear
def sig16 : Sig := ⟨(.cons (.one (.ptr (.cons (.c (.rop (.cons (.ro zc8) .nil))) (.cons (.map (.agg zc15) (.agg (.cons (.ro zc12) (.cons (.int .u64) (.cons .bool (.cons (.int .u64) (.cons (.rom (.cons (.int .u8) zc12) zc4) .nil))))))) (.cons (.c (.int .u64)) .nil))))) .nil), .nil⟩
def F16 : Nat →
 Option
 zt1 →
 Option
 (Unit ×
 Option
 zt1) := fun (n : Nat)
 (x :
 Option
 zt1) =>
 oelim x (some ((), none))
 fun
 (x_1 :
 Option
 (List
 zt5) ×
 List
 ((Int64 × List UInt8) ×
 List zt10 ×
 UInt64 ×
 Bool ×
 UInt64 ×
 List
 zt7) ×
 UInt64) =>
 some
 ((),
 some
 (x_1.1,
 @List.nil
 ((Int64 × List UInt8) ×
 List zt10 ×
 UInt64 ×
 Bool ×
 UInt64 ×
 List
 zt7),
 x_1.2.2))
theorem ok16 (n : Nat) : FunOK Try.prog ⟨16, sig16, F16 n⟩ :=
 fun_ok (hints := ⟨[], []⟩) (fuel := n) (c := Try.f16.body.getD .skip) (rs := Try.f16.results.toList) tt_ok mix (FsOK.nil) Try.func16 (by kernel_rfl) (by kernel_rfl) rfl (by kernel_rfl) rfl rfl (by kernel_rfl)
-- (watchfire/watchfirelaw17.Small).Ask
def sig53 : Sig := ⟨(.cons (.agg (.cons (.int .u8) (.cons (.int .u8) (.cons (.int .u8) .nil)))) .nil), (.cons (.agg zc16) .nil)⟩
def F53 : Nat → UInt8 × UInt8 × UInt8 → Option (zt14 × Unit) := fun (n : Nat) (x : UInt8 × UInt8 × UInt8) =>
 oite
 (decide ((0 : Int) ≤ ↑(UInt8.toNat (x.1 % (5 : UInt8)))) &&
 Nat.blt (Int.toNat ↑(UInt8.toNat (x.1 % (5 : UInt8))))
 (List.length
 [[(97 : UInt8)], [(98 : UInt8)], [(114 : UInt8), (117 : UInt8), (108 : UInt8), (101 : UInt8)],
 [(111 : UInt8), (114 : UInt8), (105 : UInt8), (103 : UInt8), (105 : UInt8), (110 : UInt8)],
 [(110 : UInt8), (111 : UInt8), (100 : UInt8), (101 : UInt8)]]))
 (obind
 [[(97 : UInt8)], [(98 : UInt8)], [(114 : UInt8), (117 : UInt8), (108 : UInt8), (101 : UInt8)],
 [(111 : UInt8), (114 : UInt8), (105 : UInt8), (103 : UInt8), (105 : UInt8), (110 : UInt8)],
 [(110 : UInt8), (111 : UInt8), (100 : UInt8),
 (101 : UInt8)]][Int.toNat ↑(UInt8.toNat (x.1 % (5 : UInt8)))]?
 fun (x_1 : List UInt8) =>
 oite
 (decide ((0 : Int) ≤ ↑(UInt8.toNat (x.2.2 % (5 : UInt8)))) &&
 Nat.blt (Int.toNat ↑(UInt8.toNat (x.2.2 % (5 : UInt8))))
 (List.length
 [[(120 : UInt8)], [(121 : UInt8)], [(48 : UInt8)], [(104 : UInt8), (111 : UInt8), (116 : UInt8)],
 [(49 : UInt8)]]))
 (obind
 [[(120 : UInt8)], [(121 : UInt8)], [(48 : UInt8)], [(104 : UInt8), (111 : UInt8), (116 : UInt8)],
 [(49 : UInt8)]][Int.toNat ↑(UInt8.toNat (x.2.2 % (5 : UInt8)))]?
 fun (x_2 : List UInt8) =>
 oite (decide ((4 : UInt8) ≤ (1 : UInt8) + x.2.1 % (5 : UInt8)))
 (some ((x_1, (1 : UInt8) + x.2.1 % (5 : UInt8), @List.nil UInt8), ()))
 (some ((x_1, (1 : UInt8) + x.2.1 % (5 : UInt8), x_2), ())))
 none)
 none
theorem ok53 (n : Nat) : FunOK Try.prog ⟨53, sig53, F53 n⟩ :=
 fun_ok (hints := ⟨[], []⟩) (fuel := n) (c := Try.f53.body.getD .skip) (rs := Try.f53.results.toList) tt_ok mix (FsOK.nil) Try.func53 (by kernel_rfl) (by kernel_rfl) rfl (by kernel_rfl) rfl rfl (by kernel_rfl)
-- watchfire/watchfirelaw17.Asks
def sig34 : Sig := ⟨(.cons (.one (.c (.ro (.cons (.int .u8) (.cons (.int .u8) (.cons (.int .u8) .nil)))))) (.cons (.one (.c (.int .i64))) .nil)), (.cons (.one (.c (.ro zc16))) .nil)⟩
def F34_L29 : Nat →
 Arr
 [PT.int IntKind.i64,
 PT.list (CTs.cons (CT.int IntKind.u8) (CTs.cons (CT.int IntKind.u8) (CTs.cons (CT.int IntKind.u8) CTs.nil))),
 PT.int IntKind.i64, PT.int IntKind.i64,
 PT.list zc13]
 (Option (List zt14 × Unit)) →
 Int64 →
 List (UInt8 × UInt8 × UInt8) →
 Int64 → Int64 → List zt14 → Option (List zt14 × Unit) := fun (n : Nat)
 (rec :
 Arr
 [PT.int IntKind.i64,
 PT.list (CTs.cons (CT.int IntKind.u8) (CTs.cons (CT.int IntKind.u8) (CTs.cons (CT.int IntKind.u8) CTs.nil))),
 PT.int IntKind.i64, PT.int IntKind.i64,
 PT.list zc13]
 (Option (List zt14 × Unit)))
 (most : Int64) (t : List (UInt8 × UInt8 × UInt8)) (t_1 t_2 : Int64)
 (out : List zt14) =>
 oite (decide (t_2 < t_1))
 (obind (at? t (Int64.toInt t_2)) fun (x_1 : UInt8 × UInt8 × UInt8) =>
 oite (decide (t_2 < most))
 (obind (F53 n (x_1.1, x_1.2.1, x_1.2.2))
 fun (x_2 : zt14 × Unit) =>
 oite
 (Nat.ble
 (List.length out +
 List.length
 [(x_2.1.1, x_2.1.2.1, x_2.1.2.2)])
 (4294967296 : Nat))
 (rec most t t_1 (t_2 + (1 : Int64))
 (out ++
 [(x_2.1.1, x_2.1.2.1, x_2.1.2.2)]))
 none)
 (rec most t t_1 (t_2 + (1 : Int64)) out))
 (some (out, ()))
def F34_R29 : Nat →
 Nat →
 PT.T (PT.int IntKind.i64) →
 List (UInt8 × UInt8 × UInt8) →
 Int64 → Int64 → List zt14 → Option (List zt14 × Unit) := fun (n : Nat) =>
 ofixA (29 : Nat)
 [PT.int IntKind.i64,
 PT.list (CTs.cons (CT.int IntKind.u8) (CTs.cons (CT.int IntKind.u8) (CTs.cons (CT.int IntKind.u8) CTs.nil))),
 PT.int IntKind.i64, PT.int IntKind.i64,
 PT.list zc13]
 (F34_L29 n)
def F34 : Nat → List (UInt8 × UInt8 × UInt8) × Int64 → Option (List zt14 × Unit) := fun (n : Nat) (x : List (UInt8 × UInt8 × UInt8) × Int64) =>
 F34_R29 n n x.2 x.1 (Int64.ofInt ↑(List.length x.1)) (0 : Int64) []
theorem F34_R29_s (n : Nat) (m_ : Nat) : F34_R29 n (m_ + 1) = F34_L29 n (F34_R29 n m_) := rfl
theorem ok34 (n : Nat) : FunOK Try.prog ⟨34, sig34, F34 n⟩ :=
 fun_ok (hints := ⟨[], [(29, ⟨[(1, .one (.int .i64)), (5, .one (.own 2)), (8, .one (.ro (.cons (.int .u8) (.cons (.int .u8) (.cons (.int .u8) .nil))))), (9, .one (.int .i64)), (10, .one (.int .i64))], [(2, .row zc16)], 3⟩)]⟩) (fuel := n) (c := Try.f34.body.getD .skip) (rs := Try.f34.results.toList) tt_ok mix (FsOK.cons (ok53 n) (FsOK.nil)) Try.func34 (by kernel_rfl) (by kernel_rfl) rfl (by kernel_rfl) rfl rfl (by kernel_rfl)
-- watchfire/watchfirelaw20.Nodes
def sig17 : Sig := ⟨(.cons (.one (.c (.ro zc20))) .nil), (.cons (.one (.c (.ro zc8))) .nil)⟩
def F17_J15 : List
 zt5 →
 Option
 (List
 zt5 ×
 Unit) := fun
 (out :
 List
 zt5) =>
 oite (decide (Int64.ofInt ↑(List.length out) = (0 : Int64)))
 (oite
 (Nat.ble
 (List.length out +
 List.length
 [(@List.nil zt14, [(111 : UInt8), (112 : UInt8), (115 : UInt8)],
 @List.nil (List UInt8), (1 : UInt64), (2 : UInt64), (5 : UInt64), false, (-1 : Int64))])
 (4294967296 : Nat))
 (some
 (out ++
 [(@List.nil zt14, [(111 : UInt8), (112 : UInt8), (115 : UInt8)],
 @List.nil (List UInt8), (1 : UInt64), (2 : UInt64), (5 : UInt64), false, (-1 : Int64))],
 ()))
 none)
 (some (out, ()))
def F17_J125823 : Arr
 [PT.list
 zc11,
 PT.int IntKind.i64, PT.int IntKind.i64,
 PT.list
 zc2,
 PT.list zc17]
 (Option
 (List
 zt5 ×
 Unit)) →
 Int64 →
 List zt19 →
 Int64 →
 Int64 →
 List
 zt5 →
 List Int64 →
 List zt14 →
 List UInt8 →
 UInt64 →
 UInt64 →
 UInt64 →
 Bool →
 Int64 →
 List (List UInt8) →
 Option
 (List
 zt5 ×
 Unit) := fun
 (rec :
 Arr
 [PT.list
 zc11,
 PT.int IntKind.i64, PT.int IntKind.i64,
 PT.list
 zc2,
 PT.list zc17]
 (Option
 (List
 zt5 ×
 Unit)))
 (d : Int64) (t_6 : List zt19)
 (t_1_2 t_2_2 : Int64)
 (out_2 :
 List
 zt5)
 (depth_2 : List Int64) (n0_1 : List zt14) (n1_1 : List UInt8) (n3_1 n4_1 n5_1 : UInt64)
 (n6_1 : Bool) (n7_1 : Int64) (nl_1 : List (List UInt8)) =>
 oite (Nat.ble (List.length out_2 + List.length [(n0_1, n1_1, nl_1, n3_1, n4_1, n5_1, n6_1, n7_1)]) (4294967296 : Nat))
 (oite (Nat.ble (List.length depth_2 + List.length [d]) (4294967296 : Nat))
 (rec t_6 t_1_2 (t_2_2 + (1 : Int64)) (out_2 ++ [(n0_1, n1_1, nl_1, n3_1, n4_1, n5_1, n6_1, n7_1)])
 (depth_2 ++ [d]))
 none)
 none
def F17_L125821 : Arr
 [PT.list
 zc11,
 PT.int IntKind.i64, PT.int IntKind.i64,
 PT.list
 zc2,
 PT.list zc17]
 (Option
 (List
 zt5 ×
 Unit)) →
 Arr
 [PT.int IntKind.i64,
 PT.list
 zc11,
 PT.int IntKind.i64, PT.int IntKind.i64, PT.int IntKind.i64, PT.int IntKind.i64,
 PT.list
 zc2,
 PT.list zc17,
 PT.list (CTs.cons (CT.int IntKind.u8) (CTs.cons (CT.int IntKind.u8) (CTs.cons (CT.int IntKind.u8) CTs.nil))),
 PT.int IntKind.u8, PT.int IntKind.u8, PT.int IntKind.u8, PT.int IntKind.u8, PT.int IntKind.u8, PT.bool,
 PT.int IntKind.u8, PT.list zc13, PT.bytes,
 PT.int IntKind.u64, PT.int IntKind.u64, PT.int IntKind.u64, PT.bool, PT.int IntKind.i64,
 PT.list zc18, PT.list zc18]
 (Option
 (List
 zt5 ×
 Unit)) →
 Int64 →
 List zt19 →
 Int64 →
 Int64 →
 Int64 →
 Int64 →
 List
 zt5 →
 List Int64 →
 List (UInt8 × UInt8 × UInt8) →
 UInt8 →
 UInt8 →
 UInt8 →
 UInt8 →
 UInt8 →
 Bool →
 UInt8 →
 List zt14 →
 List UInt8 →
 UInt64 →
 UInt64 →
 UInt64 →
 Bool →
 Int64 →
 List (List UInt8) →
 List (List UInt8) →
 Option
 (List
 zt5 ×
 Unit) := fun
 (rec :
 Arr
 [PT.list
 zc11,
 PT.int IntKind.i64, PT.int IntKind.i64,
 PT.list
 zc2,
 PT.list zc17]
 (Option
 (List
 zt5 ×
 Unit)))
 (rec_1 :
 Arr
 [PT.int IntKind.i64,
 PT.list
 zc11,
 PT.int IntKind.i64, PT.int IntKind.i64, PT.int IntKind.i64, PT.int IntKind.i64,
 PT.list
 zc2,
 PT.list zc17,
 PT.list (CTs.cons (CT.int IntKind.u8) (CTs.cons (CT.int IntKind.u8) (CTs.cons (CT.int IntKind.u8) CTs.nil))),
 PT.int IntKind.u8, PT.int IntKind.u8, PT.int IntKind.u8, PT.int IntKind.u8, PT.int IntKind.u8, PT.bool,
 PT.int IntKind.u8, PT.list zc13,
 PT.bytes, PT.int IntKind.u64, PT.int IntKind.u64, PT.int IntKind.u64, PT.bool, PT.int IntKind.i64,
 PT.list zc18, PT.list zc18]
 (Option
 (List
 zt5 ×
 Unit)))
 (i : Int64) (t_3 : List zt19)
 (t_1_1 t_2_1 t_3_1 t_4 : Int64)
 (out_1 :
 List
 zt5)
 (depth_1 : List Int64) (s0 : List (UInt8 × UInt8 × UInt8)) (s1 s2 s3 s4 s5 : UInt8) (s6 : Bool) (s7 : UInt8)
 (n0 : List zt14) (n1 : List UInt8) (n3 n4 n5 : UInt64) (n6 : Bool) (n7 : Int64)
 (t_5 nl : List (List UInt8)) =>
 oite (decide (t_4 < t_3_1))
 (oite (decide ((0 : Int) ≤ Int64.toInt t_4) && Nat.blt (Int.toNat (Int64.toInt t_4)) (List.length t_5))
 (obind t_5[Int.toNat (Int64.toInt t_4)]? fun (x_4 : List UInt8) =>
 oite (decide ((0 : Int) ≤ Int64.toInt t_4))
 (oite (decide (IK.shr IntKind.u8 s2 (Int64.toInt t_4) &&& (1 : UInt8) = (1 : UInt8)))
 (oite (Nat.ble (List.length nl + List.length [x_4]) (4294967296 : Nat))
 (rec_1 i t_3 t_1_1 t_2_1 t_3_1 (t_4 + (1 : Int64)) out_1 depth_1 s0 s1 s2 s3 s4 s5 s6 s7 n0 n1 n3 n4 n5 n6
 n7 t_5 (nl ++ [x_4]))
 none)
 (rec_1 i t_3 t_1_1 t_2_1 t_3_1 (t_4 + (1 : Int64)) out_1 depth_1 s0 s1 s2 s3 s4 s5 s6 s7 n0 n1 n3 n4 n5 n6
 n7 t_5 nl))
 none)
 none)
 (ojoinA (125823 : Nat)
 [PT.int IntKind.i64,
 PT.list
 zc11,
 PT.int IntKind.i64, PT.int IntKind.i64,
 PT.list
 zc2,
 PT.list zc17,
 PT.list zc13, PT.bytes,
 PT.int IntKind.u64, PT.int IntKind.u64, PT.int IntKind.u64, PT.bool, PT.int IntKind.i64,
 PT.list zc18]
 (fun
 (J_1 :
 Arr
 [PT.int IntKind.i64,
 PT.list
 zc11,
 PT.int IntKind.i64, PT.int IntKind.i64,
 PT.list
 zc2,
 PT.list zc17,
 PT.list zc13, PT.bytes,
 PT.int IntKind.u64, PT.int IntKind.u64, PT.int IntKind.u64, PT.bool, PT.int IntKind.i64,
 PT.list zc18]
 (Option
 (List
 zt5 ×
 Unit))) =>
 oite (decide (i = (0 : Int64))) (J_1 (1 : Int64) t_3 t_1_1 t_2_1 out_1 depth_1 [] n1 n3 n4 n5 false n7 nl)
 (oite (decide (i = (0 : Int64))) none
 (oite
 (decide ((0 : Int) ≤ Int64.toInt (Int64.ofInt ↑(UInt8.toNat s7) % i)) &&
 Nat.blt (Int.toNat (Int64.toInt (Int64.ofInt ↑(UInt8.toNat s7) % i))) (List.length depth_1))
 (obind depth_1[Int.toNat (Int64.toInt (Int64.ofInt ↑(UInt8.toNat s7) % i))]? fun (x_4 : Int64) =>
 oite (decide (x_4 = (8 : Int64)))
 (oite (Nat.blt (Int.toNat (Int64.toInt (0 : Int64))) (List.length depth_1))
 (obind depth_1[Int.toNat (Int64.toInt (0 : Int64))]? fun (x_5 : Int64) =>
 J_1 (x_5 + (1 : Int64)) t_3 t_1_1 t_2_1 out_1 depth_1 n0 n1 n3 n4 n5 n6 (0 : Int64) nl)
 none)
 (oite
 (decide ((0 : Int) ≤ Int64.toInt (Int64.ofInt ↑(UInt8.toNat s7) % i)) &&
 Nat.blt (Int.toNat (Int64.toInt (Int64.ofInt ↑(UInt8.toNat s7) % i))) (List.length depth_1))
 (obind depth_1[Int.toNat (Int64.toInt (Int64.ofInt ↑(UInt8.toNat s7) % i))]? fun (x_5 : Int64) =>
 J_1 (x_5 + (1 : Int64)) t_3 t_1_1 t_2_1 out_1 depth_1 n0 n1 n3 n4 n5 n6
 (Int64.ofInt ↑(UInt8.toNat s7) % i) nl)
 none))
 none)))
 (F17_J125823 rec))
def F17_R125821 : Arr
 [PT.list
 zc11,
 PT.int IntKind.i64, PT.int IntKind.i64,
 PT.list
 zc2,
 PT.list zc17]
 (Option
 (List
 zt5 ×
 Unit)) →
 Nat →
 PT.T (PT.int IntKind.i64) →
 List zt19 →
 Int64 →
 Int64 →
 Int64 →
 Int64 →
 List
 zt5 →
 List Int64 →
 List (UInt8 × UInt8 × UInt8) →
 UInt8 →
 UInt8 →
 UInt8 →
 UInt8 →
 UInt8 →
 Bool →
 UInt8 →
 List zt14 →
 List UInt8 →
 UInt64 →
 UInt64 →
 UInt64 →
 Bool →
 Int64 →
 List (List UInt8) →
 List (List UInt8) →
 Option
 (List
 zt5 ×
 Unit) := fun
 (rec :
 Arr
 [PT.list
 zc11,
 PT.int IntKind.i64, PT.int IntKind.i64,
 PT.list
 zc2,
 PT.list zc17]
 (Option
 (List
 zt5 ×
 Unit))) =>
 ofixA (125821 : Nat)
 [PT.int IntKind.i64,
 PT.list
 zc11,
 PT.int IntKind.i64, PT.int IntKind.i64, PT.int IntKind.i64, PT.int IntKind.i64,
 PT.list
 zc2,
 PT.list zc17,
 PT.list (CTs.cons (CT.int IntKind.u8) (CTs.cons (CT.int IntKind.u8) (CTs.cons (CT.int IntKind.u8) CTs.nil))),
 PT.int IntKind.u8, PT.int IntKind.u8, PT.int IntKind.u8, PT.int IntKind.u8, PT.int IntKind.u8, PT.bool,
 PT.int IntKind.u8, PT.list zc13, PT.bytes,
 PT.int IntKind.u64, PT.int IntKind.u64, PT.int IntKind.u64, PT.bool, PT.int IntKind.i64,
 PT.list zc18, PT.list zc18]
 (F17_L125821 rec)
def F17_L61 : Nat →
 Arr
 [PT.list
 zc2]
 (Option
 (List
 zt5 ×
 Unit)) →
 Arr
 [PT.list
 zc11,
 PT.int IntKind.i64, PT.int IntKind.i64,
 PT.list
 zc2,
 PT.list zc17]
 (Option
 (List
 zt5 ×
 Unit)) →
 List zt19 →
 Int64 →
 Int64 →
 List
 zt5 →
 List Int64 →
 Option
 (List
 zt5 ×
 Unit) := fun (n : Nat)
 (J :
 Arr
 [PT.list
 zc2]
 (Option
 (List
 zt5 ×
 Unit)))
 (rec :
 Arr
 [PT.list
 zc11,
 PT.int IntKind.i64, PT.int IntKind.i64,
 PT.list
 zc2,
 PT.list zc17]
 (Option
 (List
 zt5 ×
 Unit)))
 (t : List zt19) (t_1 t_2 : Int64)
 (out :
 List
 zt5)
 (depth : List Int64) =>
 oite (decide (t_2 < t_1))
 (obind (at? t (Int64.toInt t_2))
 fun (x_1 : List (UInt8 × UInt8 × UInt8) × UInt8 × UInt8 × UInt8 × UInt8 × UInt8 × Bool × UInt8) =>
 oite (decide ((12 : Int64) ≤ t_2)) (J out)
 (oite
 (decide ((0 : Int) ≤ ↑(UInt8.toNat (x_1.2.1 % (3 : UInt8)))) &&
 Nat.blt (Int.toNat ↑(UInt8.toNat (x_1.2.1 % (3 : UInt8))))
 (List.length
 [[(111 : UInt8), (112 : UInt8), (115 : UInt8)], [(109 : UInt8), (101 : UInt8)],
 [(116 : UInt8), (101 : UInt8), (97 : UInt8), (109 : UInt8), (45 : UInt8), (49 : UInt8)]]))
 (obind
 [[(111 : UInt8), (112 : UInt8), (115 : UInt8)], [(109 : UInt8), (101 : UInt8)],
 [(116 : UInt8), (101 : UInt8), (97 : UInt8), (109 : UInt8), (45 : UInt8),
 (49 : UInt8)]][Int.toNat ↑(UInt8.toNat (x_1.2.1 % (3 : UInt8)))]?
 fun (x_2 : List UInt8) =>
 obind (F34 n (x_1.1, (2 : Int64))) fun (x_3 : List zt14 × Unit) =>
 F17_R125821 rec n t_2 t t_1 t_2 (4 : Int64) (0 : Int64) out depth x_1.1 x_1.2.1
 x_1.2.2.1 x_1.2.2.2.1
 x_1.2.2.2.2.1
 x_1.2.2.2.2.2.1
 x_1.2.2.2.2.2.2.1
 x_1.2.2.2.2.2.2.2 x_3.1 x_2
 (UInt64.ofInt ↑(UInt8.toNat (x_1.2.2.2.1 % (6 : UInt8))))
 ((1 : UInt64) +
 UInt64.ofInt ↑(UInt8.toNat (x_1.2.2.2.2.1 % (6 : UInt8))))
 ((1 : UInt64) +
 UInt64.ofInt
 ↑(UInt8.toNat (x_1.2.2.2.2.1 % (6 : UInt8))) +
 UInt64.ofInt
 ↑(UInt8.toNat (x_1.2.2.2.2.2.1 % (20 : UInt8))))
 x_1.2.2.2.2.2.2.1 (-1 : Int64)
 [[(97 : UInt8)], [(98 : UInt8)], [(110 : UInt8), (111 : UInt8), (100 : UInt8), (101 : UInt8)],
 [(114 : UInt8), (117 : UInt8), (108 : UInt8), (101 : UInt8)]]
 [])
 none))
 (J out)
def F17_R61 : Nat →
 Arr
 [PT.list
 zc2]
 (Option
 (List
 zt5 ×
 Unit)) →
 Nat →
 PT.T
 (PT.list
 zc11) →
 Int64 →
 Int64 →
 List
 zt5 →
 List Int64 →
 Option
 (List
 zt5 ×
 Unit) := fun (n : Nat)
 (J :
 Arr
 [PT.list
 zc2]
 (Option
 (List
 zt5 ×
 Unit))) =>
 ofixA (61 : Nat)
 [PT.list
 zc11,
 PT.int IntKind.i64, PT.int IntKind.i64,
 PT.list
 zc2,
 PT.list zc17]
 (F17_L61 n J)
def F17 : Nat →
 List zt19 →
 Option
 (List
 zt5 ×
 Unit) := fun (n : Nat) (x : List zt19) =>
 ojoinA (15 : Nat)
 [PT.list
 zc2]
 (fun
 (J :
 Arr
 [PT.list
 zc2]
 (Option
 (List
 zt5 ×
 Unit))) =>
 F17_R61 n J n x (Int64.ofInt ↑(List.length x)) (0 : Int64) [] [])
 F17_J15
theorem F17_R125821_s (rec : Arr [PT.list zc11, PT.int IntKind.i64, PT.int IntKind.i64, PT.list zc2, PT.list zc17] (Option (List zt5 × Unit))) (m_ : Nat) : F17_R125821 rec (m_ + 1) = F17_L125821 rec (F17_R125821 rec m_) := rfl
theorem F17_R61_s (n : Nat) (J : Arr [PT.list zc2] (Option (List zt5 × Unit))) (m_ : Nat) : F17_R61 n J (m_ + 1) = F17_L61 n J (F17_R61 n J m_) := rfl
theorem ok17 (n : Nat) : FunOK Try.prog ⟨17, sig17, F17 n⟩ :=
 fun_ok (hints := ⟨[(15, ⟨[(3, .one (.own 1))], [(1, .row zc8)], 2⟩), (125823, ⟨[(3, .one (.own 1)), (4, .one (.own 2)), (7, .one (.own 3)), (10, .one (.int .i64)), (12, .one (.ro zc20)), (13, .one (.int .i64)), (14, .one (.int .i64))], [(1, .row zc8), (2, .row (.cons (.int .i64) .nil)), (3, .cells [.ro zc16, .str, .own 4, .int .u64, .int .u64, .int .u64, .bool, .int .i64]), (4, .row (.cons .str .nil))], 5⟩)], [(61, ⟨[(3, .one (.own 1)), (4, .one (.own 2)), (12, .one (.ro zc20)), (13, .one (.int .i64)), (14, .one (.int .i64))], [(1, .row zc8), (2, .row (.cons (.int .i64) .nil))], 3⟩), (125821, ⟨[(3, .one (.own 1)), (4, .one (.own 2)), (5, .one (.int .i64)), (6, .one (.own 3)), (7, .one (.own 4)), (12, .one (.ro zc20)), (13, .one (.int .i64)), (14, .one (.int .i64)), (56, .one (.own 5)), (57, .one (.int .i64)), (58, .one (.int .i64))], [(1, .row zc8), (2, .row (.cons (.int .i64) .nil)), (3, .cells [.ro (.cons (.int .u8) (.cons (.int .u8) (.cons (.int .u8) .nil))), .int .u8, .int .u8, .int .u8, .int .u8, .int .u8, .bool, .int .u8]), (4, .cells [.ro zc16, .str, .own 6, .int .u64, .int .u64, .int .u64, .bool, .int .i64]), (5, .row (.cons .str .nil)), (6, .row (.cons .str .nil))], 7⟩)]⟩) (fuel := n) (c := Try.f17.body.getD .skip) (rs := Try.f17.results.toList) tt_ok mix (FsOK.cons (ok34 n) (FsOK.nil)) Try.func17 (by kernel_rfl) (by kernel_rfl) rfl (by kernel_rfl) rfl rfl (by kernel_rfl)
-- watchfire/watchfirelaw21.GroupNone
def sig5 : Sig := ⟨(.cons (.one (.c (.ro zc20))) (.cons (.agg (.cons (.int .u8) (.cons (.int .u8) (.cons (.int .u8) (.cons (.int .u8) (.cons (.int .u8) (.cons (.int .u8) .nil))))))) (.cons (.one (.c (.int .u64))) .nil))), (.cons (.one (.c .bool)) .nil)⟩
noncomputable def F5_J255 : Nat →
 UInt64 →
 Int64 →
 Int64 →
 UInt64 →
 Int64 →
 UInt8 →
 UInt8 →
 UInt8 →
 UInt8 →
 UInt8 →
 UInt8 →
 Option
 zt1 →
 Option (Bool × Unit) := fun (n : Nat) (now : UInt64) (e n_ : Int64) (sent : UInt64) (f : Int64) (a0 a1 a2 a3 a4 a5 : UInt8)
 (g :
 Option
 zt1) =>
 obind (F7 n (a0, a1, a2, a3, a4, a5))
 fun (x_7 : zt3 × Unit) =>
 obind
 (F13 n
 (g, (1 : UInt64),
 [(x_7.1.1, x_7.1.2.1, x_7.1.2.2.1,
 (2 : UInt8), x_7.1.2.2.2.2.1,
 x_7.1.2.2.2.2.2.1,
 x_7.1.2.2.2.2.2.2)],
 [(x_7.1.1, x_7.1.2.1, x_7.1.2.2.1,
 (2 : UInt8), x_7.1.2.2.2.2.1,
 x_7.1.2.2.2.2.2.1,
 x_7.1.2.2.2.2.2.2)]))
 fun
 (x_8 :
 List
 (UInt64 ×
 List UInt8 ×
 List zt10 ×
 List zt3) ×
 Option
 zt1) =>
 obind (F15 n x_8.2)
 fun
 (x_9 :
 (Int64 × UInt64) ×
 Option
 zt1) =>
 obind
 (F13 n
 (x_9.2, (1099511627777 : UInt64) + now % (9 : UInt64),
 [(x_7.1.1, x_7.1.2.1,
 x_7.1.2.2.1, (2 : UInt8),
 x_7.1.2.2.2.2.1,
 x_7.1.2.2.2.2.2.1,
 x_7.1.2.2.2.2.2.2)],
 [(x_7.1.1, x_7.1.2.1,
 x_7.1.2.2.1, (2 : UInt8),
 x_7.1.2.2.2.2.1,
 x_7.1.2.2.2.2.2.1,
 x_7.1.2.2.2.2.2.2)]))
 fun
 (x_10 :
 List
 (UInt64 ×
 List UInt8 ×
 List zt10 ×
 List zt3) ×
 Option
 zt1) =>
 obind (F16 n x_10.2)
 fun
 (x_11 :
 Unit ×
 Option
 zt1) =>
 obind (F15 n x_11.2)
 fun
 (x_12 :
 (Int64 × UInt64) ×
 Option
 zt1) =>
 oite (decide (e = (1 : Int64)))
 (obind
 (F13 n
 (none, now,
 [(x_7.1.1, x_7.1.2.1,
 x_7.1.2.2.1, (2 : UInt8),
 x_7.1.2.2.2.2.1,
 x_7.1.2.2.2.2.2.1,
 x_7.1.2.2.2.2.2.2)],
 @List.nil zt3))
 fun
 (x_13 :
 List
 (UInt64 ×
 List UInt8 ×
 List zt10 ×
 List
 zt3) ×
 Option
 zt1) =>
 oite (decide (Int64.ofInt ↑(List.length x_13.1) = (0 : Int64)))
 (oite (decide (n_ = (0 : Int64)))
 (oite (decide (sent = (0 : UInt64)))
 (oite (decide (f = (0 : Int64)))
 (oite (decide ((0 : Int64) < x_9.1.1))
 (oite (decide (x_12.1.1 = (0 : Int64)))
 (some (decide (Int64.ofInt ↑(List.length x_10.1) = (0 : Int64)), ()))
 (some (false, ())))
 (some (false, ())))
 (some (false, ())))
 (some (false, ())))
 (some (false, ())))
 (some (false, ())))
 (some (false, ()))
noncomputable def F5 : Nat →
 List zt19 ×
 (UInt8 × UInt8 × UInt8 × UInt8 × UInt8 × UInt8) × UInt64 →
 Option (Bool × Unit) := fun (n : Nat)
 (x :
 List zt19 ×
 (UInt8 × UInt8 × UInt8 × UInt8 × UInt8 × UInt8) × UInt64) =>
 obind (F6 n ()) fun (x_1 : Bool × Unit) =>
 oite (!x_1.1) (some (false, ()))
 (obind (F12 n none)
 fun
 (x_2 :
 (Option
 zt1 ×
 Int64) ×
 Unit) =>
 obind (F16 n none)
 fun
 (x_3 :
 Unit ×
 Option
 zt1) =>
 obind (F15 n none)
 fun
 (x_4 :
 (Int64 × UInt64) ×
 Option
 zt1) =>
 obind (F17 n x.1)
 fun
 (x_5 :
 List
 zt5 ×
 Unit) =>
 obind (F11 n x_5.1)
 fun
 (x_6 :
 (Option
 (List
 zt5) ×
 Int64) ×
 Unit) =>
 ojoinA (255 : Nat)
 [PT.int IntKind.u64, PT.int IntKind.i64, PT.int IntKind.i64, PT.int IntKind.u64, PT.int IntKind.i64,
 PT.int IntKind.u8, PT.int IntKind.u8, PT.int IntKind.u8, PT.int IntKind.u8, PT.int IntKind.u8,
 PT.int IntKind.u8,
 PT.opt
 (OTs.cons
 (OT.c
 (CT.rop
 (CTs.cons
 (CT.ro
 zc2)
 CTs.nil)))
 (OTs.cons
 (OT.map (VT.agg zc9)
 (VT.agg
 (CTs.cons (CT.ro zc6)
 (CTs.cons (CT.int IntKind.u64)
 (CTs.cons CT.bool
 (CTs.cons (CT.int IntKind.u64)
 (CTs.cons
 (CT.rom
 (CTs.cons (CT.int IntKind.u8) zc6)
 zc0)
 CTs.nil)))))))
 (OTs.cons (OT.c (CT.int IntKind.u64)) OTs.nil)))]
 (fun
 (J :
 Arr
 [PT.int IntKind.u64, PT.int IntKind.i64, PT.int IntKind.i64, PT.int IntKind.u64,
 PT.int IntKind.i64, PT.int IntKind.u8, PT.int IntKind.u8, PT.int IntKind.u8,
 PT.int IntKind.u8, PT.int IntKind.u8, PT.int IntKind.u8,
 PT.opt
 (OTs.cons
 (OT.c
 (CT.rop
 (CTs.cons
 (CT.ro
 zc2)
 CTs.nil)))
 (OTs.cons
 (OT.map (VT.agg zc9)
 (VT.agg
 (CTs.cons (CT.ro zc6)
 (CTs.cons (CT.int IntKind.u64)
 (CTs.cons CT.bool
 (CTs.cons (CT.int IntKind.u64)
 (CTs.cons
 (CT.rom
 (CTs.cons (CT.int IntKind.u8)
 zc6)
 zc0)
 CTs.nil)))))))
 (OTs.cons (OT.c (CT.int IntKind.u64)) OTs.nil)))]
 (Option (Bool × Unit))) =>
 oelim x_6.1.1
 (obind (F12 n none)
 fun
 (x_7 :
 (Option
 zt1 ×
 Int64) ×
 Unit) =>
 J x.2.2 x_2.1.2 x_4.1.1
 x_4.1.2 x_7.1.2 x.2.1.1
 x.2.1.2.1
 x.2.1.2.2.1
 x.2.1.2.2.2.1
 x.2.1.2.2.2.2.1
 x.2.1.2.2.2.2.2
 x_7.1.1)
 fun
 (x_7 :
 List
 zt5) =>
 obind (F12 n (some x_7))
 fun
 (x_8 :
 (Option
 zt1 ×
 Int64) ×
 Unit) =>
 J x.2.2 x_2.1.2 x_4.1.1
 x_4.1.2 x_8.1.2 x.2.1.1
 x.2.1.2.1
 x.2.1.2.2.1
 x.2.1.2.2.2.1
 x.2.1.2.2.2.2.1
 x.2.1.2.2.2.2.2
 x_8.1.1)
 (F5_J255 n))
theorem ok5 (n : Nat) : FunOK Try.prog ⟨5, sig5, F5 n⟩ :=
 fun_ok (hints := ⟨[(255, ⟨[(2, .one (.int .u64)), (4, .one (.own 3)), (8, .one (.int .i64)), (9, .one (.nilp)), (10, .one (.int .i64)), (11, .one (.int .u64)), (14, .one (.own 4)), (15, .one (.int .i64))], [(3, .cells [.int .u8, .int .u8, .int .u8, .int .u8, .int .u8, .int .u8]), (4, .fold (.cons (.c (.rop (.cons (.ro zc8) .nil))) (.cons (.map (.agg zc15) (.agg (.cons (.ro zc12) (.cons (.int .u64) (.cons .bool (.cons (.int .u64) (.cons (.rom (.cons (.int .u8) zc12) zc4) .nil))))))) (.cons (.c (.int .u64)) .nil))))], 5⟩)], []⟩) (fuel := n) (c := Try.f5.body.getD .skip) (rs := Try.f5.results.toList) tt_ok mix (FsOK.cons (ok6 n) (FsOK.cons (ok12 n) (FsOK.cons (ok16 n) (FsOK.cons (ok15 n) (FsOK.cons (ok17 n) (FsOK.cons (ok11 n) (FsOK.cons (ok7 n) (FsOK.cons (ok13 n) (FsOK.nil))))))))) Try.func5 (by kernel_rfl) (by kernel_rfl) rfl (by kernel_rfl) rfl rfl (by kernel_rfl)
end Go.Proofs.Ytcfckkmiaeegpaa
