/- What the functions of this seat compute, found by walking their code symbolically: each F is what the walk finds, each ok says that the Go function keeps it as a contract. Printed by a program of this repo's. -/
import Derived.Test.YtblldmpkljcnjaaSpFns5
open Go Go.Sx
namespace Go.Proofs.Ytblldmpkljcnjaa
set_option maxRecDepth 100000
set_option linter.unusedVariables false
-- watchfire/watchfirelaw08.SpoolBases
def sig5 : Sig := ⟨(.cons (.one (.c (.int .u16))) (.cons (.one (.c (.ro (.cons .bool (.cons (.int .u8) (.cons (.int .u8) (.cons (.int .u8) (.cons (.int .u16) (.cons (.int .u16) (.cons (.int .u16) (.cons (.int .u8) (.cons (.int .u8) (.cons (.int .u8) (.cons .bool .nil)))))))))))))) (.cons (.one (.c (.int .u8))) (.cons (.one (.c (.int .u8))) (.cons (.one (.c (.int .u64))) .nil))))), (.cons (.one (.c .bool)) .nil)⟩
noncomputable def F5_L131069 : Nat →
 Arr
 [PT.int IntKind.i64, PT.int IntKind.i64, PT.int IntKind.u64, PT.int IntKind.u64, PT.int IntKind.u64,
 PT.int IntKind.i64, PT.int IntKind.i64, PT.list1 (CT.int IntKind.u64), PT.int IntKind.u64, PT.int IntKind.u64,
 PT.int IntKind.u64,
 PT.optA
 (OTs.cons (OT.c (CT.int IntKind.i64))
 (OTs.cons (OT.c (CT.int IntKind.i64))
 (OTs.cons (OT.c (CT.int IntKind.u64))
 (OTs.cons (OT.c (CT.int IntKind.u64))
 (OTs.cons
 (OT.row
 (CTs.cons (CT.int IntKind.u64)
 (CTs.cons CT.bool
 (CTs.cons (CT.int IntKind.u8)
 (CTs.cons (CT.int IntKind.u64)
 (CTs.cons (CT.int IntKind.u64)
 (CTs.cons CT.str
 (CTs.cons (CT.ro (CTs.cons CT.str (CTs.cons CT.str CTs.nil)))
 (CTs.cons (CT.int IntKind.u8)
 (CTs.cons (CT.int IntKind.u8)
 (CTs.cons (CT.int IntKind.i64)
 (CTs.cons (CT.int IntKind.u8)
 (CTs.cons (CT.int IntKind.u8)
 (CTs.cons (CT.int IntKind.u64)
 (CTs.cons (CT.int IntKind.u64) CTs.nil)))))))))))))))
 OTs.nil)))))
 (CT.int IntKind.u64) (OTs.cons (OT.c (CT.int IntKind.u64)) OTs.nil),
 PT.list
 (CTs.cons (CT.int IntKind.u64)
 (CTs.cons CT.bool
 (CTs.cons (CT.int IntKind.u8)
 (CTs.cons (CT.int IntKind.u64)
 (CTs.cons (CT.int IntKind.u64)
 (CTs.cons CT.str
 (CTs.cons (CT.ro (CTs.cons CT.str (CTs.cons CT.str CTs.nil)))
 (CTs.cons (CT.int IntKind.u8)
 (CTs.cons (CT.int IntKind.u8)
 (CTs.cons (CT.int IntKind.i64)
 (CTs.cons (CT.int IntKind.u8)
 (CTs.cons (CT.int IntKind.u8)
 (CTs.cons (CT.int IntKind.u64) (CTs.cons (CT.int IntKind.u64) CTs.nil)))))))))))))),
 PT.list
 (CTs.cons (CT.int IntKind.u64)
 (CTs.cons CT.bool
 (CTs.cons (CT.int IntKind.u8)
 (CTs.cons (CT.int IntKind.u64)
 (CTs.cons (CT.int IntKind.u64)
 (CTs.cons CT.str
 (CTs.cons (CT.ro (CTs.cons CT.str (CTs.cons CT.str CTs.nil)))
 (CTs.cons (CT.int IntKind.u8)
 (CTs.cons (CT.int IntKind.u8)
 (CTs.cons (CT.int IntKind.i64)
 (CTs.cons (CT.int IntKind.u8)
 (CTs.cons (CT.int IntKind.u8)
 (CTs.cons (CT.int IntKind.u64) (CTs.cons (CT.int IntKind.u64) CTs.nil))))))))))))))]
 (Option (Bool × Unit)) →
 Int64 →
 Int64 →
 UInt64 →
 UInt64 →
 UInt64 →
 Int64 →
 Int64 →
 List UInt64 →
 UInt64 →
 UInt64 →
 UInt64 →
 Option
 ((Int64 ×
 Int64 ×
 UInt64 ×
 UInt64 ×
 List
 (UInt64 ×
 Bool ×
 UInt8 ×
 UInt64 ×
 UInt64 ×
 List UInt8 ×
 List (List UInt8 × List UInt8) ×
 UInt8 × UInt8 × Int64 × UInt8 × UInt8 × UInt64 × UInt64)) ×
 List UInt64 × UInt64) →
 List
 (UInt64 ×
 Bool ×
 UInt8 ×
 UInt64 ×
 UInt64 ×
 List UInt8 ×
 List (List UInt8 × List UInt8) ×
 UInt8 × UInt8 × Int64 × UInt8 × UInt8 × UInt64 × UInt64) →
 List
 (UInt64 ×
 Bool ×
 UInt8 ×
 UInt64 ×
 UInt64 ×
 List UInt8 ×
 List (List UInt8 × List UInt8) ×
 UInt8 × UInt8 × Int64 × UInt8 × UInt8 × UInt64 × UInt64) →
 Option (Bool × Unit) := fun (n : Nat)
 (rec_1 :
 Arr
 [PT.int IntKind.i64, PT.int IntKind.i64, PT.int IntKind.u64, PT.int IntKind.u64, PT.int IntKind.u64,
 PT.int IntKind.i64, PT.int IntKind.i64, PT.list1 (CT.int IntKind.u64), PT.int IntKind.u64, PT.int IntKind.u64,
 PT.int IntKind.u64,
 PT.optA
 (OTs.cons (OT.c (CT.int IntKind.i64))
 (OTs.cons (OT.c (CT.int IntKind.i64))
 (OTs.cons (OT.c (CT.int IntKind.u64))
 (OTs.cons (OT.c (CT.int IntKind.u64))
 (OTs.cons
 (OT.row
 (CTs.cons (CT.int IntKind.u64)
 (CTs.cons CT.bool
 (CTs.cons (CT.int IntKind.u8)
 (CTs.cons (CT.int IntKind.u64)
 (CTs.cons (CT.int IntKind.u64)
 (CTs.cons CT.str
 (CTs.cons (CT.ro (CTs.cons CT.str (CTs.cons CT.str CTs.nil)))
 (CTs.cons (CT.int IntKind.u8)
 (CTs.cons (CT.int IntKind.u8)
 (CTs.cons (CT.int IntKind.i64)
 (CTs.cons (CT.int IntKind.u8)
 (CTs.cons (CT.int IntKind.u8)
 (CTs.cons (CT.int IntKind.u64)
 (CTs.cons (CT.int IntKind.u64) CTs.nil)))))))))))))))
 OTs.nil)))))
 (CT.int IntKind.u64) (OTs.cons (OT.c (CT.int IntKind.u64)) OTs.nil),
 PT.list
 (CTs.cons (CT.int IntKind.u64)
 (CTs.cons CT.bool
 (CTs.cons (CT.int IntKind.u8)
 (CTs.cons (CT.int IntKind.u64)
 (CTs.cons (CT.int IntKind.u64)
 (CTs.cons CT.str
 (CTs.cons (CT.ro (CTs.cons CT.str (CTs.cons CT.str CTs.nil)))
 (CTs.cons (CT.int IntKind.u8)
 (CTs.cons (CT.int IntKind.u8)
 (CTs.cons (CT.int IntKind.i64)
 (CTs.cons (CT.int IntKind.u8)
 (CTs.cons (CT.int IntKind.u8)
 (CTs.cons (CT.int IntKind.u64) (CTs.cons (CT.int IntKind.u64) CTs.nil)))))))))))))),
 PT.list
 (CTs.cons (CT.int IntKind.u64)
 (CTs.cons CT.bool
 (CTs.cons (CT.int IntKind.u8)
 (CTs.cons (CT.int IntKind.u64)
 (CTs.cons (CT.int IntKind.u64)
 (CTs.cons CT.str
 (CTs.cons (CT.ro (CTs.cons CT.str (CTs.cons CT.str CTs.nil)))
 (CTs.cons (CT.int IntKind.u8)
 (CTs.cons (CT.int IntKind.u8)
 (CTs.cons (CT.int IntKind.i64)
 (CTs.cons (CT.int IntKind.u8)
 (CTs.cons (CT.int IntKind.u8)
 (CTs.cons (CT.int IntKind.u64) (CTs.cons (CT.int IntKind.u64) CTs.nil))))))))))))))]
 (Option (Bool × Unit)))
 (q_4 used : Int64) (next acked last : UInt64) (t_3 t_1_1 : Int64) (ba_3 : List UInt64) (b0_3 b1_3 b2_3 : UInt64)
 (t_2_1 :
 Option
 ((Int64 ×
 Int64 ×
 UInt64 ×
 UInt64 ×
 List
 (UInt64 ×
 Bool ×
 UInt8 ×
 UInt64 ×
 UInt64 ×
 List UInt8 ×
 List (List UInt8 × List UInt8) ×
 UInt8 × UInt8 × Int64 × UInt8 × UInt8 × UInt64 × UInt64)) ×
 List UInt64 × UInt64))
 (t_3_1 bl_3 :
 List
 (UInt64 ×
 Bool ×
 UInt8 ×
 UInt64 ×
 UInt64 ×
 List UInt8 ×
 List (List UInt8 × List UInt8) × UInt8 × UInt8 × Int64 × UInt8 × UInt8 × UInt64 × UInt64)) =>
 oite (decide (t_1_1 < t_3))
 (oite (decide ((0 : Int) ≤ Int64.toInt t_1_1) && Nat.blt (Int.toNat (Int64.toInt t_1_1)) (List.length t_3_1))
 (obind t_3_1[Int.toNat (Int64.toInt t_1_1)]?
 fun
 (x_38 :
 UInt64 ×
 Bool ×
 UInt8 ×
 UInt64 ×
 UInt64 ×
 List UInt8 ×
 List (List UInt8 × List UInt8) × UInt8 × UInt8 × Int64 × UInt8 × UInt8 × UInt64 × UInt64) =>
 obind
 (F15 n
 (x_38.2.1, x_38.2.2.1,
 x_38.2.2.2.1, x_38.2.2.2.2.1,
 x_38.2.2.2.2.2.1,
 x_38.2.2.2.2.2.2.1,
 x_38.2.2.2.2.2.2.2.1,
 x_38.2.2.2.2.2.2.2.2.1,
 x_38.2.2.2.2.2.2.2.2.2.1,
 x_38.2.2.2.2.2.2.2.2.2.2.1,
 x_38.2.2.2.2.2.2.2.2.2.2.2.1,
 x_38.2.2.2.2.2.2.2.2.2.2.2.2.1,
 x_38.2.2.2.2.2.2.2.2.2.2.2.2.2))
 fun (x_39 : (UInt8 × UInt64 × UInt64) × Unit) =>
 oite (decide (x_38.1 ≤ last)) (some (false, ()))
 (oite (decide (next ≤ x_38.1)) (some (false, ()))
 (obind (F11 n (t_2_1, x_39.1.1))
 fun
 (x_40 :
 UInt64 ×
 Option
 ((Int64 ×
 Int64 ×
 UInt64 ×
 UInt64 ×
 List
 (UInt64 ×
 Bool ×
 UInt8 ×
 UInt64 ×
 UInt64 ×
 List UInt8 ×
 List (List UInt8 × List UInt8) ×
 UInt8 × UInt8 × Int64 × UInt8 × UInt8 × UInt64 × UInt64)) ×
 List UInt64 × UInt64)) =>
 oite (decide (x_40.1 < x_39.1.2.2)) (some (false, ()))
 (rec_1 q_4 used next acked x_38.1 t_3 (t_1_1 + (1 : Int64)) ba_3 b0_3 b1_3 b2_3
 x_40.2 t_3_1 bl_3))))
 none)
 (oite (decide (used ≤ q_4))
 (oite (decide (next = b0_3)) (some (decide (acked = b1_3), ())) (some (false, ())))
 (some (false, ())))
noncomputable def F5_R131069 : Nat →
 Nat →
 PT.T (PT.int IntKind.i64) →
 Int64 →
 UInt64 →
 UInt64 →
 UInt64 →
 Int64 →
 Int64 →
 List UInt64 →
 UInt64 →
 UInt64 →
 UInt64 →
 Option
 ((Int64 ×
 Int64 ×
 UInt64 ×
 UInt64 ×
 List
 (UInt64 ×
 Bool ×
 UInt8 ×
 UInt64 ×
 UInt64 ×
 List UInt8 ×
 List (List UInt8 × List UInt8) ×
 UInt8 × UInt8 × Int64 × UInt8 × UInt8 × UInt64 × UInt64)) ×
 List UInt64 × UInt64) →
 List
 (UInt64 ×
 Bool ×
 UInt8 ×
 UInt64 ×
 UInt64 ×
 List UInt8 ×
 List (List UInt8 × List UInt8) ×
 UInt8 × UInt8 × Int64 × UInt8 × UInt8 × UInt64 × UInt64) →
 List
 (UInt64 ×
 Bool ×
 UInt8 ×
 UInt64 ×
 UInt64 ×
 List UInt8 ×
 List (List UInt8 × List UInt8) ×
 UInt8 × UInt8 × Int64 × UInt8 × UInt8 × UInt64 × UInt64) →
 Option (Bool × Unit) := fun (n : Nat) =>
 ofixA (131069 : Nat)
 [PT.int IntKind.i64, PT.int IntKind.i64, PT.int IntKind.u64, PT.int IntKind.u64, PT.int IntKind.u64,
 PT.int IntKind.i64, PT.int IntKind.i64, PT.list1 (CT.int IntKind.u64), PT.int IntKind.u64, PT.int IntKind.u64,
 PT.int IntKind.u64,
 PT.optA
 (OTs.cons (OT.c (CT.int IntKind.i64))
 (OTs.cons (OT.c (CT.int IntKind.i64))
 (OTs.cons (OT.c (CT.int IntKind.u64))
 (OTs.cons (OT.c (CT.int IntKind.u64))
 (OTs.cons
 (OT.row
 (CTs.cons (CT.int IntKind.u64)
 (CTs.cons CT.bool
 (CTs.cons (CT.int IntKind.u8)
 (CTs.cons (CT.int IntKind.u64)
 (CTs.cons (CT.int IntKind.u64)
 (CTs.cons CT.str
 (CTs.cons (CT.ro (CTs.cons CT.str (CTs.cons CT.str CTs.nil)))
 (CTs.cons (CT.int IntKind.u8)
 (CTs.cons (CT.int IntKind.u8)
 (CTs.cons (CT.int IntKind.i64)
 (CTs.cons (CT.int IntKind.u8)
 (CTs.cons (CT.int IntKind.u8)
 (CTs.cons (CT.int IntKind.u64)
 (CTs.cons (CT.int IntKind.u64) CTs.nil)))))))))))))))
 OTs.nil)))))
 (CT.int IntKind.u64) (OTs.cons (OT.c (CT.int IntKind.u64)) OTs.nil),
 PT.list
 (CTs.cons (CT.int IntKind.u64)
 (CTs.cons CT.bool
 (CTs.cons (CT.int IntKind.u8)
 (CTs.cons (CT.int IntKind.u64)
 (CTs.cons (CT.int IntKind.u64)
 (CTs.cons CT.str
 (CTs.cons (CT.ro (CTs.cons CT.str (CTs.cons CT.str CTs.nil)))
 (CTs.cons (CT.int IntKind.u8)
 (CTs.cons (CT.int IntKind.u8)
 (CTs.cons (CT.int IntKind.i64)
 (CTs.cons (CT.int IntKind.u8)
 (CTs.cons (CT.int IntKind.u8)
 (CTs.cons (CT.int IntKind.u64) (CTs.cons (CT.int IntKind.u64) CTs.nil)))))))))))))),
 PT.list
 (CTs.cons (CT.int IntKind.u64)
 (CTs.cons CT.bool
 (CTs.cons (CT.int IntKind.u8)
 (CTs.cons (CT.int IntKind.u64)
 (CTs.cons (CT.int IntKind.u64)
 (CTs.cons CT.str
 (CTs.cons (CT.ro (CTs.cons CT.str (CTs.cons CT.str CTs.nil)))
 (CTs.cons (CT.int IntKind.u8)
 (CTs.cons (CT.int IntKind.u8)
 (CTs.cons (CT.int IntKind.i64)
 (CTs.cons (CT.int IntKind.u8)
 (CTs.cons (CT.int IntKind.u8)
 (CTs.cons (CT.int IntKind.u64) (CTs.cons (CT.int IntKind.u64) CTs.nil))))))))))))))]
 (F5_L131069 n)
noncomputable def F5_J511 : Nat →
 UInt8 →
 Int64 →
 List UInt64 →
 UInt64 →
 UInt64 →
 UInt64 →
 List
 (UInt64 ×
 Bool ×
 UInt8 ×
 UInt64 ×
 UInt64 ×
 List UInt8 ×
 List (List UInt8 × List UInt8) ×
 UInt8 × UInt8 × Int64 × UInt8 × UInt8 × UInt64 × UInt64) →
 Option (Bool × Unit) := fun (n : Nat) (what_3 : UInt8) (q_3 : Int64) (ba_2 : List UInt64) (b0_2 b1_2 b2_2 : UInt64)
 (bl_2 :
 List
 (UInt64 ×
 Bool ×
 UInt8 ×
 UInt64 ×
 UInt64 ×
 List UInt8 ×
 List (List UInt8 × List UInt8) × UInt8 × UInt8 × Int64 × UInt8 × UInt8 × UInt64 × UInt64)) =>
 obind ba_2[(0 : Nat)]? fun (x_3 : UInt64) =>
 obind ba_2[(0 : Nat) + (1 : Nat)]? fun (x_4 : UInt64) =>
 obind ba_2[(0 : Nat) + (1 : Nat) + (1 : Nat)]? fun (x_5 : UInt64) =>
 obind ba_2[(0 : Nat) + (1 : Nat) + (1 : Nat) + (1 : Nat)]? fun (x_6 : UInt64) =>
 obind ba_2[(0 : Nat) + (1 : Nat) + (1 : Nat) + (1 : Nat) + (1 : Nat)]? fun (x_7 : UInt64) =>
 obind ba_2[(0 : Nat) + (1 : Nat) + (1 : Nat) + (1 : Nat) + (1 : Nat) + (1 : Nat)]? fun (x_8 : UInt64) =>
 obind ba_2[(0 : Nat) + (1 : Nat) + (1 : Nat) + (1 : Nat) + (1 : Nat) + (1 : Nat) + (1 : Nat)]?
 fun (x_9 : UInt64) =>
 obind
 ba_2[(0 : Nat) + (1 : Nat) + (1 : Nat) + (1 : Nat) + (1 : Nat) + (1 : Nat) + (1 : Nat) + (1 : Nat)]?
 fun (x_10 : UInt64) =>
 obind
 ba_2[(0 : Nat) + (1 : Nat) + (1 : Nat) + (1 : Nat) + (1 : Nat) + (1 : Nat) + (1 : Nat) + (1 : Nat) +
 (1 : Nat)]?
 fun (x_11 : UInt64) =>
 obind
 ba_2[(0 : Nat) + (1 : Nat) + (1 : Nat) + (1 : Nat) + (1 : Nat) + (1 : Nat) + (1 : Nat) +
 (1 : Nat) +
 (1 : Nat) +
 (1 : Nat)]?
 fun (x_12 : UInt64) =>
 obind
 ba_2[(0 : Nat) + (1 : Nat) + (1 : Nat) + (1 : Nat) + (1 : Nat) + (1 : Nat) + (1 : Nat) +
 (1 : Nat) +
 (1 : Nat) +
 (1 : Nat) +
 (1 : Nat)]?
 fun (x_13 : UInt64) =>
 obind
 ba_2[(0 : Nat) + (1 : Nat) + (1 : Nat) + (1 : Nat) + (1 : Nat) + (1 : Nat) + (1 : Nat) +
 (1 : Nat) +
 (1 : Nat) +
 (1 : Nat) +
 (1 : Nat) +
 (1 : Nat)]?
 fun (x_14 : UInt64) =>
 obind
 ba_2[(0 : Nat) + (1 : Nat) + (1 : Nat) + (1 : Nat) + (1 : Nat) + (1 : Nat) + (1 : Nat) +
 (1 : Nat) +
 (1 : Nat) +
 (1 : Nat) +
 (1 : Nat) +
 (1 : Nat) +
 (1 : Nat)]?
 fun (x_15 : UInt64) =>
 obind
 ba_2[(0 : Nat) + (1 : Nat) + (1 : Nat) + (1 : Nat) + (1 : Nat) + (1 : Nat) + (1 : Nat) +
 (1 : Nat) +
 (1 : Nat) +
 (1 : Nat) +
 (1 : Nat) +
 (1 : Nat) +
 (1 : Nat) +
 (1 : Nat)]?
 fun (x_16 : UInt64) =>
 obind
 ba_2[(0 : Nat) + (1 : Nat) + (1 : Nat) + (1 : Nat) + (1 : Nat) + (1 : Nat) + (1 : Nat) +
 (1 : Nat) +
 (1 : Nat) +
 (1 : Nat) +
 (1 : Nat) +
 (1 : Nat) +
 (1 : Nat) +
 (1 : Nat) +
 (1 : Nat)]?
 fun (x_17 : UInt64) =>
 obind
 ba_2[(0 : Nat) + (1 : Nat) + (1 : Nat) + (1 : Nat) + (1 : Nat) + (1 : Nat) +
 (1 : Nat) +
 (1 : Nat) +
 (1 : Nat) +
 (1 : Nat) +
 (1 : Nat) +
 (1 : Nat) +
 (1 : Nat) +
 (1 : Nat) +
 (1 : Nat) +
 (1 : Nat)]?
 fun (x_18 : UInt64) =>
 obind
 ba_2[(0 : Nat) + (1 : Nat) + (1 : Nat) + (1 : Nat) + (1 : Nat) + (1 : Nat) +
 (1 : Nat) +
 (1 : Nat) +
 (1 : Nat) +
 (1 : Nat) +
 (1 : Nat) +
 (1 : Nat) +
 (1 : Nat) +
 (1 : Nat) +
 (1 : Nat) +
 (1 : Nat) +
 (1 : Nat)]?
 fun (x_19 : UInt64) =>
 obind
 ba_2[(0 : Nat) + (1 : Nat) + (1 : Nat) + (1 : Nat) + (1 : Nat) + (1 : Nat) +
 (1 : Nat) +
 (1 : Nat) +
 (1 : Nat) +
 (1 : Nat) +
 (1 : Nat) +
 (1 : Nat) +
 (1 : Nat) +
 (1 : Nat) +
 (1 : Nat) +
 (1 : Nat) +
 (1 : Nat) +
 (1 : Nat)]?
 fun (x_20 : UInt64) =>
 obind
 ba_2[(0 : Nat) + (1 : Nat) + (1 : Nat) + (1 : Nat) + (1 : Nat) + (1 : Nat) +
 (1 : Nat) +
 (1 : Nat) +
 (1 : Nat) +
 (1 : Nat) +
 (1 : Nat) +
 (1 : Nat) +
 (1 : Nat) +
 (1 : Nat) +
 (1 : Nat) +
 (1 : Nat) +
 (1 : Nat) +
 (1 : Nat) +
 (1 : Nat)]?
 fun (x_21 : UInt64) =>
 obind
 ba_2[(0 : Nat) + (1 : Nat) + (1 : Nat) + (1 : Nat) + (1 : Nat) + (1 : Nat) +
 (1 : Nat) +
 (1 : Nat) +
 (1 : Nat) +
 (1 : Nat) +
 (1 : Nat) +
 (1 : Nat) +
 (1 : Nat) +
 (1 : Nat) +
 (1 : Nat) +
 (1 : Nat) +
 (1 : Nat) +
 (1 : Nat) +
 (1 : Nat) +
 (1 : Nat)]?
 fun (x_22 : UInt64) =>
 obind
 ba_2[(0 : Nat) + (1 : Nat) + (1 : Nat) + (1 : Nat) + (1 : Nat) + (1 : Nat) +
 (1 : Nat) +
 (1 : Nat) +
 (1 : Nat) +
 (1 : Nat) +
 (1 : Nat) +
 (1 : Nat) +
 (1 : Nat) +
 (1 : Nat) +
 (1 : Nat) +
 (1 : Nat) +
 (1 : Nat) +
 (1 : Nat) +
 (1 : Nat) +
 (1 : Nat) +
 (1 : Nat)]?
 fun (x_23 : UInt64) =>
 obind
 ba_2[(0 : Nat) + (1 : Nat) + (1 : Nat) + (1 : Nat) + (1 : Nat) +
 (1 : Nat) +
 (1 : Nat) +
 (1 : Nat) +
 (1 : Nat) +
 (1 : Nat) +
 (1 : Nat) +
 (1 : Nat) +
 (1 : Nat) +
 (1 : Nat) +
 (1 : Nat) +
 (1 : Nat) +
 (1 : Nat) +
 (1 : Nat) +
 (1 : Nat) +
 (1 : Nat) +
 (1 : Nat) +
 (1 : Nat)]?
 fun (x_24 : UInt64) =>
 obind
 ba_2[(0 : Nat) + (1 : Nat) + (1 : Nat) + (1 : Nat) + (1 : Nat) +
 (1 : Nat) +
 (1 : Nat) +
 (1 : Nat) +
 (1 : Nat) +
 (1 : Nat) +
 (1 : Nat) +
 (1 : Nat) +
 (1 : Nat) +
 (1 : Nat) +
 (1 : Nat) +
 (1 : Nat) +
 (1 : Nat) +
 (1 : Nat) +
 (1 : Nat) +
 (1 : Nat) +
 (1 : Nat) +
 (1 : Nat) +
 (1 : Nat)]?
 fun (x_25 : UInt64) =>
 obind
 ba_2[(0 : Nat) + (1 : Nat) + (1 : Nat) + (1 : Nat) + (1 : Nat) +
 (1 : Nat) +
 (1 : Nat) +
 (1 : Nat) +
 (1 : Nat) +
 (1 : Nat) +
 (1 : Nat) +
 (1 : Nat) +
 (1 : Nat) +
 (1 : Nat) +
 (1 : Nat) +
 (1 : Nat) +
 (1 : Nat) +
 (1 : Nat) +
 (1 : Nat) +
 (1 : Nat) +
 (1 : Nat) +
 (1 : Nat) +
 (1 : Nat) +
 (1 : Nat)]?
 fun (x_26 : UInt64) =>
 obind
 ba_2[(0 : Nat) + (1 : Nat) + (1 : Nat) + (1 : Nat) + (1 : Nat) +
 (1 : Nat) +
 (1 : Nat) +
 (1 : Nat) +
 (1 : Nat) +
 (1 : Nat) +
 (1 : Nat) +
 (1 : Nat) +
 (1 : Nat) +
 (1 : Nat) +
 (1 : Nat) +
 (1 : Nat) +
 (1 : Nat) +
 (1 : Nat) +
 (1 : Nat) +
 (1 : Nat) +
 (1 : Nat) +
 (1 : Nat) +
 (1 : Nat) +
 (1 : Nat) +
 (1 : Nat)]?
 fun (x_27 : UInt64) =>
 obind
 ba_2[(0 : Nat) + (1 : Nat) + (1 : Nat) + (1 : Nat) + (1 : Nat) +
 (1 : Nat) +
 (1 : Nat) +
 (1 : Nat) +
 (1 : Nat) +
 (1 : Nat) +
 (1 : Nat) +
 (1 : Nat) +
 (1 : Nat) +
 (1 : Nat) +
 (1 : Nat) +
 (1 : Nat) +
 (1 : Nat) +
 (1 : Nat) +
 (1 : Nat) +
 (1 : Nat) +
 (1 : Nat) +
 (1 : Nat) +
 (1 : Nat) +
 (1 : Nat) +
 (1 : Nat) +
 (1 : Nat)]?
 fun (x_28 : UInt64) =>
 obind
 ba_2[(0 : Nat) + (1 : Nat) + (1 : Nat) + (1 : Nat) + (1 : Nat) +
 (1 : Nat) +
 (1 : Nat) +
 (1 : Nat) +
 (1 : Nat) +
 (1 : Nat) +
 (1 : Nat) +
 (1 : Nat) +
 (1 : Nat) +
 (1 : Nat) +
 (1 : Nat) +
 (1 : Nat) +
 (1 : Nat) +
 (1 : Nat) +
 (1 : Nat) +
 (1 : Nat) +
 (1 : Nat) +
 (1 : Nat) +
 (1 : Nat) +
 (1 : Nat) +
 (1 : Nat) +
 (1 : Nat) +
 (1 : Nat)]?
 fun (x_29 : UInt64) =>
 obind
 ba_2[(0 : Nat) + (1 : Nat) + (1 : Nat) + (1 : Nat) +
 (1 : Nat) +
 (1 : Nat) +
 (1 : Nat) +
 (1 : Nat) +
 (1 : Nat) +
 (1 : Nat) +
 (1 : Nat) +
 (1 : Nat) +
 (1 : Nat) +
 (1 : Nat) +
 (1 : Nat) +
 (1 : Nat) +
 (1 : Nat) +
 (1 : Nat) +
 (1 : Nat) +
 (1 : Nat) +
 (1 : Nat) +
 (1 : Nat) +
 (1 : Nat) +
 (1 : Nat) +
 (1 : Nat) +
 (1 : Nat) +
 (1 : Nat) +
 (1 : Nat)]?
 fun (x_30 : UInt64) =>
 obind
 ba_2[(0 : Nat) + (1 : Nat) + (1 : Nat) + (1 : Nat) +
 (1 :
 Nat) +
 (1 :
 Nat) +
 (1 : Nat) +
 (1 : Nat) +
 (1 : Nat) +
 (1 : Nat) +
 (1 : Nat) +
 (1 : Nat) +
 (1 : Nat) +
 (1 : Nat) +
 (1 : Nat) +
 (1 : Nat) +
 (1 : Nat) +
 (1 : Nat) +
 (1 : Nat) +
 (1 : Nat) +
 (1 : Nat) +
 (1 : Nat) +
 (1 : Nat) +
 (1 : Nat) +
 (1 : Nat) +
 (1 : Nat) +
 (1 : Nat) +
 (1 : Nat) +
 (1 : Nat)]?
 fun (x_31 : UInt64) =>
 obind
 ba_2[(0 : Nat) + (1 : Nat) + (1 : Nat) + (1 : Nat) +
 (1 :
 Nat) +
 (1 :
 Nat) +
 (1 :
 Nat) +
 (1 :
 Nat) +
 (1 : Nat) +
 (1 : Nat) +
 (1 : Nat) +
 (1 : Nat) +
 (1 : Nat) +
 (1 : Nat) +
 (1 : Nat) +
 (1 : Nat) +
 (1 : Nat) +
 (1 : Nat) +
 (1 : Nat) +
 (1 : Nat) +
 (1 : Nat) +
 (1 : Nat) +
 (1 : Nat) +
 (1 : Nat) +
 (1 : Nat) +
 (1 : Nat) +
 (1 : Nat) +
 (1 : Nat) +
 (1 : Nat) +
 (1 : Nat)]?
 fun (x_32 : UInt64) =>
 obind
 ba_2[(0 : Nat) + (1 : Nat) + (1 : Nat) + (1 : Nat) +
 (1 :
 Nat) +
 (1 :
 Nat) +
 (1 :
 Nat) +
 (1 :
 Nat) +
 (1 :
 Nat) +
 (1 :
 Nat) +
 (1 : Nat) +
 (1 : Nat) +
 (1 : Nat) +
 (1 : Nat) +
 (1 : Nat) +
 (1 : Nat) +
 (1 : Nat) +
 (1 : Nat) +
 (1 : Nat) +
 (1 : Nat) +
 (1 : Nat) +
 (1 : Nat) +
 (1 : Nat) +
 (1 : Nat) +
 (1 : Nat) +
 (1 : Nat) +
 (1 : Nat) +
 (1 : Nat) +
 (1 : Nat) +
 (1 : Nat) +
 (1 : Nat)]?
 fun (x_33 : UInt64) =>
 obind
 ba_2[(0 : Nat) + (1 : Nat) + (1 : Nat) + (1 : Nat) +
 (1 :
 Nat) +
 (1 :
 Nat) +
 (1 :
 Nat) +
 (1 :
 Nat) +
 (1 :
 Nat) +
 (1 :
 Nat) +
 (1 :
 Nat) +
 (1 :
 Nat) +
 (1 : Nat) +
 (1 : Nat) +
 (1 : Nat) +
 (1 : Nat) +
 (1 : Nat) +
 (1 : Nat) +
 (1 : Nat) +
 (1 : Nat) +
 (1 : Nat) +
 (1 : Nat) +
 (1 : Nat) +
 (1 : Nat) +
 (1 : Nat) +
 (1 : Nat) +
 (1 : Nat) +
 (1 : Nat) +
 (1 : Nat) +
 (1 : Nat) +
 (1 : Nat) +
 (1 : Nat)]?
 fun (x_34 : UInt64) =>
 obind
 (F19 n
 (q_3, b0_2, b1_2, b2_2, x_3, x_4, x_5, x_6, x_7,
 x_8, x_9, x_10, x_11, x_12, x_13, x_14, x_15,
 x_16, x_17, x_18, x_19, x_20, x_21, x_22, x_23,
 x_24, x_25, x_26, x_27, x_28, x_29, x_30, x_31,
 x_32, x_33, x_34, bl_2))
 fun
 (x_35 :
 (Option
 ((Int64 ×
 Int64 ×
 UInt64 ×
 UInt64 ×
 List
 (UInt64 ×
 Bool ×
 UInt8 ×
 UInt64 ×
 UInt64 ×
 List UInt8 ×
 List
 (List UInt8 ×
 List
 UInt8) ×
 UInt8 ×
 UInt8 ×
 Int64 ×
 UInt8 ×
 UInt8 ×
 UInt64 ×
 UInt64)) ×
 List UInt64 × UInt64) ×
 Int64) ×
 Unit) =>
 oite (decide (what_3 % (7 : UInt8) = (6 : UInt8)))
 (some
 (decide
 (x_35.1.2 = (0 : Int64)),
 ()))
 (oite
 (!decide
 (x_35.1.2 = (0 : Int64)))
 (oelim x_35.1.1
 (oite
 (decide
 (x_35.1.2 = (6 : Int64)))
 (some (true, ()))
 (oite
 (decide
 (x_35.1.2 =
 (9 : Int64)))
 (some (true, ()))
 (some
 (decide
 (x_35.1.2 =
 (26 : Int64)),
 ()))))
 fun
 (x_36 :
 (Int64 ×
 Int64 ×
 UInt64 ×
 UInt64 ×
 List
 (UInt64 ×
 Bool ×
 UInt8 ×
 UInt64 ×
 UInt64 ×
 List UInt8 ×
 List
 (List UInt8 ×
 List
 UInt8) ×
 UInt8 ×
 UInt8 ×
 Int64 ×
 UInt8 ×
 UInt8 ×
 UInt64 ×
 UInt64)) ×
 List UInt64 × UInt64) =>
 some (false, ()))
 (obind (F20 n x_35.1.1)
 fun
 (x_36 :
 (Int64 ×
 Int64 × UInt64 × UInt64 × UInt64) ×
 Option
 ((Int64 ×
 Int64 ×
 UInt64 ×
 UInt64 ×
 List
 (UInt64 ×
 Bool ×
 UInt8 ×
 UInt64 ×
 UInt64 ×
 List UInt8 ×
 List
 (List
 UInt8 ×
 List
 UInt8) ×
 UInt8 ×
 UInt8 ×
 Int64 ×
 UInt8 ×
 UInt8 ×
 UInt64 ×
 UInt64)) ×
 List UInt64 × UInt64)) =>
 obind
 (F12 n
 (x_36.2, (0 : UInt64),
 (1000 : Int64)))
 fun
 (x_37 :
 List
 (UInt64 ×
 Bool ×
 UInt8 ×
 UInt64 ×
 UInt64 ×
 List UInt8 ×
 List
 (List UInt8 ×
 List UInt8) ×
 UInt8 ×
 UInt8 ×
 Int64 ×
 UInt8 ×
 UInt8 ×
 UInt64 ×
 UInt64) ×
 Option
 ((Int64 ×
 Int64 ×
 UInt64 ×
 UInt64 ×
 List
 (UInt64 ×
 Bool ×
 UInt8 ×
 UInt64 ×
 UInt64 ×
 List UInt8 ×
 List
 (List
 UInt8 ×
 List
 UInt8) ×
 UInt8 ×
 UInt8 ×
 Int64 ×
 UInt8 ×
 UInt8 ×
 UInt64 ×
 UInt64)) ×
 List UInt64 × UInt64)) =>
 F5_R131069 n n q_3
 x_36.1.2.1
 x_36.1.2.2.1
 x_36.1.2.2.2.1
 x_36.1.2.2.2.1
 (Int64.ofInt
 ↑(List.length x_37.1))
 (0 : Int64) ba_2 b0_2 b1_2 b2_2
 x_37.2 x_37.1 bl_2))
noncomputable def F5_J255 : Nat →
 UInt8 →
 UInt8 →
 UInt64 →
 Int64 →
 Int64 →
 List UInt64 →
 UInt64 →
 UInt64 →
 UInt64 →
 List
 (UInt64 ×
 Bool ×
 UInt8 ×
 UInt64 ×
 UInt64 ×
 List UInt8 ×
 List (List UInt8 × List UInt8) ×
 UInt8 × UInt8 × Int64 × UInt8 × UInt8 × UInt64 × UInt64) →
 Option (Bool × Unit) := fun (n : Nat) (what_2 at__2 : UInt8) (n__2 : UInt64) (q_2 k : Int64) (ba_1 : List UInt64) (b0_1 b1_1 b2_1 : UInt64)
 (bl_1 :
 List
 (UInt64 ×
 Bool ×
 UInt8 ×
 UInt64 ×
 UInt64 ×
 List UInt8 ×
 List (List UInt8 × List UInt8) × UInt8 × UInt8 × Int64 × UInt8 × UInt8 × UInt64 × UInt64)) =>
 ojoinA (511 : Nat)
 [PT.int IntKind.u8, PT.int IntKind.i64, PT.list1 (CT.int IntKind.u64), PT.int IntKind.u64, PT.int IntKind.u64,
 PT.int IntKind.u64,
 PT.list
 (CTs.cons (CT.int IntKind.u64)
 (CTs.cons CT.bool
 (CTs.cons (CT.int IntKind.u8)
 (CTs.cons (CT.int IntKind.u64)
 (CTs.cons (CT.int IntKind.u64)
 (CTs.cons CT.str
 (CTs.cons (CT.ro (CTs.cons CT.str (CTs.cons CT.str CTs.nil)))
 (CTs.cons (CT.int IntKind.u8)
 (CTs.cons (CT.int IntKind.u8)
 (CTs.cons (CT.int IntKind.i64)
 (CTs.cons (CT.int IntKind.u8)
 (CTs.cons (CT.int IntKind.u8)
 (CTs.cons (CT.int IntKind.u64) (CTs.cons (CT.int IntKind.u64) CTs.nil))))))))))))))]
 (fun
 (J :
 Arr
 [PT.int IntKind.u8, PT.int IntKind.i64, PT.list1 (CT.int IntKind.u64), PT.int IntKind.u64,
 PT.int IntKind.u64, PT.int IntKind.u64,
 PT.list
 (CTs.cons (CT.int IntKind.u64)
 (CTs.cons CT.bool
 (CTs.cons (CT.int IntKind.u8)
 (CTs.cons (CT.int IntKind.u64)
 (CTs.cons (CT.int IntKind.u64)
 (CTs.cons CT.str
 (CTs.cons (CT.ro (CTs.cons CT.str (CTs.cons CT.str CTs.nil)))
 (CTs.cons (CT.int IntKind.u8)
 (CTs.cons (CT.int IntKind.u8)
 (CTs.cons (CT.int IntKind.i64)
 (CTs.cons (CT.int IntKind.u8)
 (CTs.cons (CT.int IntKind.u8)
 (CTs.cons (CT.int IntKind.u64)
 (CTs.cons (CT.int IntKind.u64) CTs.nil))))))))))))))]
 (Option (Bool × Unit))) =>
 oite (decide (what_2 % (7 : UInt8) = (0 : UInt8))) (J what_2 q_2 ba_1 (n__2 % (60 : UInt64)) b1_1 b2_1 bl_1)
 (oite (decide (what_2 % (7 : UInt8) = (1 : UInt8))) (J what_2 q_2 ba_1 b0_1 (n__2 % (60 : UInt64)) b2_1 bl_1)
 (oite (decide (what_2 % (7 : UInt8) = (2 : UInt8)))
 (oite (decide ((0 : Int) ≤ ↑(UInt8.toNat (at__2 % (8 : UInt8)))))
 (oite (Nat.blt (Int.toNat ↑(UInt8.toNat (at__2 % (8 : UInt8)))) (32 : Nat))
 (oite (Nat.blt (Int.toNat ↑(UInt8.toNat (at__2 % (8 : UInt8))) * (1 : Nat)) (List.length ba_1))
 (J what_2 q_2
 (List.set ba_1 (Int.toNat ↑(UInt8.toNat (at__2 % (8 : UInt8))) * (1 : Nat)) (n__2 % (60 : UInt64)))
 b0_1 b1_1 b2_1 bl_1)
 none)
 none)
 none)
 (oite (decide (what_2 % (7 : UInt8) = (3 : UInt8)))
 (J what_2 ((64 : Int64) + Int64.ofInt ↑(UInt64.toNat (n__2 % (100 : UInt64)))) ba_1 b0_1 b1_1 b2_1 bl_1)
 (oite (decide (what_2 % (7 : UInt8) = (4 : UInt8)))
 (oite (decide ((0 : Int64) < Int64.ofInt ↑(List.length bl_1)))
 (oite (decide ((0 : Int) ≤ Int64.toInt k) && Nat.blt (Int.toNat (Int64.toInt k)) (List.length bl_1))
 (obind bl_1[Int.toNat (Int64.toInt k)]?
 fun
 (x_3 :
 UInt64 ×
 Bool ×
 UInt8 ×
 UInt64 ×
 UInt64 ×
 List UInt8 ×
 List (List UInt8 × List UInt8) ×
 UInt8 × UInt8 × Int64 × UInt8 × UInt8 × UInt64 × UInt64) =>
 J what_2 q_2 ba_1 b0_1 b1_1 b2_1
 (List.set bl_1 (Int.toNat (Int64.toInt k))
 (n__2 % (60 : UInt64), x_3.2.1, x_3.2.2.1,
 x_3.2.2.2.1,
 x_3.2.2.2.2.1,
 x_3.2.2.2.2.2.1,
 x_3.2.2.2.2.2.2.1,
 x_3.2.2.2.2.2.2.2.1,
 x_3.2.2.2.2.2.2.2.2.1,
 x_3.2.2.2.2.2.2.2.2.2.1,
 x_3.2.2.2.2.2.2.2.2.2.2.1,
 x_3.2.2.2.2.2.2.2.2.2.2.2.1,
 x_3.2.2.2.2.2.2.2.2.2.2.2.2.1,
 x_3.2.2.2.2.2.2.2.2.2.2.2.2.2)))
 none)
 (J what_2 q_2 ba_1 b0_1 b1_1 b2_1 bl_1))
 (oite (decide (what_2 % (7 : UInt8) = (5 : UInt8)))
 (oite (decide ((0 : Int64) < Int64.ofInt ↑(List.length bl_1)))
 (oite (decide (Int64.toInt k = (0 : Int)) && decide (Int64.toInt k = (0 : Int)))
 (oite
 (decide ((0 : Int) ≤ Int64.toInt (k + (1 : Int64))) &&
 Nat.ble (Int.toNat (Int64.toInt (k + (1 : Int64)))) (List.length bl_1))
 (oite
 (Nat.ble
 ((0 : Nat) +
 List.length
 (List.take (List.length bl_1 - Int.toNat (Int64.toInt (k + (1 : Int64))))
 (List.drop (Int.toNat (Int64.toInt (k + (1 : Int64)))) bl_1)))
 (4294967296 : Nat))
 (J what_2 q_2 ba_1 b0_1 b1_1 b2_1
 ([] ++
 List.take (List.length bl_1 - Int.toNat (Int64.toInt (k + (1 : Int64))))
 (List.drop (Int.toNat (Int64.toInt (k + (1 : Int64)))) bl_1)))
 none)
 none)
 (oite
 (decide ((0 : Int) ≤ Int64.toInt k) && decide (Int64.toInt k ≤ Int64.toInt k) &&
 Nat.ble (Int.toNat (Int64.toInt k)) (List.length bl_1))
 (oite
 (decide ((0 : Int) ≤ Int64.toInt (k + (1 : Int64))) &&
 Nat.ble (Int.toNat (Int64.toInt (k + (1 : Int64)))) (List.length bl_1))
 (oite (Nat.ble (Int.toNat (Int64.toInt k)) (List.length bl_1))
 (oite
 (Nat.ble
 (List.length (List.take (Int.toNat (Int64.toInt k)) bl_1) +
 List.length
 (List.take (List.length bl_1 - Int.toNat (Int64.toInt (k + (1 : Int64))))
 (List.drop (Int.toNat (Int64.toInt (k + (1 : Int64)))) bl_1)))
 (4294967296 : Nat))
 (J what_2 q_2 ba_1 b0_1 b1_1 b2_1
 (List.take (Int.toNat (Int64.toInt k)) bl_1 ++
 List.take (List.length bl_1 - Int.toNat (Int64.toInt (k + (1 : Int64))))
 (List.drop (Int.toNat (Int64.toInt (k + (1 : Int64)))) bl_1)))
 none)
 none)
 none)
 none))
 (J what_2 q_2 ba_1 b0_1 b1_1 b2_1 bl_1))
 (J what_2 q_2 ba_1 b0_1 b1_1 b2_1 bl_1)))))))
 (F5_J511 n)
noncomputable def F5_J63 : Nat →
 UInt8 →
 UInt8 →
 UInt64 →
 Int64 →
 List UInt64 →
 UInt64 →
 UInt64 →
 UInt64 →
 List
 (UInt64 ×
 Bool ×
 UInt8 ×
 UInt64 ×
 UInt64 ×
 List UInt8 ×
 List (List UInt8 × List UInt8) ×
 UInt8 × UInt8 × Int64 × UInt8 × UInt8 × UInt64 × UInt64) →
 Option (Bool × Unit) := fun (n : Nat) (what_1 at__1 : UInt8) (n__1 : UInt64) (q_1 : Int64) (ba : List UInt64) (b0 b1 b2 : UInt64)
 (bl :
 List
 (UInt64 ×
 Bool ×
 UInt8 ×
 UInt64 ×
 UInt64 ×
 List UInt8 ×
 List (List UInt8 × List UInt8) × UInt8 × UInt8 × Int64 × UInt8 × UInt8 × UInt64 × UInt64)) =>
 ojoinA (255 : Nat)
 [PT.int IntKind.u8, PT.int IntKind.u8, PT.int IntKind.u64, PT.int IntKind.i64, PT.int IntKind.i64,
 PT.list1 (CT.int IntKind.u64), PT.int IntKind.u64, PT.int IntKind.u64, PT.int IntKind.u64,
 PT.list
 (CTs.cons (CT.int IntKind.u64)
 (CTs.cons CT.bool
 (CTs.cons (CT.int IntKind.u8)
 (CTs.cons (CT.int IntKind.u64)
 (CTs.cons (CT.int IntKind.u64)
 (CTs.cons CT.str
 (CTs.cons (CT.ro (CTs.cons CT.str (CTs.cons CT.str CTs.nil)))
 (CTs.cons (CT.int IntKind.u8)
 (CTs.cons (CT.int IntKind.u8)
 (CTs.cons (CT.int IntKind.i64)
 (CTs.cons (CT.int IntKind.u8)
 (CTs.cons (CT.int IntKind.u8)
 (CTs.cons (CT.int IntKind.u64) (CTs.cons (CT.int IntKind.u64) CTs.nil))))))))))))))]
 (fun
 (J :
 Arr
 [PT.int IntKind.u8, PT.int IntKind.u8, PT.int IntKind.u64, PT.int IntKind.i64, PT.int IntKind.i64,
 PT.list1 (CT.int IntKind.u64), PT.int IntKind.u64, PT.int IntKind.u64, PT.int IntKind.u64,
 PT.list
 (CTs.cons (CT.int IntKind.u64)
 (CTs.cons CT.bool
 (CTs.cons (CT.int IntKind.u8)
 (CTs.cons (CT.int IntKind.u64)
 (CTs.cons (CT.int IntKind.u64)
 (CTs.cons CT.str
 (CTs.cons (CT.ro (CTs.cons CT.str (CTs.cons CT.str CTs.nil)))
 (CTs.cons (CT.int IntKind.u8)
 (CTs.cons (CT.int IntKind.u8)
 (CTs.cons (CT.int IntKind.i64)
 (CTs.cons (CT.int IntKind.u8)
 (CTs.cons (CT.int IntKind.u8)
 (CTs.cons (CT.int IntKind.u64)
 (CTs.cons (CT.int IntKind.u64) CTs.nil))))))))))))))]
 (Option (Bool × Unit))) =>
 oite (decide ((0 : Int64) < Int64.ofInt ↑(List.length bl)))
 (oite (decide (Int64.ofInt ↑(List.length bl) = (0 : Int64))) none
 (J what_1 at__1 n__1 q_1 (Int64.ofInt ↑(UInt8.toNat at__1) % Int64.ofInt ↑(List.length bl)) ba b0 b1 b2 bl))
 (J what_1 at__1 n__1 q_1 (0 : Int64) ba b0 b1 b2 bl))
 (F5_J255 n)
noncomputable def F5_L125 : Nat →
 Arr
 [PT.int IntKind.u8, PT.int IntKind.u8, PT.int IntKind.u64, PT.int IntKind.i64,
 PT.list
 (CTs.cons CT.bool
 (CTs.cons (CT.int IntKind.u8)
 (CTs.cons (CT.int IntKind.u8)
 (CTs.cons (CT.int IntKind.u8)
 (CTs.cons (CT.int IntKind.u16)
 (CTs.cons (CT.int IntKind.u16)
 (CTs.cons (CT.int IntKind.u16)
 (CTs.cons (CT.int IntKind.u8)
 (CTs.cons (CT.int IntKind.u8)
 (CTs.cons (CT.int IntKind.u8) (CTs.cons CT.bool CTs.nil))))))))))),
 PT.int IntKind.i64, PT.int IntKind.i64,
 PT.optA
 (OTs.cons (OT.c (CT.int IntKind.i64))
 (OTs.cons (OT.c (CT.int IntKind.i64))
 (OTs.cons (OT.c (CT.int IntKind.u64))
 (OTs.cons (OT.c (CT.int IntKind.u64))
 (OTs.cons
 (OT.row
 (CTs.cons (CT.int IntKind.u64)
 (CTs.cons CT.bool
 (CTs.cons (CT.int IntKind.u8)
 (CTs.cons (CT.int IntKind.u64)
 (CTs.cons (CT.int IntKind.u64)
 (CTs.cons CT.str
 (CTs.cons (CT.ro (CTs.cons CT.str (CTs.cons CT.str CTs.nil)))
 (CTs.cons (CT.int IntKind.u8)
 (CTs.cons (CT.int IntKind.u8)
 (CTs.cons (CT.int IntKind.i64)
 (CTs.cons (CT.int IntKind.u8)
 (CTs.cons (CT.int IntKind.u8)
 (CTs.cons (CT.int IntKind.u64)
 (CTs.cons (CT.int IntKind.u64) CTs.nil)))))))))))))))
 OTs.nil)))))
 (CT.int IntKind.u64) (OTs.cons (OT.c (CT.int IntKind.u64)) OTs.nil)]
 (Option (Bool × Unit)) →
 UInt8 →
 UInt8 →
 UInt64 →
 Int64 →
 List (Bool × UInt8 × UInt8 × UInt8 × UInt16 × UInt16 × UInt16 × UInt8 × UInt8 × UInt8 × Bool) →
 Int64 →
 Int64 →
 Option
 ((Int64 ×
 Int64 ×
 UInt64 ×
 UInt64 ×
 List
 (UInt64 ×
 Bool ×
 UInt8 ×
 UInt64 ×
 UInt64 ×
 List UInt8 ×
 List (List UInt8 × List UInt8) ×
 UInt8 × UInt8 × Int64 × UInt8 × UInt8 × UInt64 × UInt64)) ×
 List UInt64 × UInt64) →
 Option (Bool × Unit) := fun (n : Nat)
 (rec :
 Arr
 [PT.int IntKind.u8, PT.int IntKind.u8, PT.int IntKind.u64, PT.int IntKind.i64,
 PT.list
 (CTs.cons CT.bool
 (CTs.cons (CT.int IntKind.u8)
 (CTs.cons (CT.int IntKind.u8)
 (CTs.cons (CT.int IntKind.u8)
 (CTs.cons (CT.int IntKind.u16)
 (CTs.cons (CT.int IntKind.u16)
 (CTs.cons (CT.int IntKind.u16)
 (CTs.cons (CT.int IntKind.u8)
 (CTs.cons (CT.int IntKind.u8)
 (CTs.cons (CT.int IntKind.u8) (CTs.cons CT.bool CTs.nil))))))))))),
 PT.int IntKind.i64, PT.int IntKind.i64,
 PT.optA
 (OTs.cons (OT.c (CT.int IntKind.i64))
 (OTs.cons (OT.c (CT.int IntKind.i64))
 (OTs.cons (OT.c (CT.int IntKind.u64))
 (OTs.cons (OT.c (CT.int IntKind.u64))
 (OTs.cons
 (OT.row
 (CTs.cons (CT.int IntKind.u64)
 (CTs.cons CT.bool
 (CTs.cons (CT.int IntKind.u8)
 (CTs.cons (CT.int IntKind.u64)
 (CTs.cons (CT.int IntKind.u64)
 (CTs.cons CT.str
 (CTs.cons (CT.ro (CTs.cons CT.str (CTs.cons CT.str CTs.nil)))
 (CTs.cons (CT.int IntKind.u8)
 (CTs.cons (CT.int IntKind.u8)
 (CTs.cons (CT.int IntKind.i64)
 (CTs.cons (CT.int IntKind.u8)
 (CTs.cons (CT.int IntKind.u8)
 (CTs.cons (CT.int IntKind.u64)
 (CTs.cons (CT.int IntKind.u64) CTs.nil)))))))))))))))
 OTs.nil)))))
 (CT.int IntKind.u64) (OTs.cons (OT.c (CT.int IntKind.u64)) OTs.nil)]
 (Option (Bool × Unit)))
 (what at_ : UInt8) (n_ : UInt64) (q : Int64)
 (t : List (Bool × UInt8 × UInt8 × UInt8 × UInt16 × UInt16 × UInt16 × UInt8 × UInt8 × UInt8 × Bool))
 (t_1 t_2 : Int64)
 (s :
 Option
 ((Int64 ×
 Int64 ×
 UInt64 ×
 UInt64 ×
 List
 (UInt64 ×
 Bool ×
 UInt8 ×
 UInt64 ×
 UInt64 ×
 List UInt8 ×
 List (List UInt8 × List UInt8) ×
 UInt8 × UInt8 × Int64 × UInt8 × UInt8 × UInt64 × UInt64)) ×
 List UInt64 × UInt64)) =>
 oite (decide (t_2 < t_1))
 (obind (at? t (Int64.toInt t_2))
 fun (x_3 : Bool × UInt8 × UInt8 × UInt8 × UInt16 × UInt16 × UInt16 × UInt8 × UInt8 × UInt8 × Bool) =>
 oite (decide (t_2 < (30 : Int64)))
 (obind
 (F10 n
 (@List.nil (Bool × Bool × Bool × Bool × Bool × Bool × Bool × Bool × Bool × Bool × Bool), (),
 (),
 (x_3.1, x_3.2.1, x_3.2.2.1,
 x_3.2.2.2.1, x_3.2.2.2.2.1,
 x_3.2.2.2.2.2.1,
 x_3.2.2.2.2.2.2.1,
 x_3.2.2.2.2.2.2.2.1,
 x_3.2.2.2.2.2.2.2.2.1,
 x_3.2.2.2.2.2.2.2.2.2.1,
 x_3.2.2.2.2.2.2.2.2.2.2),
 s))
 fun
 (x_4 :
 (Bool ×
 UInt8 ×
 UInt64 ×
 UInt64 ×
 List UInt8 ×
 List (List UInt8 × List UInt8) × UInt8 × UInt8 × Int64 × UInt8 × UInt8 × UInt64 × UInt64) ×
 Option
 ((Int64 ×
 Int64 ×
 UInt64 ×
 UInt64 ×
 List
 (UInt64 ×
 Bool ×
 UInt8 ×
 UInt64 ×
 UInt64 ×
 List UInt8 ×
 List (List UInt8 × List UInt8) ×
 UInt8 × UInt8 × Int64 × UInt8 × UInt8 × UInt64 × UInt64)) ×
 List UInt64 × UInt64)) =>
 obind
 (F9 n
 (x_4.2, x_4.1.1, x_4.1.2.1,
 x_4.1.2.2.1, x_4.1.2.2.2.1,
 x_4.1.2.2.2.2.1,
 x_4.1.2.2.2.2.2.1,
 x_4.1.2.2.2.2.2.2.1,
 x_4.1.2.2.2.2.2.2.2.1,
 x_4.1.2.2.2.2.2.2.2.2.1,
 x_4.1.2.2.2.2.2.2.2.2.2.1,
 x_4.1.2.2.2.2.2.2.2.2.2.2.1,
 x_4.1.2.2.2.2.2.2.2.2.2.2.2.1,
 x_4.1.2.2.2.2.2.2.2.2.2.2.2.2))
 fun
 (x_5 :
 (UInt64 × UInt64 × Int64) ×
 Option
 ((Int64 ×
 Int64 ×
 UInt64 ×
 UInt64 ×
 List
 (UInt64 ×
 Bool ×
 UInt8 ×
 UInt64 ×
 UInt64 ×
 List UInt8 ×
 List (List UInt8 × List UInt8) ×
 UInt8 × UInt8 × Int64 × UInt8 × UInt8 × UInt64 × UInt64)) ×
 List UInt64 × UInt64)) =>
 rec what at_ n_ q t t_1 (t_2 + (1 : Int64)) x_5.2)
 (rec what at_ n_ q t t_1 (t_2 + (1 : Int64)) s))
 (ojoinA (63 : Nat)
 [PT.int IntKind.u8, PT.int IntKind.u8, PT.int IntKind.u64, PT.int IntKind.i64, PT.list1 (CT.int IntKind.u64),
 PT.int IntKind.u64, PT.int IntKind.u64, PT.int IntKind.u64,
 PT.list
 (CTs.cons (CT.int IntKind.u64)
 (CTs.cons CT.bool
 (CTs.cons (CT.int IntKind.u8)
 (CTs.cons (CT.int IntKind.u64)
 (CTs.cons (CT.int IntKind.u64)
 (CTs.cons CT.str
 (CTs.cons (CT.ro (CTs.cons CT.str (CTs.cons CT.str CTs.nil)))
 (CTs.cons (CT.int IntKind.u8)
 (CTs.cons (CT.int IntKind.u8)
 (CTs.cons (CT.int IntKind.i64)
 (CTs.cons (CT.int IntKind.u8)
 (CTs.cons (CT.int IntKind.u8)
 (CTs.cons (CT.int IntKind.u64) (CTs.cons (CT.int IntKind.u64) CTs.nil))))))))))))))]
 (fun
 (J :
 Arr
 [PT.int IntKind.u8, PT.int IntKind.u8, PT.int IntKind.u64, PT.int IntKind.i64,
 PT.list1 (CT.int IntKind.u64), PT.int IntKind.u64, PT.int IntKind.u64, PT.int IntKind.u64,
 PT.list
 (CTs.cons (CT.int IntKind.u64)
 (CTs.cons CT.bool
 (CTs.cons (CT.int IntKind.u8)
 (CTs.cons (CT.int IntKind.u64)
 (CTs.cons (CT.int IntKind.u64)
 (CTs.cons CT.str
 (CTs.cons (CT.ro (CTs.cons CT.str (CTs.cons CT.str CTs.nil)))
 (CTs.cons (CT.int IntKind.u8)
 (CTs.cons (CT.int IntKind.u8)
 (CTs.cons (CT.int IntKind.i64)
 (CTs.cons (CT.int IntKind.u8)
 (CTs.cons (CT.int IntKind.u8)
 (CTs.cons (CT.int IntKind.u64)
 (CTs.cons (CT.int IntKind.u64) CTs.nil))))))))))))))]
 (Option (Bool × Unit))) =>
 oelim s
 (obind (F18 n none)
 fun
 (x_3 :
 (UInt64 ×
 UInt64 ×
 UInt64 ×
 UInt64 ×
 UInt64 ×
 UInt64 ×
 UInt64 ×
 UInt64 ×
 UInt64 ×
 UInt64 ×
 UInt64 ×
 UInt64 ×
 UInt64 ×
 UInt64 ×
 UInt64 ×
 UInt64 ×
 UInt64 ×
 UInt64 ×
 UInt64 ×
 UInt64 ×
 UInt64 ×
 UInt64 ×
 UInt64 ×
 UInt64 ×
 UInt64 ×
 UInt64 ×
 UInt64 ×
 UInt64 ×
 UInt64 ×
 UInt64 ×
 UInt64 ×
 UInt64 ×
 UInt64 ×
 UInt64 ×
 UInt64 ×
 List
 (UInt64 ×
 Bool ×
 UInt8 ×
 UInt64 ×
 UInt64 ×
 List UInt8 ×
 List
 (List UInt8 ×
 List
 UInt8) ×
 UInt8 ×
 UInt8 ×
 Int64 ×
 UInt8 ×
 UInt8 ×
 UInt64 ×
 UInt64)) ×
 Unit) =>
 J what at_ n_ q
 [x_3.1.2.2.2.1,
 x_3.1.2.2.2.2.1,
 x_3.1.2.2.2.2.2.1,
 x_3.1.2.2.2.2.2.2.1,
 x_3.1.2.2.2.2.2.2.2.1,
 x_3.1.2.2.2.2.2.2.2.2.1,
 x_3.1.2.2.2.2.2.2.2.2.2.1,
 x_3.1.2.2.2.2.2.2.2.2.2.2.1,
 x_3.1.2.2.2.2.2.2.2.2.2.2.2.1,
 x_3.1.2.2.2.2.2.2.2.2.2.2.2.2.1,
 x_3.1.2.2.2.2.2.2.2.2.2.2.2.2.2.1,
 x_3.1.2.2.2.2.2.2.2.2.2.2.2.2.2.2.1,
 x_3.1.2.2.2.2.2.2.2.2.2.2.2.2.2.2.2.1,
 x_3.1.2.2.2.2.2.2.2.2.2.2.2.2.2.2.2.2.1,
 x_3.1.2.2.2.2.2.2.2.2.2.2.2.2.2.2.2.2.2.1,
 x_3.1.2.2.2.2.2.2.2.2.2.2.2.2.2.2.2.2.2.2.1,
 x_3.1.2.2.2.2.2.2.2.2.2.2.2.2.2.2.2.2.2.2.2.1,
 x_3.1.2.2.2.2.2.2.2.2.2.2.2.2.2.2.2.2.2.2.2.2.1,
 x_3.1.2.2.2.2.2.2.2.2.2.2.2.2.2.2.2.2.2.2.2.2.2.1,
 x_3.1.2.2.2.2.2.2.2.2.2.2.2.2.2.2.2.2.2.2.2.2.2.2.1,
 x_3.1.2.2.2.2.2.2.2.2.2.2.2.2.2.2.2.2.2.2.2.2.2.2.2.1,
 x_3.1.2.2.2.2.2.2.2.2.2.2.2.2.2.2.2.2.2.2.2.2.2.2.2.2.1,
 x_3.1.2.2.2.2.2.2.2.2.2.2.2.2.2.2.2.2.2.2.2.2.2.2.2.2.2.1,
 x_3.1.2.2.2.2.2.2.2.2.2.2.2.2.2.2.2.2.2.2.2.2.2.2.2.2.2.2.1,
 Prod.fst (Prod.snd (Prod.snd (Prod.snd (Prod.snd (Prod.snd (Prod.snd (Prod.snd (Prod.snd (Prod.snd (Prod.snd (Prod.snd (Prod.snd (Prod.snd (Prod.snd (Prod.snd (Prod.snd (Prod.snd (Prod.snd (Prod.snd (Prod.snd (Prod.snd (Prod.snd (Prod.snd (Prod.snd (Prod.snd (Prod.snd (Prod.snd
 x_3.1))))))))))))))))))))))))))),
 Prod.fst (Prod.snd (Prod.snd (Prod.snd (Prod.snd (Prod.snd (Prod.snd (Prod.snd (Prod.snd (Prod.snd (Prod.snd (Prod.snd (Prod.snd (Prod.snd (Prod.snd (Prod.snd (Prod.snd (Prod.snd (Prod.snd (Prod.snd (Prod.snd (Prod.snd (Prod.snd (Prod.snd (Prod.snd (Prod.snd (Prod.snd (Prod.snd (Prod.snd
 x_3.1)))))))))))))))))))))))))))),
 Prod.fst (Prod.snd (Prod.snd (Prod.snd (Prod.snd (Prod.snd (Prod.snd (Prod.snd (Prod.snd (Prod.snd (Prod.snd (Prod.snd (Prod.snd (Prod.snd (Prod.snd (Prod.snd (Prod.snd (Prod.snd (Prod.snd (Prod.snd (Prod.snd (Prod.snd (Prod.snd (Prod.snd (Prod.snd (Prod.snd (Prod.snd (Prod.snd (Prod.snd (Prod.snd
 x_3.1))))))))))))))))))))))))))))),
 Prod.fst (Prod.snd (Prod.snd (Prod.snd (Prod.snd (Prod.snd (Prod.snd (Prod.snd (Prod.snd (Prod.snd (Prod.snd (Prod.snd (Prod.snd (Prod.snd (Prod.snd (Prod.snd (Prod.snd (Prod.snd (Prod.snd (Prod.snd (Prod.snd (Prod.snd (Prod.snd (Prod.snd (Prod.snd (Prod.snd (Prod.snd (Prod.snd (Prod.snd (Prod.snd (Prod.snd (Prod.fst
 x_3))))))))))))))))))))))))))))))),
 Prod.fst (Prod.snd (Prod.snd (Prod.snd (Prod.snd (Prod.snd (Prod.snd (Prod.snd (Prod.snd (Prod.snd (Prod.snd (Prod.snd (Prod.snd (Prod.snd (Prod.snd (Prod.snd (Prod.snd (Prod.snd (Prod.snd (Prod.snd (Prod.snd (Prod.snd (Prod.snd (Prod.snd (Prod.snd (Prod.snd (Prod.snd (Prod.snd (Prod.snd (Prod.snd (Prod.snd (Prod.snd (Prod.fst
 x_3)))))))))))))))))))))))))))))))),
 Prod.fst (Prod.snd (Prod.snd (Prod.snd (Prod.snd (Prod.snd (Prod.snd (Prod.snd (Prod.snd (Prod.snd (Prod.snd (Prod.snd (Prod.snd (Prod.snd (Prod.snd (Prod.snd (Prod.snd (Prod.snd (Prod.snd (Prod.snd (Prod.snd (Prod.snd (Prod.snd (Prod.snd (Prod.snd (Prod.snd (Prod.snd (Prod.snd (Prod.snd (Prod.snd (Prod.snd (Prod.snd (Prod.snd (Prod.fst
 x_3))))))))))))))))))))))))))))))))),
 Prod.fst (Prod.snd (Prod.snd (Prod.snd (Prod.snd (Prod.snd (Prod.snd (Prod.snd (Prod.snd (Prod.snd (Prod.snd (Prod.snd (Prod.snd (Prod.snd (Prod.snd (Prod.snd (Prod.snd (Prod.snd (Prod.snd (Prod.snd (Prod.snd (Prod.snd (Prod.snd (Prod.snd (Prod.snd (Prod.snd (Prod.snd (Prod.snd (Prod.snd (Prod.snd (Prod.snd (Prod.snd (Prod.snd (Prod.snd (Prod.fst
 x_3)))))))))))))))))))))))))))))))))),
 Prod.fst (Prod.snd (Prod.snd (Prod.snd (Prod.snd (Prod.snd (Prod.snd (Prod.snd (Prod.snd (Prod.snd (Prod.snd (Prod.snd (Prod.snd (Prod.snd (Prod.snd (Prod.snd (Prod.snd (Prod.snd (Prod.snd (Prod.snd (Prod.snd (Prod.snd (Prod.snd (Prod.snd (Prod.snd (Prod.snd (Prod.snd (Prod.snd (Prod.snd (Prod.snd (Prod.snd (Prod.snd (Prod.snd (Prod.snd (Prod.snd (Prod.fst
 x_3)))))))))))))))))))))))))))))))))))]
 x_3.1.1 x_3.1.2.1
 x_3.1.2.2.1
 (Prod.snd (Prod.snd (Prod.snd (Prod.snd (Prod.snd (Prod.snd (Prod.snd (Prod.snd (Prod.snd (Prod.snd (Prod.snd (Prod.snd (Prod.snd (Prod.snd (Prod.snd (Prod.snd (Prod.snd (Prod.snd (Prod.snd (Prod.snd (Prod.snd (Prod.snd (Prod.snd (Prod.snd (Prod.snd (Prod.snd (Prod.snd (Prod.snd (Prod.snd (Prod.snd (Prod.snd (Prod.snd (Prod.snd (Prod.snd (Prod.snd (Prod.fst
 x_3)))))))))))))))))))))))))))))))))))))
 fun
 (x_3 :
 (Int64 ×
 Int64 ×
 UInt64 ×
 UInt64 ×
 List
 (UInt64 ×
 Bool ×
 UInt8 ×
 UInt64 ×
 UInt64 ×
 List UInt8 ×
 List (List UInt8 × List UInt8) ×
 UInt8 × UInt8 × Int64 × UInt8 × UInt8 × UInt64 × UInt64)) ×
 List UInt64 × UInt64) =>
 obind x_3.2.1[(0 : Nat)]? fun (x_4 : UInt64) =>
 obind x_3.2.1[(0 : Nat) + (1 : Nat)]? fun (x_5 : UInt64) =>
 obind x_3.2.1[(0 : Nat) + (1 : Nat) + (1 : Nat)]? fun (x_6 : UInt64) =>
 obind x_3.2.1[(0 : Nat) + (1 : Nat) + (1 : Nat) + (1 : Nat)]? fun (x_7 : UInt64) =>
 obind x_3.2.1[(0 : Nat) + (1 : Nat) + (1 : Nat) + (1 : Nat) + (1 : Nat)]?
 fun (x_8 : UInt64) =>
 obind
 x_3.2.1[(0 : Nat) + (1 : Nat) + (1 : Nat) + (1 : Nat) + (1 : Nat) + (1 : Nat)]?
 fun (x_9 : UInt64) =>
 obind
 (Prod.fst (Prod.snd
 x_3))[(0 : Nat) + (1 : Nat) + (1 : Nat) + (1 : Nat) + (1 : Nat) + (1 : Nat) + (1 : Nat)]?
 fun (x_10 : UInt64) =>
 obind
 (Prod.fst (Prod.snd
 x_3))[(0 : Nat) + (1 : Nat) + (1 : Nat) + (1 : Nat) + (1 : Nat) + (1 : Nat) +
 (1 : Nat) +
 (1 : Nat)]?
 fun (x_11 : UInt64) =>
 obind
 (Prod.fst (Prod.snd
 x_3))[(0 : Nat) + (1 : Nat) + (1 : Nat) + (1 : Nat) + (1 : Nat) + (1 : Nat) +
 (1 : Nat) +
 (1 : Nat) +
 (1 : Nat)]?
 fun (x_12 : UInt64) =>
 obind
 (Prod.fst (Prod.snd
 x_3))[(0 : Nat) + (1 : Nat) + (1 : Nat) + (1 : Nat) + (1 : Nat) + (1 : Nat) +
 (1 : Nat) +
 (1 : Nat) +
 (1 : Nat) +
 (1 : Nat)]?
 fun (x_13 : UInt64) =>
 obind
 (Prod.fst (Prod.snd
 x_3))[(0 : Nat) + (1 : Nat) + (1 : Nat) + (1 : Nat) + (1 : Nat) + (1 : Nat) +
 (1 : Nat) +
 (1 : Nat) +
 (1 : Nat) +
 (1 : Nat) +
 (1 : Nat)]?
 fun (x_14 : UInt64) =>
 obind
 (Prod.fst (Prod.snd
 x_3))[(0 : Nat) + (1 : Nat) + (1 : Nat) + (1 : Nat) + (1 : Nat) + (1 : Nat) +
 (1 : Nat) +
 (1 : Nat) +
 (1 : Nat) +
 (1 : Nat) +
 (1 : Nat) +
 (1 : Nat)]?
 fun (x_15 : UInt64) =>
 obind
 (Prod.fst (Prod.snd
 x_3))[(0 : Nat) + (1 : Nat) + (1 : Nat) + (1 : Nat) + (1 : Nat) + (1 : Nat) +
 (1 : Nat) +
 (1 : Nat) +
 (1 : Nat) +
 (1 : Nat) +
 (1 : Nat) +
 (1 : Nat) +
 (1 : Nat)]?
 fun (x_16 : UInt64) =>
 obind
 (Prod.fst (Prod.snd
 x_3))[(0 : Nat) + (1 : Nat) + (1 : Nat) + (1 : Nat) + (1 : Nat) +
 (1 : Nat) +
 (1 : Nat) +
 (1 : Nat) +
 (1 : Nat) +
 (1 : Nat) +
 (1 : Nat) +
 (1 : Nat) +
 (1 : Nat) +
 (1 : Nat)]?
 fun (x_17 : UInt64) =>
 obind
 (Prod.fst (Prod.snd
 x_3))[(0 : Nat) + (1 : Nat) + (1 : Nat) + (1 : Nat) + (1 : Nat) +
 (1 : Nat) +
 (1 : Nat) +
 (1 : Nat) +
 (1 : Nat) +
 (1 : Nat) +
 (1 : Nat) +
 (1 : Nat) +
 (1 : Nat) +
 (1 : Nat) +
 (1 : Nat)]?
 fun (x_18 : UInt64) =>
 obind
 (Prod.fst (Prod.snd
 x_3))[(0 : Nat) + (1 : Nat) + (1 : Nat) + (1 : Nat) + (1 : Nat) +
 (1 : Nat) +
 (1 : Nat) +
 (1 : Nat) +
 (1 : Nat) +
 (1 : Nat) +
 (1 : Nat) +
 (1 : Nat) +
 (1 : Nat) +
 (1 : Nat) +
 (1 : Nat) +
 (1 : Nat)]?
 fun (x_19 : UInt64) =>
 obind
 (Prod.fst (Prod.snd
 x_3))[(0 : Nat) + (1 : Nat) + (1 : Nat) + (1 : Nat) + (1 : Nat) +
 (1 : Nat) +
 (1 : Nat) +
 (1 : Nat) +
 (1 : Nat) +
 (1 : Nat) +
 (1 : Nat) +
 (1 : Nat) +
 (1 : Nat) +
 (1 : Nat) +
 (1 : Nat) +
 (1 : Nat) +
 (1 : Nat)]?
 fun (x_20 : UInt64) =>
 obind
 (Prod.fst (Prod.snd
 x_3))[(0 : Nat) + (1 : Nat) + (1 : Nat) + (1 : Nat) + (1 : Nat) +
 (1 : Nat) +
 (1 : Nat) +
 (1 : Nat) +
 (1 : Nat) +
 (1 : Nat) +
 (1 : Nat) +
 (1 : Nat) +
 (1 : Nat) +
 (1 : Nat) +
 (1 : Nat) +
 (1 : Nat) +
 (1 : Nat) +
 (1 : Nat)]?
 fun (x_21 : UInt64) =>
 obind
 (Prod.fst (Prod.snd
 x_3))[(0 : Nat) + (1 : Nat) + (1 : Nat) + (1 : Nat) + (1 : Nat) +
 (1 : Nat) +
 (1 : Nat) +
 (1 : Nat) +
 (1 : Nat) +
 (1 : Nat) +
 (1 : Nat) +
 (1 : Nat) +
 (1 : Nat) +
 (1 : Nat) +
 (1 : Nat) +
 (1 : Nat) +
 (1 : Nat) +
 (1 : Nat) +
 (1 : Nat)]?
 fun (x_22 : UInt64) =>
 obind
 (Prod.fst (Prod.snd
 x_3))[(0 : Nat) + (1 : Nat) + (1 : Nat) + (1 : Nat) +
 (1 : Nat) +
 (1 : Nat) +
 (1 : Nat) +
 (1 : Nat) +
 (1 : Nat) +
 (1 : Nat) +
 (1 : Nat) +
 (1 : Nat) +
 (1 : Nat) +
 (1 : Nat) +
 (1 : Nat) +
 (1 : Nat) +
 (1 : Nat) +
 (1 : Nat) +
 (1 : Nat) +
 (1 : Nat)]?
 fun (x_23 : UInt64) =>
 obind
 (Prod.fst (Prod.snd
 x_3))[(0 : Nat) + (1 : Nat) + (1 : Nat) + (1 : Nat) +
 (1 : Nat) +
 (1 : Nat) +
 (1 : Nat) +
 (1 : Nat) +
 (1 : Nat) +
 (1 : Nat) +
 (1 : Nat) +
 (1 : Nat) +
 (1 : Nat) +
 (1 : Nat) +
 (1 : Nat) +
 (1 : Nat) +
 (1 : Nat) +
 (1 : Nat) +
 (1 : Nat) +
 (1 : Nat) +
 (1 : Nat)]?
 fun (x_24 : UInt64) =>
 obind
 (Prod.fst (Prod.snd
 x_3))[(0 : Nat) + (1 : Nat) + (1 : Nat) + (1 : Nat) +
 (1 : Nat) +
 (1 : Nat) +
 (1 : Nat) +
 (1 : Nat) +
 (1 : Nat) +
 (1 : Nat) +
 (1 : Nat) +
 (1 : Nat) +
 (1 : Nat) +
 (1 : Nat) +
 (1 : Nat) +
 (1 : Nat) +
 (1 : Nat) +
 (1 : Nat) +
 (1 : Nat) +
 (1 : Nat) +
 (1 : Nat) +
 (1 : Nat)]?
 fun (x_25 : UInt64) =>
 obind
 (Prod.fst (Prod.snd
 x_3))[(0 : Nat) + (1 : Nat) + (1 : Nat) + (1 : Nat) +
 (1 : Nat) +
 (1 : Nat) +
 (1 : Nat) +
 (1 : Nat) +
 (1 : Nat) +
 (1 : Nat) +
 (1 : Nat) +
 (1 : Nat) +
 (1 : Nat) +
 (1 : Nat) +
 (1 : Nat) +
 (1 : Nat) +
 (1 : Nat) +
 (1 : Nat) +
 (1 : Nat) +
 (1 : Nat) +
 (1 : Nat) +
 (1 : Nat) +
 (1 : Nat)]?
 fun (x_26 : UInt64) =>
 obind
 (Prod.fst (Prod.snd
 x_3))[(0 : Nat) + (1 : Nat) + (1 : Nat) + (1 : Nat) +
 (1 : Nat) +
 (1 : Nat) +
 (1 : Nat) +
 (1 : Nat) +
 (1 : Nat) +
 (1 : Nat) +
 (1 : Nat) +
 (1 : Nat) +
 (1 : Nat) +
 (1 : Nat) +
 (1 : Nat) +
 (1 : Nat) +
 (1 : Nat) +
 (1 : Nat) +
 (1 : Nat) +
 (1 : Nat) +
 (1 : Nat) +
 (1 : Nat) +
 (1 : Nat) +
 (1 : Nat)]?
 fun (x_27 : UInt64) =>
 obind
 (Prod.fst (Prod.snd
 x_3))[(0 : Nat) + (1 : Nat) + (1 : Nat) + (1 : Nat) +
 (1 : Nat) +
 (1 : Nat) +
 (1 : Nat) +
 (1 : Nat) +
 (1 : Nat) +
 (1 : Nat) +
 (1 : Nat) +
 (1 : Nat) +
 (1 : Nat) +
 (1 : Nat) +
 (1 : Nat) +
 (1 : Nat) +
 (1 : Nat) +
 (1 : Nat) +
 (1 : Nat) +
 (1 : Nat) +
 (1 : Nat) +
 (1 : Nat) +
 (1 : Nat) +
 (1 : Nat) +
 (1 : Nat)]?
 fun (x_28 : UInt64) =>
 obind
 (Prod.fst (Prod.snd
 x_3))[(0 : Nat) + (1 : Nat) + (1 : Nat) +
 (1 :
 Nat) +
 (1 : Nat) +
 (1 : Nat) +
 (1 : Nat) +
 (1 : Nat) +
 (1 : Nat) +
 (1 : Nat) +
 (1 : Nat) +
 (1 : Nat) +
 (1 : Nat) +
 (1 : Nat) +
 (1 : Nat) +
 (1 : Nat) +
 (1 : Nat) +
 (1 : Nat) +
 (1 : Nat) +
 (1 : Nat) +
 (1 : Nat) +
 (1 : Nat) +
 (1 : Nat) +
 (1 : Nat) +
 (1 : Nat) +
 (1 : Nat)]?
 fun (x_29 : UInt64) =>
 obind
 (Prod.fst (Prod.snd
 x_3))[(0 : Nat) + (1 : Nat) + (1 : Nat) +
 (1 :
 Nat) +
 (1 :
 Nat) +
 (1 :
 Nat) +
 (1 : Nat) +
 (1 : Nat) +
 (1 : Nat) +
 (1 : Nat) +
 (1 : Nat) +
 (1 : Nat) +
 (1 : Nat) +
 (1 : Nat) +
 (1 : Nat) +
 (1 : Nat) +
 (1 : Nat) +
 (1 : Nat) +
 (1 : Nat) +
 (1 : Nat) +
 (1 : Nat) +
 (1 : Nat) +
 (1 : Nat) +
 (1 : Nat) +
 (1 : Nat) +
 (1 : Nat) +
 (1 : Nat)]?
 fun (x_30 : UInt64) =>
 obind
 (Prod.fst (Prod.snd
 x_3))[(0 : Nat) + (1 : Nat) + (1 : Nat) +
 (1 :
 Nat) +
 (1 :
 Nat) +
 (1 :
 Nat) +
 (1 :
 Nat) +
 (1 :
 Nat) +
 (1 : Nat) +
 (1 : Nat) +
 (1 : Nat) +
 (1 : Nat) +
 (1 : Nat) +
 (1 : Nat) +
 (1 : Nat) +
 (1 : Nat) +
 (1 : Nat) +
 (1 : Nat) +
 (1 : Nat) +
 (1 : Nat) +
 (1 : Nat) +
 (1 : Nat) +
 (1 : Nat) +
 (1 : Nat) +
 (1 : Nat) +
 (1 : Nat) +
 (1 : Nat) +
 (1 : Nat)]?
 fun (x_31 : UInt64) =>
 obind
 (Prod.fst (Prod.snd
 x_3))[(0 : Nat) + (1 : Nat) + (1 : Nat) +
 (1 :
 Nat) +
 (1 :
 Nat) +
 (1 :
 Nat) +
 (1 :
 Nat) +
 (1 :
 Nat) +
 (1 :
 Nat) +
 (1 :
 Nat) +
 (1 : Nat) +
 (1 : Nat) +
 (1 : Nat) +
 (1 : Nat) +
 (1 : Nat) +
 (1 : Nat) +
 (1 : Nat) +
 (1 : Nat) +
 (1 : Nat) +
 (1 : Nat) +
 (1 : Nat) +
 (1 : Nat) +
 (1 : Nat) +
 (1 : Nat) +
 (1 : Nat) +
 (1 : Nat) +
 (1 : Nat) +
 (1 : Nat) +
 (1 : Nat)]?
 fun (x_32 : UInt64) =>
 obind
 (Prod.fst (Prod.snd
 x_3))[(0 : Nat) + (1 : Nat) + (1 : Nat) +
 (1 :
 Nat) +
 (1 :
 Nat) +
 (1 :
 Nat) +
 (1 :
 Nat) +
 (1 :
 Nat) +
 (1 :
 Nat) +
 (1 :
 Nat) +
 (1 :
 Nat) +
 (1 :
 Nat) +
 (1 : Nat) +
 (1 : Nat) +
 (1 : Nat) +
 (1 : Nat) +
 (1 : Nat) +
 (1 : Nat) +
 (1 : Nat) +
 (1 : Nat) +
 (1 : Nat) +
 (1 : Nat) +
 (1 : Nat) +
 (1 : Nat) +
 (1 : Nat) +
 (1 : Nat) +
 (1 : Nat) +
 (1 : Nat) +
 (1 : Nat) +
 (1 : Nat)]?
 fun (x_33 : UInt64) =>
 obind
 (Prod.fst (Prod.snd
 x_3))[(0 : Nat) + (1 : Nat) + (1 : Nat) +
 (1 :
 Nat) +
 (1 :
 Nat) +
 (1 :
 Nat) +
 (1 :
 Nat) +
 (1 :
 Nat) +
 (1 :
 Nat) +
 (1 :
 Nat) +
 (1 :
 Nat) +
 (1 :
 Nat) +
 (1 :
 Nat) +
 (1 :
 Nat) +
 (1 : Nat) +
 (1 : Nat) +
 (1 : Nat) +
 (1 : Nat) +
 (1 : Nat) +
 (1 : Nat) +
 (1 : Nat) +
 (1 : Nat) +
 (1 : Nat) +
 (1 : Nat) +
 (1 : Nat) +
 (1 : Nat) +
 (1 : Nat) +
 (1 : Nat) +
 (1 : Nat) +
 (1 : Nat) +
 (1 : Nat)]?
 fun (x_34 : UInt64) =>
 obind
 (Prod.fst (Prod.snd
 x_3))[(0 : Nat) + (1 : Nat) +
 (1 :
 Nat) +
 (1 :
 Nat) +
 (1 :
 Nat) +
 (1 :
 Nat) +
 (1 :
 Nat) +
 (1 :
 Nat) +
 (1 :
 Nat) +
 (1 :
 Nat) +
 (1 :
 Nat) +
 (1 :
 Nat) +
 (1 :
 Nat) +
 (1 :
 Nat) +
 (1 :
 Nat) +
 (1 :
 Nat) +
 (1 : Nat) +
 (1 : Nat) +
 (1 : Nat) +
 (1 : Nat) +
 (1 : Nat) +
 (1 : Nat) +
 (1 : Nat) +
 (1 : Nat) +
 (1 : Nat) +
 (1 : Nat) +
 (1 : Nat) +
 (1 : Nat) +
 (1 : Nat) +
 (1 : Nat) +
 (1 : Nat) +
 (1 : Nat)]?
 fun (x_35 : UInt64) =>
 obind
 (F18 n
 (some
 (x_3.1.1,
 x_3.1.2.1,
 x_3.1.2.2.1,
 x_3.1.2.2.2.1,
 x_3.1.2.2.2.2,
 x_4, x_5, x_6, x_7, x_8, x_9, x_10,
 x_11, x_12, x_13, x_14, x_15, x_16,
 x_17, x_18, x_19, x_20, x_21, x_22,
 x_23, x_24, x_25, x_26, x_27, x_28,
 x_29, x_30, x_31, x_32, x_33, x_34,
 x_35, x_3.2.2)))
 fun
 (x_36 :
 (UInt64 ×
 UInt64 ×
 UInt64 ×
 UInt64 ×
 UInt64 ×
 UInt64 ×
 UInt64 ×
 UInt64 ×
 UInt64 ×
 UInt64 ×
 UInt64 ×
 UInt64 ×
 UInt64 ×
 UInt64 ×
 UInt64 ×
 UInt64 ×
 UInt64 ×
 UInt64 ×
 UInt64 ×
 UInt64 ×
 UInt64 ×
 UInt64 ×
 UInt64 ×
 UInt64 ×
 UInt64 ×
 UInt64 ×
 UInt64 ×
 UInt64 ×
 UInt64 ×
 UInt64 ×
 UInt64 ×
 UInt64 ×
 UInt64 ×
 UInt64 ×
 UInt64 ×
 List
 (UInt64 ×
 Bool ×
 UInt8 ×
 UInt64 ×
 UInt64 ×
 List
 UInt8 ×
 List
 (List
 UInt8 ×
 List
 UInt8) ×
 UInt8 ×
 UInt8 ×
 Int64 ×
 UInt8 ×
 UInt8 ×
 UInt64 ×
 UInt64)) ×
 Unit) =>
 J what at_ n_ q
 [x_36.1.2.2.2.1,
 x_36.1.2.2.2.2.1,
 Prod.fst (Prod.snd (Prod.snd (Prod.snd (Prod.snd (Prod.snd
 x_36.1))))),
 Prod.fst (Prod.snd (Prod.snd (Prod.snd (Prod.snd (Prod.snd (Prod.snd
 x_36.1)))))),
 Prod.fst (Prod.snd (Prod.snd (Prod.snd (Prod.snd (Prod.snd (Prod.snd (Prod.snd
 x_36.1))))))),
 Prod.fst (Prod.snd (Prod.snd (Prod.snd (Prod.snd (Prod.snd (Prod.snd (Prod.snd (Prod.snd (Prod.fst
 x_36))))))))),
 Prod.fst (Prod.snd (Prod.snd (Prod.snd (Prod.snd (Prod.snd (Prod.snd (Prod.snd (Prod.snd (Prod.snd (Prod.fst
 x_36)))))))))),
 Prod.fst (Prod.snd (Prod.snd (Prod.snd (Prod.snd (Prod.snd (Prod.snd (Prod.snd (Prod.snd (Prod.snd (Prod.snd (Prod.fst
 x_36))))))))))),
 Prod.fst (Prod.snd (Prod.snd (Prod.snd (Prod.snd (Prod.snd (Prod.snd (Prod.snd (Prod.snd (Prod.snd (Prod.snd (Prod.snd (Prod.fst
 x_36)))))))))))),
 Prod.fst (Prod.snd (Prod.snd (Prod.snd (Prod.snd (Prod.snd (Prod.snd (Prod.snd (Prod.snd (Prod.snd (Prod.snd (Prod.snd (Prod.snd (Prod.fst
 x_36))))))))))))),
 Prod.fst (Prod.snd (Prod.snd (Prod.snd (Prod.snd (Prod.snd (Prod.snd (Prod.snd (Prod.snd (Prod.snd (Prod.snd (Prod.snd (Prod.snd (Prod.snd (Prod.fst
 x_36)))))))))))))),
 Prod.fst (Prod.snd (Prod.snd (Prod.snd (Prod.snd (Prod.snd (Prod.snd (Prod.snd (Prod.snd (Prod.snd (Prod.snd (Prod.snd (Prod.snd (Prod.snd (Prod.snd (Prod.fst
 x_36))))))))))))))),
 Prod.fst (Prod.snd (Prod.snd (Prod.snd (Prod.snd (Prod.snd (Prod.snd (Prod.snd (Prod.snd (Prod.snd (Prod.snd (Prod.snd (Prod.snd (Prod.snd (Prod.snd (Prod.snd (Prod.fst
 x_36)))))))))))))))),
 Prod.fst (Prod.snd (Prod.snd (Prod.snd (Prod.snd (Prod.snd (Prod.snd (Prod.snd (Prod.snd (Prod.snd (Prod.snd (Prod.snd (Prod.snd (Prod.snd (Prod.snd (Prod.snd (Prod.snd (Prod.fst
 x_36))))))))))))))))),
 Prod.fst (Prod.snd (Prod.snd (Prod.snd (Prod.snd (Prod.snd (Prod.snd (Prod.snd (Prod.snd (Prod.snd (Prod.snd (Prod.snd (Prod.snd (Prod.snd (Prod.snd (Prod.snd (Prod.snd (Prod.snd (Prod.fst
 x_36)))))))))))))))))),
 Prod.fst (Prod.snd (Prod.snd (Prod.snd (Prod.snd (Prod.snd (Prod.snd (Prod.snd (Prod.snd (Prod.snd (Prod.snd (Prod.snd (Prod.snd (Prod.snd (Prod.snd (Prod.snd (Prod.snd (Prod.snd (Prod.snd (Prod.fst
 x_36))))))))))))))))))),
 Prod.fst (Prod.snd (Prod.snd (Prod.snd (Prod.snd (Prod.snd (Prod.snd (Prod.snd (Prod.snd (Prod.snd (Prod.snd (Prod.snd (Prod.snd (Prod.snd (Prod.snd (Prod.snd (Prod.snd (Prod.snd (Prod.snd (Prod.snd (Prod.fst
 x_36)))))))))))))))))))),
 Prod.fst (Prod.snd (Prod.snd (Prod.snd (Prod.snd (Prod.snd (Prod.snd (Prod.snd (Prod.snd (Prod.snd (Prod.snd (Prod.snd (Prod.snd (Prod.snd (Prod.snd (Prod.snd (Prod.snd (Prod.snd (Prod.snd (Prod.snd (Prod.snd (Prod.fst
 x_36))))))))))))))))))))),
 Prod.fst (Prod.snd (Prod.snd (Prod.snd (Prod.snd (Prod.snd (Prod.snd (Prod.snd (Prod.snd (Prod.snd (Prod.snd (Prod.snd (Prod.snd (Prod.snd (Prod.snd (Prod.snd (Prod.snd (Prod.snd (Prod.snd (Prod.snd (Prod.snd (Prod.snd (Prod.fst
 x_36)))))))))))))))))))))),
 Prod.fst (Prod.snd (Prod.snd (Prod.snd (Prod.snd (Prod.snd (Prod.snd (Prod.snd (Prod.snd (Prod.snd (Prod.snd (Prod.snd (Prod.snd (Prod.snd (Prod.snd (Prod.snd (Prod.snd (Prod.snd (Prod.snd (Prod.snd (Prod.snd (Prod.snd (Prod.snd (Prod.fst
 x_36))))))))))))))))))))))),
 Prod.fst (Prod.snd (Prod.snd (Prod.snd (Prod.snd (Prod.snd (Prod.snd (Prod.snd (Prod.snd (Prod.snd (Prod.snd (Prod.snd (Prod.snd (Prod.snd (Prod.snd (Prod.snd (Prod.snd (Prod.snd (Prod.snd (Prod.snd (Prod.snd (Prod.snd (Prod.snd (Prod.snd (Prod.fst
 x_36)))))))))))))))))))))))),
 Prod.fst (Prod.snd (Prod.snd (Prod.snd (Prod.snd (Prod.snd (Prod.snd (Prod.snd (Prod.snd (Prod.snd (Prod.snd (Prod.snd (Prod.snd (Prod.snd (Prod.snd (Prod.snd (Prod.snd (Prod.snd (Prod.snd (Prod.snd (Prod.snd (Prod.snd (Prod.snd (Prod.snd (Prod.snd (Prod.fst
 x_36))))))))))))))))))))))))),
 Prod.fst (Prod.snd (Prod.snd (Prod.snd (Prod.snd (Prod.snd (Prod.snd (Prod.snd (Prod.snd (Prod.snd (Prod.snd (Prod.snd (Prod.snd (Prod.snd (Prod.snd (Prod.snd (Prod.snd (Prod.snd (Prod.snd (Prod.snd (Prod.snd (Prod.snd (Prod.snd (Prod.snd (Prod.snd (Prod.snd (Prod.fst
 x_36)))))))))))))))))))))))))),
 Prod.fst (Prod.snd (Prod.snd (Prod.snd (Prod.snd (Prod.snd (Prod.snd (Prod.snd (Prod.snd (Prod.snd (Prod.snd (Prod.snd (Prod.snd (Prod.snd (Prod.snd (Prod.snd (Prod.snd (Prod.snd (Prod.snd (Prod.snd (Prod.snd (Prod.snd (Prod.snd (Prod.snd (Prod.snd (Prod.snd (Prod.snd (Prod.fst
 x_36))))))))))))))))))))))))))),
 Prod.fst (Prod.snd (Prod.snd (Prod.snd (Prod.snd (Prod.snd (Prod.snd (Prod.snd (Prod.snd (Prod.snd (Prod.snd (Prod.snd (Prod.snd (Prod.snd (Prod.snd (Prod.snd (Prod.snd (Prod.snd (Prod.snd (Prod.snd (Prod.snd (Prod.snd (Prod.snd (Prod.snd (Prod.snd (Prod.snd (Prod.snd (Prod.snd (Prod.fst
 x_36)))))))))))))))))))))))))))),
 Prod.fst (Prod.snd (Prod.snd (Prod.snd (Prod.snd (Prod.snd (Prod.snd (Prod.snd (Prod.snd (Prod.snd (Prod.snd (Prod.snd (Prod.snd (Prod.snd (Prod.snd (Prod.snd (Prod.snd (Prod.snd (Prod.snd (Prod.snd (Prod.snd (Prod.snd (Prod.snd (Prod.snd (Prod.snd (Prod.snd (Prod.snd (Prod.snd (Prod.snd (Prod.fst
 x_36))))))))))))))))))))))))))))),
 Prod.fst (Prod.snd (Prod.snd (Prod.snd (Prod.snd (Prod.snd (Prod.snd (Prod.snd (Prod.snd (Prod.snd (Prod.snd (Prod.snd (Prod.snd (Prod.snd (Prod.snd (Prod.snd (Prod.snd (Prod.snd (Prod.snd (Prod.snd (Prod.snd (Prod.snd (Prod.snd (Prod.snd (Prod.snd (Prod.snd (Prod.snd (Prod.snd (Prod.snd (Prod.snd (Prod.fst
 x_36)))))))))))))))))))))))))))))),
 Prod.fst (Prod.snd (Prod.snd (Prod.snd (Prod.snd (Prod.snd (Prod.snd (Prod.snd (Prod.snd (Prod.snd (Prod.snd (Prod.snd (Prod.snd (Prod.snd (Prod.snd (Prod.snd (Prod.snd (Prod.snd (Prod.snd (Prod.snd (Prod.snd (Prod.snd (Prod.snd (Prod.snd (Prod.snd (Prod.snd (Prod.snd (Prod.snd (Prod.snd (Prod.snd (Prod.snd (Prod.fst
 x_36))))))))))))))))))))))))))))))),
 Prod.fst (Prod.snd (Prod.snd (Prod.snd (Prod.snd (Prod.snd (Prod.snd (Prod.snd (Prod.snd (Prod.snd (Prod.snd (Prod.snd (Prod.snd (Prod.snd (Prod.snd (Prod.snd (Prod.snd (Prod.snd (Prod.snd (Prod.snd (Prod.snd (Prod.snd (Prod.snd (Prod.snd (Prod.snd (Prod.snd (Prod.snd (Prod.snd (Prod.snd (Prod.snd (Prod.snd (Prod.snd (Prod.fst
 x_36)))))))))))))))))))))))))))))))),
 Prod.fst (Prod.snd (Prod.snd (Prod.snd (Prod.snd (Prod.snd (Prod.snd (Prod.snd (Prod.snd (Prod.snd (Prod.snd (Prod.snd (Prod.snd (Prod.snd (Prod.snd (Prod.snd (Prod.snd (Prod.snd (Prod.snd (Prod.snd (Prod.snd (Prod.snd (Prod.snd (Prod.snd (Prod.snd (Prod.snd (Prod.snd (Prod.snd (Prod.snd (Prod.snd (Prod.snd (Prod.snd (Prod.snd (Prod.fst
 x_36))))))))))))))))))))))))))))))))),
 Prod.fst (Prod.snd (Prod.snd (Prod.snd (Prod.snd (Prod.snd (Prod.snd (Prod.snd (Prod.snd (Prod.snd (Prod.snd (Prod.snd (Prod.snd (Prod.snd (Prod.snd (Prod.snd (Prod.snd (Prod.snd (Prod.snd (Prod.snd (Prod.snd (Prod.snd (Prod.snd (Prod.snd (Prod.snd (Prod.snd (Prod.snd (Prod.snd (Prod.snd (Prod.snd (Prod.snd (Prod.snd (Prod.snd (Prod.snd (Prod.fst
 x_36)))))))))))))))))))))))))))))))))),
 Prod.fst (Prod.snd (Prod.snd (Prod.snd (Prod.snd (Prod.snd (Prod.snd (Prod.snd (Prod.snd (Prod.snd (Prod.snd (Prod.snd (Prod.snd (Prod.snd (Prod.snd (Prod.snd (Prod.snd (Prod.snd (Prod.snd (Prod.snd (Prod.snd (Prod.snd (Prod.snd (Prod.snd (Prod.snd (Prod.snd (Prod.snd (Prod.snd (Prod.snd (Prod.snd (Prod.snd (Prod.snd (Prod.snd (Prod.snd (Prod.snd (Prod.fst
 x_36)))))))))))))))))))))))))))))))))))]
 x_36.1.1
 x_36.1.2.1
 x_36.1.2.2.1
 (Prod.snd (Prod.snd (Prod.snd (Prod.snd (Prod.snd (Prod.snd (Prod.snd (Prod.snd (Prod.snd (Prod.snd (Prod.snd (Prod.snd (Prod.snd (Prod.snd (Prod.snd (Prod.snd (Prod.snd (Prod.snd (Prod.snd (Prod.snd (Prod.snd (Prod.snd (Prod.snd (Prod.snd (Prod.snd (Prod.snd (Prod.snd (Prod.snd (Prod.snd (Prod.snd (Prod.snd (Prod.snd (Prod.snd (Prod.snd (Prod.snd (Prod.fst
 x_36)))))))))))))))))))))))))))))))))))))
 (F5_J63 n))
noncomputable def F5_R125 : Nat →
 Nat →
 PT.T (PT.int IntKind.u8) →
 UInt8 →
 UInt64 →
 Int64 →
 List (Bool × UInt8 × UInt8 × UInt8 × UInt16 × UInt16 × UInt16 × UInt8 × UInt8 × UInt8 × Bool) →
 Int64 →
 Int64 →
 Option
 ((Int64 ×
 Int64 ×
 UInt64 ×
 UInt64 ×
 List
 (UInt64 ×
 Bool ×
 UInt8 ×
 UInt64 ×
 UInt64 ×
 List UInt8 ×
 List (List UInt8 × List UInt8) ×
 UInt8 × UInt8 × Int64 × UInt8 × UInt8 × UInt64 × UInt64)) ×
 List UInt64 × UInt64) →
 Option (Bool × Unit) := fun (n : Nat) =>
 ofixA (125 : Nat)
 [PT.int IntKind.u8, PT.int IntKind.u8, PT.int IntKind.u64, PT.int IntKind.i64,
 PT.list
 (CTs.cons CT.bool
 (CTs.cons (CT.int IntKind.u8)
 (CTs.cons (CT.int IntKind.u8)
 (CTs.cons (CT.int IntKind.u8)
 (CTs.cons (CT.int IntKind.u16)
 (CTs.cons (CT.int IntKind.u16)
 (CTs.cons (CT.int IntKind.u16)
 (CTs.cons (CT.int IntKind.u8)
 (CTs.cons (CT.int IntKind.u8)
 (CTs.cons (CT.int IntKind.u8) (CTs.cons CT.bool CTs.nil))))))))))),
 PT.int IntKind.i64, PT.int IntKind.i64,
 PT.optA
 (OTs.cons (OT.c (CT.int IntKind.i64))
 (OTs.cons (OT.c (CT.int IntKind.i64))
 (OTs.cons (OT.c (CT.int IntKind.u64))
 (OTs.cons (OT.c (CT.int IntKind.u64))
 (OTs.cons
 (OT.row
 (CTs.cons (CT.int IntKind.u64)
 (CTs.cons CT.bool
 (CTs.cons (CT.int IntKind.u8)
 (CTs.cons (CT.int IntKind.u64)
 (CTs.cons (CT.int IntKind.u64)
 (CTs.cons CT.str
 (CTs.cons (CT.ro (CTs.cons CT.str (CTs.cons CT.str CTs.nil)))
 (CTs.cons (CT.int IntKind.u8)
 (CTs.cons (CT.int IntKind.u8)
 (CTs.cons (CT.int IntKind.i64)
 (CTs.cons (CT.int IntKind.u8)
 (CTs.cons (CT.int IntKind.u8)
 (CTs.cons (CT.int IntKind.u64)
 (CTs.cons (CT.int IntKind.u64) CTs.nil)))))))))))))))
 OTs.nil)))))
 (CT.int IntKind.u64) (OTs.cons (OT.c (CT.int IntKind.u64)) OTs.nil)]
 (F5_L125 n)
noncomputable def F5 : Nat →
 UInt16 ×
 List (Bool × UInt8 × UInt8 × UInt8 × UInt16 × UInt16 × UInt16 × UInt8 × UInt8 × UInt8 × Bool) ×
 UInt8 × UInt8 × UInt64 →
 Option (Bool × Unit) := fun (n : Nat)
 (x :
 UInt16 ×
 List (Bool × UInt8 × UInt8 × UInt8 × UInt16 × UInt16 × UInt16 × UInt8 × UInt8 × UInt8 × Bool) ×
 UInt8 × UInt8 × UInt64) =>
 obind (F7 n ()) fun (x_1 : Bool × Unit) =>
 oite (!x_1.1) (some (false, ()))
 (obind (F8 n ((64 : Int64) + Int64.ofInt ↑(UInt16.toNat (x.1 % (300 : UInt16)))))
 fun
 (x_2 :
 (Option
 ((Int64 ×
 Int64 ×
 UInt64 ×
 UInt64 ×
 List
 (UInt64 ×
 Bool ×
 UInt8 ×
 UInt64 ×
 UInt64 ×
 List UInt8 ×
 List (List UInt8 × List UInt8) ×
 UInt8 × UInt8 × Int64 × UInt8 × UInt8 × UInt64 × UInt64)) ×
 List UInt64 × UInt64) ×
 Int64) ×
 Unit) =>
 F5_R125 n n x.2.2.1 x.2.2.2.1
 x.2.2.2.2
 ((64 : Int64) + Int64.ofInt ↑(UInt16.toNat (x.1 % (300 : UInt16)))) x.2.1
 (Int64.ofInt ↑(List.length x.2.1)) (0 : Int64) x_2.1.1)
theorem F5_R131069_s (n : Nat) (m_ : Nat) : F5_R131069 n (m_ + 1) = F5_L131069 n (F5_R131069 n m_) := rfl
theorem F5_R125_s (n : Nat) (m_ : Nat) : F5_R125 n (m_ + 1) = F5_L125 n (F5_R125 n m_) := rfl
theorem ok5 (n : Nat) : FunOK Try.prog ⟨5, sig5, F5 n⟩ :=
 fun_ok (hints := ⟨[(63, ⟨[(2, .one (.int .u8)), (3, .one (.int .u8)), (4, .one (.int .u64)), (11, .one (.int .i64)), (16, .one (.own 5))], [(5, .cellsA [.int .u64, .int .u64, .int .u64] (.int .u64) 32 [.own 6]), (6, .row (.cons (.int .u64) (.cons .bool (.cons (.int .u8) (.cons (.int .u64) (.cons (.int .u64) (.cons .str (.cons (.ro (.cons .str (.cons .str .nil))) (.cons (.int .u8) (.cons (.int .u8) (.cons (.int .i64) (.cons (.int .u8) (.cons (.int .u8) (.cons (.int .u64) (.cons (.int .u64) .nil)))))))))))))))], 7⟩), (255, ⟨[(2, .one (.int .u8)), (3, .one (.int .u8)), (4, .one (.int .u64)), (11, .one (.int .i64)), (16, .one (.own 5)), (17, .one (.int .i64))], [(5, .cellsA [.int .u64, .int .u64, .int .u64] (.int .u64) 32 [.own 6]), (6, .row (.cons (.int .u64) (.cons .bool (.cons (.int .u8) (.cons (.int .u64) (.cons (.int .u64) (.cons .str (.cons (.ro (.cons .str (.cons .str .nil))) (.cons (.int .u8) (.cons (.int .u8) (.cons (.int .i64) (.cons (.int .u8) (.cons (.int .u8) (.cons (.int .u64) (.cons (.int .u64) .nil)))))))))))))))], 7⟩), (511, ⟨[(2, .one (.int .u8)), (11, .one (.int .i64)), (16, .one (.own 5))], [(5, .cellsA [.int .u64, .int .u64, .int .u64] (.int .u64) 32 [.own 6]), (6, .row (.cons (.int .u64) (.cons .bool (.cons (.int .u8) (.cons (.int .u64) (.cons (.int .u64) (.cons .str (.cons (.ro (.cons .str (.cons .str .nil))) (.cons (.int .u8) (.cons (.int .u8) (.cons (.int .i64) (.cons (.int .u8) (.cons (.int .u8) (.cons (.int .u64) (.cons (.int .u64) .nil)))))))))))))))], 7⟩)], [(125, ⟨[(2, .one (.int .u8)), (3, .one (.int .u8)), (4, .one (.int .u64)), (11, .one (.int .i64)), (12, .one (.own 5)), (42, .one (.ro (.cons .bool (.cons (.int .u8) (.cons (.int .u8) (.cons (.int .u8) (.cons (.int .u16) (.cons (.int .u16) (.cons (.int .u16) (.cons (.int .u8) (.cons (.int .u8) (.cons (.int .u8) (.cons .bool .nil))))))))))))), (43, .one (.int .i64)), (44, .one (.int .i64))], [(5, .foldA (.cons (.c (.int .i64)) (.cons (.c (.int .i64)) (.cons (.c (.int .u64)) (.cons (.c (.int .u64)) (.cons (.row (.cons (.int .u64) (.cons .bool (.cons (.int .u8) (.cons (.int .u64) (.cons (.int .u64) (.cons .str (.cons (.ro (.cons .str (.cons .str .nil))) (.cons (.int .u8) (.cons (.int .u8) (.cons (.int .i64) (.cons (.int .u8) (.cons (.int .u8) (.cons (.int .u64) (.cons (.int .u64) .nil))))))))))))))) .nil))))) (.int .u64) 32 (.cons (.c (.int .u64)) .nil))], 6⟩), (131069, ⟨[(11, .one (.int .i64)), (16, .one (.own 5)), (18, .one (.own 6)), (21, .one (.int .i64)), (22, .one (.int .u64)), (23, .one (.int .u64)), (25, .one (.int .u64)), (164, .one (.own 7)), (165, .one (.int .i64)), (166, .one (.int .i64))], [(5, .cellsA [.int .u64, .int .u64, .int .u64] (.int .u64) 32 [.own 8]), (6, .foldA (.cons (.c (.int .i64)) (.cons (.c (.int .i64)) (.cons (.c (.int .u64)) (.cons (.c (.int .u64)) (.cons (.row (.cons (.int .u64) (.cons .bool (.cons (.int .u8) (.cons (.int .u64) (.cons (.int .u64) (.cons .str (.cons (.ro (.cons .str (.cons .str .nil))) (.cons (.int .u8) (.cons (.int .u8) (.cons (.int .i64) (.cons (.int .u8) (.cons (.int .u8) (.cons (.int .u64) (.cons (.int .u64) .nil))))))))))))))) .nil))))) (.int .u64) 32 (.cons (.c (.int .u64)) .nil)), (7, .row (.cons (.int .u64) (.cons .bool (.cons (.int .u8) (.cons (.int .u64) (.cons (.int .u64) (.cons .str (.cons (.ro (.cons .str (.cons .str .nil))) (.cons (.int .u8) (.cons (.int .u8) (.cons (.int .i64) (.cons (.int .u8) (.cons (.int .u8) (.cons (.int .u64) (.cons (.int .u64) .nil))))))))))))))), (8, .sealed (.cons (.int .u64) (.cons .bool (.cons (.int .u8) (.cons (.int .u64) (.cons (.int .u64) (.cons .str (.cons (.ro (.cons .str (.cons .str .nil))) (.cons (.int .u8) (.cons (.int .u8) (.cons (.int .i64) (.cons (.int .u8) (.cons (.int .u8) (.cons (.int .u64) (.cons (.int .u64) .nil)))))))))))))))], 9⟩)]⟩) (fuel := n) (c := Try.f5.body.getD .skip) (rs := Try.f5.results.toList) tt_ok mix (FsOK.cons (ok7 n) (FsOK.cons (ok8 n) (FsOK.cons (ok11 n) (FsOK.cons (ok10 n) (FsOK.cons (ok9 n) (FsOK.cons (ok18 n) (FsOK.cons (ok19 n) (FsOK.cons (ok20 n) (FsOK.cons (ok12 n) (FsOK.cons (ok1012 n) (FsOK.cons (ok15 n) (FsOK.nil)))))))))))) Try.func5 (by kernel_rfl) (by kernel_rfl) rfl (by kernel_rfl) rfl rfl (by kernel_rfl)
end Go.Proofs.Ytblldmpkljcnjaa
