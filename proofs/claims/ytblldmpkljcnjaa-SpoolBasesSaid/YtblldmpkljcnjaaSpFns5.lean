/- What the functions of this seat compute, found by walking their code symbolically: each F is what the walk finds, each ok says that the Go function keeps it as a contract. Printed by a program of this repo's. -/
import Derived.Test.YtblldmpkljcnjaaSpFns4
open Go Go.Sx
namespace Go.Proofs.Ytblldmpkljcnjaa
set_option maxRecDepth 100000
set_option linter.unusedVariables false
-- watchfire/spool.Of
def sig19 : Sig := ⟨(.cons (.one (.c (.int .i64))) (.cons (.agg (.cons (.int .u64) (.cons (.int .u64) (.cons (.int .u64) (.cons (.int .u64) (.cons (.int .u64) (.cons (.int .u64) (.cons (.int .u64) (.cons (.int .u64) (.cons (.int .u64) (.cons (.int .u64) (.cons (.int .u64) (.cons (.int .u64) (.cons (.int .u64) (.cons (.int .u64) (.cons (.int .u64) (.cons (.int .u64) (.cons (.int .u64) (.cons (.int .u64) (.cons (.int .u64) (.cons (.int .u64) (.cons (.int .u64) (.cons (.int .u64) (.cons (.int .u64) (.cons (.int .u64) (.cons (.int .u64) (.cons (.int .u64) (.cons (.int .u64) (.cons (.int .u64) (.cons (.int .u64) (.cons (.int .u64) (.cons (.int .u64) (.cons (.int .u64) (.cons (.int .u64) (.cons (.int .u64) (.cons (.int .u64) (.cons (.ro (.cons (.int .u64) (.cons .bool (.cons (.int .u8) (.cons (.int .u64) (.cons (.int .u64) (.cons .str (.cons (.ro (.cons .str (.cons .str .nil))) (.cons (.int .u8) (.cons (.int .u8) (.cons (.int .i64) (.cons (.int .u8) (.cons (.int .u8) (.cons (.int .u64) (.cons (.int .u64) .nil))))))))))))))) .nil))))))))))))))))))))))))))))))))))))) .nil)), (.cons (.one (.ptrA (.cons (.c (.int .i64)) (.cons (.c (.int .i64)) (.cons (.c (.int .u64)) (.cons (.c (.int .u64)) (.cons (.row (.cons (.int .u64) (.cons .bool (.cons (.int .u8) (.cons (.int .u64) (.cons (.int .u64) (.cons .str (.cons (.ro (.cons .str (.cons .str .nil))) (.cons (.int .u8) (.cons (.int .u8) (.cons (.int .i64) (.cons (.int .u8) (.cons (.int .u8) (.cons (.int .u64) (.cons (.int .u64) .nil))))))))))))))) .nil))))) (.int .u64) 32 (.cons (.c (.int .u64)) .nil))) (.cons (.one (.c (.int .i64))) .nil))⟩
def F19_J130743 : Nat →
 Arr
 [PT.int IntKind.i64, PT.int IntKind.u64,
 PT.list
 (CTs.cons (CT.int IntKind.u64)
 (CTs.cons CT.bool
 (CTs.cons (CT.int IntKind.u8)
 (CTs.cons (CT.int IntKind.u64)
 (CTs.cons (CT.int IntKind.u64)
 (CTs.cons CT.str
 (CTs.cons (CT.ro (CTs.cons CT.str (CTs.cons CT.str CTs.nil)))
 (CTs.cons (CT.int IntKind.u8)
 (CTs.cons (CT.int IntKind.u8)
 (CTs.cons (CT.int IntKind.i64)
 (CTs.cons (CT.int IntKind.u8)
 (CTs.cons (CT.int IntKind.u8)
 (CTs.cons (CT.int IntKind.u64) (CTs.cons (CT.int IntKind.u64) CTs.nil)))))))))))))),
 PT.int IntKind.i64, PT.int IntKind.i64, PT.list1 (CT.int IntKind.u64), PT.int IntKind.u64, PT.int IntKind.u64,
 PT.int IntKind.u64,
 PT.list
 (CTs.cons (CT.int IntKind.u64)
 (CTs.cons CT.bool
 (CTs.cons (CT.int IntKind.u8)
 (CTs.cons (CT.int IntKind.u64)
 (CTs.cons (CT.int IntKind.u64)
 (CTs.cons CT.str
 (CTs.cons (CT.ro (CTs.cons CT.str (CTs.cons CT.str CTs.nil)))
 (CTs.cons (CT.int IntKind.u8)
 (CTs.cons (CT.int IntKind.u8)
 (CTs.cons (CT.int IntKind.i64)
 (CTs.cons (CT.int IntKind.u8)
 (CTs.cons (CT.int IntKind.u8)
 (CTs.cons (CT.int IntKind.u64) (CTs.cons (CT.int IntKind.u64) CTs.nil)))))))))))))),
 PT.list1 (CT.int IntKind.u64), PT.int IntKind.i64, PT.int IntKind.i64, PT.int IntKind.u64, PT.int IntKind.u64,
 PT.int IntKind.u64, PT.list1 (CT.int IntKind.u64),
 PT.list
 (CTs.cons (CT.int IntKind.u64)
 (CTs.cons CT.bool
 (CTs.cons (CT.int IntKind.u8)
 (CTs.cons (CT.int IntKind.u64)
 (CTs.cons (CT.int IntKind.u64)
 (CTs.cons CT.str
 (CTs.cons (CT.ro (CTs.cons CT.str (CTs.cons CT.str CTs.nil)))
 (CTs.cons (CT.int IntKind.u8)
 (CTs.cons (CT.int IntKind.u8)
 (CTs.cons (CT.int IntKind.i64)
 (CTs.cons (CT.int IntKind.u8)
 (CTs.cons (CT.int IntKind.u8)
 (CTs.cons (CT.int IntKind.u64) (CTs.cons (CT.int IntKind.u64) CTs.nil))))))))))))))]
 (Option
 ((Option
 ((Int64 ×
 Int64 ×
 UInt64 ×
 UInt64 ×
 List
 (UInt64 ×
 Bool ×
 UInt8 ×
 UInt64 ×
 UInt64 ×
 List UInt8 ×
 List (List UInt8 × List UInt8) ×
 UInt8 × UInt8 × Int64 × UInt8 × UInt8 × UInt64 × UInt64)) ×
 List UInt64 × UInt64) ×
 Int64) ×
 Unit)) →
 Int64 →
 UInt8 →
 UInt64 →
 List
 (UInt64 ×
 Bool ×
 UInt8 ×
 UInt64 ×
 UInt64 ×
 List UInt8 ×
 List (List UInt8 × List UInt8) × UInt8 × UInt8 × Int64 × UInt8 × UInt8 × UInt64 × UInt64) →
 Int64 →
 Int64 →
 List UInt64 →
 UInt64 →
 UInt64 →
 UInt64 →
 List
 (UInt64 ×
 Bool ×
 UInt8 ×
 UInt64 ×
 UInt64 ×
 List UInt8 ×
 List (List UInt8 × List UInt8) ×
 UInt8 × UInt8 × Int64 × UInt8 × UInt8 × UInt64 × UInt64) →
 List UInt64 →
 Int64 →
 Int64 →
 UInt64 →
 UInt64 →
 UInt64 →
 List UInt64 →
 UInt64 →
 Bool →
 UInt8 →
 UInt64 →
 UInt64 →
 List UInt8 →
 List (List UInt8 × List UInt8) →
 UInt8 →
 UInt8 →
 Int64 →
 UInt8 →
 UInt8 →
 UInt64 →
 UInt64 →
 List
 (UInt64 ×
 Bool ×
 UInt8 ×
 UInt64 ×
 UInt64 ×
 List UInt8 ×
 List (List UInt8 × List UInt8) ×
 UInt8 ×
 UInt8 ×
 Int64 ×
 UInt8 ×
 UInt8 × UInt64 × UInt64) →
 Option
 ((Option
 ((Int64 ×
 Int64 ×
 UInt64 ×
 UInt64 ×
 List
 (UInt64 ×
 Bool ×
 UInt8 ×
 UInt64 ×
 UInt64 ×
 List UInt8 ×
 List
 (List UInt8 ×
 List
 UInt8) ×
 UInt8 ×
 UInt8 ×
 Int64 ×
 UInt8 ×
 UInt8 ×
 UInt64 ×
 UInt64)) ×
 List UInt64 × UInt64) ×
 Int64) ×
 Unit) := fun (n : Nat)
 (rec :
 Arr
 [PT.int IntKind.i64, PT.int IntKind.u64,
 PT.list
 (CTs.cons (CT.int IntKind.u64)
 (CTs.cons CT.bool
 (CTs.cons (CT.int IntKind.u8)
 (CTs.cons (CT.int IntKind.u64)
 (CTs.cons (CT.int IntKind.u64)
 (CTs.cons CT.str
 (CTs.cons (CT.ro (CTs.cons CT.str (CTs.cons CT.str CTs.nil)))
 (CTs.cons (CT.int IntKind.u8)
 (CTs.cons (CT.int IntKind.u8)
 (CTs.cons (CT.int IntKind.i64)
 (CTs.cons (CT.int IntKind.u8)
 (CTs.cons (CT.int IntKind.u8)
 (CTs.cons (CT.int IntKind.u64) (CTs.cons (CT.int IntKind.u64) CTs.nil)))))))))))))),
 PT.int IntKind.i64, PT.int IntKind.i64, PT.list1 (CT.int IntKind.u64), PT.int IntKind.u64, PT.int IntKind.u64,
 PT.int IntKind.u64,
 PT.list
 (CTs.cons (CT.int IntKind.u64)
 (CTs.cons CT.bool
 (CTs.cons (CT.int IntKind.u8)
 (CTs.cons (CT.int IntKind.u64)
 (CTs.cons (CT.int IntKind.u64)
 (CTs.cons CT.str
 (CTs.cons (CT.ro (CTs.cons CT.str (CTs.cons CT.str CTs.nil)))
 (CTs.cons (CT.int IntKind.u8)
 (CTs.cons (CT.int IntKind.u8)
 (CTs.cons (CT.int IntKind.i64)
 (CTs.cons (CT.int IntKind.u8)
 (CTs.cons (CT.int IntKind.u8)
 (CTs.cons (CT.int IntKind.u64) (CTs.cons (CT.int IntKind.u64) CTs.nil)))))))))))))),
 PT.list1 (CT.int IntKind.u64), PT.int IntKind.i64, PT.int IntKind.i64, PT.int IntKind.u64, PT.int IntKind.u64,
 PT.int IntKind.u64, PT.list1 (CT.int IntKind.u64),
 PT.list
 (CTs.cons (CT.int IntKind.u64)
 (CTs.cons CT.bool
 (CTs.cons (CT.int IntKind.u8)
 (CTs.cons (CT.int IntKind.u64)
 (CTs.cons (CT.int IntKind.u64)
 (CTs.cons CT.str
 (CTs.cons (CT.ro (CTs.cons CT.str (CTs.cons CT.str CTs.nil)))
 (CTs.cons (CT.int IntKind.u8)
 (CTs.cons (CT.int IntKind.u8)
 (CTs.cons (CT.int IntKind.i64)
 (CTs.cons (CT.int IntKind.u8)
 (CTs.cons (CT.int IntKind.u8)
 (CTs.cons (CT.int IntKind.u64) (CTs.cons (CT.int IntKind.u64) CTs.nil))))))))))))))]
 (Option
 ((Option
 ((Int64 ×
 Int64 ×
 UInt64 ×
 UInt64 ×
 List
 (UInt64 ×
 Bool ×
 UInt8 ×
 UInt64 ×
 UInt64 ×
 List UInt8 ×
 List (List UInt8 × List UInt8) ×
 UInt8 × UInt8 × Int64 × UInt8 × UInt8 × UInt64 × UInt64)) ×
 List UInt64 × UInt64) ×
 Int64) ×
 Unit)))
 (quota_1 : Int64) (o : UInt8) (to : UInt64)
 (t_3 :
 List
 (UInt64 ×
 Bool ×
 UInt8 ×
 UInt64 ×
 UInt64 ×
 List UInt8 ×
 List (List UInt8 × List UInt8) × UInt8 × UInt8 × Int64 × UInt8 × UInt8 × UInt64 × UInt64))
 (t_1_1 t_2_1 : Int64) (ba_1 : List UInt64) (b0_1 b1_1 b2_1 : UInt64)
 (b3_1 :
 List
 (UInt64 ×
 Bool ×
 UInt8 ×
 UInt64 ×
 UInt64 ×
 List UInt8 ×
 List (List UInt8 × List UInt8) × UInt8 × UInt8 × Int64 × UInt8 × UInt8 × UInt64 × UInt64))
 (sa_1 : List UInt64) (s0_1 s1_1 : Int64) (s2_1 s3_1 s5_1 : UInt64) (lasta_1 : List UInt64) (x0 : UInt64) (x1 : Bool)
 (x2 : UInt8) (x3 x4 : UInt64) (x5 : List UInt8) (x6 : List (List UInt8 × List UInt8)) (x7 x8 : UInt8) (x9 : Int64)
 (x10 x11 : UInt8) (x12 x13 : UInt64)
 (sl_1 :
 List
 (UInt64 ×
 Bool ×
 UInt8 ×
 UInt64 ×
 UInt64 ×
 List UInt8 ×
 List (List UInt8 × List UInt8) × UInt8 × UInt8 × Int64 × UInt8 × UInt8 × UInt64 × UInt64)) =>
 oite (decide ((0 : Int) ≤ ↑(UInt8.toNat o)))
 (oite (Nat.blt (Int.toNat ↑(UInt8.toNat o)) (32 : Nat))
 (oite (Nat.blt (Int.toNat ↑(UInt8.toNat o) * (1 : Nat)) (List.length lasta_1))
 (obind (F27 n (x1, x2, x3, x4, x5, x6, x7, x8, x9, x10, x11, x12, x13)) fun (x_6 : Int64 × Unit) =>
 obind (F30 n (x1, x2, x3, x4, x5, x6, x7, x8, x9, x10, x11, x12, x13))
 fun
 (x_7 :
 (Bool ×
 UInt8 ×
 UInt64 ×
 UInt64 ×
 List UInt8 ×
 List (List UInt8 × List UInt8) × UInt8 × UInt8 × Int64 × UInt8 × UInt8 × UInt64 × UInt64) ×
 Unit) =>
 oite
 (Nat.ble
 (List.length sl_1 +
 List.length
 [(x0, x_7.1.1, x_7.1.2.1,
 x_7.1.2.2.1,
 x_7.1.2.2.2.1,
 x_7.1.2.2.2.2.1,
 x_7.1.2.2.2.2.2.1,
 x_7.1.2.2.2.2.2.2.1,
 x_7.1.2.2.2.2.2.2.2.1,
 x_7.1.2.2.2.2.2.2.2.2.1,
 x_7.1.2.2.2.2.2.2.2.2.2.1,
 x_7.1.2.2.2.2.2.2.2.2.2.2.1,
 x_7.1.2.2.2.2.2.2.2.2.2.2.2.1,
 x_7.1.2.2.2.2.2.2.2.2.2.2.2.2)])
 (4294967296 : Nat))
 (rec quota_1 x0 t_3 t_1_1 (t_2_1 + (1 : Int64)) ba_1 b0_1 b1_1 b2_1 b3_1 sa_1 s0_1 (s1_1 + x_6.1)
 s2_1 s3_1 s5_1 (List.set lasta_1 (Int.toNat ↑(UInt8.toNat o) * (1 : Nat)) to)
 (sl_1 ++
 [(x0, x_7.1.1, x_7.1.2.1,
 x_7.1.2.2.1,
 x_7.1.2.2.2.1,
 x_7.1.2.2.2.2.1,
 x_7.1.2.2.2.2.2.1,
 x_7.1.2.2.2.2.2.2.1,
 x_7.1.2.2.2.2.2.2.2.1,
 x_7.1.2.2.2.2.2.2.2.2.1,
 x_7.1.2.2.2.2.2.2.2.2.2.1,
 x_7.1.2.2.2.2.2.2.2.2.2.2.1,
 x_7.1.2.2.2.2.2.2.2.2.2.2.2.1,
 x_7.1.2.2.2.2.2.2.2.2.2.2.2.2)]))
 none)
 none)
 none)
 none
def F19_L2045 : Arr
 [PT.int IntKind.i64, PT.list1 (CT.int IntKind.u64), PT.int IntKind.i64, PT.list1 (CT.int IntKind.u64),
 PT.int IntKind.u64, PT.int IntKind.u64, PT.int IntKind.u64,
 PT.list
 (CTs.cons (CT.int IntKind.u64)
 (CTs.cons CT.bool
 (CTs.cons (CT.int IntKind.u8)
 (CTs.cons (CT.int IntKind.u64)
 (CTs.cons (CT.int IntKind.u64)
 (CTs.cons CT.str
 (CTs.cons (CT.ro (CTs.cons CT.str (CTs.cons CT.str CTs.nil)))
 (CTs.cons (CT.int IntKind.u8)
 (CTs.cons (CT.int IntKind.u8)
 (CTs.cons (CT.int IntKind.i64)
 (CTs.cons (CT.int IntKind.u8)
 (CTs.cons (CT.int IntKind.u8)
 (CTs.cons (CT.int IntKind.u64) (CTs.cons (CT.int IntKind.u64) CTs.nil)))))))))))))),
 PT.list1 (CT.int IntKind.u64), PT.int IntKind.i64, PT.int IntKind.i64, PT.int IntKind.u64, PT.int IntKind.u64,
 PT.int IntKind.u64,
 PT.list
 (CTs.cons (CT.int IntKind.u64)
 (CTs.cons CT.bool
 (CTs.cons (CT.int IntKind.u8)
 (CTs.cons (CT.int IntKind.u64)
 (CTs.cons (CT.int IntKind.u64)
 (CTs.cons CT.str
 (CTs.cons (CT.ro (CTs.cons CT.str (CTs.cons CT.str CTs.nil)))
 (CTs.cons (CT.int IntKind.u8)
 (CTs.cons (CT.int IntKind.u8)
 (CTs.cons (CT.int IntKind.i64)
 (CTs.cons (CT.int IntKind.u8)
 (CTs.cons (CT.int IntKind.u8)
 (CTs.cons (CT.int IntKind.u64) (CTs.cons (CT.int IntKind.u64) CTs.nil))))))))))))))]
 (Option
 ((Option
 ((Int64 ×
 Int64 ×
 UInt64 ×
 UInt64 ×
 List
 (UInt64 ×
 Bool ×
 UInt8 ×
 UInt64 ×
 UInt64 ×
 List UInt8 ×
 List (List UInt8 × List UInt8) ×
 UInt8 × UInt8 × Int64 × UInt8 × UInt8 × UInt64 × UInt64)) ×
 List UInt64 × UInt64) ×
 Int64) ×
 Unit)) →
 Int64 →
 List UInt64 →
 Int64 →
 List UInt64 →
 UInt64 →
 UInt64 →
 UInt64 →
 List
 (UInt64 ×
 Bool ×
 UInt8 ×
 UInt64 ×
 UInt64 ×
 List UInt8 ×
 List (List UInt8 × List UInt8) ×
 UInt8 × UInt8 × Int64 × UInt8 × UInt8 × UInt64 × UInt64) →
 List UInt64 →
 Int64 →
 Int64 →
 UInt64 →
 UInt64 →
 UInt64 →
 List
 (UInt64 ×
 Bool ×
 UInt8 ×
 UInt64 ×
 UInt64 ×
 List UInt8 ×
 List (List UInt8 × List UInt8) ×
 UInt8 × UInt8 × Int64 × UInt8 × UInt8 × UInt64 × UInt64) →
 Option
 ((Option
 ((Int64 ×
 Int64 ×
 UInt64 ×
 UInt64 ×
 List
 (UInt64 ×
 Bool ×
 UInt8 ×
 UInt64 ×
 UInt64 ×
 List UInt8 ×
 List (List UInt8 × List UInt8) ×
 UInt8 ×
 UInt8 × Int64 × UInt8 × UInt8 × UInt64 × UInt64)) ×
 List UInt64 × UInt64) ×
 Int64) ×
 Unit) := fun
 (rec_1 :
 Arr
 [PT.int IntKind.i64, PT.list1 (CT.int IntKind.u64), PT.int IntKind.i64, PT.list1 (CT.int IntKind.u64),
 PT.int IntKind.u64, PT.int IntKind.u64, PT.int IntKind.u64,
 PT.list
 (CTs.cons (CT.int IntKind.u64)
 (CTs.cons CT.bool
 (CTs.cons (CT.int IntKind.u8)
 (CTs.cons (CT.int IntKind.u64)
 (CTs.cons (CT.int IntKind.u64)
 (CTs.cons CT.str
 (CTs.cons (CT.ro (CTs.cons CT.str (CTs.cons CT.str CTs.nil)))
 (CTs.cons (CT.int IntKind.u8)
 (CTs.cons (CT.int IntKind.u8)
 (CTs.cons (CT.int IntKind.i64)
 (CTs.cons (CT.int IntKind.u8)
 (CTs.cons (CT.int IntKind.u8)
 (CTs.cons (CT.int IntKind.u64) (CTs.cons (CT.int IntKind.u64) CTs.nil)))))))))))))),
 PT.list1 (CT.int IntKind.u64), PT.int IntKind.i64, PT.int IntKind.i64, PT.int IntKind.u64, PT.int IntKind.u64,
 PT.int IntKind.u64,
 PT.list
 (CTs.cons (CT.int IntKind.u64)
 (CTs.cons CT.bool
 (CTs.cons (CT.int IntKind.u8)
 (CTs.cons (CT.int IntKind.u64)
 (CTs.cons (CT.int IntKind.u64)
 (CTs.cons CT.str
 (CTs.cons (CT.ro (CTs.cons CT.str (CTs.cons CT.str CTs.nil)))
 (CTs.cons (CT.int IntKind.u8)
 (CTs.cons (CT.int IntKind.u8)
 (CTs.cons (CT.int IntKind.i64)
 (CTs.cons (CT.int IntKind.u8)
 (CTs.cons (CT.int IntKind.u8)
 (CTs.cons (CT.int IntKind.u64) (CTs.cons (CT.int IntKind.u64) CTs.nil))))))))))))))]
 (Option
 ((Option
 ((Int64 ×
 Int64 ×
 UInt64 ×
 UInt64 ×
 List
 (UInt64 ×
 Bool ×
 UInt8 ×
 UInt64 ×
 UInt64 ×
 List UInt8 ×
 List (List UInt8 × List UInt8) ×
 UInt8 × UInt8 × Int64 × UInt8 × UInt8 × UInt64 × UInt64)) ×
 List UInt64 × UInt64) ×
 Int64) ×
 Unit)))
 (quota_1 : Int64) (ta : List UInt64) (t_3 : Int64) (ba_1 : List UInt64) (b0_1 b1_1 b2_1 : UInt64)
 (b3_1 :
 List
 (UInt64 ×
 Bool ×
 UInt8 ×
 UInt64 ×
 UInt64 ×
 List UInt8 ×
 List (List UInt8 × List UInt8) × UInt8 × UInt8 × Int64 × UInt8 × UInt8 × UInt64 × UInt64))
 (sa_1 : List UInt64) (s0_1 s1_1 : Int64) (s2_1 s3_1 s5_1 : UInt64)
 (sl_1 :
 List
 (UInt64 ×
 Bool ×
 UInt8 ×
 UInt64 ×
 UInt64 ×
 List UInt8 ×
 List (List UInt8 × List UInt8) × UInt8 × UInt8 × Int64 × UInt8 × UInt8 × UInt64 × UInt64)) =>
 oite (decide (t_3 < (32 : Int64)))
 (obind (at? ta (Int64.toInt t_3)) fun (x_3 : UInt64) =>
 oite (decide ((0 : UInt64) < x_3))
 (oite (decide ((0 : Int) ≤ Int64.toInt t_3))
 (oite (Nat.blt (Int.toNat (Int64.toInt t_3)) (32 : Nat))
 (obind ba_1[Int.toNat (Int64.toInt t_3) * (1 : Nat)]? fun (x_4 : UInt64) =>
 oite (!decide (x_3 = x_4)) (some ((none, (9 : Int64)), ()))
 (oite (decide ((0 : Int) ≤ Int64.toInt t_3))
 (oite (Nat.blt (Int.toNat (Int64.toInt t_3)) (32 : Nat))
 (obind ba_1[Int.toNat (Int64.toInt t_3) * (1 : Nat)]? fun (x_5 : UInt64) =>
 oite (decide ((1099511627776 : UInt64) < x_5)) (some ((none, (9 : Int64)), ()))
 (rec_1 quota_1 ta (t_3 + (1 : Int64)) ba_1 b0_1 b1_1 b2_1 b3_1 sa_1 s0_1 s1_1 s2_1 s3_1 s5_1
 sl_1))
 none)
 none))
 none)
 none)
 (oite (decide ((0 : Int) ≤ Int64.toInt t_3))
 (oite (Nat.blt (Int.toNat (Int64.toInt t_3)) (32 : Nat))
 (obind ba_1[Int.toNat (Int64.toInt t_3) * (1 : Nat)]? fun (x_4 : UInt64) =>
 oite (decide ((1099511627776 : UInt64) < x_4)) (some ((none, (9 : Int64)), ()))
 (rec_1 quota_1 ta (t_3 + (1 : Int64)) ba_1 b0_1 b1_1 b2_1 b3_1 sa_1 s0_1 s1_1 s2_1 s3_1 s5_1 sl_1))
 none)
 none))
 (oite (decide (quota_1 < s1_1)) (some ((none, (26 : Int64)), ()))
 (some ((some ((s0_1, s1_1, s2_1, s3_1, sl_1), sa_1, s5_1), (0 : Int64)), ())))
def F19_R2045 : Nat →
 PT.T (PT.int IntKind.i64) →
 List UInt64 →
 Int64 →
 List UInt64 →
 UInt64 →
 UInt64 →
 UInt64 →
 List
 (UInt64 ×
 Bool ×
 UInt8 ×
 UInt64 ×
 UInt64 ×
 List UInt8 ×
 List (List UInt8 × List UInt8) ×
 UInt8 × UInt8 × Int64 × UInt8 × UInt8 × UInt64 × UInt64) →
 List UInt64 →
 Int64 →
 Int64 →
 UInt64 →
 UInt64 →
 UInt64 →
 List
 (UInt64 ×
 Bool ×
 UInt8 ×
 UInt64 ×
 UInt64 ×
 List UInt8 ×
 List (List UInt8 × List UInt8) ×
 UInt8 × UInt8 × Int64 × UInt8 × UInt8 × UInt64 × UInt64) →
 Option
 ((Option
 ((Int64 ×
 Int64 ×
 UInt64 ×
 UInt64 ×
 List
 (UInt64 ×
 Bool ×
 UInt8 ×
 UInt64 ×
 UInt64 ×
 List UInt8 ×
 List (List UInt8 × List UInt8) ×
 UInt8 ×
 UInt8 × Int64 × UInt8 × UInt8 × UInt64 × UInt64)) ×
 List UInt64 × UInt64) ×
 Int64) ×
 Unit) := ofixA (2045 : Nat)
 [PT.int IntKind.i64, PT.list1 (CT.int IntKind.u64), PT.int IntKind.i64, PT.list1 (CT.int IntKind.u64),
 PT.int IntKind.u64, PT.int IntKind.u64, PT.int IntKind.u64,
 PT.list
 (CTs.cons (CT.int IntKind.u64)
 (CTs.cons CT.bool
 (CTs.cons (CT.int IntKind.u8)
 (CTs.cons (CT.int IntKind.u64)
 (CTs.cons (CT.int IntKind.u64)
 (CTs.cons CT.str
 (CTs.cons (CT.ro (CTs.cons CT.str (CTs.cons CT.str CTs.nil)))
 (CTs.cons (CT.int IntKind.u8)
 (CTs.cons (CT.int IntKind.u8)
 (CTs.cons (CT.int IntKind.i64)
 (CTs.cons (CT.int IntKind.u8)
 (CTs.cons (CT.int IntKind.u8)
 (CTs.cons (CT.int IntKind.u64) (CTs.cons (CT.int IntKind.u64) CTs.nil)))))))))))))),
 PT.list1 (CT.int IntKind.u64), PT.int IntKind.i64, PT.int IntKind.i64, PT.int IntKind.u64, PT.int IntKind.u64,
 PT.int IntKind.u64,
 PT.list
 (CTs.cons (CT.int IntKind.u64)
 (CTs.cons CT.bool
 (CTs.cons (CT.int IntKind.u8)
 (CTs.cons (CT.int IntKind.u64)
 (CTs.cons (CT.int IntKind.u64)
 (CTs.cons CT.str
 (CTs.cons (CT.ro (CTs.cons CT.str (CTs.cons CT.str CTs.nil)))
 (CTs.cons (CT.int IntKind.u8)
 (CTs.cons (CT.int IntKind.u8)
 (CTs.cons (CT.int IntKind.i64)
 (CTs.cons (CT.int IntKind.u8)
 (CTs.cons (CT.int IntKind.u8)
 (CTs.cons (CT.int IntKind.u64) (CTs.cons (CT.int IntKind.u64) CTs.nil))))))))))))))]
 F19_L2045
def F19_L1021 : Nat →
 Arr
 [PT.int IntKind.i64, PT.int IntKind.u64,
 PT.list
 (CTs.cons (CT.int IntKind.u64)
 (CTs.cons CT.bool
 (CTs.cons (CT.int IntKind.u8)
 (CTs.cons (CT.int IntKind.u64)
 (CTs.cons (CT.int IntKind.u64)
 (CTs.cons CT.str
 (CTs.cons (CT.ro (CTs.cons CT.str (CTs.cons CT.str CTs.nil)))
 (CTs.cons (CT.int IntKind.u8)
 (CTs.cons (CT.int IntKind.u8)
 (CTs.cons (CT.int IntKind.i64)
 (CTs.cons (CT.int IntKind.u8)
 (CTs.cons (CT.int IntKind.u8)
 (CTs.cons (CT.int IntKind.u64) (CTs.cons (CT.int IntKind.u64) CTs.nil)))))))))))))),
 PT.int IntKind.i64, PT.int IntKind.i64, PT.list1 (CT.int IntKind.u64), PT.int IntKind.u64, PT.int IntKind.u64,
 PT.int IntKind.u64,
 PT.list
 (CTs.cons (CT.int IntKind.u64)
 (CTs.cons CT.bool
 (CTs.cons (CT.int IntKind.u8)
 (CTs.cons (CT.int IntKind.u64)
 (CTs.cons (CT.int IntKind.u64)
 (CTs.cons CT.str
 (CTs.cons (CT.ro (CTs.cons CT.str (CTs.cons CT.str CTs.nil)))
 (CTs.cons (CT.int IntKind.u8)
 (CTs.cons (CT.int IntKind.u8)
 (CTs.cons (CT.int IntKind.i64)
 (CTs.cons (CT.int IntKind.u8)
 (CTs.cons (CT.int IntKind.u8)
 (CTs.cons (CT.int IntKind.u64) (CTs.cons (CT.int IntKind.u64) CTs.nil)))))))))))))),
 PT.list1 (CT.int IntKind.u64), PT.int IntKind.i64, PT.int IntKind.i64, PT.int IntKind.u64, PT.int IntKind.u64,
 PT.int IntKind.u64, PT.list1 (CT.int IntKind.u64),
 PT.list
 (CTs.cons (CT.int IntKind.u64)
 (CTs.cons CT.bool
 (CTs.cons (CT.int IntKind.u8)
 (CTs.cons (CT.int IntKind.u64)
 (CTs.cons (CT.int IntKind.u64)
 (CTs.cons CT.str
 (CTs.cons (CT.ro (CTs.cons CT.str (CTs.cons CT.str CTs.nil)))
 (CTs.cons (CT.int IntKind.u8)
 (CTs.cons (CT.int IntKind.u8)
 (CTs.cons (CT.int IntKind.i64)
 (CTs.cons (CT.int IntKind.u8)
 (CTs.cons (CT.int IntKind.u8)
 (CTs.cons (CT.int IntKind.u64) (CTs.cons (CT.int IntKind.u64) CTs.nil))))))))))))))]
 (Option
 ((Option
 ((Int64 ×
 Int64 ×
 UInt64 ×
 UInt64 ×
 List
 (UInt64 ×
 Bool ×
 UInt8 ×
 UInt64 ×
 UInt64 ×
 List UInt8 ×
 List (List UInt8 × List UInt8) ×
 UInt8 × UInt8 × Int64 × UInt8 × UInt8 × UInt64 × UInt64)) ×
 List UInt64 × UInt64) ×
 Int64) ×
 Unit)) →
 Int64 →
 UInt64 →
 List
 (UInt64 ×
 Bool ×
 UInt8 ×
 UInt64 ×
 UInt64 ×
 List UInt8 ×
 List (List UInt8 × List UInt8) × UInt8 × UInt8 × Int64 × UInt8 × UInt8 × UInt64 × UInt64) →
 Int64 →
 Int64 →
 List UInt64 →
 UInt64 →
 UInt64 →
 UInt64 →
 List
 (UInt64 ×
 Bool ×
 UInt8 ×
 UInt64 ×
 UInt64 ×
 List UInt8 ×
 List (List UInt8 × List UInt8) ×
 UInt8 × UInt8 × Int64 × UInt8 × UInt8 × UInt64 × UInt64) →
 List UInt64 →
 Int64 →
 Int64 →
 UInt64 →
 UInt64 →
 UInt64 →
 List UInt64 →
 List
 (UInt64 ×
 Bool ×
 UInt8 ×
 UInt64 ×
 UInt64 ×
 List UInt8 ×
 List (List UInt8 × List UInt8) ×
 UInt8 × UInt8 × Int64 × UInt8 × UInt8 × UInt64 × UInt64) →
 Option
 ((Option
 ((Int64 ×
 Int64 ×
 UInt64 ×
 UInt64 ×
 List
 (UInt64 ×
 Bool ×
 UInt8 ×
 UInt64 ×
 UInt64 ×
 List UInt8 ×
 List (List UInt8 × List UInt8) ×
 UInt8 ×
 UInt8 ×
 Int64 ×
 UInt8 × UInt8 × UInt64 × UInt64)) ×
 List UInt64 × UInt64) ×
 Int64) ×
 Unit) := fun (n : Nat)
 (rec :
 Arr
 [PT.int IntKind.i64, PT.int IntKind.u64,
 PT.list
 (CTs.cons (CT.int IntKind.u64)
 (CTs.cons CT.bool
 (CTs.cons (CT.int IntKind.u8)
 (CTs.cons (CT.int IntKind.u64)
 (CTs.cons (CT.int IntKind.u64)
 (CTs.cons CT.str
 (CTs.cons (CT.ro (CTs.cons CT.str (CTs.cons CT.str CTs.nil)))
 (CTs.cons (CT.int IntKind.u8)
 (CTs.cons (CT.int IntKind.u8)
 (CTs.cons (CT.int IntKind.i64)
 (CTs.cons (CT.int IntKind.u8)
 (CTs.cons (CT.int IntKind.u8)
 (CTs.cons (CT.int IntKind.u64) (CTs.cons (CT.int IntKind.u64) CTs.nil)))))))))))))),
 PT.int IntKind.i64, PT.int IntKind.i64, PT.list1 (CT.int IntKind.u64), PT.int IntKind.u64, PT.int IntKind.u64,
 PT.int IntKind.u64,
 PT.list
 (CTs.cons (CT.int IntKind.u64)
 (CTs.cons CT.bool
 (CTs.cons (CT.int IntKind.u8)
 (CTs.cons (CT.int IntKind.u64)
 (CTs.cons (CT.int IntKind.u64)
 (CTs.cons CT.str
 (CTs.cons (CT.ro (CTs.cons CT.str (CTs.cons CT.str CTs.nil)))
 (CTs.cons (CT.int IntKind.u8)
 (CTs.cons (CT.int IntKind.u8)
 (CTs.cons (CT.int IntKind.i64)
 (CTs.cons (CT.int IntKind.u8)
 (CTs.cons (CT.int IntKind.u8)
 (CTs.cons (CT.int IntKind.u64) (CTs.cons (CT.int IntKind.u64) CTs.nil)))))))))))))),
 PT.list1 (CT.int IntKind.u64), PT.int IntKind.i64, PT.int IntKind.i64, PT.int IntKind.u64, PT.int IntKind.u64,
 PT.int IntKind.u64, PT.list1 (CT.int IntKind.u64),
 PT.list
 (CTs.cons (CT.int IntKind.u64)
 (CTs.cons CT.bool
 (CTs.cons (CT.int IntKind.u8)
 (CTs.cons (CT.int IntKind.u64)
 (CTs.cons (CT.int IntKind.u64)
 (CTs.cons CT.str
 (CTs.cons (CT.ro (CTs.cons CT.str (CTs.cons CT.str CTs.nil)))
 (CTs.cons (CT.int IntKind.u8)
 (CTs.cons (CT.int IntKind.u8)
 (CTs.cons (CT.int IntKind.i64)
 (CTs.cons (CT.int IntKind.u8)
 (CTs.cons (CT.int IntKind.u8)
 (CTs.cons (CT.int IntKind.u64) (CTs.cons (CT.int IntKind.u64) CTs.nil))))))))))))))]
 (Option
 ((Option
 ((Int64 ×
 Int64 ×
 UInt64 ×
 UInt64 ×
 List
 (UInt64 ×
 Bool ×
 UInt8 ×
 UInt64 ×
 UInt64 ×
 List UInt8 ×
 List (List UInt8 × List UInt8) ×
 UInt8 × UInt8 × Int64 × UInt8 × UInt8 × UInt64 × UInt64)) ×
 List UInt64 × UInt64) ×
 Int64) ×
 Unit)))
 (quota : Int64) (index : UInt64)
 (t :
 List
 (UInt64 ×
 Bool ×
 UInt8 ×
 UInt64 ×
 UInt64 ×
 List UInt8 ×
 List (List UInt8 × List UInt8) × UInt8 × UInt8 × Int64 × UInt8 × UInt8 × UInt64 × UInt64))
 (t_1 t_2 : Int64) (ba : List UInt64) (b0 b1 b2 : UInt64)
 (b3 :
 List
 (UInt64 ×
 Bool ×
 UInt8 ×
 UInt64 ×
 UInt64 ×
 List UInt8 ×
 List (List UInt8 × List UInt8) × UInt8 × UInt8 × Int64 × UInt8 × UInt8 × UInt64 × UInt64))
 (sa : List UInt64) (s0 s1 : Int64) (s2 s3 s5 : UInt64) (lasta : List UInt64)
 (sl :
 List
 (UInt64 ×
 Bool ×
 UInt8 ×
 UInt64 ×
 UInt64 ×
 List UInt8 ×
 List (List UInt8 × List UInt8) × UInt8 × UInt8 × Int64 × UInt8 × UInt8 × UInt64 × UInt64)) =>
 oite (decide (t_2 < t_1))
 (obind (at? t (Int64.toInt t_2))
 fun
 (x_3 :
 UInt64 ×
 Bool ×
 UInt8 ×
 UInt64 ×
 UInt64 ×
 List UInt8 ×
 List (List UInt8 × List UInt8) × UInt8 × UInt8 × Int64 × UInt8 × UInt8 × UInt64 × UInt64) =>
 obind
 (F25 n
 (x_3.2.1, x_3.2.2.1, x_3.2.2.2.1,
 x_3.2.2.2.2.1,
 x_3.2.2.2.2.2.1,
 x_3.2.2.2.2.2.2.1,
 x_3.2.2.2.2.2.2.2.1,
 x_3.2.2.2.2.2.2.2.2.1,
 x_3.2.2.2.2.2.2.2.2.2.1,
 x_3.2.2.2.2.2.2.2.2.2.2.1,
 x_3.2.2.2.2.2.2.2.2.2.2.2.1,
 x_3.2.2.2.2.2.2.2.2.2.2.2.2.1,
 x_3.2.2.2.2.2.2.2.2.2.2.2.2.2))
 fun (x_4 : Int64 × Unit) =>
 oite (!decide (x_4.1 = (0 : Int64))) (some ((none, x_4.1), ()))
 (obind
 (F15 n
 (x_3.2.1, x_3.2.2.1,
 x_3.2.2.2.1, x_3.2.2.2.2.1,
 x_3.2.2.2.2.2.1,
 x_3.2.2.2.2.2.2.1,
 x_3.2.2.2.2.2.2.2.1,
 x_3.2.2.2.2.2.2.2.2.1,
 x_3.2.2.2.2.2.2.2.2.2.1,
 x_3.2.2.2.2.2.2.2.2.2.2.1,
 x_3.2.2.2.2.2.2.2.2.2.2.2.1,
 x_3.2.2.2.2.2.2.2.2.2.2.2.2.1,
 x_3.2.2.2.2.2.2.2.2.2.2.2.2.2))
 fun (x_5 : (UInt8 × UInt64 × UInt64) × Unit) =>
 ojoinA (130743 : Nat)
 [PT.int IntKind.i64, PT.int IntKind.u8, PT.int IntKind.u64,
 PT.list
 (CTs.cons (CT.int IntKind.u64)
 (CTs.cons CT.bool
 (CTs.cons (CT.int IntKind.u8)
 (CTs.cons (CT.int IntKind.u64)
 (CTs.cons (CT.int IntKind.u64)
 (CTs.cons CT.str
 (CTs.cons (CT.ro (CTs.cons CT.str (CTs.cons CT.str CTs.nil)))
 (CTs.cons (CT.int IntKind.u8)
 (CTs.cons (CT.int IntKind.u8)
 (CTs.cons (CT.int IntKind.i64)
 (CTs.cons (CT.int IntKind.u8)
 (CTs.cons (CT.int IntKind.u8)
 (CTs.cons (CT.int IntKind.u64)
 (CTs.cons (CT.int IntKind.u64) CTs.nil)))))))))))))),
 PT.int IntKind.i64, PT.int IntKind.i64, PT.list1 (CT.int IntKind.u64), PT.int IntKind.u64,
 PT.int IntKind.u64, PT.int IntKind.u64,
 PT.list
 (CTs.cons (CT.int IntKind.u64)
 (CTs.cons CT.bool
 (CTs.cons (CT.int IntKind.u8)
 (CTs.cons (CT.int IntKind.u64)
 (CTs.cons (CT.int IntKind.u64)
 (CTs.cons CT.str
 (CTs.cons (CT.ro (CTs.cons CT.str (CTs.cons CT.str CTs.nil)))
 (CTs.cons (CT.int IntKind.u8)
 (CTs.cons (CT.int IntKind.u8)
 (CTs.cons (CT.int IntKind.i64)
 (CTs.cons (CT.int IntKind.u8)
 (CTs.cons (CT.int IntKind.u8)
 (CTs.cons (CT.int IntKind.u64)
 (CTs.cons (CT.int IntKind.u64) CTs.nil)))))))))))))),
 PT.list1 (CT.int IntKind.u64), PT.int IntKind.i64, PT.int IntKind.i64, PT.int IntKind.u64,
 PT.int IntKind.u64, PT.int IntKind.u64, PT.list1 (CT.int IntKind.u64), PT.int IntKind.u64, PT.bool,
 PT.int IntKind.u8, PT.int IntKind.u64, PT.int IntKind.u64, PT.bytes,
 PT.list (CTs.cons CT.str (CTs.cons CT.str CTs.nil)), PT.int IntKind.u8, PT.int IntKind.u8,
 PT.int IntKind.i64, PT.int IntKind.u8, PT.int IntKind.u8, PT.int IntKind.u64, PT.int IntKind.u64,
 PT.list
 (CTs.cons (CT.int IntKind.u64)
 (CTs.cons CT.bool
 (CTs.cons (CT.int IntKind.u8)
 (CTs.cons (CT.int IntKind.u64)
 (CTs.cons (CT.int IntKind.u64)
 (CTs.cons CT.str
 (CTs.cons (CT.ro (CTs.cons CT.str (CTs.cons CT.str CTs.nil)))
 (CTs.cons (CT.int IntKind.u8)
 (CTs.cons (CT.int IntKind.u8)
 (CTs.cons (CT.int IntKind.i64)
 (CTs.cons (CT.int IntKind.u8)
 (CTs.cons (CT.int IntKind.u8)
 (CTs.cons (CT.int IntKind.u64)
 (CTs.cons (CT.int IntKind.u64) CTs.nil))))))))))))))]
 (fun
 (J :
 Arr
 [PT.int IntKind.i64, PT.int IntKind.u8, PT.int IntKind.u64,
 PT.list
 (CTs.cons (CT.int IntKind.u64)
 (CTs.cons CT.bool
 (CTs.cons (CT.int IntKind.u8)
 (CTs.cons (CT.int IntKind.u64)
 (CTs.cons (CT.int IntKind.u64)
 (CTs.cons CT.str
 (CTs.cons (CT.ro (CTs.cons CT.str (CTs.cons CT.str CTs.nil)))
 (CTs.cons (CT.int IntKind.u8)
 (CTs.cons (CT.int IntKind.u8)
 (CTs.cons (CT.int IntKind.i64)
 (CTs.cons (CT.int IntKind.u8)
 (CTs.cons (CT.int IntKind.u8)
 (CTs.cons (CT.int IntKind.u64)
 (CTs.cons (CT.int IntKind.u64) CTs.nil)))))))))))))),
 PT.int IntKind.i64, PT.int IntKind.i64, PT.list1 (CT.int IntKind.u64), PT.int IntKind.u64,
 PT.int IntKind.u64, PT.int IntKind.u64,
 PT.list
 (CTs.cons (CT.int IntKind.u64)
 (CTs.cons CT.bool
 (CTs.cons (CT.int IntKind.u8)
 (CTs.cons (CT.int IntKind.u64)
 (CTs.cons (CT.int IntKind.u64)
 (CTs.cons CT.str
 (CTs.cons (CT.ro (CTs.cons CT.str (CTs.cons CT.str CTs.nil)))
 (CTs.cons (CT.int IntKind.u8)
 (CTs.cons (CT.int IntKind.u8)
 (CTs.cons (CT.int IntKind.i64)
 (CTs.cons (CT.int IntKind.u8)
 (CTs.cons (CT.int IntKind.u8)
 (CTs.cons (CT.int IntKind.u64)
 (CTs.cons (CT.int IntKind.u64) CTs.nil)))))))))))))),
 PT.list1 (CT.int IntKind.u64), PT.int IntKind.i64, PT.int IntKind.i64, PT.int IntKind.u64,
 PT.int IntKind.u64, PT.int IntKind.u64, PT.list1 (CT.int IntKind.u64), PT.int IntKind.u64,
 PT.bool, PT.int IntKind.u8, PT.int IntKind.u64, PT.int IntKind.u64, PT.bytes,
 PT.list (CTs.cons CT.str (CTs.cons CT.str CTs.nil)), PT.int IntKind.u8, PT.int IntKind.u8,
 PT.int IntKind.i64, PT.int IntKind.u8, PT.int IntKind.u8, PT.int IntKind.u64,
 PT.int IntKind.u64,
 PT.list
 (CTs.cons (CT.int IntKind.u64)
 (CTs.cons CT.bool
 (CTs.cons (CT.int IntKind.u8)
 (CTs.cons (CT.int IntKind.u64)
 (CTs.cons (CT.int IntKind.u64)
 (CTs.cons CT.str
 (CTs.cons (CT.ro (CTs.cons CT.str (CTs.cons CT.str CTs.nil)))
 (CTs.cons (CT.int IntKind.u8)
 (CTs.cons (CT.int IntKind.u8)
 (CTs.cons (CT.int IntKind.i64)
 (CTs.cons (CT.int IntKind.u8)
 (CTs.cons (CT.int IntKind.u8)
 (CTs.cons (CT.int IntKind.u64)
 (CTs.cons (CT.int IntKind.u64) CTs.nil))))))))))))))]
 (Option
 ((Option
 ((Int64 ×
 Int64 ×
 UInt64 ×
 UInt64 ×
 List
 (UInt64 ×
 Bool ×
 UInt8 ×
 UInt64 ×
 UInt64 ×
 List UInt8 ×
 List (List UInt8 × List UInt8) ×
 UInt8 × UInt8 × Int64 × UInt8 × UInt8 × UInt64 × UInt64)) ×
 List UInt64 × UInt64) ×
 Int64) ×
 Unit))) =>
 oite (decide (x_3.1 ≤ index)) (some ((none, (9 : Int64)), ()))
 (oite (decide (b0 ≤ x_3.1)) (some ((none, (9 : Int64)), ()))
 (oite (decide ((0 : Int) ≤ ↑(UInt8.toNat x_5.1.1)))
 (oite (Nat.blt (Int.toNat ↑(UInt8.toNat x_5.1.1)) (32 : Nat))
 (obind lasta[Int.toNat ↑(UInt8.toNat x_5.1.1) * (1 : Nat)]?
 fun (x_6 : UInt64) =>
 oite (decide ((0 : UInt64) < x_6))
 (oite (decide ((0 : Int) ≤ ↑(UInt8.toNat x_5.1.1)))
 (oite (Nat.blt (Int.toNat ↑(UInt8.toNat x_5.1.1)) (32 : Nat))
 (obind lasta[Int.toNat ↑(UInt8.toNat x_5.1.1) * (1 : Nat)]?
 fun (x_7 : UInt64) =>
 oite (!decide (x_5.1.2.1 = x_7 + (1 : UInt64)))
 (some ((none, (9 : Int64)), ()))
 (oite (decide ((0 : Int) ≤ ↑(UInt8.toNat x_5.1.1)))
 (oite (Nat.blt (Int.toNat ↑(UInt8.toNat x_5.1.1)) (32 : Nat))
 (obind ba[Int.toNat ↑(UInt8.toNat x_5.1.1) * (1 : Nat)]?
 fun (x_8 : UInt64) =>
 oite (decide (x_8 < x_5.1.2.2))
 (some ((none, (9 : Int64)), ()))
 (J quota x_5.1.1 x_5.1.2.2 t
 t_1 t_2 ba b0 b1 b2 b3 sa s0 s1 s2 s3 s5 lasta x_3.1
 x_3.2.1 x_3.2.2.1
 x_3.2.2.2.1
 x_3.2.2.2.2.1
 x_3.2.2.2.2.2.1
 x_3.2.2.2.2.2.2.1
 x_3.2.2.2.2.2.2.2.1
 x_3.2.2.2.2.2.2.2.2.1
 x_3.2.2.2.2.2.2.2.2.2.1
 x_3.2.2.2.2.2.2.2.2.2.2.1
 x_3.2.2.2.2.2.2.2.2.2.2.2.1
 x_3.2.2.2.2.2.2.2.2.2.2.2.2.1
 x_3.2.2.2.2.2.2.2.2.2.2.2.2.2
 sl))
 none)
 none))
 none)
 none)
 (oite (decide ((0 : Int) ≤ ↑(UInt8.toNat x_5.1.1)))
 (oite (Nat.blt (Int.toNat ↑(UInt8.toNat x_5.1.1)) (32 : Nat))
 (obind ba[Int.toNat ↑(UInt8.toNat x_5.1.1) * (1 : Nat)]?
 fun (x_7 : UInt64) =>
 oite (decide (x_7 < x_5.1.2.2))
 (some ((none, (9 : Int64)), ()))
 (J quota x_5.1.1 x_5.1.2.2 t t_1 t_2 ba
 b0 b1 b2 b3 sa s0 s1 s2 s3 s5 lasta x_3.1 x_3.2.1
 x_3.2.2.1
 x_3.2.2.2.1
 x_3.2.2.2.2.1
 x_3.2.2.2.2.2.1
 x_3.2.2.2.2.2.2.1
 x_3.2.2.2.2.2.2.2.1
 x_3.2.2.2.2.2.2.2.2.1
 x_3.2.2.2.2.2.2.2.2.2.1
 x_3.2.2.2.2.2.2.2.2.2.2.1
 x_3.2.2.2.2.2.2.2.2.2.2.2.1
 x_3.2.2.2.2.2.2.2.2.2.2.2.2.1
 x_3.2.2.2.2.2.2.2.2.2.2.2.2.2
 sl))
 none)
 none))
 none)
 none)))
 (F19_J130743 n rec)))
 (F19_R2045 n quota lasta (0 : Int64) ba b0 b1 b2 b3 sa s0 s1 s2 s3 s5 sl)
def F19_R1021 : Nat →
 Nat →
 PT.T (PT.int IntKind.i64) →
 UInt64 →
 List
 (UInt64 ×
 Bool ×
 UInt8 ×
 UInt64 ×
 UInt64 ×
 List UInt8 ×
 List (List UInt8 × List UInt8) × UInt8 × UInt8 × Int64 × UInt8 × UInt8 × UInt64 × UInt64) →
 Int64 →
 Int64 →
 List UInt64 →
 UInt64 →
 UInt64 →
 UInt64 →
 List
 (UInt64 ×
 Bool ×
 UInt8 ×
 UInt64 ×
 UInt64 ×
 List UInt8 ×
 List (List UInt8 × List UInt8) ×
 UInt8 × UInt8 × Int64 × UInt8 × UInt8 × UInt64 × UInt64) →
 List UInt64 →
 Int64 →
 Int64 →
 UInt64 →
 UInt64 →
 UInt64 →
 List UInt64 →
 List
 (UInt64 ×
 Bool ×
 UInt8 ×
 UInt64 ×
 UInt64 ×
 List UInt8 ×
 List (List UInt8 × List UInt8) ×
 UInt8 × UInt8 × Int64 × UInt8 × UInt8 × UInt64 × UInt64) →
 Option
 ((Option
 ((Int64 ×
 Int64 ×
 UInt64 ×
 UInt64 ×
 List
 (UInt64 ×
 Bool ×
 UInt8 ×
 UInt64 ×
 UInt64 ×
 List UInt8 ×
 List (List UInt8 × List UInt8) ×
 UInt8 ×
 UInt8 ×
 Int64 ×
 UInt8 × UInt8 × UInt64 × UInt64)) ×
 List UInt64 × UInt64) ×
 Int64) ×
 Unit) := fun (n : Nat) =>
 ofixA (1021 : Nat)
 [PT.int IntKind.i64, PT.int IntKind.u64,
 PT.list
 (CTs.cons (CT.int IntKind.u64)
 (CTs.cons CT.bool
 (CTs.cons (CT.int IntKind.u8)
 (CTs.cons (CT.int IntKind.u64)
 (CTs.cons (CT.int IntKind.u64)
 (CTs.cons CT.str
 (CTs.cons (CT.ro (CTs.cons CT.str (CTs.cons CT.str CTs.nil)))
 (CTs.cons (CT.int IntKind.u8)
 (CTs.cons (CT.int IntKind.u8)
 (CTs.cons (CT.int IntKind.i64)
 (CTs.cons (CT.int IntKind.u8)
 (CTs.cons (CT.int IntKind.u8)
 (CTs.cons (CT.int IntKind.u64) (CTs.cons (CT.int IntKind.u64) CTs.nil)))))))))))))),
 PT.int IntKind.i64, PT.int IntKind.i64, PT.list1 (CT.int IntKind.u64), PT.int IntKind.u64, PT.int IntKind.u64,
 PT.int IntKind.u64,
 PT.list
 (CTs.cons (CT.int IntKind.u64)
 (CTs.cons CT.bool
 (CTs.cons (CT.int IntKind.u8)
 (CTs.cons (CT.int IntKind.u64)
 (CTs.cons (CT.int IntKind.u64)
 (CTs.cons CT.str
 (CTs.cons (CT.ro (CTs.cons CT.str (CTs.cons CT.str CTs.nil)))
 (CTs.cons (CT.int IntKind.u8)
 (CTs.cons (CT.int IntKind.u8)
 (CTs.cons (CT.int IntKind.i64)
 (CTs.cons (CT.int IntKind.u8)
 (CTs.cons (CT.int IntKind.u8)
 (CTs.cons (CT.int IntKind.u64) (CTs.cons (CT.int IntKind.u64) CTs.nil)))))))))))))),
 PT.list1 (CT.int IntKind.u64), PT.int IntKind.i64, PT.int IntKind.i64, PT.int IntKind.u64, PT.int IntKind.u64,
 PT.int IntKind.u64, PT.list1 (CT.int IntKind.u64),
 PT.list
 (CTs.cons (CT.int IntKind.u64)
 (CTs.cons CT.bool
 (CTs.cons (CT.int IntKind.u8)
 (CTs.cons (CT.int IntKind.u64)
 (CTs.cons (CT.int IntKind.u64)
 (CTs.cons CT.str
 (CTs.cons (CT.ro (CTs.cons CT.str (CTs.cons CT.str CTs.nil)))
 (CTs.cons (CT.int IntKind.u8)
 (CTs.cons (CT.int IntKind.u8)
 (CTs.cons (CT.int IntKind.i64)
 (CTs.cons (CT.int IntKind.u8)
 (CTs.cons (CT.int IntKind.u8)
 (CTs.cons (CT.int IntKind.u64) (CTs.cons (CT.int IntKind.u64) CTs.nil))))))))))))))]
 (F19_L1021 n)
def F19 : Nat →
 Int64 ×
 UInt64 ×
 UInt64 ×
 UInt64 ×
 UInt64 ×
 UInt64 ×
 UInt64 ×
 UInt64 ×
 UInt64 ×
 UInt64 ×
 UInt64 ×
 UInt64 ×
 UInt64 ×
 UInt64 ×
 UInt64 ×
 UInt64 ×
 UInt64 ×
 UInt64 ×
 UInt64 ×
 UInt64 ×
 UInt64 ×
 UInt64 ×
 UInt64 ×
 UInt64 ×
 UInt64 ×
 UInt64 ×
 UInt64 ×
 UInt64 ×
 UInt64 ×
 UInt64 ×
 UInt64 ×
 UInt64 ×
 UInt64 ×
 UInt64 ×
 UInt64 ×
 UInt64 ×
 List
 (UInt64 ×
 Bool ×
 UInt8 ×
 UInt64 ×
 UInt64 ×
 List UInt8 ×
 List
 (List UInt8 ×
 List UInt8) ×
 UInt8 ×
 UInt8 ×
 Int64 ×
 UInt8 ×
 UInt8 ×
 UInt64 × UInt64) →
 Option
 ((Option
 ((Int64 ×
 Int64 ×
 UInt64 ×
 UInt64 ×
 List
 (UInt64 ×
 Bool ×
 UInt8 ×
 UInt64 ×
 UInt64 ×
 List UInt8 ×
 List (List UInt8 × List UInt8) ×
 UInt8 × UInt8 × Int64 × UInt8 × UInt8 × UInt64 × UInt64)) ×
 List UInt64 × UInt64) ×
 Int64) ×
 Unit) := fun (n : Nat)
 (x :
 Int64 ×
 UInt64 ×
 UInt64 ×
 UInt64 ×
 UInt64 ×
 UInt64 ×
 UInt64 ×
 UInt64 ×
 UInt64 ×
 UInt64 ×
 UInt64 ×
 UInt64 ×
 UInt64 ×
 UInt64 ×
 UInt64 ×
 UInt64 ×
 UInt64 ×
 UInt64 ×
 UInt64 ×
 UInt64 ×
 UInt64 ×
 UInt64 ×
 UInt64 ×
 UInt64 ×
 UInt64 ×
 UInt64 ×
 UInt64 ×
 UInt64 ×
 UInt64 ×
 UInt64 ×
 UInt64 ×
 UInt64 ×
 UInt64 ×
 UInt64 ×
 UInt64 ×
 UInt64 ×
 List
 (UInt64 ×
 Bool ×
 UInt8 ×
 UInt64 ×
 UInt64 ×
 List UInt8 ×
 List
 (List UInt8 ×
 List UInt8) ×
 UInt8 ×
 UInt8 ×
 Int64 ×
 UInt8 ×
 UInt8 ×
 UInt64 ×
 UInt64)) =>
 obind (F8 n x.1)
 fun
 (x_1 :
 (Option
 ((Int64 ×
 Int64 ×
 UInt64 ×
 UInt64 ×
 List
 (UInt64 ×
 Bool ×
 UInt8 ×
 UInt64 ×
 UInt64 ×
 List UInt8 ×
 List (List UInt8 × List UInt8) ×
 UInt8 × UInt8 × Int64 × UInt8 × UInt8 × UInt64 × UInt64)) ×
 List UInt64 × UInt64) ×
 Int64) ×
 Unit) =>
 oite (!decide (x_1.1.2 = (0 : Int64))) (some ((none, x_1.1.2), ()))
 (oite (decide (x.2.1 < (1 : UInt64))) (some ((none, (6 : Int64)), ()))
 (oite (decide ((1099511627776 : UInt64) < x.2.1)) (some ((none, (6 : Int64)), ()))
 (oite (decide (x.2.1 ≤ x.2.2.1))
 (some ((none, (6 : Int64)), ()))
 (oite
 (decide
 (x.1 <
 Int64.ofInt
 ↑(List.length
 (Prod.snd (Prod.snd (Prod.snd (Prod.snd (Prod.snd (Prod.snd (Prod.snd (Prod.snd (Prod.snd (Prod.snd (Prod.snd (Prod.snd (Prod.snd (Prod.snd (Prod.snd (Prod.snd (Prod.snd (Prod.snd (Prod.snd (Prod.snd (Prod.snd (Prod.snd (Prod.snd (Prod.snd (Prod.snd (Prod.snd (Prod.snd (Prod.snd (Prod.snd (Prod.snd (Prod.snd (Prod.snd (Prod.snd (Prod.snd (Prod.snd (Prod.snd
 x)))))))))))))))))))))))))))))))))))))))
 (some ((none, (6 : Int64)), ()))
 (obind x_1.1.1
 fun
 (x_2 :
 (Int64 ×
 Int64 ×
 UInt64 ×
 UInt64 ×
 List
 (UInt64 ×
 Bool ×
 UInt8 ×
 UInt64 ×
 UInt64 ×
 List UInt8 ×
 List (List UInt8 × List UInt8) ×
 UInt8 × UInt8 × Int64 × UInt8 × UInt8 × UInt64 × UInt64)) ×
 List UInt64 × UInt64) =>
 F19_R1021 n n x.1 x.2.2.1
 (Prod.snd (Prod.snd (Prod.snd (Prod.snd (Prod.snd (Prod.snd (Prod.snd (Prod.snd (Prod.snd (Prod.snd (Prod.snd (Prod.snd (Prod.snd (Prod.snd (Prod.snd (Prod.snd (Prod.snd (Prod.snd (Prod.snd (Prod.snd (Prod.snd (Prod.snd (Prod.snd (Prod.snd (Prod.snd (Prod.snd (Prod.snd (Prod.snd (Prod.snd (Prod.snd (Prod.snd (Prod.snd (Prod.snd (Prod.snd (Prod.snd (Prod.snd
 x))))))))))))))))))))))))))))))))))))
 (Int64.ofInt
 ↑(List.length
 (Prod.snd (Prod.snd (Prod.snd (Prod.snd (Prod.snd (Prod.snd (Prod.snd (Prod.snd (Prod.snd (Prod.snd (Prod.snd (Prod.snd (Prod.snd (Prod.snd (Prod.snd (Prod.snd (Prod.snd (Prod.snd (Prod.snd (Prod.snd (Prod.snd (Prod.snd (Prod.snd (Prod.snd (Prod.snd (Prod.snd (Prod.snd (Prod.snd (Prod.snd (Prod.snd (Prod.snd (Prod.snd (Prod.snd (Prod.snd (Prod.snd (Prod.snd
 x))))))))))))))))))))))))))))))))))))))
 (0 : Int64)
 [x.2.2.2.2.1,
 x.2.2.2.2.2.1,
 x.2.2.2.2.2.2.1,
 x.2.2.2.2.2.2.2.1,
 x.2.2.2.2.2.2.2.2.1,
 x.2.2.2.2.2.2.2.2.2.1,
 x.2.2.2.2.2.2.2.2.2.2.1,
 x.2.2.2.2.2.2.2.2.2.2.2.1,
 x.2.2.2.2.2.2.2.2.2.2.2.2.1,
 x.2.2.2.2.2.2.2.2.2.2.2.2.2.1,
 x.2.2.2.2.2.2.2.2.2.2.2.2.2.2.1,
 x.2.2.2.2.2.2.2.2.2.2.2.2.2.2.2.1,
 x.2.2.2.2.2.2.2.2.2.2.2.2.2.2.2.2.1,
 x.2.2.2.2.2.2.2.2.2.2.2.2.2.2.2.2.2.1,
 x.2.2.2.2.2.2.2.2.2.2.2.2.2.2.2.2.2.2.1,
 x.2.2.2.2.2.2.2.2.2.2.2.2.2.2.2.2.2.2.2.1,
 x.2.2.2.2.2.2.2.2.2.2.2.2.2.2.2.2.2.2.2.2.1,
 x.2.2.2.2.2.2.2.2.2.2.2.2.2.2.2.2.2.2.2.2.2.1,
 x.2.2.2.2.2.2.2.2.2.2.2.2.2.2.2.2.2.2.2.2.2.2.1,
 x.2.2.2.2.2.2.2.2.2.2.2.2.2.2.2.2.2.2.2.2.2.2.2.1,
 x.2.2.2.2.2.2.2.2.2.2.2.2.2.2.2.2.2.2.2.2.2.2.2.2.1,
 x.2.2.2.2.2.2.2.2.2.2.2.2.2.2.2.2.2.2.2.2.2.2.2.2.2.1,
 x.2.2.2.2.2.2.2.2.2.2.2.2.2.2.2.2.2.2.2.2.2.2.2.2.2.2.1,
 Prod.fst (Prod.snd (Prod.snd (Prod.snd (Prod.snd (Prod.snd (Prod.snd (Prod.snd (Prod.snd (Prod.snd (Prod.snd (Prod.snd (Prod.snd (Prod.snd (Prod.snd (Prod.snd (Prod.snd (Prod.snd (Prod.snd (Prod.snd (Prod.snd (Prod.snd (Prod.snd (Prod.snd (Prod.snd (Prod.snd (Prod.snd
 x.2)))))))))))))))))))))))))),
 Prod.fst (Prod.snd (Prod.snd (Prod.snd (Prod.snd (Prod.snd (Prod.snd (Prod.snd (Prod.snd (Prod.snd (Prod.snd (Prod.snd (Prod.snd (Prod.snd (Prod.snd (Prod.snd (Prod.snd (Prod.snd (Prod.snd (Prod.snd (Prod.snd (Prod.snd (Prod.snd (Prod.snd (Prod.snd (Prod.snd (Prod.snd (Prod.snd
 x.2))))))))))))))))))))))))))),
 Prod.fst (Prod.snd (Prod.snd (Prod.snd (Prod.snd (Prod.snd (Prod.snd (Prod.snd (Prod.snd (Prod.snd (Prod.snd (Prod.snd (Prod.snd (Prod.snd (Prod.snd (Prod.snd (Prod.snd (Prod.snd (Prod.snd (Prod.snd (Prod.snd (Prod.snd (Prod.snd (Prod.snd (Prod.snd (Prod.snd (Prod.snd (Prod.snd (Prod.snd
 x.2)))))))))))))))))))))))))))),
 Prod.fst (Prod.snd (Prod.snd (Prod.snd (Prod.snd (Prod.snd (Prod.snd (Prod.snd (Prod.snd (Prod.snd (Prod.snd (Prod.snd (Prod.snd (Prod.snd (Prod.snd (Prod.snd (Prod.snd (Prod.snd (Prod.snd (Prod.snd (Prod.snd (Prod.snd (Prod.snd (Prod.snd (Prod.snd (Prod.snd (Prod.snd (Prod.snd (Prod.snd (Prod.snd (Prod.snd
 x)))))))))))))))))))))))))))))),
 Prod.fst (Prod.snd (Prod.snd (Prod.snd (Prod.snd (Prod.snd (Prod.snd (Prod.snd (Prod.snd (Prod.snd (Prod.snd (Prod.snd (Prod.snd (Prod.snd (Prod.snd (Prod.snd (Prod.snd (Prod.snd (Prod.snd (Prod.snd (Prod.snd (Prod.snd (Prod.snd (Prod.snd (Prod.snd (Prod.snd (Prod.snd (Prod.snd (Prod.snd (Prod.snd (Prod.snd (Prod.snd
 x))))))))))))))))))))))))))))))),
 Prod.fst (Prod.snd (Prod.snd (Prod.snd (Prod.snd (Prod.snd (Prod.snd (Prod.snd (Prod.snd (Prod.snd (Prod.snd (Prod.snd (Prod.snd (Prod.snd (Prod.snd (Prod.snd (Prod.snd (Prod.snd (Prod.snd (Prod.snd (Prod.snd (Prod.snd (Prod.snd (Prod.snd (Prod.snd (Prod.snd (Prod.snd (Prod.snd (Prod.snd (Prod.snd (Prod.snd (Prod.snd (Prod.snd
 x)))))))))))))))))))))))))))))))),
 Prod.fst (Prod.snd (Prod.snd (Prod.snd (Prod.snd (Prod.snd (Prod.snd (Prod.snd (Prod.snd (Prod.snd (Prod.snd (Prod.snd (Prod.snd (Prod.snd (Prod.snd (Prod.snd (Prod.snd (Prod.snd (Prod.snd (Prod.snd (Prod.snd (Prod.snd (Prod.snd (Prod.snd (Prod.snd (Prod.snd (Prod.snd (Prod.snd (Prod.snd (Prod.snd (Prod.snd (Prod.snd (Prod.snd (Prod.snd
 x))))))))))))))))))))))))))))))))),
 Prod.fst (Prod.snd (Prod.snd (Prod.snd (Prod.snd (Prod.snd (Prod.snd (Prod.snd (Prod.snd (Prod.snd (Prod.snd (Prod.snd (Prod.snd (Prod.snd (Prod.snd (Prod.snd (Prod.snd (Prod.snd (Prod.snd (Prod.snd (Prod.snd (Prod.snd (Prod.snd (Prod.snd (Prod.snd (Prod.snd (Prod.snd (Prod.snd (Prod.snd (Prod.snd (Prod.snd (Prod.snd (Prod.snd (Prod.snd (Prod.snd
 x)))))))))))))))))))))))))))))))))),
 Prod.fst (Prod.snd (Prod.snd (Prod.snd (Prod.snd (Prod.snd (Prod.snd (Prod.snd (Prod.snd (Prod.snd (Prod.snd (Prod.snd (Prod.snd (Prod.snd (Prod.snd (Prod.snd (Prod.snd (Prod.snd (Prod.snd (Prod.snd (Prod.snd (Prod.snd (Prod.snd (Prod.snd (Prod.snd (Prod.snd (Prod.snd (Prod.snd (Prod.snd (Prod.snd (Prod.snd (Prod.snd (Prod.snd (Prod.snd (Prod.snd (Prod.snd
 x)))))))))))))))))))))))))))))))))))]
 x.2.1 x.2.2.1
 x.2.2.2.1
 (Prod.snd (Prod.snd (Prod.snd (Prod.snd (Prod.snd (Prod.snd (Prod.snd (Prod.snd (Prod.snd (Prod.snd (Prod.snd (Prod.snd (Prod.snd (Prod.snd (Prod.snd (Prod.snd (Prod.snd (Prod.snd (Prod.snd (Prod.snd (Prod.snd (Prod.snd (Prod.snd (Prod.snd (Prod.snd (Prod.snd (Prod.snd (Prod.snd (Prod.snd (Prod.snd (Prod.snd (Prod.snd (Prod.snd (Prod.snd (Prod.snd (Prod.snd
 x))))))))))))))))))))))))))))))))))))
 [x.2.2.2.2.1,
 x.2.2.2.2.2.1,
 x.2.2.2.2.2.2.1,
 x.2.2.2.2.2.2.2.1,
 x.2.2.2.2.2.2.2.2.1,
 x.2.2.2.2.2.2.2.2.2.1,
 x.2.2.2.2.2.2.2.2.2.2.1,
 x.2.2.2.2.2.2.2.2.2.2.2.1,
 x.2.2.2.2.2.2.2.2.2.2.2.2.1,
 x.2.2.2.2.2.2.2.2.2.2.2.2.2.1,
 x.2.2.2.2.2.2.2.2.2.2.2.2.2.2.1,
 x.2.2.2.2.2.2.2.2.2.2.2.2.2.2.2.1,
 x.2.2.2.2.2.2.2.2.2.2.2.2.2.2.2.2.1,
 x.2.2.2.2.2.2.2.2.2.2.2.2.2.2.2.2.2.1,
 x.2.2.2.2.2.2.2.2.2.2.2.2.2.2.2.2.2.2.1,
 x.2.2.2.2.2.2.2.2.2.2.2.2.2.2.2.2.2.2.2.1,
 x.2.2.2.2.2.2.2.2.2.2.2.2.2.2.2.2.2.2.2.2.1,
 x.2.2.2.2.2.2.2.2.2.2.2.2.2.2.2.2.2.2.2.2.2.1,
 x.2.2.2.2.2.2.2.2.2.2.2.2.2.2.2.2.2.2.2.2.2.2.1,
 x.2.2.2.2.2.2.2.2.2.2.2.2.2.2.2.2.2.2.2.2.2.2.2.1,
 x.2.2.2.2.2.2.2.2.2.2.2.2.2.2.2.2.2.2.2.2.2.2.2.2.1,
 x.2.2.2.2.2.2.2.2.2.2.2.2.2.2.2.2.2.2.2.2.2.2.2.2.2.1,
 x.2.2.2.2.2.2.2.2.2.2.2.2.2.2.2.2.2.2.2.2.2.2.2.2.2.2.1,
 Prod.fst (Prod.snd (Prod.snd (Prod.snd (Prod.snd (Prod.snd (Prod.snd (Prod.snd (Prod.snd (Prod.snd (Prod.snd (Prod.snd (Prod.snd (Prod.snd (Prod.snd (Prod.snd (Prod.snd (Prod.snd (Prod.snd (Prod.snd (Prod.snd (Prod.snd (Prod.snd (Prod.snd (Prod.snd (Prod.snd (Prod.snd
 x.2)))))))))))))))))))))))))),
 Prod.fst (Prod.snd (Prod.snd (Prod.snd (Prod.snd (Prod.snd (Prod.snd (Prod.snd (Prod.snd (Prod.snd (Prod.snd (Prod.snd (Prod.snd (Prod.snd (Prod.snd (Prod.snd (Prod.snd (Prod.snd (Prod.snd (Prod.snd (Prod.snd (Prod.snd (Prod.snd (Prod.snd (Prod.snd (Prod.snd (Prod.snd (Prod.snd
 x.2))))))))))))))))))))))))))),
 Prod.fst (Prod.snd (Prod.snd (Prod.snd (Prod.snd (Prod.snd (Prod.snd (Prod.snd (Prod.snd (Prod.snd (Prod.snd (Prod.snd (Prod.snd (Prod.snd (Prod.snd (Prod.snd (Prod.snd (Prod.snd (Prod.snd (Prod.snd (Prod.snd (Prod.snd (Prod.snd (Prod.snd (Prod.snd (Prod.snd (Prod.snd (Prod.snd (Prod.snd
 x.2)))))))))))))))))))))))))))),
 Prod.fst (Prod.snd (Prod.snd (Prod.snd (Prod.snd (Prod.snd (Prod.snd (Prod.snd (Prod.snd (Prod.snd (Prod.snd (Prod.snd (Prod.snd (Prod.snd (Prod.snd (Prod.snd (Prod.snd (Prod.snd (Prod.snd (Prod.snd (Prod.snd (Prod.snd (Prod.snd (Prod.snd (Prod.snd (Prod.snd (Prod.snd (Prod.snd (Prod.snd (Prod.snd (Prod.snd
 x)))))))))))))))))))))))))))))),
 Prod.fst (Prod.snd (Prod.snd (Prod.snd (Prod.snd (Prod.snd (Prod.snd (Prod.snd (Prod.snd (Prod.snd (Prod.snd (Prod.snd (Prod.snd (Prod.snd (Prod.snd (Prod.snd (Prod.snd (Prod.snd (Prod.snd (Prod.snd (Prod.snd (Prod.snd (Prod.snd (Prod.snd (Prod.snd (Prod.snd (Prod.snd (Prod.snd (Prod.snd (Prod.snd (Prod.snd (Prod.snd
 x))))))))))))))))))))))))))))))),
 Prod.fst (Prod.snd (Prod.snd (Prod.snd (Prod.snd (Prod.snd (Prod.snd (Prod.snd (Prod.snd (Prod.snd (Prod.snd (Prod.snd (Prod.snd (Prod.snd (Prod.snd (Prod.snd (Prod.snd (Prod.snd (Prod.snd (Prod.snd (Prod.snd (Prod.snd (Prod.snd (Prod.snd (Prod.snd (Prod.snd (Prod.snd (Prod.snd (Prod.snd (Prod.snd (Prod.snd (Prod.snd (Prod.snd
 x)))))))))))))))))))))))))))))))),
 Prod.fst (Prod.snd (Prod.snd (Prod.snd (Prod.snd (Prod.snd (Prod.snd (Prod.snd (Prod.snd (Prod.snd (Prod.snd (Prod.snd (Prod.snd (Prod.snd (Prod.snd (Prod.snd (Prod.snd (Prod.snd (Prod.snd (Prod.snd (Prod.snd (Prod.snd (Prod.snd (Prod.snd (Prod.snd (Prod.snd (Prod.snd (Prod.snd (Prod.snd (Prod.snd (Prod.snd (Prod.snd (Prod.snd (Prod.snd
 x))))))))))))))))))))))))))))))))),
 Prod.fst (Prod.snd (Prod.snd (Prod.snd (Prod.snd (Prod.snd (Prod.snd (Prod.snd (Prod.snd (Prod.snd (Prod.snd (Prod.snd (Prod.snd (Prod.snd (Prod.snd (Prod.snd (Prod.snd (Prod.snd (Prod.snd (Prod.snd (Prod.snd (Prod.snd (Prod.snd (Prod.snd (Prod.snd (Prod.snd (Prod.snd (Prod.snd (Prod.snd (Prod.snd (Prod.snd (Prod.snd (Prod.snd (Prod.snd (Prod.snd
 x)))))))))))))))))))))))))))))))))),
 Prod.fst (Prod.snd (Prod.snd (Prod.snd (Prod.snd (Prod.snd (Prod.snd (Prod.snd (Prod.snd (Prod.snd (Prod.snd (Prod.snd (Prod.snd (Prod.snd (Prod.snd (Prod.snd (Prod.snd (Prod.snd (Prod.snd (Prod.snd (Prod.snd (Prod.snd (Prod.snd (Prod.snd (Prod.snd (Prod.snd (Prod.snd (Prod.snd (Prod.snd (Prod.snd (Prod.snd (Prod.snd (Prod.snd (Prod.snd (Prod.snd (Prod.snd
 x)))))))))))))))))))))))))))))))))))]
 x_2.1.1 x_2.1.2.1 x.2.1
 x.2.2.1 x.2.2.2.1
 (List.replicate (32 : Nat) (0 : UInt64))
 x_2.1.2.2.2.2)))))
theorem F19_R2045_s  (m_ : Nat) : F19_R2045  (m_ + 1) = F19_L2045  (F19_R2045  m_) := rfl
theorem F19_R1021_s (n : Nat) (m_ : Nat) : F19_R1021 n (m_ + 1) = F19_L1021 n (F19_R1021 n m_) := rfl
theorem ok19 (n : Nat) : FunOK Try.prog ⟨19, sig19, F19 n⟩ :=
 fun_ok (hints := ⟨[(130743, ⟨[(0, .one (.int .i64)), (3, .one (.own 2)), (6, .one (.own 3)), (8, .one (.own 4)), (11, .one (.own 5)), (13, .one (.int .u8)), (15, .one (.int .u64)), (71, .one (.ro (.cons (.int .u64) (.cons .bool (.cons (.int .u8) (.cons (.int .u64) (.cons (.int .u64) (.cons .str (.cons (.ro (.cons .str (.cons .str .nil))) (.cons (.int .u8) (.cons (.int .u8) (.cons (.int .i64) (.cons (.int .u8) (.cons (.int .u8) (.cons (.int .u64) (.cons (.int .u64) .nil)))))))))))))))), (72, .one (.int .i64)), (73, .one (.int .i64))], [(2, .cellsA [.int .u64, .int .u64, .int .u64] (.int .u64) 32 [.ro (.cons (.int .u64) (.cons .bool (.cons (.int .u8) (.cons (.int .u64) (.cons (.int .u64) (.cons .str (.cons (.ro (.cons .str (.cons .str .nil))) (.cons (.int .u8) (.cons (.int .u8) (.cons (.int .i64) (.cons (.int .u8) (.cons (.int .u8) (.cons (.int .u64) (.cons (.int .u64) .nil))))))))))))))]), (3, .cellsA [.int .i64, .int .i64, .int .u64, .int .u64, .own 6] (.int .u64) 32 [.int .u64]), (4, .cellsA [] (.int .u64) 32 []), (5, .cells [.int .u64, .bool, .int .u8, .int .u64, .int .u64, .str, .ro (.cons .str (.cons .str .nil)), .int .u8, .int .u8, .int .i64, .int .u8, .int .u8, .int .u64, .int .u64]), (6, .row (.cons (.int .u64) (.cons .bool (.cons (.int .u8) (.cons (.int .u64) (.cons (.int .u64) (.cons .str (.cons (.ro (.cons .str (.cons .str .nil))) (.cons (.int .u8) (.cons (.int .u8) (.cons (.int .i64) (.cons (.int .u8) (.cons (.int .u8) (.cons (.int .u64) (.cons (.int .u64) .nil)))))))))))))))], 7⟩)], [(1021, ⟨[(0, .one (.int .i64)), (3, .one (.own 2)), (6, .one (.own 3)), (8, .one (.own 4)), (9, .one (.int .u64)), (71, .one (.ro (.cons (.int .u64) (.cons .bool (.cons (.int .u8) (.cons (.int .u64) (.cons (.int .u64) (.cons .str (.cons (.ro (.cons .str (.cons .str .nil))) (.cons (.int .u8) (.cons (.int .u8) (.cons (.int .i64) (.cons (.int .u8) (.cons (.int .u8) (.cons (.int .u64) (.cons (.int .u64) .nil)))))))))))))))), (72, .one (.int .i64)), (73, .one (.int .i64))], [(2, .cellsA [.int .u64, .int .u64, .int .u64] (.int .u64) 32 [.ro (.cons (.int .u64) (.cons .bool (.cons (.int .u8) (.cons (.int .u64) (.cons (.int .u64) (.cons .str (.cons (.ro (.cons .str (.cons .str .nil))) (.cons (.int .u8) (.cons (.int .u8) (.cons (.int .i64) (.cons (.int .u8) (.cons (.int .u8) (.cons (.int .u64) (.cons (.int .u64) .nil))))))))))))))]), (3, .cellsA [.int .i64, .int .i64, .int .u64, .int .u64, .own 5] (.int .u64) 32 [.int .u64]), (4, .cellsA [] (.int .u64) 32 []), (5, .row (.cons (.int .u64) (.cons .bool (.cons (.int .u8) (.cons (.int .u64) (.cons (.int .u64) (.cons .str (.cons (.ro (.cons .str (.cons .str .nil))) (.cons (.int .u8) (.cons (.int .u8) (.cons (.int .i64) (.cons (.int .u8) (.cons (.int .u8) (.cons (.int .u64) (.cons (.int .u64) .nil)))))))))))))))], 6⟩), (2045, ⟨[(0, .one (.int .i64)), (3, .one (.own 2)), (6, .one (.own 3)), (154, .aggA [] (.int .u64) 32 []), (155, .one (.int .i64))], [(2, .cellsA [.int .u64, .int .u64, .int .u64] (.int .u64) 32 [.ro (.cons (.int .u64) (.cons .bool (.cons (.int .u8) (.cons (.int .u64) (.cons (.int .u64) (.cons .str (.cons (.ro (.cons .str (.cons .str .nil))) (.cons (.int .u8) (.cons (.int .u8) (.cons (.int .i64) (.cons (.int .u8) (.cons (.int .u8) (.cons (.int .u64) (.cons (.int .u64) .nil))))))))))))))]), (3, .cellsA [.int .i64, .int .i64, .int .u64, .int .u64, .own 4] (.int .u64) 32 [.int .u64]), (4, .row (.cons (.int .u64) (.cons .bool (.cons (.int .u8) (.cons (.int .u64) (.cons (.int .u64) (.cons .str (.cons (.ro (.cons .str (.cons .str .nil))) (.cons (.int .u8) (.cons (.int .u8) (.cons (.int .i64) (.cons (.int .u8) (.cons (.int .u8) (.cons (.int .u64) (.cons (.int .u64) .nil)))))))))))))))], 5⟩)]⟩) (fuel := n) (c := Try.f19.body.getD .skip) (rs := Try.f19.results.toList) tt_ok mix (FsOK.cons (ok8 n) (FsOK.cons (ok25 n) (FsOK.cons (ok15 n) (FsOK.cons (ok27 n) (FsOK.cons (ok30 n) (FsOK.nil)))))) Try.func19 (by kernel_rfl) (by kernel_rfl) rfl (by kernel_rfl) rfl rfl (by kernel_rfl)
-- (*watchfire/spool.Spool).Counts
def sig20 : Sig := ⟨(.cons (.one (.ptrA (.cons (.c (.int .i64)) (.cons (.c (.int .i64)) (.cons (.c (.int .u64)) (.cons (.c (.int .u64)) (.cons (.row (.cons (.int .u64) (.cons .bool (.cons (.int .u8) (.cons (.int .u64) (.cons (.int .u64) (.cons .str (.cons (.ro (.cons .str (.cons .str .nil))) (.cons (.int .u8) (.cons (.int .u8) (.cons (.int .i64) (.cons (.int .u8) (.cons (.int .u8) (.cons (.int .u64) (.cons (.int .u64) .nil))))))))))))))) .nil))))) (.int .u64) 32 (.cons (.c (.int .u64)) .nil))) .nil), (.cons (.one (.c (.int .i64))) (.cons (.one (.c (.int .i64))) (.cons (.one (.c (.int .u64))) (.cons (.one (.c (.int .u64))) (.cons (.one (.c (.int .u64))) .nil)))))⟩
def F20 : Nat →
 Option
 ((Int64 ×
 Int64 ×
 UInt64 ×
 UInt64 ×
 List
 (UInt64 ×
 Bool ×
 UInt8 ×
 UInt64 ×
 UInt64 ×
 List UInt8 ×
 List (List UInt8 × List UInt8) ×
 UInt8 × UInt8 × Int64 × UInt8 × UInt8 × UInt64 × UInt64)) ×
 List UInt64 × UInt64) →
 Option
 ((Int64 × Int64 × UInt64 × UInt64 × UInt64) ×
 Option
 ((Int64 ×
 Int64 ×
 UInt64 ×
 UInt64 ×
 List
 (UInt64 ×
 Bool ×
 UInt8 ×
 UInt64 ×
 UInt64 ×
 List UInt8 ×
 List (List UInt8 × List UInt8) ×
 UInt8 × UInt8 × Int64 × UInt8 × UInt8 × UInt64 × UInt64)) ×
 List UInt64 × UInt64)) := fun (n : Nat)
 (x :
 Option
 ((Int64 ×
 Int64 ×
 UInt64 ×
 UInt64 ×
 List
 (UInt64 ×
 Bool ×
 UInt8 ×
 UInt64 ×
 UInt64 ×
 List UInt8 ×
 List (List UInt8 × List UInt8) ×
 UInt8 × UInt8 × Int64 × UInt8 × UInt8 × UInt64 × UInt64)) ×
 List UInt64 × UInt64)) =>
 oelim x (some (((0 : Int64), (0 : Int64), (0 : UInt64), (0 : UInt64), (0 : UInt64)), none))
 fun
 (x_1 :
 (Int64 ×
 Int64 ×
 UInt64 ×
 UInt64 ×
 List
 (UInt64 ×
 Bool ×
 UInt8 ×
 UInt64 ×
 UInt64 ×
 List UInt8 ×
 List (List UInt8 × List UInt8) ×
 UInt8 × UInt8 × Int64 × UInt8 × UInt8 × UInt64 × UInt64)) ×
 List UInt64 × UInt64) =>
 some
 ((Int64.ofInt ↑(List.length x_1.1.2.2.2.2),
 x_1.1.2.1, x_1.1.2.2.1,
 x_1.1.2.2.2.1, x_1.2.2),
 some
 ((x_1.1.1, x_1.1.2.1, x_1.1.2.2.1,
 x_1.1.2.2.2.1,
 x_1.1.2.2.2.2),
 x_1.2.1, x_1.2.2))
theorem ok20 (n : Nat) : FunOK Try.prog ⟨20, sig20, F20 n⟩ :=
 fun_ok (hints := ⟨[], []⟩) (fuel := n) (c := Try.f20.body.getD .skip) (rs := Try.f20.results.toList) tt_ok mix (FsOK.nil) Try.func20 (by kernel_rfl) (by kernel_rfl) rfl (by kernel_rfl) rfl rfl (by kernel_rfl)
end Go.Proofs.Ytblldmpkljcnjaa
