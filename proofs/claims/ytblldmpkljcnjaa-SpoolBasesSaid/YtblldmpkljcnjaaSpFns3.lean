/- What the functions of this seat compute, found by walking their code symbolically: each F is what the walk finds, each ok says that the Go function keeps it as a contract. Printed by a program of this repo's. -/
import Derived.Test.YtblldmpkljcnjaaSpFns2
open Go Go.Sx
namespace Go.Proofs.Ytblldmpkljcnjaa
set_option maxRecDepth 100000
set_option linter.unusedVariables false
-- (*watchfire/spool.Spool).List
def sig1012 : Sig := ⟨(.cons (.one (.c (.rop (.cons (.int .i64) (.cons (.int .i64) (.cons (.int .u64) (.cons (.int .u64) (.cons (.ro (.cons (.int .u64) (.cons .bool (.cons (.int .u8) (.cons (.int .u64) (.cons (.int .u64) (.cons .str (.cons (.ro (.cons .str (.cons .str .nil))) (.cons (.int .u8) (.cons (.int .u8) (.cons (.int .i64) (.cons (.int .u8) (.cons (.int .u8) (.cons (.int .u64) (.cons (.int .u64) .nil))))))))))))))) (.cons (.int .u64) (.cons (.int .u64) (.cons (.int .u64) (.cons (.int .u64) (.cons (.int .u64) (.cons (.int .u64) (.cons (.int .u64) (.cons (.int .u64) (.cons (.int .u64) (.cons (.int .u64) (.cons (.int .u64) (.cons (.int .u64) (.cons (.int .u64) (.cons (.int .u64) (.cons (.int .u64) (.cons (.int .u64) (.cons (.int .u64) (.cons (.int .u64) (.cons (.int .u64) (.cons (.int .u64) (.cons (.int .u64) (.cons (.int .u64) (.cons (.int .u64) (.cons (.int .u64) (.cons (.int .u64) (.cons (.int .u64) (.cons (.int .u64) (.cons (.int .u64) (.cons (.int .u64) (.cons (.int .u64) (.cons (.int .u64) (.cons (.int .u64) (.cons (.int .u64) .nil))))))))))))))))))))))))))))))))))))))))) (.cons (.one (.c (.int .u64))) (.cons (.one (.c (.int .i64))) .nil))), (.cons (.one (.row (.cons (.int .u64) (.cons .bool (.cons (.int .u8) (.cons (.int .u64) (.cons (.int .u64) (.cons .str (.cons (.ro (.cons .str (.cons .str .nil))) (.cons (.int .u8) (.cons (.int .u8) (.cons (.int .i64) (.cons (.int .u8) (.cons (.int .u8) (.cons (.int .u64) (.cons (.int .u64) .nil)))))))))))))))) .nil)⟩
def F1012_L61 : Nat →
 Arr
 [PT.int IntKind.u64, PT.int IntKind.i64,
 PT.list
 (CTs.cons (CT.int IntKind.u64)
 (CTs.cons CT.bool
 (CTs.cons (CT.int IntKind.u8)
 (CTs.cons (CT.int IntKind.u64)
 (CTs.cons (CT.int IntKind.u64)
 (CTs.cons CT.str
 (CTs.cons (CT.ro (CTs.cons CT.str (CTs.cons CT.str CTs.nil)))
 (CTs.cons (CT.int IntKind.u8)
 (CTs.cons (CT.int IntKind.u8)
 (CTs.cons (CT.int IntKind.i64)
 (CTs.cons (CT.int IntKind.u8)
 (CTs.cons (CT.int IntKind.u8)
 (CTs.cons (CT.int IntKind.u64) (CTs.cons (CT.int IntKind.u64) CTs.nil)))))))))))))),
 PT.int IntKind.i64, PT.int IntKind.i64,
 PT.list
 (CTs.cons (CT.int IntKind.u64)
 (CTs.cons CT.bool
 (CTs.cons (CT.int IntKind.u8)
 (CTs.cons (CT.int IntKind.u64)
 (CTs.cons (CT.int IntKind.u64)
 (CTs.cons CT.str
 (CTs.cons (CT.ro (CTs.cons CT.str (CTs.cons CT.str CTs.nil)))
 (CTs.cons (CT.int IntKind.u8)
 (CTs.cons (CT.int IntKind.u8)
 (CTs.cons (CT.int IntKind.i64)
 (CTs.cons (CT.int IntKind.u8)
 (CTs.cons (CT.int IntKind.u8)
 (CTs.cons (CT.int IntKind.u64) (CTs.cons (CT.int IntKind.u64) CTs.nil))))))))))))))]
 (Option
 (List
 (UInt64 ×
 Bool ×
 UInt8 ×
 UInt64 ×
 UInt64 ×
 List UInt8 ×
 List (List UInt8 × List UInt8) × UInt8 × UInt8 × Int64 × UInt8 × UInt8 × UInt64 × UInt64) ×
 Unit)) →
 UInt64 →
 Int64 →
 List
 (UInt64 ×
 Bool ×
 UInt8 ×
 UInt64 ×
 UInt64 ×
 List UInt8 ×
 List (List UInt8 × List UInt8) × UInt8 × UInt8 × Int64 × UInt8 × UInt8 × UInt64 × UInt64) →
 Int64 →
 Int64 →
 List
 (UInt64 ×
 Bool ×
 UInt8 ×
 UInt64 ×
 UInt64 ×
 List UInt8 ×
 List (List UInt8 × List UInt8) ×
 UInt8 × UInt8 × Int64 × UInt8 × UInt8 × UInt64 × UInt64) →
 Option
 (List
 (UInt64 ×
 Bool ×
 UInt8 ×
 UInt64 ×
 UInt64 ×
 List UInt8 ×
 List (List UInt8 × List UInt8) ×
 UInt8 × UInt8 × Int64 × UInt8 × UInt8 × UInt64 × UInt64) ×
 Unit) := fun (n : Nat)
 (rec :
 Arr
 [PT.int IntKind.u64, PT.int IntKind.i64,
 PT.list
 (CTs.cons (CT.int IntKind.u64)
 (CTs.cons CT.bool
 (CTs.cons (CT.int IntKind.u8)
 (CTs.cons (CT.int IntKind.u64)
 (CTs.cons (CT.int IntKind.u64)
 (CTs.cons CT.str
 (CTs.cons (CT.ro (CTs.cons CT.str (CTs.cons CT.str CTs.nil)))
 (CTs.cons (CT.int IntKind.u8)
 (CTs.cons (CT.int IntKind.u8)
 (CTs.cons (CT.int IntKind.i64)
 (CTs.cons (CT.int IntKind.u8)
 (CTs.cons (CT.int IntKind.u8)
 (CTs.cons (CT.int IntKind.u64) (CTs.cons (CT.int IntKind.u64) CTs.nil)))))))))))))),
 PT.int IntKind.i64, PT.int IntKind.i64,
 PT.list
 (CTs.cons (CT.int IntKind.u64)
 (CTs.cons CT.bool
 (CTs.cons (CT.int IntKind.u8)
 (CTs.cons (CT.int IntKind.u64)
 (CTs.cons (CT.int IntKind.u64)
 (CTs.cons CT.str
 (CTs.cons (CT.ro (CTs.cons CT.str (CTs.cons CT.str CTs.nil)))
 (CTs.cons (CT.int IntKind.u8)
 (CTs.cons (CT.int IntKind.u8)
 (CTs.cons (CT.int IntKind.i64)
 (CTs.cons (CT.int IntKind.u8)
 (CTs.cons (CT.int IntKind.u8)
 (CTs.cons (CT.int IntKind.u64) (CTs.cons (CT.int IntKind.u64) CTs.nil))))))))))))))]
 (Option
 (List
 (UInt64 ×
 Bool ×
 UInt8 ×
 UInt64 ×
 UInt64 ×
 List UInt8 ×
 List (List UInt8 × List UInt8) × UInt8 × UInt8 × Int64 × UInt8 × UInt8 × UInt64 × UInt64) ×
 Unit)))
 (behind : UInt64) (many : Int64)
 (t :
 List
 (UInt64 ×
 Bool ×
 UInt8 ×
 UInt64 ×
 UInt64 ×
 List UInt8 ×
 List (List UInt8 × List UInt8) × UInt8 × UInt8 × Int64 × UInt8 × UInt8 × UInt64 × UInt64))
 (t_1 t_2 : Int64)
 (out :
 List
 (UInt64 ×
 Bool ×
 UInt8 ×
 UInt64 ×
 UInt64 ×
 List UInt8 ×
 List (List UInt8 × List UInt8) × UInt8 × UInt8 × Int64 × UInt8 × UInt8 × UInt64 × UInt64)) =>
 oite (decide (t_2 < t_1))
 (obind (at? t (Int64.toInt t_2))
 fun
 (x_2 :
 UInt64 ×
 Bool ×
 UInt8 ×
 UInt64 ×
 UInt64 ×
 List UInt8 ×
 List (List UInt8 × List UInt8) × UInt8 × UInt8 × Int64 × UInt8 × UInt8 × UInt64 × UInt64) =>
 oite (decide (many ≤ Int64.ofInt ↑(List.length out))) (some (out, ()))
 (oite (decide (behind < x_2.1))
 (obind
 (F30 n
 (x_2.2.1, x_2.2.2.1,
 x_2.2.2.2.1, x_2.2.2.2.2.1,
 x_2.2.2.2.2.2.1,
 x_2.2.2.2.2.2.2.1,
 x_2.2.2.2.2.2.2.2.1,
 x_2.2.2.2.2.2.2.2.2.1,
 x_2.2.2.2.2.2.2.2.2.2.1,
 x_2.2.2.2.2.2.2.2.2.2.2.1,
 x_2.2.2.2.2.2.2.2.2.2.2.2.1,
 x_2.2.2.2.2.2.2.2.2.2.2.2.2.1,
 x_2.2.2.2.2.2.2.2.2.2.2.2.2.2))
 fun
 (x_3 :
 (Bool ×
 UInt8 ×
 UInt64 ×
 UInt64 ×
 List UInt8 ×
 List (List UInt8 × List UInt8) × UInt8 × UInt8 × Int64 × UInt8 × UInt8 × UInt64 × UInt64) ×
 Unit) =>
 oite
 (Nat.ble
 (List.length out +
 List.length
 [(x_2.1, x_3.1.1, x_3.1.2.1,
 x_3.1.2.2.1,
 x_3.1.2.2.2.1,
 x_3.1.2.2.2.2.1,
 x_3.1.2.2.2.2.2.1,
 x_3.1.2.2.2.2.2.2.1,
 x_3.1.2.2.2.2.2.2.2.1,
 x_3.1.2.2.2.2.2.2.2.2.1,
 x_3.1.2.2.2.2.2.2.2.2.2.1,
 x_3.1.2.2.2.2.2.2.2.2.2.2.1,
 x_3.1.2.2.2.2.2.2.2.2.2.2.2.1,
 x_3.1.2.2.2.2.2.2.2.2.2.2.2.2)])
 (4294967296 : Nat))
 (rec behind many t t_1 (t_2 + (1 : Int64))
 (out ++
 [(x_2.1, x_3.1.1, x_3.1.2.1,
 x_3.1.2.2.1,
 x_3.1.2.2.2.1,
 x_3.1.2.2.2.2.1,
 x_3.1.2.2.2.2.2.1,
 x_3.1.2.2.2.2.2.2.1,
 x_3.1.2.2.2.2.2.2.2.1,
 x_3.1.2.2.2.2.2.2.2.2.1,
 x_3.1.2.2.2.2.2.2.2.2.2.1,
 x_3.1.2.2.2.2.2.2.2.2.2.2.1,
 x_3.1.2.2.2.2.2.2.2.2.2.2.2.1,
 x_3.1.2.2.2.2.2.2.2.2.2.2.2.2)]))
 none)
 (rec behind many t t_1 (t_2 + (1 : Int64)) out)))
 (some (out, ()))
def F1012_R61 : Nat →
 Nat →
 PT.T (PT.int IntKind.u64) →
 Int64 →
 List
 (UInt64 ×
 Bool ×
 UInt8 ×
 UInt64 ×
 UInt64 ×
 List UInt8 ×
 List (List UInt8 × List UInt8) × UInt8 × UInt8 × Int64 × UInt8 × UInt8 × UInt64 × UInt64) →
 Int64 →
 Int64 →
 List
 (UInt64 ×
 Bool ×
 UInt8 ×
 UInt64 ×
 UInt64 ×
 List UInt8 ×
 List (List UInt8 × List UInt8) ×
 UInt8 × UInt8 × Int64 × UInt8 × UInt8 × UInt64 × UInt64) →
 Option
 (List
 (UInt64 ×
 Bool ×
 UInt8 ×
 UInt64 ×
 UInt64 ×
 List UInt8 ×
 List (List UInt8 × List UInt8) ×
 UInt8 × UInt8 × Int64 × UInt8 × UInt8 × UInt64 × UInt64) ×
 Unit) := fun (n : Nat) =>
 ofixA (61 : Nat)
 [PT.int IntKind.u64, PT.int IntKind.i64,
 PT.list
 (CTs.cons (CT.int IntKind.u64)
 (CTs.cons CT.bool
 (CTs.cons (CT.int IntKind.u8)
 (CTs.cons (CT.int IntKind.u64)
 (CTs.cons (CT.int IntKind.u64)
 (CTs.cons CT.str
 (CTs.cons (CT.ro (CTs.cons CT.str (CTs.cons CT.str CTs.nil)))
 (CTs.cons (CT.int IntKind.u8)
 (CTs.cons (CT.int IntKind.u8)
 (CTs.cons (CT.int IntKind.i64)
 (CTs.cons (CT.int IntKind.u8)
 (CTs.cons (CT.int IntKind.u8)
 (CTs.cons (CT.int IntKind.u64) (CTs.cons (CT.int IntKind.u64) CTs.nil)))))))))))))),
 PT.int IntKind.i64, PT.int IntKind.i64,
 PT.list
 (CTs.cons (CT.int IntKind.u64)
 (CTs.cons CT.bool
 (CTs.cons (CT.int IntKind.u8)
 (CTs.cons (CT.int IntKind.u64)
 (CTs.cons (CT.int IntKind.u64)
 (CTs.cons CT.str
 (CTs.cons (CT.ro (CTs.cons CT.str (CTs.cons CT.str CTs.nil)))
 (CTs.cons (CT.int IntKind.u8)
 (CTs.cons (CT.int IntKind.u8)
 (CTs.cons (CT.int IntKind.i64)
 (CTs.cons (CT.int IntKind.u8)
 (CTs.cons (CT.int IntKind.u8)
 (CTs.cons (CT.int IntKind.u64) (CTs.cons (CT.int IntKind.u64) CTs.nil))))))))))))))]
 (F1012_L61 n)
def F1012 : Nat →
 Option
 (Int64 ×
 Int64 ×
 UInt64 ×
 UInt64 ×
 List
 (UInt64 ×
 Bool ×
 UInt8 ×
 UInt64 ×
 UInt64 ×
 List UInt8 ×
 List (List UInt8 × List UInt8) ×
 UInt8 × UInt8 × Int64 × UInt8 × UInt8 × UInt64 × UInt64) ×
 UInt64 ×
 UInt64 ×
 UInt64 ×
 UInt64 ×
 UInt64 ×
 UInt64 ×
 UInt64 ×
 UInt64 ×
 UInt64 ×
 UInt64 ×
 UInt64 ×
 UInt64 ×
 UInt64 ×
 UInt64 ×
 UInt64 ×
 UInt64 ×
 UInt64 ×
 UInt64 ×
 UInt64 ×
 UInt64 ×
 UInt64 ×
 UInt64 ×
 UInt64 ×
 UInt64 ×
 UInt64 ×
 UInt64 ×
 UInt64 ×
 UInt64 ×
 UInt64 × UInt64 × UInt64 × UInt64 × UInt64) ×
 UInt64 × Int64 →
 Option
 (List
 (UInt64 ×
 Bool ×
 UInt8 ×
 UInt64 ×
 UInt64 ×
 List UInt8 ×
 List (List UInt8 × List UInt8) × UInt8 × UInt8 × Int64 × UInt8 × UInt8 × UInt64 × UInt64) ×
 Unit) := fun (n : Nat)
 (x :
 Option
 (Int64 ×
 Int64 ×
 UInt64 ×
 UInt64 ×
 List
 (UInt64 ×
 Bool ×
 UInt8 ×
 UInt64 ×
 UInt64 ×
 List UInt8 ×
 List (List UInt8 × List UInt8) ×
 UInt8 × UInt8 × Int64 × UInt8 × UInt8 × UInt64 × UInt64) ×
 UInt64 ×
 UInt64 ×
 UInt64 ×
 UInt64 ×
 UInt64 ×
 UInt64 ×
 UInt64 ×
 UInt64 ×
 UInt64 ×
 UInt64 ×
 UInt64 ×
 UInt64 ×
 UInt64 ×
 UInt64 ×
 UInt64 ×
 UInt64 ×
 UInt64 ×
 UInt64 ×
 UInt64 ×
 UInt64 ×
 UInt64 ×
 UInt64 ×
 UInt64 ×
 UInt64 ×
 UInt64 ×
 UInt64 ×
 UInt64 ×
 UInt64 ×
 UInt64 ×
 UInt64 × UInt64 × UInt64 × UInt64) ×
 UInt64 × Int64) =>
 oite
 (Option.isSome.match_1
 (fun
 (x :
 Option
 (CTs.T
 (CTs.cons (CT.int IntKind.i64)
 (CTs.cons (CT.int IntKind.i64)
 (CTs.cons (CT.int IntKind.u64)
 (CTs.cons (CT.int IntKind.u64)
 (CTs.cons
 (CT.ro
 (CTs.cons (CT.int IntKind.u64)
 (CTs.cons CT.bool
 (CTs.cons (CT.int IntKind.u8)
 (CTs.cons (CT.int IntKind.u64)
 (CTs.cons (CT.int IntKind.u64)
 (CTs.cons CT.str
 (CTs.cons (CT.ro (CTs.cons CT.str (CTs.cons CT.str CTs.nil)))
 (CTs.cons (CT.int IntKind.u8)
 (CTs.cons (CT.int IntKind.u8)
 (CTs.cons (CT.int IntKind.i64)
 (CTs.cons (CT.int IntKind.u8)
 (CTs.cons (CT.int IntKind.u8)
 (CTs.cons (CT.int IntKind.u64)
 (CTs.cons (CT.int IntKind.u64) CTs.nil)))))))))))))))
 (CTs.cons (CT.int IntKind.u64)
 (CTs.cons (CT.int IntKind.u64)
 (CTs.cons (CT.int IntKind.u64)
 (CTs.cons (CT.int IntKind.u64)
 (CTs.cons (CT.int IntKind.u64)
 (CTs.cons (CT.int IntKind.u64)
 (CTs.cons (CT.int IntKind.u64)
 (CTs.cons (CT.int IntKind.u64)
 (CTs.cons (CT.int IntKind.u64)
 (CTs.cons (CT.int IntKind.u64)
 (CTs.cons (CT.int IntKind.u64)
 (CTs.cons (CT.int IntKind.u64)
 (CTs.cons (CT.int IntKind.u64)
 (CTs.cons (CT.int IntKind.u64)
 (CTs.cons (CT.int IntKind.u64)
 (CTs.cons (CT.int IntKind.u64)
 (CTs.cons (CT.int IntKind.u64)
 (CTs.cons (CT.int IntKind.u64)
 (CTs.cons (CT.int IntKind.u64)
 (CTs.cons (CT.int IntKind.u64)
 (CTs.cons (CT.int IntKind.u64)
 (CTs.cons (CT.int IntKind.u64)
 (CTs.cons (CT.int IntKind.u64)
 (CTs.cons (CT.int IntKind.u64)
 (CTs.cons (CT.int IntKind.u64)
 (CTs.cons (CT.int IntKind.u64)
 (CTs.cons (CT.int IntKind.u64)
 (CTs.cons (CT.int IntKind.u64)
 (CTs.cons (CT.int IntKind.u64)
 (CTs.cons (CT.int IntKind.u64)
 (CTs.cons (CT.int IntKind.u64)
 (CTs.cons (CT.int IntKind.u64)
 (CTs.cons (CT.int IntKind.u64)
 CTs.nil)))))))))))))))))))))))))))))))))))))))) =>
 Bool)
 x.1
 (fun
 (val :
 CTs.T
 (CTs.cons (CT.int IntKind.i64)
 (CTs.cons (CT.int IntKind.i64)
 (CTs.cons (CT.int IntKind.u64)
 (CTs.cons (CT.int IntKind.u64)
 (CTs.cons
 (CT.ro
 (CTs.cons (CT.int IntKind.u64)
 (CTs.cons CT.bool
 (CTs.cons (CT.int IntKind.u8)
 (CTs.cons (CT.int IntKind.u64)
 (CTs.cons (CT.int IntKind.u64)
 (CTs.cons CT.str
 (CTs.cons (CT.ro (CTs.cons CT.str (CTs.cons CT.str CTs.nil)))
 (CTs.cons (CT.int IntKind.u8)
 (CTs.cons (CT.int IntKind.u8)
 (CTs.cons (CT.int IntKind.i64)
 (CTs.cons (CT.int IntKind.u8)
 (CTs.cons (CT.int IntKind.u8)
 (CTs.cons (CT.int IntKind.u64)
 (CTs.cons (CT.int IntKind.u64) CTs.nil)))))))))))))))
 (CTs.cons (CT.int IntKind.u64)
 (CTs.cons (CT.int IntKind.u64)
 (CTs.cons (CT.int IntKind.u64)
 (CTs.cons (CT.int IntKind.u64)
 (CTs.cons (CT.int IntKind.u64)
 (CTs.cons (CT.int IntKind.u64)
 (CTs.cons (CT.int IntKind.u64)
 (CTs.cons (CT.int IntKind.u64)
 (CTs.cons (CT.int IntKind.u64)
 (CTs.cons (CT.int IntKind.u64)
 (CTs.cons (CT.int IntKind.u64)
 (CTs.cons (CT.int IntKind.u64)
 (CTs.cons (CT.int IntKind.u64)
 (CTs.cons (CT.int IntKind.u64)
 (CTs.cons (CT.int IntKind.u64)
 (CTs.cons (CT.int IntKind.u64)
 (CTs.cons (CT.int IntKind.u64)
 (CTs.cons (CT.int IntKind.u64)
 (CTs.cons (CT.int IntKind.u64)
 (CTs.cons (CT.int IntKind.u64)
 (CTs.cons (CT.int IntKind.u64)
 (CTs.cons (CT.int IntKind.u64)
 (CTs.cons (CT.int IntKind.u64)
 (CTs.cons (CT.int IntKind.u64)
 (CTs.cons (CT.int IntKind.u64)
 (CTs.cons (CT.int IntKind.u64)
 (CTs.cons (CT.int IntKind.u64)
 (CTs.cons (CT.int IntKind.u64)
 (CTs.cons (CT.int IntKind.u64)
 (CTs.cons (CT.int IntKind.u64)
 (CTs.cons (CT.int IntKind.u64)
 (CTs.cons (CT.int IntKind.u64)
 (CTs.cons (CT.int IntKind.u64)
 CTs.nil))))))))))))))))))))))))))))))))))))))) =>
 false)
 fun (_ : Unit) => true)
 (some
 (@List.nil
 (UInt64 ×
 Bool ×
 UInt8 ×
 UInt64 ×
 UInt64 ×
 List UInt8 ×
 List (List UInt8 × List UInt8) × UInt8 × UInt8 × Int64 × UInt8 × UInt8 × UInt64 × UInt64),
 ()))
 (obind x.1
 fun
 (x_1 :
 Int64 ×
 Int64 ×
 UInt64 ×
 UInt64 ×
 List
 (UInt64 ×
 Bool ×
 UInt8 ×
 UInt64 ×
 UInt64 ×
 List UInt8 ×
 List (List UInt8 × List UInt8) ×
 UInt8 × UInt8 × Int64 × UInt8 × UInt8 × UInt64 × UInt64) ×
 UInt64 ×
 UInt64 ×
 UInt64 ×
 UInt64 ×
 UInt64 ×
 UInt64 ×
 UInt64 ×
 UInt64 ×
 UInt64 ×
 UInt64 ×
 UInt64 ×
 UInt64 ×
 UInt64 ×
 UInt64 ×
 UInt64 ×
 UInt64 ×
 UInt64 ×
 UInt64 ×
 UInt64 ×
 UInt64 ×
 UInt64 ×
 UInt64 ×
 UInt64 ×
 UInt64 ×
 UInt64 ×
 UInt64 ×
 UInt64 ×
 UInt64 ×
 UInt64 ×
 UInt64 × UInt64 × UInt64 × UInt64) =>
 F1012_R61 n n x.2.1 x.2.2
 x_1.2.2.2.2.1
 (Int64.ofInt ↑(List.length x_1.2.2.2.2.1)) (0 : Int64) [])
theorem F1012_R61_s (n : Nat) (m_ : Nat) : F1012_R61 n (m_ + 1) = F1012_L61 n (F1012_R61 n m_) := rfl
theorem ok1012 (n : Nat) : FunOK Try.prog ⟨12, sig1012, F1012 n⟩ :=
 fun_ok (hints := ⟨[], [(61, ⟨[(1, .one (.int .u64)), (2, .one (.int .i64)), (7, .one (.own 3)), (15, .one (.ro (.cons (.int .u64) (.cons .bool (.cons (.int .u8) (.cons (.int .u64) (.cons (.int .u64) (.cons .str (.cons (.ro (.cons .str (.cons .str .nil))) (.cons (.int .u8) (.cons (.int .u8) (.cons (.int .i64) (.cons (.int .u8) (.cons (.int .u8) (.cons (.int .u64) (.cons (.int .u64) .nil)))))))))))))))), (16, .one (.int .i64)), (17, .one (.int .i64))], [(3, .row (.cons (.int .u64) (.cons .bool (.cons (.int .u8) (.cons (.int .u64) (.cons (.int .u64) (.cons .str (.cons (.ro (.cons .str (.cons .str .nil))) (.cons (.int .u8) (.cons (.int .u8) (.cons (.int .i64) (.cons (.int .u8) (.cons (.int .u8) (.cons (.int .u64) (.cons (.int .u64) .nil)))))))))))))))], 4⟩)]⟩) (fuel := n) (c := Try.f12.body.getD .skip) (rs := Try.f12.results.toList) tt_ok mix (FsOK.cons (ok30 n) (FsOK.nil)) Try.func12 (by kernel_rfl) (by kernel_rfl) rfl (by kernel_rfl) rfl rfl (by kernel_rfl)
-- watchfire/watchfirelaw08.Awake
def sig7 : Sig := ⟨.nil, (.cons (.one (.c .bool)) .nil)⟩
noncomputable def F7_L29 : Nat →
 Arr
 [PT.int IntKind.i64, PT.int IntKind.i64, PT.int IntKind.i64,
 PT.optA
 (OTs.cons (OT.c (CT.int IntKind.i64))
 (OTs.cons (OT.c (CT.int IntKind.i64))
 (OTs.cons (OT.c (CT.int IntKind.u64))
 (OTs.cons (OT.c (CT.int IntKind.u64))
 (OTs.cons
 (OT.row
 (CTs.cons (CT.int IntKind.u64)
 (CTs.cons CT.bool
 (CTs.cons (CT.int IntKind.u8)
 (CTs.cons (CT.int IntKind.u64)
 (CTs.cons (CT.int IntKind.u64)
 (CTs.cons CT.str
 (CTs.cons (CT.ro (CTs.cons CT.str (CTs.cons CT.str CTs.nil)))
 (CTs.cons (CT.int IntKind.u8)
 (CTs.cons (CT.int IntKind.u8)
 (CTs.cons (CT.int IntKind.i64)
 (CTs.cons (CT.int IntKind.u8)
 (CTs.cons (CT.int IntKind.u8)
 (CTs.cons (CT.int IntKind.u64)
 (CTs.cons (CT.int IntKind.u64) CTs.nil)))))))))))))))
 OTs.nil)))))
 (CT.int IntKind.u64) (OTs.cons (OT.c (CT.int IntKind.u64)) OTs.nil),
 PT.list (CTs.cons (CT.int IntKind.u8) CTs.nil)]
 (Option (Bool × Unit)) →
 Int64 →
 Int64 →
 Int64 →
 Option
 ((Int64 ×
 Int64 ×
 UInt64 ×
 UInt64 ×
 List
 (UInt64 ×
 Bool ×
 UInt8 ×
 UInt64 ×
 UInt64 ×
 List UInt8 ×
 List (List UInt8 × List UInt8) ×
 UInt8 × UInt8 × Int64 × UInt8 × UInt8 × UInt64 × UInt64)) ×
 List UInt64 × UInt64) →
 List UInt8 → Option (Bool × Unit) := fun (n : Nat)
 (rec :
 Arr
 [PT.int IntKind.i64, PT.int IntKind.i64, PT.int IntKind.i64,
 PT.optA
 (OTs.cons (OT.c (CT.int IntKind.i64))
 (OTs.cons (OT.c (CT.int IntKind.i64))
 (OTs.cons (OT.c (CT.int IntKind.u64))
 (OTs.cons (OT.c (CT.int IntKind.u64))
 (OTs.cons
 (OT.row
 (CTs.cons (CT.int IntKind.u64)
 (CTs.cons CT.bool
 (CTs.cons (CT.int IntKind.u8)
 (CTs.cons (CT.int IntKind.u64)
 (CTs.cons (CT.int IntKind.u64)
 (CTs.cons CT.str
 (CTs.cons (CT.ro (CTs.cons CT.str (CTs.cons CT.str CTs.nil)))
 (CTs.cons (CT.int IntKind.u8)
 (CTs.cons (CT.int IntKind.u8)
 (CTs.cons (CT.int IntKind.i64)
 (CTs.cons (CT.int IntKind.u8)
 (CTs.cons (CT.int IntKind.u8)
 (CTs.cons (CT.int IntKind.u64)
 (CTs.cons (CT.int IntKind.u64) CTs.nil)))))))))))))))
 OTs.nil)))))
 (CT.int IntKind.u64) (OTs.cons (OT.c (CT.int IntKind.u64)) OTs.nil),
 PT.list (CTs.cons (CT.int IntKind.u8) CTs.nil)]
 (Option (Bool × Unit)))
 (e t t_1 : Int64)
 (s :
 Option
 ((Int64 ×
 Int64 ×
 UInt64 ×
 UInt64 ×
 List
 (UInt64 ×
 Bool ×
 UInt8 ×
 UInt64 ×
 UInt64 ×
 List UInt8 ×
 List (List UInt8 × List UInt8) ×
 UInt8 × UInt8 × Int64 × UInt8 × UInt8 × UInt64 × UInt64)) ×
 List UInt64 × UInt64))
 (t_2 : List UInt8) =>
 oite (decide (t_1 < t))
 (oite (decide ((0 : Int) ≤ Int64.toInt t_1) && Nat.blt (Int.toNat (Int64.toInt t_1)) (List.length t_2))
 (obind t_2[Int.toNat (Int64.toInt t_1)]? fun (x_2 : UInt8) =>
 obind
 (F24 n
 (UInt8.ofInt (Int64.toInt t_1), (1 : UInt64), (0 : UInt64),
 [(108 : UInt8), (111 : UInt8), (110 : UInt8), (103 : UInt8), (101 : UInt8), (114 : UInt8), (46 : UInt8),
 (110 : UInt8), (97 : UInt8), (109 : UInt8), (101 : UInt8)],
 @List.nil (List UInt8 × List UInt8), (0 : UInt8), x_2, (0 : Int64), (0 : UInt8)))
 fun
 (x_3 :
 (Bool ×
 UInt8 ×
 UInt64 ×
 UInt64 ×
 List UInt8 ×
 List (List UInt8 × List UInt8) × UInt8 × UInt8 × Int64 × UInt8 × UInt8 × UInt64 × UInt64) ×
 Unit) =>
 obind
 (F9 n
 (s, x_3.1.1, x_3.1.2.1,
 x_3.1.2.2.1, x_3.1.2.2.2.1,
 x_3.1.2.2.2.2.1,
 x_3.1.2.2.2.2.2.1,
 x_3.1.2.2.2.2.2.2.1,
 x_3.1.2.2.2.2.2.2.2.1,
 x_3.1.2.2.2.2.2.2.2.2.1,
 x_3.1.2.2.2.2.2.2.2.2.2.1,
 x_3.1.2.2.2.2.2.2.2.2.2.2.1,
 x_3.1.2.2.2.2.2.2.2.2.2.2.2.1,
 x_3.1.2.2.2.2.2.2.2.2.2.2.2.2))
 fun
 (x_4 :
 (UInt64 × UInt64 × Int64) ×
 Option
 ((Int64 ×
 Int64 ×
 UInt64 ×
 UInt64 ×
 List
 (UInt64 ×
 Bool ×
 UInt8 ×
 UInt64 ×
 UInt64 ×
 List UInt8 ×
 List (List UInt8 × List UInt8) ×
 UInt8 × UInt8 × Int64 × UInt8 × UInt8 × UInt64 × UInt64)) ×
 List UInt64 × UInt64)) =>
 rec e t (t_1 + (1 : Int64)) x_4.2 t_2)
 none)
 (obind
 (F24 n
 ((3 : UInt8), (1 : UInt64), (0 : UInt64),
 [(108 : UInt8), (111 : UInt8), (110 : UInt8), (103 : UInt8), (101 : UInt8), (114 : UInt8), (46 : UInt8),
 (110 : UInt8), (97 : UInt8), (109 : UInt8), (101 : UInt8)],
 @List.nil (List UInt8 × List UInt8), (0 : UInt8), (0 : UInt8), (0 : Int64), (0 : UInt8)))
 fun
 (x_2 :
 (Bool ×
 UInt8 ×
 UInt64 ×
 UInt64 ×
 List UInt8 ×
 List (List UInt8 × List UInt8) × UInt8 × UInt8 × Int64 × UInt8 × UInt8 × UInt64 × UInt64) ×
 Unit) =>
 obind
 (F9 n
 (s, x_2.1.1, x_2.1.2.1,
 x_2.1.2.2.1, x_2.1.2.2.2.1,
 x_2.1.2.2.2.2.1,
 x_2.1.2.2.2.2.2.1,
 x_2.1.2.2.2.2.2.2.1,
 x_2.1.2.2.2.2.2.2.2.1,
 x_2.1.2.2.2.2.2.2.2.2.1,
 x_2.1.2.2.2.2.2.2.2.2.2.1,
 x_2.1.2.2.2.2.2.2.2.2.2.2.1,
 x_2.1.2.2.2.2.2.2.2.2.2.2.2.1,
 x_2.1.2.2.2.2.2.2.2.2.2.2.2.2))
 fun
 (x_3 :
 (UInt64 × UInt64 × Int64) ×
 Option
 ((Int64 ×
 Int64 ×
 UInt64 ×
 UInt64 ×
 List
 (UInt64 ×
 Bool ×
 UInt8 ×
 UInt64 ×
 UInt64 ×
 List UInt8 ×
 List (List UInt8 × List UInt8) ×
 UInt8 × UInt8 × Int64 × UInt8 × UInt8 × UInt64 × UInt64)) ×
 List UInt64 × UInt64)) =>
 obind (F12 n (x_3.2, (0 : UInt64), (9 : Int64)))
 fun
 (x_4 :
 List
 (UInt64 ×
 Bool ×
 UInt8 ×
 UInt64 ×
 UInt64 ×
 List UInt8 ×
 List (List UInt8 × List UInt8) ×
 UInt8 × UInt8 × Int64 × UInt8 × UInt8 × UInt64 × UInt64) ×
 Option
 ((Int64 ×
 Int64 ×
 UInt64 ×
 UInt64 ×
 List
 (UInt64 ×
 Bool ×
 UInt8 ×
 UInt64 ×
 UInt64 ×
 List UInt8 ×
 List (List UInt8 × List UInt8) ×
 UInt8 × UInt8 × Int64 × UInt8 × UInt8 × UInt64 × UInt64)) ×
 List UInt64 × UInt64)) =>
 oite (decide (e = (0 : Int64)))
 (oite (decide (x_3.1.2.2 = (0 : Int64)))
 (oite (decide (x_3.1.2.1 = (2 : UInt64)))
 (oite (decide (Int64.ofInt ↑(List.length x_4.1) = (4 : Int64)))
 (oite (Nat.blt (Int.toNat (Int64.toInt (1 : Int64))) (List.length x_4.1))
 (obind x_4.1[Int.toNat (Int64.toInt (1 : Int64))]?
 fun
 (x_5 :
 UInt64 ×
 Bool ×
 UInt8 ×
 UInt64 ×
 UInt64 ×
 List UInt8 ×
 List (List UInt8 × List UInt8) ×
 UInt8 × UInt8 × Int64 × UInt8 × UInt8 × UInt64 × UInt64) =>
 oite x_5.2.1
 (oite (Nat.blt (Int.toNat (Int64.toInt (0 : Int64))) (List.length x_4.1))
 (obind x_4.1[Int.toNat (Int64.toInt (0 : Int64))]?
 fun
 (x_6 :
 UInt64 ×
 Bool ×
 UInt8 ×
 UInt64 ×
 UInt64 ×
 List UInt8 ×
 List (List UInt8 × List UInt8) ×
 UInt8 × UInt8 × Int64 × UInt8 × UInt8 × UInt64 × UInt64) =>
 oite (!x_6.2.1)
 (oite (Nat.blt (Int.toNat (Int64.toInt (2 : Int64))) (List.length x_4.1))
 (obind x_4.1[Int.toNat (Int64.toInt (2 : Int64))]?
 fun
 (x_7 :
 UInt64 ×
 Bool ×
 UInt8 ×
 UInt64 ×
 UInt64 ×
 List UInt8 ×
 List (List UInt8 × List UInt8) ×
 UInt8 × UInt8 × Int64 × UInt8 × UInt8 × UInt64 × UInt64) =>
 some (!x_7.2.1, ()))
 none)
 (some (false, ())))
 none)
 (some (false, ())))
 none)
 (some (false, ())))
 (some (false, ())))
 (some (false, ())))
 (some (false, ())))
noncomputable def F7_R29 : Nat →
 Nat →
 PT.T (PT.int IntKind.i64) →
 Int64 →
 Int64 →
 Option
 ((Int64 ×
 Int64 ×
 UInt64 ×
 UInt64 ×
 List
 (UInt64 ×
 Bool ×
 UInt8 ×
 UInt64 ×
 UInt64 ×
 List UInt8 ×
 List (List UInt8 × List UInt8) ×
 UInt8 × UInt8 × Int64 × UInt8 × UInt8 × UInt64 × UInt64)) ×
 List UInt64 × UInt64) →
 List UInt8 → Option (Bool × Unit) := fun (n : Nat) =>
 ofixA (29 : Nat)
 [PT.int IntKind.i64, PT.int IntKind.i64, PT.int IntKind.i64,
 PT.optA
 (OTs.cons (OT.c (CT.int IntKind.i64))
 (OTs.cons (OT.c (CT.int IntKind.i64))
 (OTs.cons (OT.c (CT.int IntKind.u64))
 (OTs.cons (OT.c (CT.int IntKind.u64))
 (OTs.cons
 (OT.row
 (CTs.cons (CT.int IntKind.u64)
 (CTs.cons CT.bool
 (CTs.cons (CT.int IntKind.u8)
 (CTs.cons (CT.int IntKind.u64)
 (CTs.cons (CT.int IntKind.u64)
 (CTs.cons CT.str
 (CTs.cons (CT.ro (CTs.cons CT.str (CTs.cons CT.str CTs.nil)))
 (CTs.cons (CT.int IntKind.u8)
 (CTs.cons (CT.int IntKind.u8)
 (CTs.cons (CT.int IntKind.i64)
 (CTs.cons (CT.int IntKind.u8)
 (CTs.cons (CT.int IntKind.u8)
 (CTs.cons (CT.int IntKind.u64)
 (CTs.cons (CT.int IntKind.u64) CTs.nil)))))))))))))))
 OTs.nil)))))
 (CT.int IntKind.u64) (OTs.cons (OT.c (CT.int IntKind.u64)) OTs.nil),
 PT.list (CTs.cons (CT.int IntKind.u8) CTs.nil)]
 (F7_L29 n)
noncomputable def F7 : Nat → Unit → Option (Bool × Unit) := fun (n : Nat) (x : Unit) =>
 obind (F8 n (70 : Int64))
 fun
 (x_1 :
 (Option
 ((Int64 ×
 Int64 ×
 UInt64 ×
 UInt64 ×
 List
 (UInt64 ×
 Bool ×
 UInt8 ×
 UInt64 ×
 UInt64 ×
 List UInt8 ×
 List (List UInt8 × List UInt8) ×
 UInt8 × UInt8 × Int64 × UInt8 × UInt8 × UInt64 × UInt64)) ×
 List UInt64 × UInt64) ×
 Int64) ×
 Unit) =>
 F7_R29 n n x_1.1.2 (3 : Int64) (0 : Int64) x_1.1.1
 [(1 : UInt8), (0 : UInt8), (0 : UInt8)]
theorem F7_R29_s (n : Nat) (m_ : Nat) : F7_R29 n (m_ + 1) = F7_L29 n (F7_R29 n m_) := rfl
theorem ok7 (n : Nat) : FunOK Try.prog ⟨7, sig7, F7 n⟩ :=
 fun_ok (hints := ⟨[], [(29, ⟨[(1, .one (.own 0)), (2, .one (.int .i64)), (13, .one (.own 1)), (14, .one (.int .i64)), (15, .one (.int .i64))], [(0, .foldA (.cons (.c (.int .i64)) (.cons (.c (.int .i64)) (.cons (.c (.int .u64)) (.cons (.c (.int .u64)) (.cons (.row (.cons (.int .u64) (.cons .bool (.cons (.int .u8) (.cons (.int .u64) (.cons (.int .u64) (.cons .str (.cons (.ro (.cons .str (.cons .str .nil))) (.cons (.int .u8) (.cons (.int .u8) (.cons (.int .i64) (.cons (.int .u8) (.cons (.int .u8) (.cons (.int .u64) (.cons (.int .u64) .nil))))))))))))))) .nil))))) (.int .u64) 32 (.cons (.c (.int .u64)) .nil)), (1, .row (.cons (.int .u8) .nil))], 2⟩)]⟩) (fuel := n) (c := Try.f7.body.getD .skip) (rs := Try.f7.results.toList) tt_ok mix (FsOK.cons (ok8 n) (FsOK.cons (ok24 n) (FsOK.cons (ok9 n) (FsOK.cons (ok12 n) (FsOK.cons (ok1012 n) (FsOK.nil)))))) Try.func7 (by kernel_rfl) (by kernel_rfl) rfl (by kernel_rfl) rfl rfl (by kernel_rfl)
-- (*watchfire/spool.Spool).High
def sig11 : Sig := ⟨(.cons (.one (.ptrA (.cons (.c (.int .i64)) (.cons (.c (.int .i64)) (.cons (.c (.int .u64)) (.cons (.c (.int .u64)) (.cons (.row (.cons (.int .u64) (.cons .bool (.cons (.int .u8) (.cons (.int .u64) (.cons (.int .u64) (.cons .str (.cons (.ro (.cons .str (.cons .str .nil))) (.cons (.int .u8) (.cons (.int .u8) (.cons (.int .i64) (.cons (.int .u8) (.cons (.int .u8) (.cons (.int .u64) (.cons (.int .u64) .nil))))))))))))))) .nil))))) (.int .u64) 32 (.cons (.c (.int .u64)) .nil))) (.cons (.one (.c (.int .u8))) .nil)), (.cons (.one (.c (.int .u64))) .nil)⟩
def F11 : Nat →
 Option
 ((Int64 ×
 Int64 ×
 UInt64 ×
 UInt64 ×
 List
 (UInt64 ×
 Bool ×
 UInt8 ×
 UInt64 ×
 UInt64 ×
 List UInt8 ×
 List (List UInt8 × List UInt8) ×
 UInt8 × UInt8 × Int64 × UInt8 × UInt8 × UInt64 × UInt64)) ×
 List UInt64 × UInt64) ×
 UInt8 →
 Option
 (UInt64 ×
 Option
 ((Int64 ×
 Int64 ×
 UInt64 ×
 UInt64 ×
 List
 (UInt64 ×
 Bool ×
 UInt8 ×
 UInt64 ×
 UInt64 ×
 List UInt8 ×
 List (List UInt8 × List UInt8) ×
 UInt8 × UInt8 × Int64 × UInt8 × UInt8 × UInt64 × UInt64)) ×
 List UInt64 × UInt64)) := fun (n : Nat)
 (x :
 Option
 ((Int64 ×
 Int64 ×
 UInt64 ×
 UInt64 ×
 List
 (UInt64 ×
 Bool ×
 UInt8 ×
 UInt64 ×
 UInt64 ×
 List UInt8 ×
 List (List UInt8 × List UInt8) ×
 UInt8 × UInt8 × Int64 × UInt8 × UInt8 × UInt64 × UInt64)) ×
 List UInt64 × UInt64) ×
 UInt8) =>
 oelim x.1 (some ((0 : UInt64), none))
 fun
 (x_1 :
 (Int64 ×
 Int64 ×
 UInt64 ×
 UInt64 ×
 List
 (UInt64 ×
 Bool ×
 UInt8 ×
 UInt64 ×
 UInt64 ×
 List UInt8 ×
 List (List UInt8 × List UInt8) ×
 UInt8 × UInt8 × Int64 × UInt8 × UInt8 × UInt64 × UInt64)) ×
 List UInt64 × UInt64) =>
 oite (decide ((32 : UInt8) ≤ x.2))
 (some
 ((0 : UInt64),
 some
 ((x_1.1.1, x_1.1.2.1,
 x_1.1.2.2.1, x_1.1.2.2.2.1,
 x_1.1.2.2.2.2),
 x_1.2.1, x_1.2.2)))
 (oite (decide ((0 : Int) ≤ ↑(UInt8.toNat x.2)))
 (oite (Nat.blt (Int.toNat ↑(UInt8.toNat x.2)) (32 : Nat))
 (obind x_1.2.1[Int.toNat ↑(UInt8.toNat x.2) * (1 : Nat)]? fun (x_2 : UInt64) =>
 some
 (x_2,
 some
 ((x_1.1.1, x_1.1.2.1,
 x_1.1.2.2.1,
 x_1.1.2.2.2.1,
 x_1.1.2.2.2.2),
 x_1.2.1, x_1.2.2)))
 none)
 none)
theorem ok11 (n : Nat) : FunOK Try.prog ⟨11, sig11, F11 n⟩ :=
 fun_ok (hints := ⟨[], []⟩) (fuel := n) (c := Try.f11.body.getD .skip) (rs := Try.f11.results.toList) tt_ok mix (FsOK.nil) Try.func11 (by kernel_rfl) (by kernel_rfl) rfl (by kernel_rfl) rfl rfl (by kernel_rfl)
-- (watchfire/watchfirelaw04.Small).Item
def sig21 : Sig := ⟨(.cons (.agg (.cons .bool (.cons (.int .u8) (.cons (.int .u8) (.cons (.int .u8) (.cons (.int .u16) (.cons (.int .u16) (.cons (.int .u16) (.cons (.int .u8) (.cons (.int .u8) (.cons (.int .u8) (.cons .bool .nil)))))))))))) .nil), (.cons (.agg (.cons .bool (.cons (.int .u8) (.cons (.int .u64) (.cons (.int .u64) (.cons .str (.cons (.ro (.cons .str (.cons .str .nil))) (.cons (.int .u8) (.cons (.int .u8) (.cons (.int .i64) (.cons (.int .u8) (.cons (.int .u8) (.cons (.int .u64) (.cons (.int .u64) .nil)))))))))))))) .nil)⟩
def F21_L1021 : Nat →
 Arr
 [PT.int IntKind.u8, PT.int IntKind.u8, PT.bool, PT.int IntKind.u8, PT.int IntKind.u8, PT.int IntKind.u8,
 PT.int IntKind.u16, PT.int IntKind.u16, PT.int IntKind.u16, PT.int IntKind.u8, PT.int IntKind.u8,
 PT.int IntKind.u8, PT.bool, PT.bool, PT.int IntKind.u8, PT.int IntKind.u64, PT.int IntKind.u64, PT.bytes,
 PT.int IntKind.u8, PT.int IntKind.u8, PT.int IntKind.i64, PT.int IntKind.u8, PT.int IntKind.u8,
 PT.int IntKind.u64, PT.int IntKind.u64, PT.int IntKind.u8, PT.int IntKind.u64, PT.int IntKind.u64, PT.bytes,
 PT.int IntKind.u8, PT.int IntKind.u8, PT.int IntKind.i64, PT.int IntKind.u8,
 PT.list (CTs.cons CT.str (CTs.cons CT.str CTs.nil))]
 (Option
 ((Bool ×
 UInt8 ×
 UInt64 ×
 UInt64 ×
 List UInt8 ×
 List (List UInt8 × List UInt8) × UInt8 × UInt8 × Int64 × UInt8 × UInt8 × UInt64 × UInt64) ×
 Unit)) →
 UInt8 →
 UInt8 →
 Bool →
 UInt8 →
 UInt8 →
 UInt8 →
 UInt16 →
 UInt16 →
 UInt16 →
 UInt8 →
 UInt8 →
 UInt8 →
 Bool →
 Bool →
 UInt8 →
 UInt64 →
 UInt64 →
 List UInt8 →
 UInt8 →
 UInt8 →
 Int64 →
 UInt8 →
 UInt8 →
 UInt64 →
 UInt64 →
 UInt8 →
 UInt64 →
 UInt64 →
 List UInt8 →
 UInt8 →
 UInt8 →
 Int64 →
 UInt8 →
 List (List UInt8 × List UInt8) →
 Option
 ((Bool ×
 UInt8 ×
 UInt64 ×
 UInt64 ×
 List UInt8 ×
 List (List UInt8 × List UInt8) ×
 UInt8 ×
 UInt8 ×
 Int64 ×
 UInt8 ×
 UInt8 ×
 UInt64 × UInt64) ×
 Unit) := fun (n : Nat)
 (rec :
 Arr
 [PT.int IntKind.u8, PT.int IntKind.u8, PT.bool, PT.int IntKind.u8, PT.int IntKind.u8, PT.int IntKind.u8,
 PT.int IntKind.u16, PT.int IntKind.u16, PT.int IntKind.u16, PT.int IntKind.u8, PT.int IntKind.u8,
 PT.int IntKind.u8, PT.bool, PT.bool, PT.int IntKind.u8, PT.int IntKind.u64, PT.int IntKind.u64, PT.bytes,
 PT.int IntKind.u8, PT.int IntKind.u8, PT.int IntKind.i64, PT.int IntKind.u8, PT.int IntKind.u8,
 PT.int IntKind.u64, PT.int IntKind.u64, PT.int IntKind.u8, PT.int IntKind.u64, PT.int IntKind.u64, PT.bytes,
 PT.int IntKind.u8, PT.int IntKind.u8, PT.int IntKind.i64, PT.int IntKind.u8,
 PT.list (CTs.cons CT.str (CTs.cons CT.str CTs.nil))]
 (Option
 ((Bool ×
 UInt8 ×
 UInt64 ×
 UInt64 ×
 List UInt8 ×
 List (List UInt8 × List UInt8) × UInt8 × UInt8 × Int64 × UInt8 × UInt8 × UInt64 × UInt64) ×
 Unit)))
 (t t_1 : UInt8) (s0_2 : Bool) (s1_2 s2_2 s3_2 : UInt8) (s4_2 s5_2 s6_2 : UInt16) (s7_2 s8_2 s9_2 : UInt8)
 (s10_2 t0_2 : Bool) (t1_2 : UInt8) (t2_2 t3_2 : UInt64) (t4_2 : List UInt8) (t6_2 t7_2 : UInt8) (t8_2 : Int64)
 (t9_2 t10_2 : UInt8) (t11_2 t12_2 : UInt64) (v0_2 : UInt8) (v1_2 v2_2 : UInt64) (v3_2 : List UInt8)
 (v5_2 v6_2 : UInt8) (v7_2 : Int64) (v8_2 : UInt8) (vl : List (List UInt8 × List UInt8)) =>
 oite (decide (t_1 < t))
 (oite
 (Nat.ble
 (List.length vl + List.length [([(97 : UInt8) + t_1], [(48 : UInt8) + s8_2 / (4 : UInt8) % (10 : UInt8)])])
 (4294967296 : Nat))
 (rec t (t_1 + (1 : UInt8)) s0_2 s1_2 s2_2 s3_2 s4_2 s5_2 s6_2 s7_2 s8_2 s9_2 s10_2 t0_2 t1_2 t2_2 t3_2 t4_2 t6_2
 t7_2 t8_2 t9_2 t10_2 t11_2 t12_2 v0_2 v1_2 v2_2 v3_2 v5_2 v6_2 v7_2 v8_2
 (vl ++ [([(97 : UInt8) + t_1], [(48 : UInt8) + s8_2 / (4 : UInt8) % (10 : UInt8)])]))
 none)
 (obind (F24 n (v0_2, v1_2, v2_2, v3_2, vl, v5_2, v6_2, v7_2, v8_2))
 fun
 (x_2 :
 (Bool ×
 UInt8 ×
 UInt64 ×
 UInt64 ×
 List UInt8 ×
 List (List UInt8 × List UInt8) × UInt8 × UInt8 × Int64 × UInt8 × UInt8 × UInt64 × UInt64) ×
 Unit) =>
 some
 ((x_2.1.1, x_2.1.2.1, x_2.1.2.2.1,
 x_2.1.2.2.2.1,
 x_2.1.2.2.2.2.1,
 x_2.1.2.2.2.2.2.1,
 x_2.1.2.2.2.2.2.2.1,
 x_2.1.2.2.2.2.2.2.2.1,
 x_2.1.2.2.2.2.2.2.2.2.1,
 x_2.1.2.2.2.2.2.2.2.2.2.1,
 x_2.1.2.2.2.2.2.2.2.2.2.2.1,
 x_2.1.2.2.2.2.2.2.2.2.2.2.2.1,
 x_2.1.2.2.2.2.2.2.2.2.2.2.2.2),
 ()))
def F21_R1021 : Nat →
 Nat →
 PT.T (PT.int IntKind.u8) →
 UInt8 →
 Bool →
 UInt8 →
 UInt8 →
 UInt8 →
 UInt16 →
 UInt16 →
 UInt16 →
 UInt8 →
 UInt8 →
 UInt8 →
 Bool →
 Bool →
 UInt8 →
 UInt64 →
 UInt64 →
 List UInt8 →
 UInt8 →
 UInt8 →
 Int64 →
 UInt8 →
 UInt8 →
 UInt64 →
 UInt64 →
 UInt8 →
 UInt64 →
 UInt64 →
 List UInt8 →
 UInt8 →
 UInt8 →
 Int64 →
 UInt8 →
 List (List UInt8 × List UInt8) →
 Option
 ((Bool ×
 UInt8 ×
 UInt64 ×
 UInt64 ×
 List UInt8 ×
 List (List UInt8 × List UInt8) ×
 UInt8 ×
 UInt8 ×
 Int64 ×
 UInt8 ×
 UInt8 ×
 UInt64 × UInt64) ×
 Unit) := fun (n : Nat) =>
 ofixA (1021 : Nat)
 [PT.int IntKind.u8, PT.int IntKind.u8, PT.bool, PT.int IntKind.u8, PT.int IntKind.u8, PT.int IntKind.u8,
 PT.int IntKind.u16, PT.int IntKind.u16, PT.int IntKind.u16, PT.int IntKind.u8, PT.int IntKind.u8,
 PT.int IntKind.u8, PT.bool, PT.bool, PT.int IntKind.u8, PT.int IntKind.u64, PT.int IntKind.u64, PT.bytes,
 PT.int IntKind.u8, PT.int IntKind.u8, PT.int IntKind.i64, PT.int IntKind.u8, PT.int IntKind.u8,
 PT.int IntKind.u64, PT.int IntKind.u64, PT.int IntKind.u8, PT.int IntKind.u64, PT.int IntKind.u64, PT.bytes,
 PT.int IntKind.u8, PT.int IntKind.u8, PT.int IntKind.i64, PT.int IntKind.u8,
 PT.list (CTs.cons CT.str (CTs.cons CT.str CTs.nil))]
 (F21_L1021 n)
def F21_J127 : Nat →
 Bool →
 UInt8 →
 UInt8 →
 UInt8 →
 UInt16 →
 UInt16 →
 UInt16 →
 UInt8 →
 UInt8 →
 UInt8 →
 Bool →
 Bool →
 UInt8 →
 UInt64 →
 UInt64 →
 List UInt8 →
 UInt8 →
 UInt8 →
 Int64 →
 UInt8 →
 UInt8 →
 UInt64 →
 UInt64 →
 UInt8 →
 UInt64 →
 UInt64 →
 List UInt8 →
 UInt8 →
 UInt8 →
 Int64 →
 UInt8 →
 Option
 ((Bool ×
 UInt8 ×
 UInt64 ×
 UInt64 ×
 List UInt8 ×
 List (List UInt8 × List UInt8) ×
 UInt8 ×
 UInt8 ×
 Int64 ×
 UInt8 × UInt8 × UInt64 × UInt64) ×
 Unit) := fun (n : Nat) (s0_1 : Bool) (s1_1 s2_1 s3_1 : UInt8) (s4_1 s5_1 s6_1 : UInt16) (s7_1 s8_1 s9_1 : UInt8)
 (s10_1 t0_1 : Bool) (t1_1 : UInt8) (t2_1 t3_1 : UInt64) (t4_1 : List UInt8) (t6_1 t7_1 : UInt8) (t8_1 : Int64)
 (t9_1 t10_1 : UInt8) (t11_1 t12_1 : UInt64) (v0_1 : UInt8) (v1_1 v2_1 : UInt64) (v3_1 : List UInt8)
 (v5_1 v6_1 : UInt8) (v7_1 : Int64) (v8_1 : UInt8) =>
 F21_R1021 n n (s8_1 % (4 : UInt8)) (0 : UInt8) s0_1 s1_1 s2_1 s3_1 s4_1 s5_1 s6_1 s7_1 s8_1 s9_1 s10_1 t0_1 t1_1 t2_1
 t3_1 t4_1 t6_1 t7_1 t8_1 t9_1 t10_1 t11_1 t12_1 v0_1 v1_1 v2_1 v3_1 v5_1 v6_1 v7_1 v8_1 []
def F21_J63 : Nat →
 Bool →
 UInt8 →
 UInt8 →
 UInt8 →
 UInt16 →
 UInt16 →
 UInt16 →
 UInt8 →
 UInt8 →
 UInt8 →
 Bool →
 Bool →
 UInt8 →
 UInt64 →
 UInt64 →
 List UInt8 →
 UInt8 →
 UInt8 →
 Int64 →
 UInt8 →
 UInt8 →
 UInt64 →
 UInt64 →
 UInt8 →
 UInt64 →
 UInt64 →
 List UInt8 →
 UInt8 →
 UInt8 →
 Int64 →
 UInt8 →
 Option
 ((Bool ×
 UInt8 ×
 UInt64 ×
 UInt64 ×
 List UInt8 ×
 List (List UInt8 × List UInt8) ×
 UInt8 ×
 UInt8 ×
 Int64 ×
 UInt8 × UInt8 × UInt64 × UInt64) ×
 Unit) := fun (n : Nat) (s0 : Bool) (s1 s2 s3 : UInt8) (s4 s5 s6 : UInt16) (s7 s8 s9 : UInt8) (s10 t0 : Bool) (t1 : UInt8)
 (t2 t3 : UInt64) (t4 : List UInt8) (t6 t7 : UInt8) (t8 : Int64) (t9 t10 : UInt8) (t11 t12 : UInt64) (v0 : UInt8)
 (v1 v2 : UInt64) (v3 : List UInt8) (v5 v6 : UInt8) (v7 : Int64) (v8 : UInt8) =>
 ojoinA (127 : Nat)
 [PT.bool, PT.int IntKind.u8, PT.int IntKind.u8, PT.int IntKind.u8, PT.int IntKind.u16, PT.int IntKind.u16,
 PT.int IntKind.u16, PT.int IntKind.u8, PT.int IntKind.u8, PT.int IntKind.u8, PT.bool, PT.bool, PT.int IntKind.u8,
 PT.int IntKind.u64, PT.int IntKind.u64, PT.bytes, PT.int IntKind.u8, PT.int IntKind.u8, PT.int IntKind.i64,
 PT.int IntKind.u8, PT.int IntKind.u8, PT.int IntKind.u64, PT.int IntKind.u64, PT.int IntKind.u8,
 PT.int IntKind.u64, PT.int IntKind.u64, PT.bytes, PT.int IntKind.u8, PT.int IntKind.u8, PT.int IntKind.i64,
 PT.int IntKind.u8]
 (fun
 (J :
 Arr
 [PT.bool, PT.int IntKind.u8, PT.int IntKind.u8, PT.int IntKind.u8, PT.int IntKind.u16, PT.int IntKind.u16,
 PT.int IntKind.u16, PT.int IntKind.u8, PT.int IntKind.u8, PT.int IntKind.u8, PT.bool, PT.bool,
 PT.int IntKind.u8, PT.int IntKind.u64, PT.int IntKind.u64, PT.bytes, PT.int IntKind.u8, PT.int IntKind.u8,
 PT.int IntKind.i64, PT.int IntKind.u8, PT.int IntKind.u8, PT.int IntKind.u64, PT.int IntKind.u64,
 PT.int IntKind.u8, PT.int IntKind.u64, PT.int IntKind.u64, PT.bytes, PT.int IntKind.u8, PT.int IntKind.u8,
 PT.int IntKind.i64, PT.int IntKind.u8]
 (Option
 ((Bool ×
 UInt8 ×
 UInt64 ×
 UInt64 ×
 List UInt8 ×
 List (List UInt8 × List UInt8) × UInt8 × UInt8 × Int64 × UInt8 × UInt8 × UInt64 × UInt64) ×
 Unit))) =>
 oite (decide (s3 % (8 : UInt8) = (7 : UInt8)))
 (J s0 s1 s2 s3 s4 s5 s6 s7 s8 s9 s10 t0 t1 t2 t3 t4 t6 t7 t8 t9 t10 t11 t12 v0 v1 v2
 [(111 : UInt8), (119 : UInt8), (110 : UInt8), (46 : UInt8), (120 : UInt8)] v5 v6 v7
 ((1 : UInt8) + s3 / (8 : UInt8) % (2 : UInt8)))
 (J s0 s1 s2 s3 s4 s5 s6 s7 s8 s9 s10 t0 t1 t2 t3 t4 t6 t7 t8 t9 t10 t11 t12 v0 v1 v2 v3 v5 v6 v7 v8))
 (F21_J127 n)
def F21 : Nat →
 Bool × UInt8 × UInt8 × UInt8 × UInt16 × UInt16 × UInt16 × UInt8 × UInt8 × UInt8 × Bool →
 Option
 ((Bool ×
 UInt8 ×
 UInt64 ×
 UInt64 ×
 List UInt8 × List (List UInt8 × List UInt8) × UInt8 × UInt8 × Int64 × UInt8 × UInt8 × UInt64 × UInt64) ×
 Unit) := fun (n : Nat) (x : Bool × UInt8 × UInt8 × UInt8 × UInt16 × UInt16 × UInt16 × UInt8 × UInt8 × UInt8 × Bool) =>
 oite x.1
 (obind
 (F36 n
 (x.2.1 % (32 : UInt8),
 (1 : UInt64) + UInt64.ofInt ↑(UInt16.toNat x.2.2.2.2.1),
 (1 : UInt64) + UInt64.ofInt ↑(UInt16.toNat x.2.2.2.2.1) +
 UInt64.ofInt ↑(UInt16.toNat x.2.2.2.2.2.1)))
 fun
 (x_1 :
 (Bool ×
 UInt8 ×
 UInt64 ×
 UInt64 ×
 List UInt8 ×
 List (List UInt8 × List UInt8) × UInt8 × UInt8 × Int64 × UInt8 × UInt8 × UInt64 × UInt64) ×
 Unit) =>
 some
 ((x_1.1.1, x_1.1.2.1, x_1.1.2.2.1,
 x_1.1.2.2.2.1,
 x_1.1.2.2.2.2.1,
 x_1.1.2.2.2.2.2.1,
 x_1.1.2.2.2.2.2.2.1,
 x_1.1.2.2.2.2.2.2.2.1,
 x_1.1.2.2.2.2.2.2.2.2.1,
 x_1.1.2.2.2.2.2.2.2.2.2.1,
 x_1.1.2.2.2.2.2.2.2.2.2.2.1,
 x_1.1.2.2.2.2.2.2.2.2.2.2.2.1,
 x_1.1.2.2.2.2.2.2.2.2.2.2.2.2),
 ()))
 (oite
 (decide
 ((0 : Int) ≤
 ↑(UInt8.toNat
 (x.2.2.2.2.2.2.2.1 %
 (4 : UInt8)))) &&
 Nat.blt
 (Int.toNat
 ↑(UInt8.toNat
 (x.2.2.2.2.2.2.2.1 %
 (4 : UInt8))))
 (List.length
 [[(104 : UInt8), (111 : UInt8), (116 : UInt8)], [(99 : UInt8), (111 : UInt8), (108 : UInt8), (100 : UInt8)],
 [(100 : UInt8), (105 : UInt8), (115 : UInt8), (107 : UInt8), (46 : UInt8), (102 : UInt8), (117 : UInt8),
 (108 : UInt8), (108 : UInt8)],
 [(120 : UInt8)]]))
 (obind
 [[(104 : UInt8), (111 : UInt8), (116 : UInt8)], [(99 : UInt8), (111 : UInt8), (108 : UInt8), (100 : UInt8)],
 [(100 : UInt8), (105 : UInt8), (115 : UInt8), (107 : UInt8), (46 : UInt8), (102 : UInt8), (117 : UInt8),
 (108 : UInt8), (108 : UInt8)],
 [(120 :
 UInt8)]][Int.toNat
 ↑(UInt8.toNat
 (x.2.2.2.2.2.2.2.1 %
 (4 : UInt8)))]?
 fun (x_1 : List UInt8) =>
 ojoinA (63 : Nat)
 [PT.bool, PT.int IntKind.u8, PT.int IntKind.u8, PT.int IntKind.u8, PT.int IntKind.u16, PT.int IntKind.u16,
 PT.int IntKind.u16, PT.int IntKind.u8, PT.int IntKind.u8, PT.int IntKind.u8, PT.bool, PT.bool,
 PT.int IntKind.u8, PT.int IntKind.u64, PT.int IntKind.u64, PT.bytes, PT.int IntKind.u8, PT.int IntKind.u8,
 PT.int IntKind.i64, PT.int IntKind.u8, PT.int IntKind.u8, PT.int IntKind.u64, PT.int IntKind.u64,
 PT.int IntKind.u8, PT.int IntKind.u64, PT.int IntKind.u64, PT.bytes, PT.int IntKind.u8, PT.int IntKind.u8,
 PT.int IntKind.i64, PT.int IntKind.u8]
 (fun
 (J :
 Arr
 [PT.bool, PT.int IntKind.u8, PT.int IntKind.u8, PT.int IntKind.u8, PT.int IntKind.u16,
 PT.int IntKind.u16, PT.int IntKind.u16, PT.int IntKind.u8, PT.int IntKind.u8, PT.int IntKind.u8,
 PT.bool, PT.bool, PT.int IntKind.u8, PT.int IntKind.u64, PT.int IntKind.u64, PT.bytes,
 PT.int IntKind.u8, PT.int IntKind.u8, PT.int IntKind.i64, PT.int IntKind.u8, PT.int IntKind.u8,
 PT.int IntKind.u64, PT.int IntKind.u64, PT.int IntKind.u8, PT.int IntKind.u64, PT.int IntKind.u64,
 PT.bytes, PT.int IntKind.u8, PT.int IntKind.u8, PT.int IntKind.i64, PT.int IntKind.u8]
 (Option
 ((Bool ×
 UInt8 ×
 UInt64 ×
 UInt64 ×
 List UInt8 ×
 List (List UInt8 × List UInt8) ×
 UInt8 × UInt8 × Int64 × UInt8 × UInt8 × UInt64 × UInt64) ×
 Unit))) =>
 oite
 x.2.2.2.2.2.2.2.2.2.2
 (J x.1 x.2.1 x.2.2.1
 x.2.2.2.1 x.2.2.2.2.1
 x.2.2.2.2.2.1
 x.2.2.2.2.2.2.1
 x.2.2.2.2.2.2.2.1
 x.2.2.2.2.2.2.2.2.1
 x.2.2.2.2.2.2.2.2.2.1
 x.2.2.2.2.2.2.2.2.2.2
 false (0 : UInt8) (0 : UInt64) (0 : UInt64) [] (0 : UInt8) (0 : UInt8) (0 : Int64) (0 : UInt8)
 (0 : UInt8) (0 : UInt64) (0 : UInt64) (x.2.1 % (32 : UInt8))
 ((1 : UInt64) + UInt64.ofInt ↑(UInt16.toNat x.2.2.2.2.1))
 (UInt64.ofInt
 ↑(UInt16.toNat x.2.2.2.2.2.2.1))
 x_1 (2 : UInt8) (x.2.2.1 % (8 : UInt8))
 (Int64.ofInt
 ↑(UInt8.toNat
 x.2.2.2.2.2.2.2.2.2.1) -
 (100 : Int64))
 (0 : UInt8))
 (J x.1 x.2.1 x.2.2.1
 x.2.2.2.1 x.2.2.2.2.1
 x.2.2.2.2.2.1
 x.2.2.2.2.2.2.1
 x.2.2.2.2.2.2.2.1
 x.2.2.2.2.2.2.2.2.1
 x.2.2.2.2.2.2.2.2.2.1
 x.2.2.2.2.2.2.2.2.2.2
 false (0 : UInt8) (0 : UInt64) (0 : UInt64) [] (0 : UInt8) (0 : UInt8) (0 : Int64) (0 : UInt8)
 (0 : UInt8) (0 : UInt64) (0 : UInt64) (x.2.1 % (32 : UInt8))
 ((1 : UInt64) + UInt64.ofInt ↑(UInt16.toNat x.2.2.2.2.1))
 (UInt64.ofInt
 ↑(UInt16.toNat x.2.2.2.2.2.2.1))
 x_1 (0 : UInt8) (x.2.2.1 % (8 : UInt8))
 (Int64.ofInt
 ↑(UInt8.toNat
 x.2.2.2.2.2.2.2.2.2.1) -
 (100 : Int64))
 (0 : UInt8)))
 (F21_J63 n))
 none)
theorem F21_R1021_s (n : Nat) (m_ : Nat) : F21_R1021 n (m_ + 1) = F21_L1021 n (F21_R1021 n m_) := rfl
theorem ok21 (n : Nat) : FunOK Try.prog ⟨21, sig21, F21 n⟩ :=
 fun_ok (hints := ⟨[(63, ⟨[(1, .one (.own 1)), (2, .one (.own 2)), (5, .one (.own 3))], [(1, .cells [.bool, .int .u8, .int .u8, .int .u8, .int .u16, .int .u16, .int .u16, .int .u8, .int .u8, .int .u8, .bool]), (2, .cells [.bool, .int .u8, .int .u64, .int .u64, .str, .nils, .int .u8, .int .u8, .int .i64, .int .u8, .int .u8, .int .u64, .int .u64]), (3, .cells [.int .u8, .int .u64, .int .u64, .str, .nils, .int .u8, .int .u8, .int .i64, .int .u8])], 4⟩), (127, ⟨[(1, .one (.own 1)), (2, .one (.own 2)), (5, .one (.own 3))], [(1, .cells [.bool, .int .u8, .int .u8, .int .u8, .int .u16, .int .u16, .int .u16, .int .u8, .int .u8, .int .u8, .bool]), (2, .cells [.bool, .int .u8, .int .u64, .int .u64, .str, .nils, .int .u8, .int .u8, .int .i64, .int .u8, .int .u8, .int .u64, .int .u64]), (3, .cells [.int .u8, .int .u64, .int .u64, .str, .nils, .int .u8, .int .u8, .int .i64, .int .u8])], 4⟩)], [(1021, ⟨[(1, .one (.own 1)), (2, .one (.own 2)), (5, .one (.own 3)), (59, .one (.int .u8)), (60, .one (.int .u8))], [(1, .cells [.bool, .int .u8, .int .u8, .int .u8, .int .u16, .int .u16, .int .u16, .int .u8, .int .u8, .int .u8, .bool]), (2, .cells [.bool, .int .u8, .int .u64, .int .u64, .str, .nils, .int .u8, .int .u8, .int .i64, .int .u8, .int .u8, .int .u64, .int .u64]), (3, .cells [.int .u8, .int .u64, .int .u64, .str, .own 4, .int .u8, .int .u8, .int .i64, .int .u8]), (4, .row (.cons .str (.cons .str .nil)))], 5⟩)]⟩) (fuel := n) (c := Try.f21.body.getD .skip) (rs := Try.f21.results.toList) tt_ok mix (FsOK.cons (ok36 n) (FsOK.cons (ok24 n) (FsOK.nil))) Try.func21 (by kernel_rfl) (by kernel_rfl) rfl (by kernel_rfl) rfl rfl (by kernel_rfl)
-- watchfire/watchfirelaw08.Next
def sig10 : Sig := ⟨(.cons (.one (.c (.ro (.cons .bool (.cons .bool (.cons .bool (.cons .bool (.cons .bool (.cons .bool (.cons .bool (.cons .bool (.cons .bool (.cons .bool (.cons .bool .nil)))))))))))))) (.cons (.oagg .nil) (.cons (.oagg .nil) (.cons (.agg (.cons .bool (.cons (.int .u8) (.cons (.int .u8) (.cons (.int .u8) (.cons (.int .u16) (.cons (.int .u16) (.cons (.int .u16) (.cons (.int .u8) (.cons (.int .u8) (.cons (.int .u8) (.cons .bool .nil)))))))))))) (.cons (.one (.ptrA (.cons (.c (.int .i64)) (.cons (.c (.int .i64)) (.cons (.c (.int .u64)) (.cons (.c (.int .u64)) (.cons (.row (.cons (.int .u64) (.cons .bool (.cons (.int .u8) (.cons (.int .u64) (.cons (.int .u64) (.cons .str (.cons (.ro (.cons .str (.cons .str .nil))) (.cons (.int .u8) (.cons (.int .u8) (.cons (.int .i64) (.cons (.int .u8) (.cons (.int .u8) (.cons (.int .u64) (.cons (.int .u64) .nil))))))))))))))) .nil))))) (.int .u64) 32 (.cons (.c (.int .u64)) .nil))) .nil))))), (.cons (.agg (.cons .bool (.cons (.int .u8) (.cons (.int .u64) (.cons (.int .u64) (.cons .str (.cons (.ro (.cons .str (.cons .str .nil))) (.cons (.int .u8) (.cons (.int .u8) (.cons (.int .i64) (.cons (.int .u8) (.cons (.int .u8) (.cons (.int .u64) (.cons (.int .u64) .nil)))))))))))))) .nil)⟩
def F10 : Nat →
 List (Bool × Bool × Bool × Bool × Bool × Bool × Bool × Bool × Bool × Bool × Bool) ×
 Unit ×
 Unit ×
 (Bool × UInt8 × UInt8 × UInt8 × UInt16 × UInt16 × UInt16 × UInt8 × UInt8 × UInt8 × Bool) ×
 Option
 ((Int64 ×
 Int64 ×
 UInt64 ×
 UInt64 ×
 List
 (UInt64 ×
 Bool ×
 UInt8 ×
 UInt64 ×
 UInt64 ×
 List UInt8 ×
 List (List UInt8 × List UInt8) ×
 UInt8 × UInt8 × Int64 × UInt8 × UInt8 × UInt64 × UInt64)) ×
 List UInt64 × UInt64) →
 Option
 ((Bool ×
 UInt8 ×
 UInt64 ×
 UInt64 ×
 List UInt8 × List (List UInt8 × List UInt8) × UInt8 × UInt8 × Int64 × UInt8 × UInt8 × UInt64 × UInt64) ×
 Option
 ((Int64 ×
 Int64 ×
 UInt64 ×
 UInt64 ×
 List
 (UInt64 ×
 Bool ×
 UInt8 ×
 UInt64 ×
 UInt64 ×
 List UInt8 ×
 List (List UInt8 × List UInt8) ×
 UInt8 × UInt8 × Int64 × UInt8 × UInt8 × UInt64 × UInt64)) ×
 List UInt64 × UInt64)) := fun (n : Nat)
 (x :
 List (Bool × Bool × Bool × Bool × Bool × Bool × Bool × Bool × Bool × Bool × Bool) ×
 Unit ×
 Unit ×
 (Bool × UInt8 × UInt8 × UInt8 × UInt16 × UInt16 × UInt16 × UInt8 × UInt8 × UInt8 × Bool) ×
 Option
 ((Int64 ×
 Int64 ×
 UInt64 ×
 UInt64 ×
 List
 (UInt64 ×
 Bool ×
 UInt8 ×
 UInt64 ×
 UInt64 ×
 List UInt8 ×
 List (List UInt8 × List UInt8) ×
 UInt8 × UInt8 × Int64 × UInt8 × UInt8 × UInt64 × UInt64)) ×
 List UInt64 × UInt64)) =>
 obind
 (F21 n
 (x.2.2.2.1.1,
 x.2.2.2.1.2.1 % (4 : UInt8),
 x.2.2.2.1.2.2.1,
 x.2.2.2.1.2.2.2.1,
 x.2.2.2.1.2.2.2.2.1,
 x.2.2.2.1.2.2.2.2.2.1 %
 (3 : UInt16),
 x.2.2.2.1.2.2.2.2.2.2.1,
 x.2.2.2.1.2.2.2.2.2.2.2.1,
 x.2.2.2.1.2.2.2.2.2.2.2.2.1,
 x.2.2.2.1.2.2.2.2.2.2.2.2.2.1,
 x.2.2.2.1.2.2.2.2.2.2.2.2.2.2))
 fun
 (x_1 :
 (Bool ×
 UInt8 ×
 UInt64 ×
 UInt64 ×
 List UInt8 ×
 List (List UInt8 × List UInt8) × UInt8 × UInt8 × Int64 × UInt8 × UInt8 × UInt64 × UInt64) ×
 Unit) =>
 obind
 (F11 n
 (x.2.2.2.2,
 x.2.2.2.1.2.1 % (4 : UInt8)))
 fun
 (x_2 :
 UInt64 ×
 Option
 ((Int64 ×
 Int64 ×
 UInt64 ×
 UInt64 ×
 List
 (UInt64 ×
 Bool ×
 UInt8 ×
 UInt64 ×
 UInt64 ×
 List UInt8 ×
 List (List UInt8 × List UInt8) ×
 UInt8 × UInt8 × Int64 × UInt8 × UInt8 × UInt64 × UInt64)) ×
 List UInt64 × UInt64)) =>
 oite x_1.1.1
 (some
 ((x_1.1.1, x_1.1.2.1, x_1.1.2.2.1,
 x_1.1.2.2.2.1,
 x_1.1.2.2.2.2.1,
 x_1.1.2.2.2.2.2.1,
 x_1.1.2.2.2.2.2.2.1,
 x_1.1.2.2.2.2.2.2.2.1,
 x_1.1.2.2.2.2.2.2.2.2.1,
 x_1.1.2.2.2.2.2.2.2.2.2.1,
 x_1.1.2.2.2.2.2.2.2.2.2.2.1,
 x_2.1 + (1 : UInt64),
 x_2.1 + (1 : UInt64) +
 UInt64.ofInt
 ↑(UInt16.toNat
 (x.2.2.2.1.2.2.2.2.2.1 %
 (3 : UInt16)))),
 x_2.2))
 (some
 ((x_1.1.1, x_1.1.2.1, x_2.1 + (1 : UInt64),
 x_1.1.2.2.2.1,
 x_1.1.2.2.2.2.1,
 x_1.1.2.2.2.2.2.1,
 x_1.1.2.2.2.2.2.2.1,
 x_1.1.2.2.2.2.2.2.2.1,
 x_1.1.2.2.2.2.2.2.2.2.1,
 x_1.1.2.2.2.2.2.2.2.2.2.1,
 x_1.1.2.2.2.2.2.2.2.2.2.2.1,
 x_1.1.2.2.2.2.2.2.2.2.2.2.2.1,
 x_1.1.2.2.2.2.2.2.2.2.2.2.2.2),
 x_2.2))
theorem ok10 (n : Nat) : FunOK Try.prog ⟨10, sig10, F10 n⟩ :=
 fun_okB (hints := ⟨[], []⟩) (fuel := n) (c := Try.f10.body.getD .skip) (rv := Try.f10.results.toList) tt_ok mix (FsOK.cons (ok21 n) (FsOK.cons (ok11 n) (FsOK.nil))) Try.func10 (by kernel_rfl) (by kernel_rfl) rfl (by kernel_rfl) rfl rfl (by kernel_rfl)
end Go.Proofs.Ytblldmpkljcnjaa
