/- What the functions of this seat compute, found by walking their code symbolically: each F is what the walk finds, each ok says that the Go function keeps it as a contract. Printed by a program of this repo's. -/
import Derived.Test.YtfmomnniadlbhaaFnsB
open Go Go.Sx
namespace Go.Proofs.Ytfmomnniadlbhaa
set_option maxRecDepth 100000
set_option linter.unusedVariables false
-- (*watchfire/sess.Out).Frames
def sig21 : Sig := ⟨(.cons (.one (.ptr (.cons (.c (.int .u8)) (.cons (.c (.int .u8)) (.cons (.c (.int .i64)) (.cons (.c (.int .u64)) (.cons (.c (.int .u64)) (.cons (.c (.int .u64)) (.cons (.c (.int .u64)) (.cons (.c (.int .u64)) (.cons (.ptr (.cons (.c (.int .i64)) (.cons (.c (.int .u64)) (.cons (.c (.int .u64)) (.cons (.c (.int .u64)) (.cons (.c (.int .u64)) (.cons (.row (.cons (.int .u64) (.cons (.int .u64) (.cons (.int .u64) (.cons (.int .u64) (.cons .bool (.cons .bool .nil))))))) (.cons (.c (.int .u64)) (.cons (.c (.int .u64)) .nil))))))))) .nil))))))))))) (.cons (.one (.ptrA (.cons (.c (.int .i64)) (.cons (.c (.int .i64)) (.cons (.c (.int .u64)) (.cons (.c (.int .u64)) (.cons (.row (.cons (.int .u64) (.cons .bool (.cons (.int .u8) (.cons (.int .u64) (.cons (.int .u64) (.cons .str (.cons (.ro (.cons .str (.cons .str .nil))) (.cons (.int .u8) (.cons (.int .u8) (.cons (.int .i64) (.cons (.int .u8) (.cons (.int .u8) (.cons (.int .u64) (.cons (.int .u64) .nil))))))))))))))) .nil))))) (.int .u64) 32 (.cons (.c (.int .u64)) .nil))) (.cons (.one (.c (.int .u64))) .nil))), (.cons (.one (.c (.ro (.cons (.int .u8) (.cons (.int .u8) (.cons (.int .u8) (.cons (.int .u64) (.cons (.int .u64) (.cons .bool (.cons (.int .u8) (.cons (.int .u64) (.cons (.int .u64) (.cons .str (.cons (.ro (.cons .str (.cons .str .nil))) (.cons (.int .u8) (.cons (.int .u8) (.cons (.int .i64) (.cons (.int .u8) (.cons (.int .u8) (.cons (.int .u64) (.cons (.int .u64) (.cons (.int .u64) (.cons (.int .u64) (.cons (.int .u64) .nil)))))))))))))))))))))))) .nil)⟩
def F21_L61 : Nat →
 Arr
 [PT.list
 (CTs.cons (CT.int IntKind.u64)
 (CTs.cons (CT.int IntKind.u64)
 (CTs.cons (CT.int IntKind.u64)
 (CTs.cons (CT.int IntKind.u64) (CTs.cons CT.bool (CTs.cons CT.bool CTs.nil)))))),
 PT.int IntKind.i64, PT.int IntKind.i64,
 PT.opt
 (OTs.cons (OT.c (CT.int IntKind.u8))
 (OTs.cons (OT.c (CT.int IntKind.u8))
 (OTs.cons (OT.c (CT.int IntKind.i64))
 (OTs.cons (OT.c (CT.int IntKind.u64))
 (OTs.cons (OT.c (CT.int IntKind.u64))
 (OTs.cons (OT.c (CT.int IntKind.u64))
 (OTs.cons (OT.c (CT.int IntKind.u64))
 (OTs.cons (OT.c (CT.int IntKind.u64))
 (OTs.cons
 (OT.ptr
 (OTs.cons (OT.c (CT.int IntKind.i64))
 (OTs.cons (OT.c (CT.int IntKind.u64))
 (OTs.cons (OT.c (CT.int IntKind.u64))
 (OTs.cons (OT.c (CT.int IntKind.u64))
 (OTs.cons (OT.c (CT.int IntKind.u64))
 (OTs.cons
 (OT.row
 (CTs.cons (CT.int IntKind.u64)
 (CTs.cons (CT.int IntKind.u64)
 (CTs.cons (CT.int IntKind.u64)
 (CTs.cons (CT.int IntKind.u64)
 (CTs.cons CT.bool (CTs.cons CT.bool CTs.nil)))))))
 (OTs.cons (OT.c (CT.int IntKind.u64))
 (OTs.cons (OT.c (CT.int IntKind.u64)) OTs.nil)))))))))
 OTs.nil))))))))),
 PT.optA
 (OTs.cons (OT.c (CT.int IntKind.i64))
 (OTs.cons (OT.c (CT.int IntKind.i64))
 (OTs.cons (OT.c (CT.int IntKind.u64))
 (OTs.cons (OT.c (CT.int IntKind.u64))
 (OTs.cons
 (OT.row
 (CTs.cons (CT.int IntKind.u64)
 (CTs.cons CT.bool
 (CTs.cons (CT.int IntKind.u8)
 (CTs.cons (CT.int IntKind.u64)
 (CTs.cons (CT.int IntKind.u64)
 (CTs.cons CT.str
 (CTs.cons (CT.ro (CTs.cons CT.str (CTs.cons CT.str CTs.nil)))
 (CTs.cons (CT.int IntKind.u8)
 (CTs.cons (CT.int IntKind.u8)
 (CTs.cons (CT.int IntKind.i64)
 (CTs.cons (CT.int IntKind.u8)
 (CTs.cons (CT.int IntKind.u8)
 (CTs.cons (CT.int IntKind.u64)
 (CTs.cons (CT.int IntKind.u64) CTs.nil)))))))))))))))
 OTs.nil)))))
 (CT.int IntKind.u64) (OTs.cons (OT.c (CT.int IntKind.u64)) OTs.nil),
 PT.list
 (CTs.cons (CT.int IntKind.u8)
 (CTs.cons (CT.int IntKind.u8)
 (CTs.cons (CT.int IntKind.u8)
 (CTs.cons (CT.int IntKind.u64)
 (CTs.cons (CT.int IntKind.u64)
 (CTs.cons CT.bool
 (CTs.cons (CT.int IntKind.u8)
 (CTs.cons (CT.int IntKind.u64)
 (CTs.cons (CT.int IntKind.u64)
 (CTs.cons CT.str
 (CTs.cons (CT.ro (CTs.cons CT.str (CTs.cons CT.str CTs.nil)))
 (CTs.cons (CT.int IntKind.u8)
 (CTs.cons (CT.int IntKind.u8)
 (CTs.cons (CT.int IntKind.i64)
 (CTs.cons (CT.int IntKind.u8)
 (CTs.cons (CT.int IntKind.u8)
 (CTs.cons (CT.int IntKind.u64)
 (CTs.cons (CT.int IntKind.u64)
 (CTs.cons (CT.int IntKind.u64)
 (CTs.cons (CT.int IntKind.u64)
 (CTs.cons (CT.int IntKind.u64) CTs.nil)))))))))))))))))))))]
 (Option
 (List
 (UInt8 ×
 UInt8 ×
 UInt8 ×
 UInt64 ×
 UInt64 ×
 Bool ×
 UInt8 ×
 UInt64 ×
 UInt64 ×
 List UInt8 ×
 List (List UInt8 × List UInt8) ×
 UInt8 × UInt8 × Int64 × UInt8 × UInt8 × UInt64 × UInt64 × UInt64 × UInt64 × UInt64) ×
 Option
 (UInt8 ×
 UInt8 ×
 Int64 ×
 UInt64 ×
 UInt64 ×
 UInt64 ×
 UInt64 ×
 UInt64 ×
 Option
 (Int64 ×
 UInt64 ×
 UInt64 ×
 UInt64 ×
 UInt64 ×
 List (UInt64 × UInt64 × UInt64 × UInt64 × Bool × Bool) × UInt64 × UInt64)) ×
 Option
 ((Int64 ×
 Int64 ×
 UInt64 ×
 UInt64 ×
 List
 (UInt64 ×
 Bool ×
 UInt8 ×
 UInt64 ×
 UInt64 ×
 List UInt8 ×
 List (List UInt8 × List UInt8) ×
 UInt8 × UInt8 × Int64 × UInt8 × UInt8 × UInt64 × UInt64)) ×
 List UInt64 × UInt64))) →
 List (UInt64 × UInt64 × UInt64 × UInt64 × Bool × Bool) →
 Int64 →
 Int64 →
 Option
 (UInt8 ×
 UInt8 ×
 Int64 ×
 UInt64 ×
 UInt64 ×
 UInt64 ×
 UInt64 ×
 UInt64 ×
 Option
 (Int64 ×
 UInt64 ×
 UInt64 ×
 UInt64 ×
 UInt64 ×
 List (UInt64 × UInt64 × UInt64 × UInt64 × Bool × Bool) × UInt64 × UInt64)) →
 Option
 ((Int64 ×
 Int64 ×
 UInt64 ×
 UInt64 ×
 List
 (UInt64 ×
 Bool ×
 UInt8 ×
 UInt64 ×
 UInt64 ×
 List UInt8 ×
 List (List UInt8 × List UInt8) ×
 UInt8 × UInt8 × Int64 × UInt8 × UInt8 × UInt64 × UInt64)) ×
 List UInt64 × UInt64) →
 List
 (UInt8 ×
 UInt8 ×
 UInt8 ×
 UInt64 ×
 UInt64 ×
 Bool ×
 UInt8 ×
 UInt64 ×
 UInt64 ×
 List UInt8 ×
 List (List UInt8 × List UInt8) ×
 UInt8 ×
 UInt8 × Int64 × UInt8 × UInt8 × UInt64 × UInt64 × UInt64 × UInt64 × UInt64) →
 Option
 (List
 (UInt8 ×
 UInt8 ×
 UInt8 ×
 UInt64 ×
 UInt64 ×
 Bool ×
 UInt8 ×
 UInt64 ×
 UInt64 ×
 List UInt8 ×
 List (List UInt8 × List UInt8) ×
 UInt8 ×
 UInt8 ×
 Int64 × UInt8 × UInt8 × UInt64 × UInt64 × UInt64 × UInt64 × UInt64) ×
 Option
 (UInt8 ×
 UInt8 ×
 Int64 ×
 UInt64 ×
 UInt64 ×
 UInt64 ×
 UInt64 ×
 UInt64 ×
 Option
 (Int64 ×
 UInt64 ×
 UInt64 ×
 UInt64 ×
 UInt64 ×
 List (UInt64 × UInt64 × UInt64 × UInt64 × Bool × Bool) ×
 UInt64 × UInt64)) ×
 Option
 ((Int64 ×
 Int64 ×
 UInt64 ×
 UInt64 ×
 List
 (UInt64 ×
 Bool ×
 UInt8 ×
 UInt64 ×
 UInt64 ×
 List UInt8 ×
 List (List UInt8 × List UInt8) ×
 UInt8 × UInt8 × Int64 × UInt8 × UInt8 × UInt64 × UInt64)) ×
 List UInt64 × UInt64)) := fun (n : Nat)
 (rec :
 Arr
 [PT.list
 (CTs.cons (CT.int IntKind.u64)
 (CTs.cons (CT.int IntKind.u64)
 (CTs.cons (CT.int IntKind.u64)
 (CTs.cons (CT.int IntKind.u64) (CTs.cons CT.bool (CTs.cons CT.bool CTs.nil)))))),
 PT.int IntKind.i64, PT.int IntKind.i64,
 PT.opt
 (OTs.cons (OT.c (CT.int IntKind.u8))
 (OTs.cons (OT.c (CT.int IntKind.u8))
 (OTs.cons (OT.c (CT.int IntKind.i64))
 (OTs.cons (OT.c (CT.int IntKind.u64))
 (OTs.cons (OT.c (CT.int IntKind.u64))
 (OTs.cons (OT.c (CT.int IntKind.u64))
 (OTs.cons (OT.c (CT.int IntKind.u64))
 (OTs.cons (OT.c (CT.int IntKind.u64))
 (OTs.cons
 (OT.ptr
 (OTs.cons (OT.c (CT.int IntKind.i64))
 (OTs.cons (OT.c (CT.int IntKind.u64))
 (OTs.cons (OT.c (CT.int IntKind.u64))
 (OTs.cons (OT.c (CT.int IntKind.u64))
 (OTs.cons (OT.c (CT.int IntKind.u64))
 (OTs.cons
 (OT.row
 (CTs.cons (CT.int IntKind.u64)
 (CTs.cons (CT.int IntKind.u64)
 (CTs.cons (CT.int IntKind.u64)
 (CTs.cons (CT.int IntKind.u64)
 (CTs.cons CT.bool (CTs.cons CT.bool CTs.nil)))))))
 (OTs.cons (OT.c (CT.int IntKind.u64))
 (OTs.cons (OT.c (CT.int IntKind.u64)) OTs.nil)))))))))
 OTs.nil))))))))),
 PT.optA
 (OTs.cons (OT.c (CT.int IntKind.i64))
 (OTs.cons (OT.c (CT.int IntKind.i64))
 (OTs.cons (OT.c (CT.int IntKind.u64))
 (OTs.cons (OT.c (CT.int IntKind.u64))
 (OTs.cons
 (OT.row
 (CTs.cons (CT.int IntKind.u64)
 (CTs.cons CT.bool
 (CTs.cons (CT.int IntKind.u8)
 (CTs.cons (CT.int IntKind.u64)
 (CTs.cons (CT.int IntKind.u64)
 (CTs.cons CT.str
 (CTs.cons (CT.ro (CTs.cons CT.str (CTs.cons CT.str CTs.nil)))
 (CTs.cons (CT.int IntKind.u8)
 (CTs.cons (CT.int IntKind.u8)
 (CTs.cons (CT.int IntKind.i64)
 (CTs.cons (CT.int IntKind.u8)
 (CTs.cons (CT.int IntKind.u8)
 (CTs.cons (CT.int IntKind.u64)
 (CTs.cons (CT.int IntKind.u64) CTs.nil)))))))))))))))
 OTs.nil)))))
 (CT.int IntKind.u64) (OTs.cons (OT.c (CT.int IntKind.u64)) OTs.nil),
 PT.list
 (CTs.cons (CT.int IntKind.u8)
 (CTs.cons (CT.int IntKind.u8)
 (CTs.cons (CT.int IntKind.u8)
 (CTs.cons (CT.int IntKind.u64)
 (CTs.cons (CT.int IntKind.u64)
 (CTs.cons CT.bool
 (CTs.cons (CT.int IntKind.u8)
 (CTs.cons (CT.int IntKind.u64)
 (CTs.cons (CT.int IntKind.u64)
 (CTs.cons CT.str
 (CTs.cons (CT.ro (CTs.cons CT.str (CTs.cons CT.str CTs.nil)))
 (CTs.cons (CT.int IntKind.u8)
 (CTs.cons (CT.int IntKind.u8)
 (CTs.cons (CT.int IntKind.i64)
 (CTs.cons (CT.int IntKind.u8)
 (CTs.cons (CT.int IntKind.u8)
 (CTs.cons (CT.int IntKind.u64)
 (CTs.cons (CT.int IntKind.u64)
 (CTs.cons (CT.int IntKind.u64)
 (CTs.cons (CT.int IntKind.u64)
 (CTs.cons (CT.int IntKind.u64) CTs.nil)))))))))))))))))))))]
 (Option
 (List
 (UInt8 ×
 UInt8 ×
 UInt8 ×
 UInt64 ×
 UInt64 ×
 Bool ×
 UInt8 ×
 UInt64 ×
 UInt64 ×
 List UInt8 ×
 List (List UInt8 × List UInt8) ×
 UInt8 ×
 UInt8 × Int64 × UInt8 × UInt8 × UInt64 × UInt64 × UInt64 × UInt64 × UInt64) ×
 Option
 (UInt8 ×
 UInt8 ×
 Int64 ×
 UInt64 ×
 UInt64 ×
 UInt64 ×
 UInt64 ×
 UInt64 ×
 Option
 (Int64 ×
 UInt64 ×
 UInt64 ×
 UInt64 ×
 UInt64 ×
 List (UInt64 × UInt64 × UInt64 × UInt64 × Bool × Bool) × UInt64 × UInt64)) ×
 Option
 ((Int64 ×
 Int64 ×
 UInt64 ×
 UInt64 ×
 List
 (UInt64 ×
 Bool ×
 UInt8 ×
 UInt64 ×
 UInt64 ×
 List UInt8 ×
 List (List UInt8 × List UInt8) ×
 UInt8 × UInt8 × Int64 × UInt8 × UInt8 × UInt64 × UInt64)) ×
 List UInt64 × UInt64))))
 (t : List (UInt64 × UInt64 × UInt64 × UInt64 × Bool × Bool)) (t_1 t_2 : Int64)
 (o :
 Option
 (UInt8 ×
 UInt8 ×
 Int64 ×
 UInt64 ×
 UInt64 ×
 UInt64 ×
 UInt64 ×
 UInt64 ×
 Option
 (Int64 ×
 UInt64 ×
 UInt64 ×
 UInt64 ×
 UInt64 × List (UInt64 × UInt64 × UInt64 × UInt64 × Bool × Bool) × UInt64 × UInt64)))
 (s :
 Option
 ((Int64 ×
 Int64 ×
 UInt64 ×
 UInt64 ×
 List
 (UInt64 ×
 Bool ×
 UInt8 ×
 UInt64 ×
 UInt64 ×
 List UInt8 ×
 List (List UInt8 × List UInt8) ×
 UInt8 × UInt8 × Int64 × UInt8 × UInt8 × UInt64 × UInt64)) ×
 List UInt64 × UInt64))
 (out :
 List
 (UInt8 ×
 UInt8 ×
 UInt8 ×
 UInt64 ×
 UInt64 ×
 Bool ×
 UInt8 ×
 UInt64 ×
 UInt64 ×
 List UInt8 ×
 List (List UInt8 × List UInt8) ×
 UInt8 × UInt8 × Int64 × UInt8 × UInt8 × UInt64 × UInt64 × UInt64 × UInt64 × UInt64)) =>
 oite (decide (t_2 < t_1))
 (obind (at? t (Int64.toInt t_2)) fun (x_4 : UInt64 × UInt64 × UInt64 × UInt64 × Bool × Bool) =>
 obind (F42 n (s, Prod.fst (Prod.snd x_4)))
 fun
 (x_5 :
 ((UInt64 ×
 Bool ×
 UInt8 ×
 UInt64 ×
 UInt64 ×
 List UInt8 ×
 List (List UInt8 × List UInt8) × UInt8 × UInt8 × Int64 × UInt8 × UInt8 × UInt64 × UInt64) ×
 Bool) ×
 Option
 ((Int64 ×
 Int64 ×
 UInt64 ×
 UInt64 ×
 List
 (UInt64 ×
 Bool ×
 UInt8 ×
 UInt64 ×
 UInt64 ×
 List UInt8 ×
 List (List UInt8 × List UInt8) ×
 UInt8 × UInt8 × Int64 × UInt8 × UInt8 × UInt64 × UInt64)) ×
 List UInt64 × UInt64)) =>
 oite (!Prod.snd (Prod.fst x_5)) (rec t t_1 (t_2 + (1 : Int64)) o (Prod.snd x_5) out)
 (oite (!decide (Prod.fst (Prod.fst (Prod.fst x_5)) = Prod.fst (Prod.snd x_4)))
 (rec t t_1 (t_2 + (1 : Int64)) o (Prod.snd x_5) out)
 (obind o
 fun
 (x_6 :
 UInt8 ×
 UInt8 ×
 Int64 ×
 UInt64 ×
 UInt64 ×
 UInt64 ×
 UInt64 ×
 UInt64 ×
 Option
 (Int64 ×
 UInt64 ×
 UInt64 ×
 UInt64 ×
 UInt64 ×
 List (UInt64 × UInt64 × UInt64 × UInt64 × Bool × Bool) ×
 UInt64 × UInt64)) =>
 obind
 (F11 n
 (some
 (Prod.fst x_6, Prod.fst (Prod.snd x_6), Prod.fst (Prod.snd (Prod.snd x_6)),
 Prod.fst (Prod.snd (Prod.snd (Prod.snd x_6))),
 Prod.fst (Prod.snd (Prod.snd (Prod.snd (Prod.snd x_6)))),
 Prod.fst (Prod.snd (Prod.snd (Prod.snd (Prod.snd (Prod.snd x_6))))),
 Prod.fst (Prod.snd (Prod.snd (Prod.snd (Prod.snd (Prod.snd (Prod.snd x_6)))))),
 Prod.fst (Prod.snd (Prod.snd (Prod.snd (Prod.snd (Prod.snd (Prod.snd (Prod.snd x_6))))))),
 Prod.snd (Prod.snd (Prod.snd (Prod.snd (Prod.snd (Prod.snd (Prod.snd (Prod.snd x_6))))))))))
 fun
 (x_7 :
 UInt64 ×
 Option
 (UInt8 ×
 UInt8 ×
 Int64 ×
 UInt64 ×
 UInt64 ×
 UInt64 ×
 UInt64 ×
 UInt64 ×
 Option
 (Int64 ×
 UInt64 ×
 UInt64 ×
 UInt64 ×
 UInt64 ×
 List (UInt64 × UInt64 × UInt64 × UInt64 × Bool × Bool) ×
 UInt64 × UInt64))) =>
 oite
 (Nat.ble
 (List.length out +
 List.length
 [((1 : UInt8), Prod.fst x_6, Prod.fst (Prod.snd x_6), Prod.fst x_7, Prod.fst x_4,
 Prod.fst (Prod.snd (Prod.fst (Prod.fst x_5))),
 Prod.fst (Prod.snd (Prod.snd (Prod.fst (Prod.fst x_5)))),
 Prod.fst (Prod.snd (Prod.snd (Prod.snd (Prod.fst (Prod.fst x_5))))),
 Prod.fst (Prod.snd (Prod.snd (Prod.snd (Prod.snd (Prod.fst (Prod.fst x_5)))))),
 Prod.fst (Prod.snd (Prod.snd (Prod.snd (Prod.snd (Prod.snd (Prod.fst (Prod.fst x_5))))))),
 Prod.fst
 (Prod.snd
 (Prod.snd (Prod.snd (Prod.snd (Prod.snd (Prod.snd (Prod.fst (Prod.fst x_5)))))))),
 Prod.fst
 (Prod.snd
 (Prod.snd
 (Prod.snd (Prod.snd (Prod.snd (Prod.snd (Prod.snd (Prod.fst (Prod.fst x_5))))))))),
 Prod.fst
 (Prod.snd
 (Prod.snd
 (Prod.snd
 (Prod.snd (Prod.snd (Prod.snd (Prod.snd (Prod.snd (Prod.fst (Prod.fst x_5)))))))))),
 Prod.fst
 (Prod.snd
 (Prod.snd
 (Prod.snd
 (Prod.snd
 (Prod.snd
 (Prod.snd (Prod.snd (Prod.snd (Prod.snd (Prod.fst (Prod.fst x_5))))))))))),
 Prod.fst
 (Prod.snd
 (Prod.snd
 (Prod.snd
 (Prod.snd
 (Prod.snd
 (Prod.snd
 (Prod.snd (Prod.snd (Prod.snd (Prod.snd (Prod.fst (Prod.fst x_5)))))))))))),
 Prod.fst
 (Prod.snd
 (Prod.snd
 (Prod.snd
 (Prod.snd
 (Prod.snd
 (Prod.snd
 (Prod.snd
 (Prod.snd
 (Prod.snd (Prod.snd (Prod.snd (Prod.fst (Prod.fst x_5))))))))))))),
 Prod.fst
 (Prod.snd
 (Prod.snd
 (Prod.snd
 (Prod.snd
 (Prod.snd
 (Prod.snd
 (Prod.snd
 (Prod.snd
 (Prod.snd
 (Prod.snd (Prod.snd (Prod.snd (Prod.fst (Prod.fst x_5)))))))))))))),
 Prod.snd
 (Prod.snd
 (Prod.snd
 (Prod.snd
 (Prod.snd
 (Prod.snd
 (Prod.snd
 (Prod.snd
 (Prod.snd
 (Prod.snd
 (Prod.snd (Prod.snd (Prod.snd (Prod.fst (Prod.fst x_5)))))))))))))),
 (0 : UInt64), (0 : UInt64), (0 : UInt64))])
 (4294967296 : Nat))
 none none)))
 (some (out, o, s))
def F21_R61 : Nat →
 Nat →
 PT.T
 (PT.list
 (CTs.cons (CT.int IntKind.u64)
 (CTs.cons (CT.int IntKind.u64)
 (CTs.cons (CT.int IntKind.u64)
 (CTs.cons (CT.int IntKind.u64) (CTs.cons CT.bool (CTs.cons CT.bool CTs.nil))))))) →
 Int64 →
 Int64 →
 Option
 (UInt8 ×
 UInt8 ×
 Int64 ×
 UInt64 ×
 UInt64 ×
 UInt64 ×
 UInt64 ×
 UInt64 ×
 Option
 (Int64 ×
 UInt64 ×
 UInt64 ×
 UInt64 ×
 UInt64 ×
 List (UInt64 × UInt64 × UInt64 × UInt64 × Bool × Bool) × UInt64 × UInt64)) →
 Option
 ((Int64 ×
 Int64 ×
 UInt64 ×
 UInt64 ×
 List
 (UInt64 ×
 Bool ×
 UInt8 ×
 UInt64 ×
 UInt64 ×
 List UInt8 ×
 List (List UInt8 × List UInt8) ×
 UInt8 × UInt8 × Int64 × UInt8 × UInt8 × UInt64 × UInt64)) ×
 List UInt64 × UInt64) →
 List
 (UInt8 ×
 UInt8 ×
 UInt8 ×
 UInt64 ×
 UInt64 ×
 Bool ×
 UInt8 ×
 UInt64 ×
 UInt64 ×
 List UInt8 ×
 List (List UInt8 × List UInt8) ×
 UInt8 ×
 UInt8 × Int64 × UInt8 × UInt8 × UInt64 × UInt64 × UInt64 × UInt64 × UInt64) →
 Option
 (List
 (UInt8 ×
 UInt8 ×
 UInt8 ×
 UInt64 ×
 UInt64 ×
 Bool ×
 UInt8 ×
 UInt64 ×
 UInt64 ×
 List UInt8 ×
 List (List UInt8 × List UInt8) ×
 UInt8 ×
 UInt8 ×
 Int64 × UInt8 × UInt8 × UInt64 × UInt64 × UInt64 × UInt64 × UInt64) ×
 Option
 (UInt8 ×
 UInt8 ×
 Int64 ×
 UInt64 ×
 UInt64 ×
 UInt64 ×
 UInt64 ×
 UInt64 ×
 Option
 (Int64 ×
 UInt64 ×
 UInt64 ×
 UInt64 ×
 UInt64 ×
 List (UInt64 × UInt64 × UInt64 × UInt64 × Bool × Bool) ×
 UInt64 × UInt64)) ×
 Option
 ((Int64 ×
 Int64 ×
 UInt64 ×
 UInt64 ×
 List
 (UInt64 ×
 Bool ×
 UInt8 ×
 UInt64 ×
 UInt64 ×
 List UInt8 ×
 List (List UInt8 × List UInt8) ×
 UInt8 × UInt8 × Int64 × UInt8 × UInt8 × UInt64 × UInt64)) ×
 List UInt64 × UInt64)) := fun (n : Nat) =>
 ofixA (61 : Nat)
 [PT.list
 (CTs.cons (CT.int IntKind.u64)
 (CTs.cons (CT.int IntKind.u64)
 (CTs.cons (CT.int IntKind.u64)
 (CTs.cons (CT.int IntKind.u64) (CTs.cons CT.bool (CTs.cons CT.bool CTs.nil)))))),
 PT.int IntKind.i64, PT.int IntKind.i64,
 PT.opt
 (OTs.cons (OT.c (CT.int IntKind.u8))
 (OTs.cons (OT.c (CT.int IntKind.u8))
 (OTs.cons (OT.c (CT.int IntKind.i64))
 (OTs.cons (OT.c (CT.int IntKind.u64))
 (OTs.cons (OT.c (CT.int IntKind.u64))
 (OTs.cons (OT.c (CT.int IntKind.u64))
 (OTs.cons (OT.c (CT.int IntKind.u64))
 (OTs.cons (OT.c (CT.int IntKind.u64))
 (OTs.cons
 (OT.ptr
 (OTs.cons (OT.c (CT.int IntKind.i64))
 (OTs.cons (OT.c (CT.int IntKind.u64))
 (OTs.cons (OT.c (CT.int IntKind.u64))
 (OTs.cons (OT.c (CT.int IntKind.u64))
 (OTs.cons (OT.c (CT.int IntKind.u64))
 (OTs.cons
 (OT.row
 (CTs.cons (CT.int IntKind.u64)
 (CTs.cons (CT.int IntKind.u64)
 (CTs.cons (CT.int IntKind.u64)
 (CTs.cons (CT.int IntKind.u64)
 (CTs.cons CT.bool (CTs.cons CT.bool CTs.nil)))))))
 (OTs.cons (OT.c (CT.int IntKind.u64))
 (OTs.cons (OT.c (CT.int IntKind.u64)) OTs.nil)))))))))
 OTs.nil))))))))),
 PT.optA
 (OTs.cons (OT.c (CT.int IntKind.i64))
 (OTs.cons (OT.c (CT.int IntKind.i64))
 (OTs.cons (OT.c (CT.int IntKind.u64))
 (OTs.cons (OT.c (CT.int IntKind.u64))
 (OTs.cons
 (OT.row
 (CTs.cons (CT.int IntKind.u64)
 (CTs.cons CT.bool
 (CTs.cons (CT.int IntKind.u8)
 (CTs.cons (CT.int IntKind.u64)
 (CTs.cons (CT.int IntKind.u64)
 (CTs.cons CT.str
 (CTs.cons (CT.ro (CTs.cons CT.str (CTs.cons CT.str CTs.nil)))
 (CTs.cons (CT.int IntKind.u8)
 (CTs.cons (CT.int IntKind.u8)
 (CTs.cons (CT.int IntKind.i64)
 (CTs.cons (CT.int IntKind.u8)
 (CTs.cons (CT.int IntKind.u8)
 (CTs.cons (CT.int IntKind.u64)
 (CTs.cons (CT.int IntKind.u64) CTs.nil)))))))))))))))
 OTs.nil)))))
 (CT.int IntKind.u64) (OTs.cons (OT.c (CT.int IntKind.u64)) OTs.nil),
 PT.list
 (CTs.cons (CT.int IntKind.u8)
 (CTs.cons (CT.int IntKind.u8)
 (CTs.cons (CT.int IntKind.u8)
 (CTs.cons (CT.int IntKind.u64)
 (CTs.cons (CT.int IntKind.u64)
 (CTs.cons CT.bool
 (CTs.cons (CT.int IntKind.u8)
 (CTs.cons (CT.int IntKind.u64)
 (CTs.cons (CT.int IntKind.u64)
 (CTs.cons CT.str
 (CTs.cons (CT.ro (CTs.cons CT.str (CTs.cons CT.str CTs.nil)))
 (CTs.cons (CT.int IntKind.u8)
 (CTs.cons (CT.int IntKind.u8)
 (CTs.cons (CT.int IntKind.i64)
 (CTs.cons (CT.int IntKind.u8)
 (CTs.cons (CT.int IntKind.u8)
 (CTs.cons (CT.int IntKind.u64)
 (CTs.cons (CT.int IntKind.u64)
 (CTs.cons (CT.int IntKind.u64)
 (CTs.cons (CT.int IntKind.u64)
 (CTs.cons (CT.int IntKind.u64) CTs.nil)))))))))))))))))))))]
 (F21_L61 n)
def F21 : Nat →
 Option
 (UInt8 ×
 UInt8 ×
 Int64 ×
 UInt64 ×
 UInt64 ×
 UInt64 ×
 UInt64 ×
 UInt64 ×
 Option
 (Int64 ×
 UInt64 ×
 UInt64 ×
 UInt64 ×
 UInt64 × List (UInt64 × UInt64 × UInt64 × UInt64 × Bool × Bool) × UInt64 × UInt64)) ×
 Option
 ((Int64 ×
 Int64 ×
 UInt64 ×
 UInt64 ×
 List
 (UInt64 ×
 Bool ×
 UInt8 ×
 UInt64 ×
 UInt64 ×
 List UInt8 ×
 List (List UInt8 × List UInt8) ×
 UInt8 × UInt8 × Int64 × UInt8 × UInt8 × UInt64 × UInt64)) ×
 List UInt64 × UInt64) ×
 UInt64 →
 Option
 (List
 (UInt8 ×
 UInt8 ×
 UInt8 ×
 UInt64 ×
 UInt64 ×
 Bool ×
 UInt8 ×
 UInt64 ×
 UInt64 ×
 List UInt8 ×
 List (List UInt8 × List UInt8) ×
 UInt8 × UInt8 × Int64 × UInt8 × UInt8 × UInt64 × UInt64 × UInt64 × UInt64 × UInt64) ×
 Option
 (UInt8 ×
 UInt8 ×
 Int64 ×
 UInt64 ×
 UInt64 ×
 UInt64 ×
 UInt64 ×
 UInt64 ×
 Option
 (Int64 ×
 UInt64 ×
 UInt64 ×
 UInt64 ×
 UInt64 ×
 List (UInt64 × UInt64 × UInt64 × UInt64 × Bool × Bool) × UInt64 × UInt64)) ×
 Option
 ((Int64 ×
 Int64 ×
 UInt64 ×
 UInt64 ×
 List
 (UInt64 ×
 Bool ×
 UInt8 ×
 UInt64 ×
 UInt64 ×
 List UInt8 ×
 List (List UInt8 × List UInt8) ×
 UInt8 × UInt8 × Int64 × UInt8 × UInt8 × UInt64 × UInt64)) ×
 List UInt64 × UInt64)) := fun (n : Nat)
 (x :
 Option
 (UInt8 ×
 UInt8 ×
 Int64 ×
 UInt64 ×
 UInt64 ×
 UInt64 ×
 UInt64 ×
 UInt64 ×
 Option
 (Int64 ×
 UInt64 ×
 UInt64 ×
 UInt64 ×
 UInt64 ×
 List (UInt64 × UInt64 × UInt64 × UInt64 × Bool × Bool) × UInt64 × UInt64)) ×
 Option
 ((Int64 ×
 Int64 ×
 UInt64 ×
 UInt64 ×
 List
 (UInt64 ×
 Bool ×
 UInt8 ×
 UInt64 ×
 UInt64 ×
 List UInt8 ×
 List (List UInt8 × List UInt8) ×
 UInt8 × UInt8 × Int64 × UInt8 × UInt8 × UInt64 × UInt64)) ×
 List UInt64 × UInt64) ×
 UInt64) =>
 oelim (Prod.fst x) (some ([], none, Prod.fst (Prod.snd x)))
 fun
 (x_1 :
 UInt8 ×
 UInt8 ×
 Int64 ×
 UInt64 ×
 UInt64 ×
 UInt64 ×
 UInt64 ×
 UInt64 ×
 Option
 (Int64 ×
 UInt64 ×
 UInt64 ×
 UInt64 ×
 UInt64 × List (UInt64 × UInt64 × UInt64 × UInt64 × Bool × Bool) × UInt64 × UInt64)) =>
 oelim (Prod.fst (Prod.snd x))
 (some
 ([],
 some
 (Prod.fst x_1, Prod.fst (Prod.snd x_1), Prod.fst (Prod.snd (Prod.snd x_1)),
 Prod.fst (Prod.snd (Prod.snd (Prod.snd x_1))), Prod.fst (Prod.snd (Prod.snd (Prod.snd (Prod.snd x_1)))),
 Prod.fst (Prod.snd (Prod.snd (Prod.snd (Prod.snd (Prod.snd x_1))))),
 Prod.fst (Prod.snd (Prod.snd (Prod.snd (Prod.snd (Prod.snd (Prod.snd x_1)))))),
 Prod.fst (Prod.snd (Prod.snd (Prod.snd (Prod.snd (Prod.snd (Prod.snd (Prod.snd x_1))))))),
 Prod.snd (Prod.snd (Prod.snd (Prod.snd (Prod.snd (Prod.snd (Prod.snd (Prod.snd x_1)))))))),
 none))
 fun
 (x_2 :
 (Int64 ×
 Int64 ×
 UInt64 ×
 UInt64 ×
 List
 (UInt64 ×
 Bool ×
 UInt8 ×
 UInt64 ×
 UInt64 ×
 List UInt8 ×
 List (List UInt8 × List UInt8) ×
 UInt8 × UInt8 × Int64 × UInt8 × UInt8 × UInt64 × UInt64)) ×
 List UInt64 × UInt64) =>
 obind
 (F41 n
 (Prod.snd (Prod.snd (Prod.snd (Prod.snd (Prod.snd (Prod.snd (Prod.snd (Prod.snd x_1))))))),
 Prod.snd (Prod.snd x)))
 fun
 (x_3 :
 List (UInt64 × UInt64 × UInt64 × UInt64 × Bool × Bool) ×
 Option
 (Int64 ×
 UInt64 ×
 UInt64 ×
 UInt64 × UInt64 × List (UInt64 × UInt64 × UInt64 × UInt64 × Bool × Bool) × UInt64 × UInt64)) =>
 F21_R61 n n (Prod.fst x_3) (Int64.ofInt ↑(List.length (Prod.fst x_3))) (0 : Int64)
 (some
 (Prod.fst x_1, Prod.fst (Prod.snd x_1), Prod.fst (Prod.snd (Prod.snd x_1)),
 Prod.fst (Prod.snd (Prod.snd (Prod.snd x_1))), Prod.fst (Prod.snd (Prod.snd (Prod.snd (Prod.snd x_1)))),
 Prod.fst (Prod.snd (Prod.snd (Prod.snd (Prod.snd (Prod.snd x_1))))),
 Prod.fst (Prod.snd (Prod.snd (Prod.snd (Prod.snd (Prod.snd (Prod.snd x_1)))))),
 Prod.fst (Prod.snd (Prod.snd (Prod.snd (Prod.snd (Prod.snd (Prod.snd (Prod.snd x_1))))))), Prod.snd x_3))
 (some
 ((Prod.fst (Prod.fst x_2), Prod.fst (Prod.snd (Prod.fst x_2)),
 Prod.fst (Prod.snd (Prod.snd (Prod.fst x_2))), Prod.fst (Prod.snd (Prod.snd (Prod.snd (Prod.fst x_2)))),
 Prod.snd (Prod.snd (Prod.snd (Prod.snd (Prod.fst x_2))))),
 Prod.fst (Prod.snd x_2), Prod.snd (Prod.snd x_2)))
 []
theorem F21_R61_s (n : Nat) (m_ : Nat) : F21_R61 n (m_ + 1) = F21_L61 n (F21_R61 n m_) := rfl
theorem ok21 (n : Nat) : FunOK Try.prog ⟨21, sig21, F21 n⟩ :=
 fun_ok (hints := ⟨[], [(61, ⟨[(0, .one (.own 0)), (1, .one (.own 1)), (7, .one (.own 3)), (23, .one (.ro (.cons (.int .u64) (.cons (.int .u64) (.cons (.int .u64) (.cons (.int .u64) (.cons .bool (.cons .bool .nil)))))))), (24, .one (.int .i64)), (25, .one (.int .i64))], [(0, .fold (.cons (.c (.int .u8)) (.cons (.c (.int .u8)) (.cons (.c (.int .i64)) (.cons (.c (.int .u64)) (.cons (.c (.int .u64)) (.cons (.c (.int .u64)) (.cons (.c (.int .u64)) (.cons (.c (.int .u64)) (.cons (.ptr (.cons (.c (.int .i64)) (.cons (.c (.int .u64)) (.cons (.c (.int .u64)) (.cons (.c (.int .u64)) (.cons (.c (.int .u64)) (.cons (.row (.cons (.int .u64) (.cons (.int .u64) (.cons (.int .u64) (.cons (.int .u64) (.cons .bool (.cons .bool .nil))))))) (.cons (.c (.int .u64)) (.cons (.c (.int .u64)) .nil))))))))) .nil)))))))))), (1, .foldA (.cons (.c (.int .i64)) (.cons (.c (.int .i64)) (.cons (.c (.int .u64)) (.cons (.c (.int .u64)) (.cons (.row (.cons (.int .u64) (.cons .bool (.cons (.int .u8) (.cons (.int .u64) (.cons (.int .u64) (.cons .str (.cons (.ro (.cons .str (.cons .str .nil))) (.cons (.int .u8) (.cons (.int .u8) (.cons (.int .i64) (.cons (.int .u8) (.cons (.int .u8) (.cons (.int .u64) (.cons (.int .u64) .nil))))))))))))))) .nil))))) (.int .u64) 32 (.cons (.c (.int .u64)) .nil)), (3, .row (.cons (.int .u8) (.cons (.int .u8) (.cons (.int .u8) (.cons (.int .u64) (.cons (.int .u64) (.cons .bool (.cons (.int .u8) (.cons (.int .u64) (.cons (.int .u64) (.cons .str (.cons (.ro (.cons .str (.cons .str .nil))) (.cons (.int .u8) (.cons (.int .u8) (.cons (.int .i64) (.cons (.int .u8) (.cons (.int .u8) (.cons (.int .u64) (.cons (.int .u64) (.cons (.int .u64) (.cons (.int .u64) (.cons (.int .u64) .nil))))))))))))))))))))))], 4⟩)]⟩) (fuel := n) (c := Try.f21.body.getD .skip) (rs := Try.f21.results.toList) tt_ok mix (FsOK.cons (ok41 n) (FsOK.cons (ok42 n) (FsOK.cons (ok11 n) (FsOK.nil)))) Try.func21 (by kernel_rfl) (by kernel_rfl) rfl (by kernel_rfl) rfl rfl (by kernel_rfl)
-- (*watchfire/sess.Out).Changed
def sig22 : Sig := ⟨(.cons (.one (.ptr (.cons (.c (.int .u8)) (.cons (.c (.int .u8)) (.cons (.c (.int .i64)) (.cons (.c (.int .u64)) (.cons (.c (.int .u64)) (.cons (.c (.int .u64)) (.cons (.c (.int .u64)) (.cons (.c (.int .u64)) (.cons (.ptr (.cons (.c (.int .i64)) (.cons (.c (.int .u64)) (.cons (.c (.int .u64)) (.cons (.c (.int .u64)) (.cons (.c (.int .u64)) (.cons (.row (.cons (.int .u64) (.cons (.int .u64) (.cons (.int .u64) (.cons (.int .u64) (.cons .bool (.cons .bool .nil))))))) (.cons (.c (.int .u64)) (.cons (.c (.int .u64)) .nil))))))))) .nil))))))))))) (.cons (.one (.c (.int .u64))) .nil)), (.cons (.one (.c .bool)) .nil)⟩
def F22 : Nat →
 Option
 (UInt8 ×
 UInt8 ×
 Int64 ×
 UInt64 ×
 UInt64 ×
 UInt64 ×
 UInt64 ×
 UInt64 ×
 Option
 (Int64 ×
 UInt64 ×
 UInt64 ×
 UInt64 ×
 UInt64 × List (UInt64 × UInt64 × UInt64 × UInt64 × Bool × Bool) × UInt64 × UInt64)) ×
 UInt64 →
 Option
 (Bool ×
 Option
 (UInt8 ×
 UInt8 ×
 Int64 ×
 UInt64 ×
 UInt64 ×
 UInt64 ×
 UInt64 ×
 UInt64 ×
 Option
 (Int64 ×
 UInt64 ×
 UInt64 ×
 UInt64 ×
 UInt64 × List (UInt64 × UInt64 × UInt64 × UInt64 × Bool × Bool) × UInt64 × UInt64))) := fun (n : Nat)
 (x :
 Option
 (UInt8 ×
 UInt8 ×
 Int64 ×
 UInt64 ×
 UInt64 ×
 UInt64 ×
 UInt64 ×
 UInt64 ×
 Option
 (Int64 ×
 UInt64 ×
 UInt64 ×
 UInt64 ×
 UInt64 ×
 List (UInt64 × UInt64 × UInt64 × UInt64 × Bool × Bool) × UInt64 × UInt64)) ×
 UInt64) =>
 oelim (Prod.fst x) (some (false, none))
 fun
 (x_1 :
 UInt8 ×
 UInt8 ×
 Int64 ×
 UInt64 ×
 UInt64 ×
 UInt64 ×
 UInt64 ×
 UInt64 ×
 Option
 (Int64 ×
 UInt64 ×
 UInt64 ×
 UInt64 ×
 UInt64 × List (UInt64 × UInt64 × UInt64 × UInt64 × Bool × Bool) × UInt64 × UInt64)) =>
 oite (decide (Prod.snd x = (0 : UInt64)))
 (some
 (false,
 some
 (Prod.fst x_1, Prod.fst (Prod.snd x_1), Prod.fst (Prod.snd (Prod.snd x_1)),
 Prod.fst (Prod.snd (Prod.snd (Prod.snd x_1))), Prod.fst (Prod.snd (Prod.snd (Prod.snd (Prod.snd x_1)))),
 Prod.fst (Prod.snd (Prod.snd (Prod.snd (Prod.snd (Prod.snd x_1))))),
 Prod.fst (Prod.snd (Prod.snd (Prod.snd (Prod.snd (Prod.snd (Prod.snd x_1)))))),
 Prod.fst (Prod.snd (Prod.snd (Prod.snd (Prod.snd (Prod.snd (Prod.snd (Prod.snd x_1))))))),
 Prod.snd (Prod.snd (Prod.snd (Prod.snd (Prod.snd (Prod.snd (Prod.snd (Prod.snd x_1))))))))))
 (obind (F38 n (Prod.snd (Prod.snd (Prod.snd (Prod.snd (Prod.snd (Prod.snd (Prod.snd (Prod.snd x_1)))))))))
 fun
 (x_2 :
 UInt64 ×
 Option
 (Int64 ×
 UInt64 ×
 UInt64 ×
 UInt64 × UInt64 × List (UInt64 × UInt64 × UInt64 × UInt64 × Bool × Bool) × UInt64 × UInt64)) =>
 oite (decide (Prod.fst x_2 < Prod.snd x))
 (some
 (false,
 some
 (Prod.fst x_1, Prod.fst (Prod.snd x_1), Prod.fst (Prod.snd (Prod.snd x_1)),
 Prod.fst (Prod.snd (Prod.snd (Prod.snd x_1))),
 Prod.fst (Prod.snd (Prod.snd (Prod.snd (Prod.snd x_1)))),
 Prod.fst (Prod.snd (Prod.snd (Prod.snd (Prod.snd (Prod.snd x_1))))),
 Prod.fst (Prod.snd (Prod.snd (Prod.snd (Prod.snd (Prod.snd (Prod.snd x_1)))))),
 Prod.fst (Prod.snd (Prod.snd (Prod.snd (Prod.snd (Prod.snd (Prod.snd (Prod.snd x_1))))))),
 Prod.snd x_2)))
 (obind
 (F18 n
 (some
 (Prod.fst x_1, Prod.fst (Prod.snd x_1), Prod.fst (Prod.snd (Prod.snd x_1)),
 Prod.fst (Prod.snd (Prod.snd (Prod.snd x_1))),
 Prod.fst (Prod.snd (Prod.snd (Prod.snd (Prod.snd x_1)))),
 Prod.fst (Prod.snd (Prod.snd (Prod.snd (Prod.snd (Prod.snd x_1))))),
 Prod.fst (Prod.snd (Prod.snd (Prod.snd (Prod.snd (Prod.snd (Prod.snd x_1)))))),
 Prod.fst (Prod.snd (Prod.snd (Prod.snd (Prod.snd (Prod.snd (Prod.snd (Prod.snd x_1))))))),
 Prod.snd x_2)))
 fun
 (x_3 :
 Int64 ×
 Option
 (UInt8 ×
 UInt8 ×
 Int64 ×
 UInt64 ×
 UInt64 ×
 UInt64 ×
 UInt64 ×
 UInt64 ×
 Option
 (Int64 ×
 UInt64 ×
 UInt64 ×
 UInt64 ×
 UInt64 ×
 List (UInt64 × UInt64 × UInt64 × UInt64 × Bool × Bool) ×
 UInt64 × UInt64))) =>
 some (decide (Prod.fst x_3 = (0 : Int64)), Prod.snd x_3)))
theorem ok22 (n : Nat) : FunOK Try.prog ⟨22, sig22, F22 n⟩ :=
 fun_ok (hints := ⟨[], []⟩) (fuel := n) (c := Try.f22.body.getD .skip) (rs := Try.f22.results.toList) tt_ok mix (FsOK.cons (ok38 n) (FsOK.cons (ok18 n) (FsOK.nil))) Try.func22 (by kernel_rfl) (by kernel_rfl) rfl (by kernel_rfl) rfl rfl (by kernel_rfl)
-- (*watchfire/sess.Out).Sender
def sig23 : Sig := ⟨(.cons (.one (.ptr (.cons (.c (.int .u8)) (.cons (.c (.int .u8)) (.cons (.c (.int .i64)) (.cons (.c (.int .u64)) (.cons (.c (.int .u64)) (.cons (.c (.int .u64)) (.cons (.c (.int .u64)) (.cons (.c (.int .u64)) (.cons (.ptr (.cons (.c (.int .i64)) (.cons (.c (.int .u64)) (.cons (.c (.int .u64)) (.cons (.c (.int .u64)) (.cons (.c (.int .u64)) (.cons (.row (.cons (.int .u64) (.cons (.int .u64) (.cons (.int .u64) (.cons (.int .u64) (.cons .bool (.cons .bool .nil))))))) (.cons (.c (.int .u64)) (.cons (.c (.int .u64)) .nil))))))))) .nil))))))))))) .nil), (.cons (.one (.ptr (.cons (.c (.int .i64)) (.cons (.c (.int .u64)) (.cons (.c (.int .u64)) (.cons (.c (.int .u64)) (.cons (.c (.int .u64)) (.cons (.row (.cons (.int .u64) (.cons (.int .u64) (.cons (.int .u64) (.cons (.int .u64) (.cons .bool (.cons .bool .nil))))))) (.cons (.c (.int .u64)) (.cons (.c (.int .u64)) .nil)))))))))) .nil)⟩
def F23 : Nat →
 Option
 (UInt8 ×
 UInt8 ×
 Int64 ×
 UInt64 ×
 UInt64 ×
 UInt64 ×
 UInt64 ×
 UInt64 ×
 Option
 (Int64 ×
 UInt64 ×
 UInt64 ×
 UInt64 ×
 UInt64 × List (UInt64 × UInt64 × UInt64 × UInt64 × Bool × Bool) × UInt64 × UInt64)) →
 Option
 (Option
 (Int64 ×
 UInt64 ×
 UInt64 × UInt64 × UInt64 × List (UInt64 × UInt64 × UInt64 × UInt64 × Bool × Bool) × UInt64 × UInt64) ×
 Option
 (UInt8 ×
 UInt8 ×
 Int64 ×
 UInt64 ×
 UInt64 ×
 UInt64 ×
 UInt64 ×
 UInt64 ×
 Option
 (Int64 ×
 UInt64 ×
 UInt64 ×
 UInt64 ×
 UInt64 × List (UInt64 × UInt64 × UInt64 × UInt64 × Bool × Bool) × UInt64 × UInt64))) := fun (n : Nat)
 (x :
 Option
 (UInt8 ×
 UInt8 ×
 Int64 ×
 UInt64 ×
 UInt64 ×
 UInt64 ×
 UInt64 ×
 UInt64 ×
 Option
 (Int64 ×
 UInt64 ×
 UInt64 ×
 UInt64 ×
 UInt64 ×
 List (UInt64 × UInt64 × UInt64 × UInt64 × Bool × Bool) × UInt64 × UInt64))) =>
 oelim x (some (none, none))
 fun
 (x_1 :
 UInt8 ×
 UInt8 ×
 Int64 ×
 UInt64 ×
 UInt64 ×
 UInt64 ×
 UInt64 ×
 UInt64 ×
 Option
 (Int64 ×
 UInt64 ×
 UInt64 ×
 UInt64 ×
 UInt64 × List (UInt64 × UInt64 × UInt64 × UInt64 × Bool × Bool) × UInt64 × UInt64)) =>
 none
theorem ok23 (n : Nat) : FunOK Try.prog ⟨23, sig23, F23 n⟩ :=
 fun_ok (hints := ⟨[], []⟩) (fuel := n) (c := Try.f23.body.getD .skip) (rs := Try.f23.results.toList) tt_ok mix (FsOK.nil) Try.func23 (by kernel_rfl) (by kernel_rfl) rfl (by kernel_rfl) rfl rfl (by kernel_rfl)
-- (*watchfire/sess.In).Receiver
def sig24 : Sig := ⟨(.cons (.one (.ptr (.cons (.c (.int .u8)) (.cons (.c (.int .u8)) (.cons (.c (.int .i64)) (.cons (.c (.int .u64)) (.cons (.c (.int .u64)) (.cons (.ptr (.cons (.c (.int .i64)) (.cons (.c (.int .u64)) (.cons (.map (.one (.int .u64)) (.agg (.cons .bool (.cons (.int .u8) (.cons (.int .u64) (.cons (.int .u64) (.cons .str (.cons (.ro (.cons .str (.cons .str .nil))) (.cons (.int .u8) (.cons (.int .u8) (.cons (.int .i64) (.cons (.int .u8) (.cons (.int .u8) (.cons (.int .u64) (.cons (.int .u64) .nil))))))))))))))) (.cons (.c (.int .u64)) .nil))))) .nil)))))))) .nil), (.cons (.one (.ptr (.cons (.c (.int .i64)) (.cons (.c (.int .u64)) (.cons (.map (.one (.int .u64)) (.agg (.cons .bool (.cons (.int .u8) (.cons (.int .u64) (.cons (.int .u64) (.cons .str (.cons (.ro (.cons .str (.cons .str .nil))) (.cons (.int .u8) (.cons (.int .u8) (.cons (.int .i64) (.cons (.int .u8) (.cons (.int .u8) (.cons (.int .u64) (.cons (.int .u64) .nil))))))))))))))) (.cons (.c (.int .u64)) .nil)))))) .nil)⟩
def F24 : Nat →
 Option
 (UInt8 ×
 UInt8 ×
 Int64 ×
 UInt64 ×
 UInt64 ×
 Option
 (Int64 ×
 UInt64 ×
 List
 (UInt64 ×
 Bool ×
 UInt8 ×
 UInt64 ×
 UInt64 ×
 List UInt8 ×
 List (List UInt8 × List UInt8) ×
 UInt8 × UInt8 × Int64 × UInt8 × UInt8 × UInt64 × UInt64) ×
 UInt64)) →
 Option
 (Option
 (Int64 ×
 UInt64 ×
 List
 (UInt64 ×
 Bool ×
 UInt8 ×
 UInt64 ×
 UInt64 ×
 List UInt8 ×
 List (List UInt8 × List UInt8) ×
 UInt8 × UInt8 × Int64 × UInt8 × UInt8 × UInt64 × UInt64) ×
 UInt64) ×
 Option
 (UInt8 ×
 UInt8 ×
 Int64 ×
 UInt64 ×
 UInt64 ×
 Option
 (Int64 ×
 UInt64 ×
 List
 (UInt64 ×
 Bool ×
 UInt8 ×
 UInt64 ×
 UInt64 ×
 List UInt8 ×
 List (List UInt8 × List UInt8) ×
 UInt8 × UInt8 × Int64 × UInt8 × UInt8 × UInt64 × UInt64) ×
 UInt64))) := fun (n : Nat)
 (x :
 Option
 (UInt8 ×
 UInt8 ×
 Int64 ×
 UInt64 ×
 UInt64 ×
 Option
 (Int64 ×
 UInt64 ×
 List
 (UInt64 ×
 Bool ×
 UInt8 ×
 UInt64 ×
 UInt64 ×
 List UInt8 ×
 List (List UInt8 × List UInt8) ×
 UInt8 × UInt8 × Int64 × UInt8 × UInt8 × UInt64 × UInt64) ×
 UInt64))) =>
 oelim x (some (none, none))
 fun
 (x_1 :
 UInt8 ×
 UInt8 ×
 Int64 ×
 UInt64 ×
 UInt64 ×
 Option
 (Int64 ×
 UInt64 ×
 List
 (UInt64 ×
 Bool ×
 UInt8 ×
 UInt64 ×
 UInt64 ×
 List UInt8 ×
 List (List UInt8 × List UInt8) ×
 UInt8 × UInt8 × Int64 × UInt8 × UInt8 × UInt64 × UInt64) ×
 UInt64)) =>
 none
theorem ok24 (n : Nat) : FunOK Try.prog ⟨24, sig24, F24 n⟩ :=
 fun_ok (hints := ⟨[], []⟩) (fuel := n) (c := Try.f24.body.getD .skip) (rs := Try.f24.results.toList) tt_ok mix (FsOK.nil) Try.func24 (by kernel_rfl) (by kernel_rfl) rfl (by kernel_rfl) rfl rfl (by kernel_rfl)
-- watchfire/watchfirelaw12.SessNone
def sig4 : Sig := ⟨(.cons (.one (.c (.int .u8))) (.cons (.one (.c (.int .u8))) (.cons (.one (.c (.int .u64))) (.cons (.agg (.cons (.int .i64) (.cons (.int .u64) (.cons (.int .u64) .nil)))) (.cons (.agg (.cons (.int .u8) (.cons (.int .u8) (.cons (.int .u8) (.cons (.int .u64) (.cons (.int .u64) (.cons .bool (.cons (.int .u8) (.cons (.int .u64) (.cons (.int .u64) (.cons .str (.cons (.ro (.cons .str (.cons .str .nil))) (.cons (.int .u8) (.cons (.int .u8) (.cons (.int .i64) (.cons (.int .u8) (.cons (.int .u8) (.cons (.int .u64) (.cons (.int .u64) (.cons (.int .u64) (.cons (.int .u64) (.cons (.int .u64) .nil)))))))))))))))))))))) .nil))))), (.cons (.one (.c .bool)) .nil)⟩
def F4_J16383 : Nat →
 Int64 →
 Bool →
 UInt8 →
 UInt8 →
 UInt8 →
 UInt64 →
 UInt64 →
 Bool →
 UInt8 →
 UInt64 →
 UInt64 →
 List UInt8 →
 List (List UInt8 × List UInt8) →
 UInt8 →
 UInt8 →
 Int64 →
 UInt8 → UInt8 → UInt64 → UInt64 → UInt64 → UInt64 → UInt64 → Option (Bool × Unit) := fun (n : Nat) (h : Int64) (ok : Bool) (f0_1 f1_1 f2_1 : UInt8) (f3_1 f4_1 : UInt64) (f5_1 : Bool) (f6_1 : UInt8)
 (f7_1 f8_1 : UInt64) (f9_1 : List UInt8) (f10_1 : List (List UInt8 × List UInt8)) (f11_1 f12_1 : UInt8)
 (f13_1 : Int64) (f14_1 f15_1 : UInt8) (f16_1 f17_1 f18_1 f19_1 f20_1 : UInt64) =>
 oite (decide (h = (1 : Int64)))
 (oite (!ok)
 (obind
 (F17 n
 (none, f0_1, f1_1, f2_1, f3_1, f4_1, f5_1, f6_1, f7_1, f8_1, f9_1, f10_1, f11_1, f12_1, f13_1, f14_1, f15_1,
 f16_1, f17_1, f18_1, f19_1, f20_1))
 fun
 (x_8 :
 Int64 ×
 Option
 (UInt8 ×
 UInt8 ×
 Int64 ×
 UInt64 ×
 UInt64 ×
 Option
 (Int64 ×
 UInt64 ×
 List
 (UInt64 ×
 Bool ×
 UInt8 ×
 UInt64 ×
 UInt64 ×
 List UInt8 ×
 List (List UInt8 × List UInt8) ×
 UInt8 × UInt8 × Int64 × UInt8 × UInt8 × UInt64 × UInt64) ×
 UInt64))) =>
 oite (decide (Prod.fst x_8 = (1 : Int64)))
 (obind (F18 n none)
 fun
 (x_9 :
 Int64 ×
 Option
 (UInt8 ×
 UInt8 ×
 Int64 ×
 UInt64 ×
 UInt64 ×
 UInt64 ×
 UInt64 ×
 UInt64 ×
 Option
 (Int64 ×
 UInt64 ×
 UInt64 ×
 UInt64 ×
 UInt64 ×
 List (UInt64 × UInt64 × UInt64 × UInt64 × Bool × Bool) ×
 UInt64 × UInt64))) =>
 oite (decide (Prod.fst x_9 = (1 : Int64)))
 (obind (F11 n none)
 fun
 (x_10 :
 UInt64 ×
 Option
 (UInt8 ×
 UInt8 ×
 Int64 ×
 UInt64 ×
 UInt64 ×
 UInt64 ×
 UInt64 ×
 UInt64 ×
 Option
 (Int64 ×
 UInt64 ×
 UInt64 ×
 UInt64 ×
 UInt64 ×
 List (UInt64 × UInt64 × UInt64 × UInt64 × Bool × Bool) ×
 UInt64 × UInt64))) =>
 obind (F19 n none)
 fun
 (x_11 :
 UInt64 ×
 Option
 (UInt8 ×
 UInt8 ×
 Int64 ×
 UInt64 ×
 UInt64 ×
 Option
 (Int64 ×
 UInt64 ×
 List
 (UInt64 ×
 Bool ×
 UInt8 ×
 UInt64 ×
 UInt64 ×
 List UInt8 ×
 List (List UInt8 × List UInt8) ×
 UInt8 × UInt8 × Int64 × UInt8 × UInt8 × UInt64 × UInt64) ×
 UInt64))) =>
 oite (decide (Prod.fst x_10 + Prod.fst x_11 = (0 : UInt64)))
 (obind (F20 n (none, none, (1 : UInt64)))
 fun
 (x_12 :
 Int64 ×
 Option
 (UInt8 ×
 UInt8 ×
 Int64 ×
 UInt64 ×
 UInt64 ×
 UInt64 ×
 UInt64 ×
 UInt64 ×
 Option
 (Int64 ×
 UInt64 ×
 UInt64 ×
 UInt64 ×
 UInt64 ×
 List (UInt64 × UInt64 × UInt64 × UInt64 × Bool × Bool) ×
 UInt64 × UInt64)) ×
 Option
 ((Int64 ×
 Int64 ×
 UInt64 ×
 UInt64 ×
 List
 (UInt64 ×
 Bool ×
 UInt8 ×
 UInt64 ×
 UInt64 ×
 List UInt8 ×
 List (List UInt8 × List UInt8) ×
 UInt8 × UInt8 × Int64 × UInt8 × UInt8 × UInt64 × UInt64)) ×
 List UInt64 × UInt64)) =>
 oite (decide (Prod.fst x_12 = (0 : Int64)))
 (obind (F21 n (none, none, (1 : UInt64)))
 fun
 (x_13 :
 List
 (UInt8 ×
 UInt8 ×
 UInt8 ×
 UInt64 ×
 UInt64 ×
 Bool ×
 UInt8 ×
 UInt64 ×
 UInt64 ×
 List UInt8 ×
 List (List UInt8 × List UInt8) ×
 UInt8 ×
 UInt8 ×
 Int64 ×
 UInt8 ×
 UInt8 × UInt64 × UInt64 × UInt64 × UInt64 × UInt64) ×
 Option
 (UInt8 ×
 UInt8 ×
 Int64 ×
 UInt64 ×
 UInt64 ×
 UInt64 ×
 UInt64 ×
 UInt64 ×
 Option
 (Int64 ×
 UInt64 ×
 UInt64 ×
 UInt64 ×
 UInt64 ×
 List (UInt64 × UInt64 × UInt64 × UInt64 × Bool × Bool) ×
 UInt64 × UInt64)) ×
 Option
 ((Int64 ×
 Int64 ×
 UInt64 ×
 UInt64 ×
 List
 (UInt64 ×
 Bool ×
 UInt8 ×
 UInt64 ×
 UInt64 ×
 List UInt8 ×
 List (List UInt8 × List UInt8) ×
 UInt8 ×
 UInt8 × Int64 × UInt8 × UInt8 × UInt64 × UInt64)) ×
 List UInt64 × UInt64)) =>
 oite (decide (Int64.ofInt ↑(List.length (Prod.fst x_13)) = (0 : Int64)))
 (obind (F22 n (none, (1 : UInt64)))
 fun
 (x_14 :
 Bool ×
 Option
 (UInt8 ×
 UInt8 ×
 Int64 ×
 UInt64 ×
 UInt64 ×
 UInt64 ×
 UInt64 ×
 UInt64 ×
 Option
 (Int64 ×
 UInt64 ×
 UInt64 ×
 UInt64 ×
 UInt64 ×
 List
 (UInt64 ×
 UInt64 × UInt64 × UInt64 × Bool × Bool) ×
 UInt64 × UInt64))) =>
 oite (!Prod.fst x_14)
 (obind (F23 n none)
 fun
 (x_15 :
 Option
 (Int64 ×
 UInt64 ×
 UInt64 ×
 UInt64 ×
 UInt64 ×
 List (UInt64 × UInt64 × UInt64 × UInt64 × Bool × Bool) ×
 UInt64 × UInt64) ×
 Option
 (UInt8 ×
 UInt8 ×
 Int64 ×
 UInt64 ×
 UInt64 ×
 UInt64 ×
 UInt64 ×
 UInt64 ×
 Option
 (Int64 ×
 UInt64 ×
 UInt64 ×
 UInt64 ×
 UInt64 ×
 List
 (UInt64 ×
 UInt64 × UInt64 × UInt64 × Bool × Bool) ×
 UInt64 × UInt64))) =>
 oelim (Prod.fst x_15)
 (obind (F24 n none)
 fun
 (x_16 :
 Option
 (Int64 ×
 UInt64 ×
 List
 (UInt64 ×
 Bool ×
 UInt8 ×
 UInt64 ×
 UInt64 ×
 List UInt8 ×
 List (List UInt8 × List UInt8) ×
 UInt8 ×
 UInt8 × Int64 × UInt8 × UInt8 × UInt64 × UInt64) ×
 UInt64) ×
 Option
 (UInt8 ×
 UInt8 ×
 Int64 ×
 UInt64 ×
 UInt64 ×
 Option
 (Int64 ×
 UInt64 ×
 List
 (UInt64 ×
 Bool ×
 UInt8 ×
 UInt64 ×
 UInt64 ×
 List UInt8 ×
 List (List UInt8 × List UInt8) ×
 UInt8 ×
 UInt8 ×
 Int64 ×
 UInt8 × UInt8 × UInt64 × UInt64) ×
 UInt64))) =>
 oelim (Prod.fst x_16) (some (true, ()))
 fun
 (x_17 :
 Int64 ×
 UInt64 ×
 List
 (UInt64 ×
 Bool ×
 UInt8 ×
 UInt64 ×
 UInt64 ×
 List UInt8 ×
 List (List UInt8 × List UInt8) ×
 UInt8 ×
 UInt8 × Int64 × UInt8 × UInt8 × UInt64 × UInt64) ×
 UInt64) =>
 some (false, ()))
 fun
 (x_16 :
 Int64 ×
 UInt64 ×
 UInt64 ×
 UInt64 ×
 UInt64 ×
 List (UInt64 × UInt64 × UInt64 × UInt64 × Bool × Bool) ×
 UInt64 × UInt64) =>
 some (false, ()))
 (some (false, ())))
 (some (false, ())))
 (some (false, ())))
 (some (false, ())))
 (some (false, ())))
 (some (false, ())))
 (some (false, ())))
 (some (false, ()))
def F4_J127 : Nat →
 UInt8 →
 UInt8 →
 UInt64 →
 Int64 →
 Int64 →
 Int64 →
 Int64 →
 UInt64 →
 UInt64 →
 UInt8 →
 UInt8 →
 UInt8 →
 UInt64 →
 UInt64 →
 Bool →
 UInt8 →
 UInt64 →
 UInt64 →
 List UInt8 →
 List (List UInt8 × List UInt8) →
 UInt8 →
 UInt8 →
 Int64 →
 UInt8 →
 UInt8 →
 UInt64 → UInt64 → UInt64 → UInt64 → UInt64 → Option (Bool × Unit) := fun (n : Nat) (self peer : UInt8) (life : UInt64) (code want other t0 : Int64) (t1 t2 : UInt64) (f0 f1 f2 : UInt8)
 (f3 f4 : UInt64) (f5 : Bool) (f6 : UInt8) (f7 f8 : UInt64) (f9 : List UInt8) (f10 : List (List UInt8 × List UInt8))
 (f11 f12 : UInt8) (f13 : Int64) (f14 f15 : UInt8) (f16 f17 f18 f19 f20 : UInt64) =>
 obind (F9 n (self, peer, life, t0, t1, t2))
 fun
 (x_4 :
 (Option
 (UInt8 ×
 UInt8 ×
 Int64 ×
 UInt64 ×
 UInt64 ×
 UInt64 ×
 UInt64 ×
 UInt64 ×
 Option
 (Int64 ×
 UInt64 ×
 UInt64 ×
 UInt64 ×
 UInt64 ×
 List (UInt64 × UInt64 × UInt64 × UInt64 × Bool × Bool) × UInt64 × UInt64)) ×
 Int64) ×
 Unit) =>
 obind (F14 n (self, peer, life, t0))
 fun
 (x_5 :
 (Option
 (UInt8 ×
 UInt8 ×
 Int64 ×
 UInt64 ×
 UInt64 ×
 Option
 (Int64 ×
 UInt64 ×
 List
 (UInt64 ×
 Bool ×
 UInt8 ×
 UInt64 ×
 UInt64 ×
 List UInt8 ×
 List (List UInt8 × List UInt8) ×
 UInt8 × UInt8 × Int64 × UInt8 × UInt8 × UInt64 × UInt64) ×
 UInt64)) ×
 Int64) ×
 Unit) =>
 obind
 (F10 n (none, f0, f1, f2, f3, f4, f5, f6, f7, f8, f9, f10, f11, f12, f13, f14, f15, f16, f17, f18, f19, f20))
 fun
 (x_6 :
 (UInt64 × Int64) ×
 Option
 (UInt8 ×
 UInt8 ×
 Int64 ×
 UInt64 ×
 UInt64 ×
 UInt64 ×
 UInt64 ×
 UInt64 ×
 Option
 (Int64 ×
 UInt64 ×
 UInt64 ×
 UInt64 ×
 UInt64 ×
 List (UInt64 × UInt64 × UInt64 × UInt64 × Bool × Bool) ×
 UInt64 × UInt64))) =>
 obind (F15 n none)
 fun
 (x_7 :
 ((UInt8 ×
 UInt8 ×
 UInt8 ×
 UInt64 ×
 UInt64 ×
 Bool ×
 UInt8 ×
 UInt64 ×
 UInt64 ×
 List UInt8 ×
 List (List UInt8 × List UInt8) ×
 UInt8 ×
 UInt8 × Int64 × UInt8 × UInt8 × UInt64 × UInt64 × UInt64 × UInt64 × UInt64) ×
 Bool) ×
 Option
 (UInt8 ×
 UInt8 ×
 Int64 ×
 UInt64 ×
 UInt64 ×
 Option
 (Int64 ×
 UInt64 ×
 List
 (UInt64 ×
 Bool ×
 UInt8 ×
 UInt64 ×
 UInt64 ×
 List UInt8 ×
 List (List UInt8 × List UInt8) ×
 UInt8 × UInt8 × Int64 × UInt8 × UInt8 × UInt64 × UInt64) ×
 UInt64))) =>
 ojoinA (16383 : Nat)
 [PT.int IntKind.i64, PT.bool, PT.int IntKind.u8, PT.int IntKind.u8, PT.int IntKind.u8, PT.int IntKind.u64,
 PT.int IntKind.u64, PT.bool, PT.int IntKind.u8, PT.int IntKind.u64, PT.int IntKind.u64, PT.bytes,
 PT.list (CTs.cons CT.str (CTs.cons CT.str CTs.nil)), PT.int IntKind.u8, PT.int IntKind.u8,
 PT.int IntKind.i64, PT.int IntKind.u8, PT.int IntKind.u8, PT.int IntKind.u64, PT.int IntKind.u64,
 PT.int IntKind.u64, PT.int IntKind.u64, PT.int IntKind.u64]
 (fun
 (J :
 Arr
 [PT.int IntKind.i64, PT.bool, PT.int IntKind.u8, PT.int IntKind.u8, PT.int IntKind.u8,
 PT.int IntKind.u64, PT.int IntKind.u64, PT.bool, PT.int IntKind.u8, PT.int IntKind.u64,
 PT.int IntKind.u64, PT.bytes, PT.list (CTs.cons CT.str (CTs.cons CT.str CTs.nil)),
 PT.int IntKind.u8, PT.int IntKind.u8, PT.int IntKind.i64, PT.int IntKind.u8, PT.int IntKind.u8,
 PT.int IntKind.u64, PT.int IntKind.u64, PT.int IntKind.u64, PT.int IntKind.u64,
 PT.int IntKind.u64]
 (Option (Bool × Unit))) =>
 oite (!decide (Prod.snd (Prod.fst x_4) = want)) (some (false, ()))
 (oite (!decide (Prod.snd (Prod.fst x_5) = other)) (some (false, ()))
 (obind (F16 n (t0, t1, t2)) fun (x_8 : Int64 × Unit) =>
 oite (!decide (Prod.fst x_8 = code)) (some (false, ()))
 (oelim (Prod.fst (Prod.fst x_4))
 (oite (!false == decide (want = (0 : Int64))) (some (false, ()))
 (oelim (Prod.fst (Prod.fst x_5))
 (oite (!false == decide (other = (0 : Int64))) (some (false, ()))
 (J (Prod.snd (Prod.fst x_6)) (Prod.snd (Prod.fst x_7)) f0 f1 f2 f3 f4 f5 f6 f7 f8 f9 f10
 f11 f12 f13 f14 f15 f16 f17 f18 f19 f20))
 fun
 (x_9 :
 UInt8 ×
 UInt8 ×
 Int64 ×
 UInt64 ×
 UInt64 ×
 Option
 (Int64 ×
 UInt64 ×
 List
 (UInt64 ×
 Bool ×
 UInt8 ×
 UInt64 ×
 UInt64 ×
 List UInt8 ×
 List (List UInt8 × List UInt8) ×
 UInt8 ×
 UInt8 × Int64 × UInt8 × UInt8 × UInt64 × UInt64) ×
 UInt64)) =>
 oite (!true == decide (other = (0 : Int64))) (some (false, ()))
 (J (Prod.snd (Prod.fst x_6)) (Prod.snd (Prod.fst x_7)) f0 f1 f2 f3 f4 f5 f6 f7 f8 f9 f10
 f11 f12 f13 f14 f15 f16 f17 f18 f19 f20)))
 fun
 (x_9 :
 UInt8 ×
 UInt8 ×
 Int64 ×
 UInt64 ×
 UInt64 ×
 UInt64 ×
 UInt64 ×
 UInt64 ×
 Option
 (Int64 ×
 UInt64 ×
 UInt64 ×
 UInt64 ×
 UInt64 ×
 List (UInt64 × UInt64 × UInt64 × UInt64 × Bool × Bool) ×
 UInt64 × UInt64)) =>
 oite (!true == decide (want = (0 : Int64))) (some (false, ()))
 (oelim (Prod.fst (Prod.fst x_5))
 (oite (!false == decide (other = (0 : Int64))) (some (false, ()))
 (J (Prod.snd (Prod.fst x_6)) (Prod.snd (Prod.fst x_7)) f0 f1 f2 f3 f4 f5 f6 f7 f8 f9 f10
 f11 f12 f13 f14 f15 f16 f17 f18 f19 f20))
 fun
 (x_10 :
 UInt8 ×
 UInt8 ×
 Int64 ×
 UInt64 ×
 UInt64 ×
 Option
 (Int64 ×
 UInt64 ×
 List
 (UInt64 ×
 Bool ×
 UInt8 ×
 UInt64 ×
 UInt64 ×
 List UInt8 ×
 List (List UInt8 × List UInt8) ×
 UInt8 ×
 UInt8 × Int64 × UInt8 × UInt8 × UInt64 × UInt64) ×
 UInt64)) =>
 oite (!true == decide (other = (0 : Int64))) (some (false, ()))
 (J (Prod.snd (Prod.fst x_6)) (Prod.snd (Prod.fst x_7)) f0 f1 f2 f3 f4 f5 f6 f7 f8 f9 f10
 f11 f12 f13 f14 f15 f16 f17 f18 f19 f20))))))
 (F4_J16383 n)
def F4 : Nat →
 UInt8 ×
 UInt8 ×
 UInt64 ×
 (Int64 × UInt64 × UInt64) ×
 UInt8 ×
 UInt8 ×
 UInt8 ×
 UInt64 ×
 UInt64 ×
 Bool ×
 UInt8 ×
 UInt64 ×
 UInt64 ×
 List UInt8 ×
 List (List UInt8 × List UInt8) ×
 UInt8 × UInt8 × Int64 × UInt8 × UInt8 × UInt64 × UInt64 × UInt64 × UInt64 × UInt64 →
 Option (Bool × Unit) := fun (n : Nat)
 (x :
 UInt8 ×
 UInt8 ×
 UInt64 ×
 (Int64 × UInt64 × UInt64) ×
 UInt8 ×
 UInt8 ×
 UInt8 ×
 UInt64 ×
 UInt64 ×
 Bool ×
 UInt8 ×
 UInt64 ×
 UInt64 ×
 List UInt8 ×
 List (List UInt8 × List UInt8) ×
 UInt8 ×
 UInt8 × Int64 × UInt8 × UInt8 × UInt64 × UInt64 × UInt64 × UInt64 × UInt64) =>
 obind (F8 n ()) fun (x_1 : Bool × Unit) =>
 oite (!Prod.fst x_1) (some (false, ()))
 (oite
 (decide
 ((12 : Int64) <
 Int64.ofInt
 ↑(List.length
 (Prod.fst
 (Prod.snd
 (Prod.snd
 (Prod.snd
 (Prod.snd
 (Prod.snd
 (Prod.snd
 (Prod.snd
 (Prod.snd
 (Prod.snd (Prod.snd (Prod.snd (Prod.snd (Prod.snd (Prod.snd x))))))))))))))))))
 (some (true, ()))
 (obind
 (F12 n
 (Prod.fst (Prod.fst (Prod.snd (Prod.snd (Prod.snd x)))),
 Prod.fst (Prod.snd (Prod.fst (Prod.snd (Prod.snd (Prod.snd x))))),
 Prod.snd (Prod.snd (Prod.fst (Prod.snd (Prod.snd (Prod.snd x)))))))
 fun
 (x_2 :
 (Option
 (Int64 ×
 UInt64 ×
 UInt64 ×
 UInt64 × UInt64 × List (UInt64 × UInt64 × UInt64 × UInt64 × Bool × Bool) × UInt64 × UInt64) ×
 Int64) ×
 Unit) =>
 obind (F13 n (Prod.fst (Prod.fst (Prod.snd (Prod.snd (Prod.snd x))))))
 fun
 (x_3 :
 (Option
 (Int64 ×
 UInt64 ×
 List
 (UInt64 ×
 Bool ×
 UInt8 ×
 UInt64 ×
 UInt64 ×
 List UInt8 ×
 List (List UInt8 × List UInt8) ×
 UInt8 × UInt8 × Int64 × UInt8 × UInt8 × UInt64 × UInt64) ×
 UInt64) ×
 Int64) ×
 Unit) =>
 ojoinA (127 : Nat)
 [PT.int IntKind.u8, PT.int IntKind.u8, PT.int IntKind.u64, PT.int IntKind.i64, PT.int IntKind.i64,
 PT.int IntKind.i64, PT.int IntKind.i64, PT.int IntKind.u64, PT.int IntKind.u64, PT.int IntKind.u8,
 PT.int IntKind.u8, PT.int IntKind.u8, PT.int IntKind.u64, PT.int IntKind.u64, PT.bool,
 PT.int IntKind.u8, PT.int IntKind.u64, PT.int IntKind.u64, PT.bytes,
 PT.list (CTs.cons CT.str (CTs.cons CT.str CTs.nil)), PT.int IntKind.u8, PT.int IntKind.u8,
 PT.int IntKind.i64, PT.int IntKind.u8, PT.int IntKind.u8, PT.int IntKind.u64, PT.int IntKind.u64,
 PT.int IntKind.u64, PT.int IntKind.u64, PT.int IntKind.u64]
 (fun
 (J :
 Arr
 [PT.int IntKind.u8, PT.int IntKind.u8, PT.int IntKind.u64, PT.int IntKind.i64, PT.int IntKind.i64,
 PT.int IntKind.i64, PT.int IntKind.i64, PT.int IntKind.u64, PT.int IntKind.u64,
 PT.int IntKind.u8, PT.int IntKind.u8, PT.int IntKind.u8, PT.int IntKind.u64, PT.int IntKind.u64,
 PT.bool, PT.int IntKind.u8, PT.int IntKind.u64, PT.int IntKind.u64, PT.bytes,
 PT.list (CTs.cons CT.str (CTs.cons CT.str CTs.nil)), PT.int IntKind.u8, PT.int IntKind.u8,
 PT.int IntKind.i64, PT.int IntKind.u8, PT.int IntKind.u8, PT.int IntKind.u64,
 PT.int IntKind.u64, PT.int IntKind.u64, PT.int IntKind.u64, PT.int IntKind.u64]
 (Option (Bool × Unit))) =>
 oite (decide ((31 : UInt8) < Prod.fst x))
 (J (Prod.fst x) (Prod.fst (Prod.snd x)) (Prod.fst (Prod.snd (Prod.snd x))) (Prod.snd (Prod.fst x_2))
 (20 : Int64) (20 : Int64) (Prod.fst (Prod.fst (Prod.snd (Prod.snd (Prod.snd x)))))
 (Prod.fst (Prod.snd (Prod.fst (Prod.snd (Prod.snd (Prod.snd x))))))
 (Prod.snd (Prod.snd (Prod.fst (Prod.snd (Prod.snd (Prod.snd x))))))
 (Prod.fst (Prod.snd (Prod.snd (Prod.snd (Prod.snd x)))))
 (Prod.fst (Prod.snd (Prod.snd (Prod.snd (Prod.snd (Prod.snd x))))))
 (Prod.fst (Prod.snd (Prod.snd (Prod.snd (Prod.snd (Prod.snd (Prod.snd x)))))))
 (Prod.fst (Prod.snd (Prod.snd (Prod.snd (Prod.snd (Prod.snd (Prod.snd (Prod.snd x))))))))
 (Prod.fst (Prod.snd (Prod.snd (Prod.snd (Prod.snd (Prod.snd (Prod.snd (Prod.snd (Prod.snd x)))))))))
 (Prod.fst
 (Prod.snd
 (Prod.snd (Prod.snd (Prod.snd (Prod.snd (Prod.snd (Prod.snd (Prod.snd (Prod.snd x))))))))))
 (Prod.fst
 (Prod.snd
 (Prod.snd
 (Prod.snd (Prod.snd (Prod.snd (Prod.snd (Prod.snd (Prod.snd (Prod.snd (Prod.snd x)))))))))))
 (Prod.fst
 (Prod.snd
 (Prod.snd
 (Prod.snd
 (Prod.snd
 (Prod.snd (Prod.snd (Prod.snd (Prod.snd (Prod.snd (Prod.snd (Prod.snd x))))))))))))
 (Prod.fst
 (Prod.snd
 (Prod.snd
 (Prod.snd
 (Prod.snd
 (Prod.snd
 (Prod.snd (Prod.snd (Prod.snd (Prod.snd (Prod.snd (Prod.snd (Prod.snd x)))))))))))))
 (Prod.fst
 (Prod.snd
 (Prod.snd
 (Prod.snd
 (Prod.snd
 (Prod.snd
 (Prod.snd
 (Prod.snd (Prod.snd (Prod.snd (Prod.snd (Prod.snd (Prod.snd (Prod.snd x))))))))))))))
 (Prod.fst
 (Prod.snd
 (Prod.snd
 (Prod.snd
 (Prod.snd
 (Prod.snd
 (Prod.snd
 (Prod.snd
 (Prod.snd
 (Prod.snd (Prod.snd (Prod.snd (Prod.snd (Prod.snd (Prod.snd x)))))))))))))))
 (Prod.fst
 (Prod.snd
 (Prod.snd
 (Prod.snd
 (Prod.snd
 (Prod.snd
 (Prod.snd
 (Prod.snd
 (Prod.snd
 (Prod.snd
 (Prod.snd (Prod.snd (Prod.snd (Prod.snd (Prod.snd (Prod.snd x))))))))))))))))
 (Prod.fst
 (Prod.snd
 (Prod.snd
 (Prod.snd
 (Prod.snd
 (Prod.snd
 (Prod.snd
 (Prod.snd
 (Prod.snd
 (Prod.snd
 (Prod.snd
 (Prod.snd (Prod.snd (Prod.snd (Prod.snd (Prod.snd (Prod.snd x)))))))))))))))))
 (Prod.fst
 (Prod.snd
 (Prod.snd
 (Prod.snd
 (Prod.snd
 (Prod.snd
 (Prod.snd
 (Prod.snd
 (Prod.snd
 (Prod.snd
 (Prod.snd
 (Prod.snd
 (Prod.snd
 (Prod.snd (Prod.snd (Prod.snd (Prod.snd (Prod.snd x))))))))))))))))))
 (Prod.fst
 (Prod.snd
 (Prod.snd
 (Prod.snd
 (Prod.snd
 (Prod.snd
 (Prod.snd
 (Prod.snd
 (Prod.snd
 (Prod.snd
 (Prod.snd
 (Prod.snd
 (Prod.snd
 (Prod.snd
 (Prod.snd (Prod.snd (Prod.snd (Prod.snd (Prod.snd x)))))))))))))))))))
 (Prod.fst
 (Prod.snd
 (Prod.snd
 (Prod.snd
 (Prod.snd
 (Prod.snd
 (Prod.snd
 (Prod.snd
 (Prod.snd
 (Prod.snd
 (Prod.snd
 (Prod.snd
 (Prod.snd
 (Prod.snd
 (Prod.snd
 (Prod.snd
 (Prod.snd (Prod.snd (Prod.snd (Prod.snd x))))))))))))))))))))
 (Prod.fst
 (Prod.snd
 (Prod.snd
 (Prod.snd
 (Prod.snd
 (Prod.snd
 (Prod.snd
 (Prod.snd
 (Prod.snd
 (Prod.snd
 (Prod.snd
 (Prod.snd
 (Prod.snd
 (Prod.snd
 (Prod.snd
 (Prod.snd
 (Prod.snd
 (Prod.snd (Prod.snd (Prod.snd (Prod.snd x)))))))))))))))))))))
 (Prod.fst
 (Prod.snd
 (Prod.snd
 (Prod.snd
 (Prod.snd
 (Prod.snd
 (Prod.snd
 (Prod.snd
 (Prod.snd
 (Prod.snd
 (Prod.snd
 (Prod.snd
 (Prod.snd
 (Prod.snd
 (Prod.snd
 (Prod.snd
 (Prod.snd
 (Prod.snd
 (Prod.snd (Prod.snd (Prod.snd (Prod.snd x))))))))))))))))))))))
 (Prod.fst
 (Prod.snd
 (Prod.snd
 (Prod.snd
 (Prod.snd
 (Prod.snd
 (Prod.snd
 (Prod.snd
 (Prod.snd
 (Prod.snd
 (Prod.snd
 (Prod.snd
 (Prod.snd
 (Prod.snd
 (Prod.snd
 (Prod.snd
 (Prod.snd
 (Prod.snd
 (Prod.snd
 (Prod.snd
 (Prod.snd (Prod.snd (Prod.snd x)))))))))))))))))))))))
 (Prod.fst
 (Prod.snd
 (Prod.snd
 (Prod.snd
 (Prod.snd
 (Prod.snd
 (Prod.snd
 (Prod.snd
 (Prod.snd
 (Prod.snd
 (Prod.snd
 (Prod.snd
 (Prod.snd
 (Prod.snd
 (Prod.snd
 (Prod.snd
 (Prod.snd
 (Prod.snd
 (Prod.snd
 (Prod.snd
 (Prod.snd
 (Prod.snd (Prod.snd (Prod.snd x))))))))))))))))))))))))
 (Prod.snd
 (Prod.snd
 (Prod.snd
 (Prod.snd
 (Prod.snd
 (Prod.snd
 (Prod.snd
 (Prod.snd
 (Prod.snd
 (Prod.snd
 (Prod.snd
 (Prod.snd
 (Prod.snd
 (Prod.snd
 (Prod.snd
 (Prod.snd
 (Prod.snd
 (Prod.snd
 (Prod.snd
 (Prod.snd
 (Prod.snd
 (Prod.snd (Prod.snd (Prod.snd x)))))))))))))))))))))))))
 (oite (decide ((31 : UInt8) < Prod.fst (Prod.snd x)))
 (J (Prod.fst x) (Prod.fst (Prod.snd x)) (Prod.fst (Prod.snd (Prod.snd x))) (Prod.snd (Prod.fst x_2))
 (20 : Int64) (20 : Int64) (Prod.fst (Prod.fst (Prod.snd (Prod.snd (Prod.snd x)))))
 (Prod.fst (Prod.snd (Prod.fst (Prod.snd (Prod.snd (Prod.snd x))))))
 (Prod.snd (Prod.snd (Prod.fst (Prod.snd (Prod.snd (Prod.snd x))))))
 (Prod.fst (Prod.snd (Prod.snd (Prod.snd (Prod.snd x)))))
 (Prod.fst (Prod.snd (Prod.snd (Prod.snd (Prod.snd (Prod.snd x))))))
 (Prod.fst (Prod.snd (Prod.snd (Prod.snd (Prod.snd (Prod.snd (Prod.snd x)))))))
 (Prod.fst (Prod.snd (Prod.snd (Prod.snd (Prod.snd (Prod.snd (Prod.snd (Prod.snd x))))))))
 (Prod.fst
 (Prod.snd (Prod.snd (Prod.snd (Prod.snd (Prod.snd (Prod.snd (Prod.snd (Prod.snd x)))))))))
 (Prod.fst
 (Prod.snd
 (Prod.snd (Prod.snd (Prod.snd (Prod.snd (Prod.snd (Prod.snd (Prod.snd (Prod.snd x))))))))))
 (Prod.fst
 (Prod.snd
 (Prod.snd
 (Prod.snd (Prod.snd (Prod.snd (Prod.snd (Prod.snd (Prod.snd (Prod.snd (Prod.snd x)))))))))))
 (Prod.fst
 (Prod.snd
 (Prod.snd
 (Prod.snd
 (Prod.snd
 (Prod.snd (Prod.snd (Prod.snd (Prod.snd (Prod.snd (Prod.snd (Prod.snd x))))))))))))
 (Prod.fst
 (Prod.snd
 (Prod.snd
 (Prod.snd
 (Prod.snd
 (Prod.snd
 (Prod.snd (Prod.snd (Prod.snd (Prod.snd (Prod.snd (Prod.snd (Prod.snd x)))))))))))))
 (Prod.fst
 (Prod.snd
 (Prod.snd
 (Prod.snd
 (Prod.snd
 (Prod.snd
 (Prod.snd
 (Prod.snd
 (Prod.snd (Prod.snd (Prod.snd (Prod.snd (Prod.snd (Prod.snd x))))))))))))))
 (Prod.fst
 (Prod.snd
 (Prod.snd
 (Prod.snd
 (Prod.snd
 (Prod.snd
 (Prod.snd
 (Prod.snd
 (Prod.snd
 (Prod.snd (Prod.snd (Prod.snd (Prod.snd (Prod.snd (Prod.snd x)))))))))))))))
 (Prod.fst
 (Prod.snd
 (Prod.snd
 (Prod.snd
 (Prod.snd
 (Prod.snd
 (Prod.snd
 (Prod.snd
 (Prod.snd
 (Prod.snd
 (Prod.snd (Prod.snd (Prod.snd (Prod.snd (Prod.snd (Prod.snd x))))))))))))))))
 (Prod.fst
 (Prod.snd
 (Prod.snd
 (Prod.snd
 (Prod.snd
 (Prod.snd
 (Prod.snd
 (Prod.snd
 (Prod.snd
 (Prod.snd
 (Prod.snd
 (Prod.snd
 (Prod.snd (Prod.snd (Prod.snd (Prod.snd (Prod.snd x)))))))))))))))))
 (Prod.fst
 (Prod.snd
 (Prod.snd
 (Prod.snd
 (Prod.snd
 (Prod.snd
 (Prod.snd
 (Prod.snd
 (Prod.snd
 (Prod.snd
 (Prod.snd
 (Prod.snd
 (Prod.snd
 (Prod.snd (Prod.snd (Prod.snd (Prod.snd (Prod.snd x))))))))))))))))))
 (Prod.fst
 (Prod.snd
 (Prod.snd
 (Prod.snd
 (Prod.snd
 (Prod.snd
 (Prod.snd
 (Prod.snd
 (Prod.snd
 (Prod.snd
 (Prod.snd
 (Prod.snd
 (Prod.snd
 (Prod.snd
 (Prod.snd (Prod.snd (Prod.snd (Prod.snd (Prod.snd x)))))))))))))))))))
 (Prod.fst
 (Prod.snd
 (Prod.snd
 (Prod.snd
 (Prod.snd
 (Prod.snd
 (Prod.snd
 (Prod.snd
 (Prod.snd
 (Prod.snd
 (Prod.snd
 (Prod.snd
 (Prod.snd
 (Prod.snd
 (Prod.snd
 (Prod.snd
 (Prod.snd (Prod.snd (Prod.snd (Prod.snd x))))))))))))))))))))
 (Prod.fst
 (Prod.snd
 (Prod.snd
 (Prod.snd
 (Prod.snd
 (Prod.snd
 (Prod.snd
 (Prod.snd
 (Prod.snd
 (Prod.snd
 (Prod.snd
 (Prod.snd
 (Prod.snd
 (Prod.snd
 (Prod.snd
 (Prod.snd
 (Prod.snd
 (Prod.snd (Prod.snd (Prod.snd (Prod.snd x)))))))))))))))))))))
 (Prod.fst
 (Prod.snd
 (Prod.snd
 (Prod.snd
 (Prod.snd
 (Prod.snd
 (Prod.snd
 (Prod.snd
 (Prod.snd
 (Prod.snd
 (Prod.snd
 (Prod.snd
 (Prod.snd
 (Prod.snd
 (Prod.snd
 (Prod.snd
 (Prod.snd
 (Prod.snd
 (Prod.snd
 (Prod.snd (Prod.snd (Prod.snd x))))))))))))))))))))))
 (Prod.fst
 (Prod.snd
 (Prod.snd
 (Prod.snd
 (Prod.snd
 (Prod.snd
 (Prod.snd
 (Prod.snd
 (Prod.snd
 (Prod.snd
 (Prod.snd
 (Prod.snd
 (Prod.snd
 (Prod.snd
 (Prod.snd
 (Prod.snd
 (Prod.snd
 (Prod.snd
 (Prod.snd
 (Prod.snd
 (Prod.snd (Prod.snd (Prod.snd x)))))))))))))))))))))))
 (Prod.fst
 (Prod.snd
 (Prod.snd
 (Prod.snd
 (Prod.snd
 (Prod.snd
 (Prod.snd
 (Prod.snd
 (Prod.snd
 (Prod.snd
 (Prod.snd
 (Prod.snd
 (Prod.snd
 (Prod.snd
 (Prod.snd
 (Prod.snd
 (Prod.snd
 (Prod.snd
 (Prod.snd
 (Prod.snd
 (Prod.snd
 (Prod.snd (Prod.snd (Prod.snd x))))))))))))))))))))))))
 (Prod.snd
 (Prod.snd
 (Prod.snd
 (Prod.snd
 (Prod.snd
 (Prod.snd
 (Prod.snd
 (Prod.snd
 (Prod.snd
 (Prod.snd
 (Prod.snd
 (Prod.snd
 (Prod.snd
 (Prod.snd
 (Prod.snd
 (Prod.snd
 (Prod.snd
 (Prod.snd
 (Prod.snd
 (Prod.snd
 (Prod.snd
 (Prod.snd (Prod.snd (Prod.snd x)))))))))))))))))))))))))
 (oite (decide (Prod.fst x = Prod.fst (Prod.snd x)))
 (J (Prod.fst x) (Prod.fst (Prod.snd x)) (Prod.fst (Prod.snd (Prod.snd x)))
 (Prod.snd (Prod.fst x_2)) (20 : Int64) (20 : Int64)
 (Prod.fst (Prod.fst (Prod.snd (Prod.snd (Prod.snd x)))))
 (Prod.fst (Prod.snd (Prod.fst (Prod.snd (Prod.snd (Prod.snd x))))))
 (Prod.snd (Prod.snd (Prod.fst (Prod.snd (Prod.snd (Prod.snd x))))))
 (Prod.fst (Prod.snd (Prod.snd (Prod.snd (Prod.snd x)))))
 (Prod.fst (Prod.snd (Prod.snd (Prod.snd (Prod.snd (Prod.snd x))))))
 (Prod.fst (Prod.snd (Prod.snd (Prod.snd (Prod.snd (Prod.snd (Prod.snd x)))))))
 (Prod.fst (Prod.snd (Prod.snd (Prod.snd (Prod.snd (Prod.snd (Prod.snd (Prod.snd x))))))))
 (Prod.fst
 (Prod.snd (Prod.snd (Prod.snd (Prod.snd (Prod.snd (Prod.snd (Prod.snd (Prod.snd x)))))))))
 (Prod.fst
 (Prod.snd
 (Prod.snd (Prod.snd (Prod.snd (Prod.snd (Prod.snd (Prod.snd (Prod.snd (Prod.snd x))))))))))
 (Prod.fst
 (Prod.snd
 (Prod.snd
 (Prod.snd
 (Prod.snd (Prod.snd (Prod.snd (Prod.snd (Prod.snd (Prod.snd (Prod.snd x)))))))))))
 (Prod.fst
 (Prod.snd
 (Prod.snd
 (Prod.snd
 (Prod.snd
 (Prod.snd (Prod.snd (Prod.snd (Prod.snd (Prod.snd (Prod.snd (Prod.snd x))))))))))))
 (Prod.fst
 (Prod.snd
 (Prod.snd
 (Prod.snd
 (Prod.snd
 (Prod.snd
 (Prod.snd (Prod.snd (Prod.snd (Prod.snd (Prod.snd (Prod.snd (Prod.snd x)))))))))))))
 (Prod.fst
 (Prod.snd
 (Prod.snd
 (Prod.snd
 (Prod.snd
 (Prod.snd
 (Prod.snd
 (Prod.snd
 (Prod.snd (Prod.snd (Prod.snd (Prod.snd (Prod.snd (Prod.snd x))))))))))))))
 (Prod.fst
 (Prod.snd
 (Prod.snd
 (Prod.snd
 (Prod.snd
 (Prod.snd
 (Prod.snd
 (Prod.snd
 (Prod.snd
 (Prod.snd (Prod.snd (Prod.snd (Prod.snd (Prod.snd (Prod.snd x)))))))))))))))
 (Prod.fst
 (Prod.snd
 (Prod.snd
 (Prod.snd
 (Prod.snd
 (Prod.snd
 (Prod.snd
 (Prod.snd
 (Prod.snd
 (Prod.snd
 (Prod.snd
 (Prod.snd (Prod.snd (Prod.snd (Prod.snd (Prod.snd x))))))))))))))))
 (Prod.fst
 (Prod.snd
 (Prod.snd
 (Prod.snd
 (Prod.snd
 (Prod.snd
 (Prod.snd
 (Prod.snd
 (Prod.snd
 (Prod.snd
 (Prod.snd
 (Prod.snd
 (Prod.snd (Prod.snd (Prod.snd (Prod.snd (Prod.snd x)))))))))))))))))
 (Prod.fst
 (Prod.snd
 (Prod.snd
 (Prod.snd
 (Prod.snd
 (Prod.snd
 (Prod.snd
 (Prod.snd
 (Prod.snd
 (Prod.snd
 (Prod.snd
 (Prod.snd
 (Prod.snd
 (Prod.snd (Prod.snd (Prod.snd (Prod.snd (Prod.snd x))))))))))))))))))
 (Prod.fst
 (Prod.snd
 (Prod.snd
 (Prod.snd
 (Prod.snd
 (Prod.snd
 (Prod.snd
 (Prod.snd
 (Prod.snd
 (Prod.snd
 (Prod.snd
 (Prod.snd
 (Prod.snd
 (Prod.snd
 (Prod.snd
 (Prod.snd (Prod.snd (Prod.snd (Prod.snd x)))))))))))))))))))
 (Prod.fst
 (Prod.snd
 (Prod.snd
 (Prod.snd
 (Prod.snd
 (Prod.snd
 (Prod.snd
 (Prod.snd
 (Prod.snd
 (Prod.snd
 (Prod.snd
 (Prod.snd
 (Prod.snd
 (Prod.snd
 (Prod.snd
 (Prod.snd
 (Prod.snd (Prod.snd (Prod.snd (Prod.snd x))))))))))))))))))))
 (Prod.fst
 (Prod.snd
 (Prod.snd
 (Prod.snd
 (Prod.snd
 (Prod.snd
 (Prod.snd
 (Prod.snd
 (Prod.snd
 (Prod.snd
 (Prod.snd
 (Prod.snd
 (Prod.snd
 (Prod.snd
 (Prod.snd
 (Prod.snd
 (Prod.snd
 (Prod.snd (Prod.snd (Prod.snd (Prod.snd x)))))))))))))))))))))
 (Prod.fst
 (Prod.snd
 (Prod.snd
 (Prod.snd
 (Prod.snd
 (Prod.snd
 (Prod.snd
 (Prod.snd
 (Prod.snd
 (Prod.snd
 (Prod.snd
 (Prod.snd
 (Prod.snd
 (Prod.snd
 (Prod.snd
 (Prod.snd
 (Prod.snd
 (Prod.snd
 (Prod.snd
 (Prod.snd (Prod.snd (Prod.snd x))))))))))))))))))))))
 (Prod.fst
 (Prod.snd
 (Prod.snd
 (Prod.snd
 (Prod.snd
 (Prod.snd
 (Prod.snd
 (Prod.snd
 (Prod.snd
 (Prod.snd
 (Prod.snd
 (Prod.snd
 (Prod.snd
 (Prod.snd
 (Prod.snd
 (Prod.snd
 (Prod.snd
 (Prod.snd
 (Prod.snd
 (Prod.snd
 (Prod.snd (Prod.snd (Prod.snd x)))))))))))))))))))))))
 (Prod.fst
 (Prod.snd
 (Prod.snd
 (Prod.snd
 (Prod.snd
 (Prod.snd
 (Prod.snd
 (Prod.snd
 (Prod.snd
 (Prod.snd
 (Prod.snd
 (Prod.snd
 (Prod.snd
 (Prod.snd
 (Prod.snd
 (Prod.snd
 (Prod.snd
 (Prod.snd
 (Prod.snd
 (Prod.snd
 (Prod.snd
 (Prod.snd
 (Prod.snd (Prod.snd x))))))))))))))))))))))))
 (Prod.snd
 (Prod.snd
 (Prod.snd
 (Prod.snd
 (Prod.snd
 (Prod.snd
 (Prod.snd
 (Prod.snd
 (Prod.snd
 (Prod.snd
 (Prod.snd
 (Prod.snd
 (Prod.snd
 (Prod.snd
 (Prod.snd
 (Prod.snd
 (Prod.snd
 (Prod.snd
 (Prod.snd
 (Prod.snd
 (Prod.snd
 (Prod.snd
 (Prod.snd (Prod.snd x)))))))))))))))))))))))))
 (oite (decide (Prod.fst (Prod.snd (Prod.snd x)) < (1 : UInt64)))
 (J (Prod.fst x) (Prod.fst (Prod.snd x)) (Prod.fst (Prod.snd (Prod.snd x)))
 (Prod.snd (Prod.fst x_2)) (6 : Int64) (6 : Int64)
 (Prod.fst (Prod.fst (Prod.snd (Prod.snd (Prod.snd x)))))
 (Prod.fst (Prod.snd (Prod.fst (Prod.snd (Prod.snd (Prod.snd x))))))
 (Prod.snd (Prod.snd (Prod.fst (Prod.snd (Prod.snd (Prod.snd x))))))
 (Prod.fst (Prod.snd (Prod.snd (Prod.snd (Prod.snd x)))))
 (Prod.fst (Prod.snd (Prod.snd (Prod.snd (Prod.snd (Prod.snd x))))))
 (Prod.fst (Prod.snd (Prod.snd (Prod.snd (Prod.snd (Prod.snd (Prod.snd x)))))))
 (Prod.fst (Prod.snd (Prod.snd (Prod.snd (Prod.snd (Prod.snd (Prod.snd (Prod.snd x))))))))
 (Prod.fst
 (Prod.snd (Prod.snd (Prod.snd (Prod.snd (Prod.snd (Prod.snd (Prod.snd (Prod.snd x)))))))))
 (Prod.fst
 (Prod.snd
 (Prod.snd
 (Prod.snd (Prod.snd (Prod.snd (Prod.snd (Prod.snd (Prod.snd (Prod.snd x))))))))))
 (Prod.fst
 (Prod.snd
 (Prod.snd
 (Prod.snd
 (Prod.snd (Prod.snd (Prod.snd (Prod.snd (Prod.snd (Prod.snd (Prod.snd x)))))))))))
 (Prod.fst
 (Prod.snd
 (Prod.snd
 (Prod.snd
 (Prod.snd
 (Prod.snd (Prod.snd (Prod.snd (Prod.snd (Prod.snd (Prod.snd (Prod.snd x))))))))))))
 (Prod.fst
 (Prod.snd
 (Prod.snd
 (Prod.snd
 (Prod.snd
 (Prod.snd
 (Prod.snd
 (Prod.snd (Prod.snd (Prod.snd (Prod.snd (Prod.snd (Prod.snd x)))))))))))))
 (Prod.fst
 (Prod.snd
 (Prod.snd
 (Prod.snd
 (Prod.snd
 (Prod.snd
 (Prod.snd
 (Prod.snd
 (Prod.snd (Prod.snd (Prod.snd (Prod.snd (Prod.snd (Prod.snd x))))))))))))))
 (Prod.fst
 (Prod.snd
 (Prod.snd
 (Prod.snd
 (Prod.snd
 (Prod.snd
 (Prod.snd
 (Prod.snd
 (Prod.snd
 (Prod.snd (Prod.snd (Prod.snd (Prod.snd (Prod.snd (Prod.snd x)))))))))))))))
 (Prod.fst
 (Prod.snd
 (Prod.snd
 (Prod.snd
 (Prod.snd
 (Prod.snd
 (Prod.snd
 (Prod.snd
 (Prod.snd
 (Prod.snd
 (Prod.snd
 (Prod.snd (Prod.snd (Prod.snd (Prod.snd (Prod.snd x))))))))))))))))
 (Prod.fst
 (Prod.snd
 (Prod.snd
 (Prod.snd
 (Prod.snd
 (Prod.snd
 (Prod.snd
 (Prod.snd
 (Prod.snd
 (Prod.snd
 (Prod.snd
 (Prod.snd
 (Prod.snd (Prod.snd (Prod.snd (Prod.snd (Prod.snd x)))))))))))))))))
 (Prod.fst
 (Prod.snd
 (Prod.snd
 (Prod.snd
 (Prod.snd
 (Prod.snd
 (Prod.snd
 (Prod.snd
 (Prod.snd
 (Prod.snd
 (Prod.snd
 (Prod.snd
 (Prod.snd
 (Prod.snd
 (Prod.snd (Prod.snd (Prod.snd (Prod.snd x))))))))))))))))))
 (Prod.fst
 (Prod.snd
 (Prod.snd
 (Prod.snd
 (Prod.snd
 (Prod.snd
 (Prod.snd
 (Prod.snd
 (Prod.snd
 (Prod.snd
 (Prod.snd
 (Prod.snd
 (Prod.snd
 (Prod.snd
 (Prod.snd
 (Prod.snd (Prod.snd (Prod.snd (Prod.snd x)))))))))))))))))))
 (Prod.fst
 (Prod.snd
 (Prod.snd
 (Prod.snd
 (Prod.snd
 (Prod.snd
 (Prod.snd
 (Prod.snd
 (Prod.snd
 (Prod.snd
 (Prod.snd
 (Prod.snd
 (Prod.snd
 (Prod.snd
 (Prod.snd
 (Prod.snd
 (Prod.snd (Prod.snd (Prod.snd (Prod.snd x))))))))))))))))))))
 (Prod.fst
 (Prod.snd
 (Prod.snd
 (Prod.snd
 (Prod.snd
 (Prod.snd
 (Prod.snd
 (Prod.snd
 (Prod.snd
 (Prod.snd
 (Prod.snd
 (Prod.snd
 (Prod.snd
 (Prod.snd
 (Prod.snd
 (Prod.snd
 (Prod.snd
 (Prod.snd
 (Prod.snd (Prod.snd (Prod.snd x)))))))))))))))))))))
 (Prod.fst
 (Prod.snd
 (Prod.snd
 (Prod.snd
 (Prod.snd
 (Prod.snd
 (Prod.snd
 (Prod.snd
 (Prod.snd
 (Prod.snd
 (Prod.snd
 (Prod.snd
 (Prod.snd
 (Prod.snd
 (Prod.snd
 (Prod.snd
 (Prod.snd
 (Prod.snd
 (Prod.snd
 (Prod.snd (Prod.snd (Prod.snd x))))))))))))))))))))))
 (Prod.fst
 (Prod.snd
 (Prod.snd
 (Prod.snd
 (Prod.snd
 (Prod.snd
 (Prod.snd
 (Prod.snd
 (Prod.snd
 (Prod.snd
 (Prod.snd
 (Prod.snd
 (Prod.snd
 (Prod.snd
 (Prod.snd
 (Prod.snd
 (Prod.snd
 (Prod.snd
 (Prod.snd
 (Prod.snd
 (Prod.snd (Prod.snd (Prod.snd x)))))))))))))))))))))))
 (Prod.fst
 (Prod.snd
 (Prod.snd
 (Prod.snd
 (Prod.snd
 (Prod.snd
 (Prod.snd
 (Prod.snd
 (Prod.snd
 (Prod.snd
 (Prod.snd
 (Prod.snd
 (Prod.snd
 (Prod.snd
 (Prod.snd
 (Prod.snd
 (Prod.snd
 (Prod.snd
 (Prod.snd
 (Prod.snd
 (Prod.snd
 (Prod.snd
 (Prod.snd (Prod.snd x))))))))))))))))))))))))
 (Prod.snd
 (Prod.snd
 (Prod.snd
 (Prod.snd
 (Prod.snd
 (Prod.snd
 (Prod.snd
 (Prod.snd
 (Prod.snd
 (Prod.snd
 (Prod.snd
 (Prod.snd
 (Prod.snd
 (Prod.snd
 (Prod.snd
 (Prod.snd
 (Prod.snd
 (Prod.snd
 (Prod.snd
 (Prod.snd
 (Prod.snd
 (Prod.snd
 (Prod.snd (Prod.snd x)))))))))))))))))))))))))
 (oite (decide ((1048575 : UInt64) < Prod.fst (Prod.snd (Prod.snd x))))
 (J (Prod.fst x) (Prod.fst (Prod.snd x)) (Prod.fst (Prod.snd (Prod.snd x)))
 (Prod.snd (Prod.fst x_2)) (6 : Int64) (6 : Int64)
 (Prod.fst (Prod.fst (Prod.snd (Prod.snd (Prod.snd x)))))
 (Prod.fst (Prod.snd (Prod.fst (Prod.snd (Prod.snd (Prod.snd x))))))
 (Prod.snd (Prod.snd (Prod.fst (Prod.snd (Prod.snd (Prod.snd x))))))
 (Prod.fst (Prod.snd (Prod.snd (Prod.snd (Prod.snd x)))))
 (Prod.fst (Prod.snd (Prod.snd (Prod.snd (Prod.snd (Prod.snd x))))))
 (Prod.fst (Prod.snd (Prod.snd (Prod.snd (Prod.snd (Prod.snd (Prod.snd x)))))))
 (Prod.fst (Prod.snd (Prod.snd (Prod.snd (Prod.snd (Prod.snd (Prod.snd (Prod.snd x))))))))
 (Prod.fst
 (Prod.snd (Prod.snd (Prod.snd (Prod.snd (Prod.snd (Prod.snd (Prod.snd (Prod.snd x)))))))))
 (Prod.fst
 (Prod.snd
 (Prod.snd
 (Prod.snd (Prod.snd (Prod.snd (Prod.snd (Prod.snd (Prod.snd (Prod.snd x))))))))))
 (Prod.fst
 (Prod.snd
 (Prod.snd
 (Prod.snd
 (Prod.snd (Prod.snd (Prod.snd (Prod.snd (Prod.snd (Prod.snd (Prod.snd x)))))))))))
 (Prod.fst
 (Prod.snd
 (Prod.snd
 (Prod.snd
 (Prod.snd
 (Prod.snd
 (Prod.snd (Prod.snd (Prod.snd (Prod.snd (Prod.snd (Prod.snd x))))))))))))
 (Prod.fst
 (Prod.snd
 (Prod.snd
 (Prod.snd
 (Prod.snd
 (Prod.snd
 (Prod.snd
 (Prod.snd (Prod.snd (Prod.snd (Prod.snd (Prod.snd (Prod.snd x)))))))))))))
 (Prod.fst
 (Prod.snd
 (Prod.snd
 (Prod.snd
 (Prod.snd
 (Prod.snd
 (Prod.snd
 (Prod.snd
 (Prod.snd (Prod.snd (Prod.snd (Prod.snd (Prod.snd (Prod.snd x))))))))))))))
 (Prod.fst
 (Prod.snd
 (Prod.snd
 (Prod.snd
 (Prod.snd
 (Prod.snd
 (Prod.snd
 (Prod.snd
 (Prod.snd
 (Prod.snd
 (Prod.snd (Prod.snd (Prod.snd (Prod.snd (Prod.snd x)))))))))))))))
 (Prod.fst
 (Prod.snd
 (Prod.snd
 (Prod.snd
 (Prod.snd
 (Prod.snd
 (Prod.snd
 (Prod.snd
 (Prod.snd
 (Prod.snd
 (Prod.snd
 (Prod.snd (Prod.snd (Prod.snd (Prod.snd (Prod.snd x))))))))))))))))
 (Prod.fst
 (Prod.snd
 (Prod.snd
 (Prod.snd
 (Prod.snd
 (Prod.snd
 (Prod.snd
 (Prod.snd
 (Prod.snd
 (Prod.snd
 (Prod.snd
 (Prod.snd
 (Prod.snd (Prod.snd (Prod.snd (Prod.snd (Prod.snd x)))))))))))))))))
 (Prod.fst
 (Prod.snd
 (Prod.snd
 (Prod.snd
 (Prod.snd
 (Prod.snd
 (Prod.snd
 (Prod.snd
 (Prod.snd
 (Prod.snd
 (Prod.snd
 (Prod.snd
 (Prod.snd
 (Prod.snd
 (Prod.snd (Prod.snd (Prod.snd (Prod.snd x))))))))))))))))))
 (Prod.fst
 (Prod.snd
 (Prod.snd
 (Prod.snd
 (Prod.snd
 (Prod.snd
 (Prod.snd
 (Prod.snd
 (Prod.snd
 (Prod.snd
 (Prod.snd
 (Prod.snd
 (Prod.snd
 (Prod.snd
 (Prod.snd
 (Prod.snd (Prod.snd (Prod.snd (Prod.snd x)))))))))))))))))))
 (Prod.fst
 (Prod.snd
 (Prod.snd
 (Prod.snd
 (Prod.snd
 (Prod.snd
 (Prod.snd
 (Prod.snd
 (Prod.snd
 (Prod.snd
 (Prod.snd
 (Prod.snd
 (Prod.snd
 (Prod.snd
 (Prod.snd
 (Prod.snd
 (Prod.snd
 (Prod.snd (Prod.snd (Prod.snd x))))))))))))))))))))
 (Prod.fst
 (Prod.snd
 (Prod.snd
 (Prod.snd
 (Prod.snd
 (Prod.snd
 (Prod.snd
 (Prod.snd
 (Prod.snd
 (Prod.snd
 (Prod.snd
 (Prod.snd
 (Prod.snd
 (Prod.snd
 (Prod.snd
 (Prod.snd
 (Prod.snd
 (Prod.snd
 (Prod.snd (Prod.snd (Prod.snd x)))))))))))))))))))))
 (Prod.fst
 (Prod.snd
 (Prod.snd
 (Prod.snd
 (Prod.snd
 (Prod.snd
 (Prod.snd
 (Prod.snd
 (Prod.snd
 (Prod.snd
 (Prod.snd
 (Prod.snd
 (Prod.snd
 (Prod.snd
 (Prod.snd
 (Prod.snd
 (Prod.snd
 (Prod.snd
 (Prod.snd
 (Prod.snd (Prod.snd (Prod.snd x))))))))))))))))))))))
 (Prod.fst
 (Prod.snd
 (Prod.snd
 (Prod.snd
 (Prod.snd
 (Prod.snd
 (Prod.snd
 (Prod.snd
 (Prod.snd
 (Prod.snd
 (Prod.snd
 (Prod.snd
 (Prod.snd
 (Prod.snd
 (Prod.snd
 (Prod.snd
 (Prod.snd
 (Prod.snd
 (Prod.snd
 (Prod.snd
 (Prod.snd
 (Prod.snd (Prod.snd x)))))))))))))))))))))))
 (Prod.fst
 (Prod.snd
 (Prod.snd
 (Prod.snd
 (Prod.snd
 (Prod.snd
 (Prod.snd
 (Prod.snd
 (Prod.snd
 (Prod.snd
 (Prod.snd
 (Prod.snd
 (Prod.snd
 (Prod.snd
 (Prod.snd
 (Prod.snd
 (Prod.snd
 (Prod.snd
 (Prod.snd
 (Prod.snd
 (Prod.snd
 (Prod.snd
 (Prod.snd (Prod.snd x))))))))))))))))))))))))
 (Prod.snd
 (Prod.snd
 (Prod.snd
 (Prod.snd
 (Prod.snd
 (Prod.snd
 (Prod.snd
 (Prod.snd
 (Prod.snd
 (Prod.snd
 (Prod.snd
 (Prod.snd
 (Prod.snd
 (Prod.snd
 (Prod.snd
 (Prod.snd
 (Prod.snd
 (Prod.snd
 (Prod.snd
 (Prod.snd
 (Prod.snd
 (Prod.snd
 (Prod.snd (Prod.snd x)))))))))))))))))))))))))
 (J (Prod.fst x) (Prod.fst (Prod.snd x)) (Prod.fst (Prod.snd (Prod.snd x)))
 (Prod.snd (Prod.fst x_2)) (Prod.snd (Prod.fst x_2)) (Prod.snd (Prod.fst x_3))
 (Prod.fst (Prod.fst (Prod.snd (Prod.snd (Prod.snd x)))))
 (Prod.fst (Prod.snd (Prod.fst (Prod.snd (Prod.snd (Prod.snd x))))))
 (Prod.snd (Prod.snd (Prod.fst (Prod.snd (Prod.snd (Prod.snd x))))))
 (Prod.fst (Prod.snd (Prod.snd (Prod.snd (Prod.snd x)))))
 (Prod.fst (Prod.snd (Prod.snd (Prod.snd (Prod.snd (Prod.snd x))))))
 (Prod.fst (Prod.snd (Prod.snd (Prod.snd (Prod.snd (Prod.snd (Prod.snd x)))))))
 (Prod.fst (Prod.snd (Prod.snd (Prod.snd (Prod.snd (Prod.snd (Prod.snd (Prod.snd x))))))))
 (Prod.fst
 (Prod.snd (Prod.snd (Prod.snd (Prod.snd (Prod.snd (Prod.snd (Prod.snd (Prod.snd x)))))))))
 (Prod.fst
 (Prod.snd
 (Prod.snd
 (Prod.snd (Prod.snd (Prod.snd (Prod.snd (Prod.snd (Prod.snd (Prod.snd x))))))))))
 (Prod.fst
 (Prod.snd
 (Prod.snd
 (Prod.snd
 (Prod.snd (Prod.snd (Prod.snd (Prod.snd (Prod.snd (Prod.snd (Prod.snd x)))))))))))
 (Prod.fst
 (Prod.snd
 (Prod.snd
 (Prod.snd
 (Prod.snd
 (Prod.snd
 (Prod.snd (Prod.snd (Prod.snd (Prod.snd (Prod.snd (Prod.snd x))))))))))))
 (Prod.fst
 (Prod.snd
 (Prod.snd
 (Prod.snd
 (Prod.snd
 (Prod.snd
 (Prod.snd
 (Prod.snd (Prod.snd (Prod.snd (Prod.snd (Prod.snd (Prod.snd x)))))))))))))
 (Prod.fst
 (Prod.snd
 (Prod.snd
 (Prod.snd
 (Prod.snd
 (Prod.snd
 (Prod.snd
 (Prod.snd
 (Prod.snd (Prod.snd (Prod.snd (Prod.snd (Prod.snd (Prod.snd x))))))))))))))
 (Prod.fst
 (Prod.snd
 (Prod.snd
 (Prod.snd
 (Prod.snd
 (Prod.snd
 (Prod.snd
 (Prod.snd
 (Prod.snd
 (Prod.snd
 (Prod.snd (Prod.snd (Prod.snd (Prod.snd (Prod.snd x)))))))))))))))
 (Prod.fst
 (Prod.snd
 (Prod.snd
 (Prod.snd
 (Prod.snd
 (Prod.snd
 (Prod.snd
 (Prod.snd
 (Prod.snd
 (Prod.snd
 (Prod.snd
 (Prod.snd (Prod.snd (Prod.snd (Prod.snd (Prod.snd x))))))))))))))))
 (Prod.fst
 (Prod.snd
 (Prod.snd
 (Prod.snd
 (Prod.snd
 (Prod.snd
 (Prod.snd
 (Prod.snd
 (Prod.snd
 (Prod.snd
 (Prod.snd
 (Prod.snd
 (Prod.snd (Prod.snd (Prod.snd (Prod.snd (Prod.snd x)))))))))))))))))
 (Prod.fst
 (Prod.snd
 (Prod.snd
 (Prod.snd
 (Prod.snd
 (Prod.snd
 (Prod.snd
 (Prod.snd
 (Prod.snd
 (Prod.snd
 (Prod.snd
 (Prod.snd
 (Prod.snd
 (Prod.snd
 (Prod.snd (Prod.snd (Prod.snd (Prod.snd x))))))))))))))))))
 (Prod.fst
 (Prod.snd
 (Prod.snd
 (Prod.snd
 (Prod.snd
 (Prod.snd
 (Prod.snd
 (Prod.snd
 (Prod.snd
 (Prod.snd
 (Prod.snd
 (Prod.snd
 (Prod.snd
 (Prod.snd
 (Prod.snd
 (Prod.snd (Prod.snd (Prod.snd (Prod.snd x)))))))))))))))))))
 (Prod.fst
 (Prod.snd
 (Prod.snd
 (Prod.snd
 (Prod.snd
 (Prod.snd
 (Prod.snd
 (Prod.snd
 (Prod.snd
 (Prod.snd
 (Prod.snd
 (Prod.snd
 (Prod.snd
 (Prod.snd
 (Prod.snd
 (Prod.snd
 (Prod.snd
 (Prod.snd (Prod.snd (Prod.snd x))))))))))))))))))))
 (Prod.fst
 (Prod.snd
 (Prod.snd
 (Prod.snd
 (Prod.snd
 (Prod.snd
 (Prod.snd
 (Prod.snd
 (Prod.snd
 (Prod.snd
 (Prod.snd
 (Prod.snd
 (Prod.snd
 (Prod.snd
 (Prod.snd
 (Prod.snd
 (Prod.snd
 (Prod.snd
 (Prod.snd (Prod.snd (Prod.snd x)))))))))))))))))))))
 (Prod.fst
 (Prod.snd
 (Prod.snd
 (Prod.snd
 (Prod.snd
 (Prod.snd
 (Prod.snd
 (Prod.snd
 (Prod.snd
 (Prod.snd
 (Prod.snd
 (Prod.snd
 (Prod.snd
 (Prod.snd
 (Prod.snd
 (Prod.snd
 (Prod.snd
 (Prod.snd
 (Prod.snd
 (Prod.snd (Prod.snd (Prod.snd x))))))))))))))))))))))
 (Prod.fst
 (Prod.snd
 (Prod.snd
 (Prod.snd
 (Prod.snd
 (Prod.snd
 (Prod.snd
 (Prod.snd
 (Prod.snd
 (Prod.snd
 (Prod.snd
 (Prod.snd
 (Prod.snd
 (Prod.snd
 (Prod.snd
 (Prod.snd
 (Prod.snd
 (Prod.snd
 (Prod.snd
 (Prod.snd
 (Prod.snd
 (Prod.snd (Prod.snd x)))))))))))))))))))))))
 (Prod.fst
 (Prod.snd
 (Prod.snd
 (Prod.snd
 (Prod.snd
 (Prod.snd
 (Prod.snd
 (Prod.snd
 (Prod.snd
 (Prod.snd
 (Prod.snd
 (Prod.snd
 (Prod.snd
 (Prod.snd
 (Prod.snd
 (Prod.snd
 (Prod.snd
 (Prod.snd
 (Prod.snd
 (Prod.snd
 (Prod.snd
 (Prod.snd
 (Prod.snd (Prod.snd x))))))))))))))))))))))))
 (Prod.snd
 (Prod.snd
 (Prod.snd
 (Prod.snd
 (Prod.snd
 (Prod.snd
 (Prod.snd
 (Prod.snd
 (Prod.snd
 (Prod.snd
 (Prod.snd
 (Prod.snd
 (Prod.snd
 (Prod.snd
 (Prod.snd
 (Prod.snd
 (Prod.snd
 (Prod.snd
 (Prod.snd
 (Prod.snd
 (Prod.snd
 (Prod.snd
 (Prod.snd
 (Prod.snd x))))))))))))))))))))))))))))))
 (F4_J127 n)))
theorem ok4 (n : Nat) : FunOK Try.prog ⟨4, sig4, F4 n⟩ :=
 fun_ok (hints := ⟨[(127, ⟨[(0, .one (.int .u8)), (1, .one (.int .u8)), (2, .one (.int .u64)), (8, .one (.own 5)), (9, .one (.own 6)), (12, .one (.int .i64)), (15, .one (.int .i64)), (16, .one (.int .i64))], [(5, .cells [.int .i64, .int .u64, .int .u64]), (6, .cells [.int .u8, .int .u8, .int .u8, .int .u64, .int .u64, .bool, .int .u8, .int .u64, .int .u64, .str, .ro (.cons .str (.cons .str .nil)), .int .u8, .int .u8, .int .i64, .int .u8, .int .u8, .int .u64, .int .u64, .int .u64, .int .u64, .int .u64])], 7⟩), (16383, ⟨[(9, .one (.own 5)), (21, .one (.nilp)), (22, .one (.nilp)), (24, .one (.int .i64)), (26, .one (.bool))], [(5, .cells [.int .u8, .int .u8, .int .u8, .int .u64, .int .u64, .bool, .int .u8, .int .u64, .int .u64, .str, .ro (.cons .str (.cons .str .nil)), .int .u8, .int .u8, .int .i64, .int .u8, .int .u8, .int .u64, .int .u64, .int .u64, .int .u64, .int .u64])], 6⟩)], []⟩) (fuel := n) (c := Try.f4.body.getD .skip) (rs := Try.f4.results.toList) tt_ok mix (FsOK.cons (ok8 n) (FsOK.cons (ok12 n) (FsOK.cons (ok13 n) (FsOK.cons (ok9 n) (FsOK.cons (ok14 n) (FsOK.cons (ok10 n) (FsOK.cons (ok15 n) (FsOK.cons (ok16 n) (FsOK.cons (ok17 n) (FsOK.cons (ok18 n) (FsOK.cons (ok11 n) (FsOK.cons (ok19 n) (FsOK.cons (ok20 n) (FsOK.cons (ok21 n) (FsOK.cons (ok22 n) (FsOK.cons (ok23 n) (FsOK.cons (ok24 n) (FsOK.nil)))))))))))))))))) Try.func4 (by kernel_rfl) (by kernel_rfl) rfl (by kernel_rfl) rfl rfl (by kernel_rfl)
end Go.Proofs.Ytfmomnniadlbhaa
