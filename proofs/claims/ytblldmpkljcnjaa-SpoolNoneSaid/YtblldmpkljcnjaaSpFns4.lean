/- What the functions of this seat compute, found by walking their code symbolically: each F is what the walk finds, each ok says that the Go function keeps it as a contract. Printed by a program of this repo's. -/
import Derived.Test.YtblldmpkljcnjaaSpFns3
open Go Go.Sx
namespace Go.Proofs.Ytblldmpkljcnjaa
set_option maxRecDepth 100000
set_option linter.unusedVariables false
-- watchfire/watchfirelaw08.SpoolFinds
def sig3 : Sig := ⟨(.cons (.one (.c (.int .u16))) (.cons (.one (.c (.ro (.cons .bool (.cons (.int .u8) (.cons (.int .u8) (.cons (.int .u8) (.cons (.int .u16) (.cons (.int .u16) (.cons (.int .u16) (.cons (.int .u8) (.cons (.int .u8) (.cons (.int .u8) (.cons .bool .nil)))))))))))))) (.cons (.one (.c (.int .u64))) (.cons (.one (.c (.int .i64))) .nil)))), (.cons (.one (.c .bool)) .nil)⟩
noncomputable def F3_L2076159 : Nat →
 Arr
 [PT.int IntKind.i64,
 PT.list
 (CTs.cons (CT.int IntKind.u64)
 (CTs.cons CT.bool
 (CTs.cons (CT.int IntKind.u8)
 (CTs.cons (CT.int IntKind.u64)
 (CTs.cons (CT.int IntKind.u64)
 (CTs.cons CT.str
 (CTs.cons (CT.ro (CTs.cons CT.str (CTs.cons CT.str CTs.nil)))
 (CTs.cons (CT.int IntKind.u8)
 (CTs.cons (CT.int IntKind.u8)
 (CTs.cons (CT.int IntKind.i64)
 (CTs.cons (CT.int IntKind.u8)
 (CTs.cons (CT.int IntKind.u8)
 (CTs.cons (CT.int IntKind.u64) (CTs.cons (CT.int IntKind.u64) CTs.nil)))))))))))))),
 PT.int IntKind.i64, PT.int IntKind.i64,
 PT.optA
 (OTs.cons (OT.c (CT.int IntKind.i64))
 (OTs.cons (OT.c (CT.int IntKind.i64))
 (OTs.cons (OT.c (CT.int IntKind.u64))
 (OTs.cons (OT.c (CT.int IntKind.u64))
 (OTs.cons
 (OT.row
 (CTs.cons (CT.int IntKind.u64)
 (CTs.cons CT.bool
 (CTs.cons (CT.int IntKind.u8)
 (CTs.cons (CT.int IntKind.u64)
 (CTs.cons (CT.int IntKind.u64)
 (CTs.cons CT.str
 (CTs.cons (CT.ro (CTs.cons CT.str (CTs.cons CT.str CTs.nil)))
 (CTs.cons (CT.int IntKind.u8)
 (CTs.cons (CT.int IntKind.u8)
 (CTs.cons (CT.int IntKind.i64)
 (CTs.cons (CT.int IntKind.u8)
 (CTs.cons (CT.int IntKind.u8)
 (CTs.cons (CT.int IntKind.u64)
 (CTs.cons (CT.int IntKind.u64) CTs.nil)))))))))))))))
 OTs.nil)))))
 (CT.int IntKind.u64) (OTs.cons (OT.c (CT.int IntKind.u64)) OTs.nil),
 PT.list (CTs.cons (CT.int IntKind.u64) CTs.nil)]
 (Option (Bool × Unit)) →
 Arr
 [PT.int IntKind.i64,
 PT.list
 (CTs.cons (CT.int IntKind.u64)
 (CTs.cons CT.bool
 (CTs.cons (CT.int IntKind.u8)
 (CTs.cons (CT.int IntKind.u64)
 (CTs.cons (CT.int IntKind.u64)
 (CTs.cons CT.str
 (CTs.cons (CT.ro (CTs.cons CT.str (CTs.cons CT.str CTs.nil)))
 (CTs.cons (CT.int IntKind.u8)
 (CTs.cons (CT.int IntKind.u8)
 (CTs.cons (CT.int IntKind.i64)
 (CTs.cons (CT.int IntKind.u8)
 (CTs.cons (CT.int IntKind.u8)
 (CTs.cons (CT.int IntKind.u64) (CTs.cons (CT.int IntKind.u64) CTs.nil)))))))))))))),
 PT.list
 (CTs.cons (CT.int IntKind.u64)
 (CTs.cons CT.bool
 (CTs.cons (CT.int IntKind.u8)
 (CTs.cons (CT.int IntKind.u64)
 (CTs.cons (CT.int IntKind.u64)
 (CTs.cons CT.str
 (CTs.cons (CT.ro (CTs.cons CT.str (CTs.cons CT.str CTs.nil)))
 (CTs.cons (CT.int IntKind.u8)
 (CTs.cons (CT.int IntKind.u8)
 (CTs.cons (CT.int IntKind.i64)
 (CTs.cons (CT.int IntKind.u8)
 (CTs.cons (CT.int IntKind.u8)
 (CTs.cons (CT.int IntKind.u64) (CTs.cons (CT.int IntKind.u64) CTs.nil)))))))))))))),
 PT.int IntKind.i64, PT.int IntKind.i64, PT.int IntKind.i64, PT.int IntKind.i64,
 PT.optA
 (OTs.cons (OT.c (CT.int IntKind.i64))
 (OTs.cons (OT.c (CT.int IntKind.i64))
 (OTs.cons (OT.c (CT.int IntKind.u64))
 (OTs.cons (OT.c (CT.int IntKind.u64))
 (OTs.cons
 (OT.row
 (CTs.cons (CT.int IntKind.u64)
 (CTs.cons CT.bool
 (CTs.cons (CT.int IntKind.u8)
 (CTs.cons (CT.int IntKind.u64)
 (CTs.cons (CT.int IntKind.u64)
 (CTs.cons CT.str
 (CTs.cons (CT.ro (CTs.cons CT.str (CTs.cons CT.str CTs.nil)))
 (CTs.cons (CT.int IntKind.u8)
 (CTs.cons (CT.int IntKind.u8)
 (CTs.cons (CT.int IntKind.i64)
 (CTs.cons (CT.int IntKind.u8)
 (CTs.cons (CT.int IntKind.u8)
 (CTs.cons (CT.int IntKind.u64)
 (CTs.cons (CT.int IntKind.u64) CTs.nil)))))))))))))))
 OTs.nil)))))
 (CT.int IntKind.u64) (OTs.cons (OT.c (CT.int IntKind.u64)) OTs.nil),
 PT.list
 (CTs.cons (CT.int IntKind.u64)
 (CTs.cons CT.bool
 (CTs.cons (CT.int IntKind.u8)
 (CTs.cons (CT.int IntKind.u64)
 (CTs.cons (CT.int IntKind.u64)
 (CTs.cons CT.str
 (CTs.cons (CT.ro (CTs.cons CT.str (CTs.cons CT.str CTs.nil)))
 (CTs.cons (CT.int IntKind.u8)
 (CTs.cons (CT.int IntKind.u8)
 (CTs.cons (CT.int IntKind.i64)
 (CTs.cons (CT.int IntKind.u8)
 (CTs.cons (CT.int IntKind.u8)
 (CTs.cons (CT.int IntKind.u64) (CTs.cons (CT.int IntKind.u64) CTs.nil)))))))))))))),
 PT.list (CTs.cons (CT.int IntKind.u64) CTs.nil)]
 (Option (Bool × Unit)) →
 Int64 →
 List
 (UInt64 ×
 Bool ×
 UInt8 ×
 UInt64 ×
 UInt64 ×
 List UInt8 ×
 List (List UInt8 × List UInt8) × UInt8 × UInt8 × Int64 × UInt8 × UInt8 × UInt64 × UInt64) →
 List
 (UInt64 ×
 Bool ×
 UInt8 ×
 UInt64 ×
 UInt64 ×
 List UInt8 ×
 List (List UInt8 × List UInt8) × UInt8 × UInt8 × Int64 × UInt8 × UInt8 × UInt64 × UInt64) →
 Int64 →
 Int64 →
 Int64 →
 Int64 →
 Option
 ((Int64 ×
 Int64 ×
 UInt64 ×
 UInt64 ×
 List
 (UInt64 ×
 Bool ×
 UInt8 ×
 UInt64 ×
 UInt64 ×
 List UInt8 ×
 List (List UInt8 × List UInt8) ×
 UInt8 × UInt8 × Int64 × UInt8 × UInt8 × UInt64 × UInt64)) ×
 List UInt64 × UInt64) →
 List
 (UInt64 ×
 Bool ×
 UInt8 ×
 UInt64 ×
 UInt64 ×
 List UInt8 ×
 List (List UInt8 × List UInt8) ×
 UInt8 × UInt8 × Int64 × UInt8 × UInt8 × UInt64 × UInt64) →
 List UInt64 → Option (Bool × Unit) := fun (n : Nat)
 (rec_1 :
 Arr
 [PT.int IntKind.i64,
 PT.list
 (CTs.cons (CT.int IntKind.u64)
 (CTs.cons CT.bool
 (CTs.cons (CT.int IntKind.u8)
 (CTs.cons (CT.int IntKind.u64)
 (CTs.cons (CT.int IntKind.u64)
 (CTs.cons CT.str
 (CTs.cons (CT.ro (CTs.cons CT.str (CTs.cons CT.str CTs.nil)))
 (CTs.cons (CT.int IntKind.u8)
 (CTs.cons (CT.int IntKind.u8)
 (CTs.cons (CT.int IntKind.i64)
 (CTs.cons (CT.int IntKind.u8)
 (CTs.cons (CT.int IntKind.u8)
 (CTs.cons (CT.int IntKind.u64) (CTs.cons (CT.int IntKind.u64) CTs.nil)))))))))))))),
 PT.int IntKind.i64, PT.int IntKind.i64,
 PT.optA
 (OTs.cons (OT.c (CT.int IntKind.i64))
 (OTs.cons (OT.c (CT.int IntKind.i64))
 (OTs.cons (OT.c (CT.int IntKind.u64))
 (OTs.cons (OT.c (CT.int IntKind.u64))
 (OTs.cons
 (OT.row
 (CTs.cons (CT.int IntKind.u64)
 (CTs.cons CT.bool
 (CTs.cons (CT.int IntKind.u8)
 (CTs.cons (CT.int IntKind.u64)
 (CTs.cons (CT.int IntKind.u64)
 (CTs.cons CT.str
 (CTs.cons (CT.ro (CTs.cons CT.str (CTs.cons CT.str CTs.nil)))
 (CTs.cons (CT.int IntKind.u8)
 (CTs.cons (CT.int IntKind.u8)
 (CTs.cons (CT.int IntKind.i64)
 (CTs.cons (CT.int IntKind.u8)
 (CTs.cons (CT.int IntKind.u8)
 (CTs.cons (CT.int IntKind.u64)
 (CTs.cons (CT.int IntKind.u64) CTs.nil)))))))))))))))
 OTs.nil)))))
 (CT.int IntKind.u64) (OTs.cons (OT.c (CT.int IntKind.u64)) OTs.nil),
 PT.list (CTs.cons (CT.int IntKind.u64) CTs.nil)]
 (Option (Bool × Unit)))
 (rec_3 :
 Arr
 [PT.int IntKind.i64,
 PT.list
 (CTs.cons (CT.int IntKind.u64)
 (CTs.cons CT.bool
 (CTs.cons (CT.int IntKind.u8)
 (CTs.cons (CT.int IntKind.u64)
 (CTs.cons (CT.int IntKind.u64)
 (CTs.cons CT.str
 (CTs.cons (CT.ro (CTs.cons CT.str (CTs.cons CT.str CTs.nil)))
 (CTs.cons (CT.int IntKind.u8)
 (CTs.cons (CT.int IntKind.u8)
 (CTs.cons (CT.int IntKind.i64)
 (CTs.cons (CT.int IntKind.u8)
 (CTs.cons (CT.int IntKind.u8)
 (CTs.cons (CT.int IntKind.u64) (CTs.cons (CT.int IntKind.u64) CTs.nil)))))))))))))),
 PT.list
 (CTs.cons (CT.int IntKind.u64)
 (CTs.cons CT.bool
 (CTs.cons (CT.int IntKind.u8)
 (CTs.cons (CT.int IntKind.u64)
 (CTs.cons (CT.int IntKind.u64)
 (CTs.cons CT.str
 (CTs.cons (CT.ro (CTs.cons CT.str (CTs.cons CT.str CTs.nil)))
 (CTs.cons (CT.int IntKind.u8)
 (CTs.cons (CT.int IntKind.u8)
 (CTs.cons (CT.int IntKind.i64)
 (CTs.cons (CT.int IntKind.u8)
 (CTs.cons (CT.int IntKind.u8)
 (CTs.cons (CT.int IntKind.u64) (CTs.cons (CT.int IntKind.u64) CTs.nil)))))))))))))),
 PT.int IntKind.i64, PT.int IntKind.i64, PT.int IntKind.i64, PT.int IntKind.i64,
 PT.optA
 (OTs.cons (OT.c (CT.int IntKind.i64))
 (OTs.cons (OT.c (CT.int IntKind.i64))
 (OTs.cons (OT.c (CT.int IntKind.u64))
 (OTs.cons (OT.c (CT.int IntKind.u64))
 (OTs.cons
 (OT.row
 (CTs.cons (CT.int IntKind.u64)
 (CTs.cons CT.bool
 (CTs.cons (CT.int IntKind.u8)
 (CTs.cons (CT.int IntKind.u64)
 (CTs.cons (CT.int IntKind.u64)
 (CTs.cons CT.str
 (CTs.cons (CT.ro (CTs.cons CT.str (CTs.cons CT.str CTs.nil)))
 (CTs.cons (CT.int IntKind.u8)
 (CTs.cons (CT.int IntKind.u8)
 (CTs.cons (CT.int IntKind.i64)
 (CTs.cons (CT.int IntKind.u8)
 (CTs.cons (CT.int IntKind.u8)
 (CTs.cons (CT.int IntKind.u64)
 (CTs.cons (CT.int IntKind.u64) CTs.nil)))))))))))))))
 OTs.nil)))))
 (CT.int IntKind.u64) (OTs.cons (OT.c (CT.int IntKind.u64)) OTs.nil),
 PT.list
 (CTs.cons (CT.int IntKind.u64)
 (CTs.cons CT.bool
 (CTs.cons (CT.int IntKind.u8)
 (CTs.cons (CT.int IntKind.u64)
 (CTs.cons (CT.int IntKind.u64)
 (CTs.cons CT.str
 (CTs.cons (CT.ro (CTs.cons CT.str (CTs.cons CT.str CTs.nil)))
 (CTs.cons (CT.int IntKind.u8)
 (CTs.cons (CT.int IntKind.u8)
 (CTs.cons (CT.int IntKind.i64)
 (CTs.cons (CT.int IntKind.u8)
 (CTs.cons (CT.int IntKind.u8)
 (CTs.cons (CT.int IntKind.u64) (CTs.cons (CT.int IntKind.u64) CTs.nil)))))))))))))),
 PT.list (CTs.cons (CT.int IntKind.u64) CTs.nil)]
 (Option (Bool × Unit)))
 (many_4 : Int64)
 (all__3 got :
 List
 (UInt64 ×
 Bool ×
 UInt8 ×
 UInt64 ×
 UInt64 ×
 List UInt8 ×
 List (List UInt8 × List UInt8) × UInt8 × UInt8 × Int64 × UInt8 × UInt8 × UInt64 × UInt64))
 (t_7 t_1_4 t_2_4 t_3_2 : Int64)
 (s_4 :
 Option
 ((Int64 ×
 Int64 ×
 UInt64 ×
 UInt64 ×
 List
 (UInt64 ×
 Bool ×
 UInt8 ×
 UInt64 ×
 UInt64 ×
 List UInt8 ×
 List (List UInt8 × List UInt8) ×
 UInt8 × UInt8 × Int64 × UInt8 × UInt8 × UInt64 × UInt64)) ×
 List UInt64 × UInt64))
 (want_2 :
 List
 (UInt64 ×
 Bool ×
 UInt8 ×
 UInt64 ×
 UInt64 ×
 List UInt8 ×
 List (List UInt8 × List UInt8) × UInt8 × UInt8 × Int64 × UInt8 × UInt8 × UInt64 × UInt64))
 (t_4_2 : List UInt64) =>
 oite (decide (t_3_2 < t_2_4))
 (obind (at? got (Int64.toInt t_3_2))
 fun
 (x_7 :
 UInt64 ×
 Bool ×
 UInt8 ×
 UInt64 ×
 UInt64 ×
 List UInt8 ×
 List (List UInt8 × List UInt8) × UInt8 × UInt8 × Int64 × UInt8 × UInt8 × UInt64 × UInt64) =>
 oite (decide ((0 : Int) ≤ Int64.toInt t_3_2) && Nat.blt (Int.toNat (Int64.toInt t_3_2)) (List.length want_2))
 (obind want_2[Int.toNat (Int64.toInt t_3_2)]?
 fun
 (x_8 :
 UInt64 ×
 Bool ×
 UInt8 ×
 UInt64 ×
 UInt64 ×
 List UInt8 ×
 List (List UInt8 × List UInt8) × UInt8 × UInt8 × Int64 × UInt8 × UInt8 × UInt64 × UInt64) =>
 oite (!decide (Prod.fst x_7 = Prod.fst x_8)) (some (false, ()))
 (obind (at? got (Int64.toInt t_3_2))
 fun
 (x_9 :
 UInt64 ×
 Bool ×
 UInt8 ×
 UInt64 ×
 UInt64 ×
 List UInt8 ×
 List (List UInt8 × List UInt8) ×
 UInt8 × UInt8 × Int64 × UInt8 × UInt8 × UInt64 × UInt64) =>
 oite
 (decide ((0 : Int) ≤ Int64.toInt t_3_2) && Nat.blt (Int.toNat (Int64.toInt t_3_2)) (List.length want_2))
 (obind want_2[Int.toNat (Int64.toInt t_3_2)]?
 fun
 (x_10 :
 UInt64 ×
 Bool ×
 UInt8 ×
 UInt64 ×
 UInt64 ×
 List UInt8 ×
 List (List UInt8 × List UInt8) ×
 UInt8 × UInt8 × Int64 × UInt8 × UInt8 × UInt64 × UInt64) =>
 obind
 (F14 n
 ((Prod.fst (Prod.snd x_9), Prod.fst (Prod.snd (Prod.snd x_9)),
 Prod.fst (Prod.snd (Prod.snd (Prod.snd x_9))),
 Prod.fst (Prod.snd (Prod.snd (Prod.snd (Prod.snd x_9)))),
 Prod.fst (Prod.snd (Prod.snd (Prod.snd (Prod.snd (Prod.snd x_9))))),
 Prod.fst (Prod.snd (Prod.snd (Prod.snd (Prod.snd (Prod.snd (Prod.snd x_9)))))),
 Prod.fst (Prod.snd (Prod.snd (Prod.snd (Prod.snd (Prod.snd (Prod.snd (Prod.snd x_9))))))),
 Prod.fst
 (Prod.snd (Prod.snd (Prod.snd (Prod.snd (Prod.snd (Prod.snd (Prod.snd (Prod.snd x_9)))))))),
 Prod.fst
 (Prod.snd
 (Prod.snd
 (Prod.snd (Prod.snd (Prod.snd (Prod.snd (Prod.snd (Prod.snd (Prod.snd x_9))))))))),
 Prod.fst
 (Prod.snd
 (Prod.snd
 (Prod.snd
 (Prod.snd (Prod.snd (Prod.snd (Prod.snd (Prod.snd (Prod.snd (Prod.snd x_9)))))))))),
 Prod.fst
 (Prod.snd
 (Prod.snd
 (Prod.snd
 (Prod.snd
 (Prod.snd
 (Prod.snd (Prod.snd (Prod.snd (Prod.snd (Prod.snd (Prod.snd x_9))))))))))),
 Prod.fst
 (Prod.snd
 (Prod.snd
 (Prod.snd
 (Prod.snd
 (Prod.snd
 (Prod.snd
 (Prod.snd (Prod.snd (Prod.snd (Prod.snd (Prod.snd (Prod.snd x_9)))))))))))),
 Prod.snd
 (Prod.snd
 (Prod.snd
 (Prod.snd
 (Prod.snd
 (Prod.snd
 (Prod.snd
 (Prod.snd (Prod.snd (Prod.snd (Prod.snd (Prod.snd (Prod.snd x_9))))))))))))),
 Prod.fst (Prod.snd x_10), Prod.fst (Prod.snd (Prod.snd x_10)),
 Prod.fst (Prod.snd (Prod.snd (Prod.snd x_10))),
 Prod.fst (Prod.snd (Prod.snd (Prod.snd (Prod.snd x_10)))),
 Prod.fst (Prod.snd (Prod.snd (Prod.snd (Prod.snd (Prod.snd x_10))))),
 Prod.fst (Prod.snd (Prod.snd (Prod.snd (Prod.snd (Prod.snd (Prod.snd x_10)))))),
 Prod.fst (Prod.snd (Prod.snd (Prod.snd (Prod.snd (Prod.snd (Prod.snd (Prod.snd x_10))))))),
 Prod.fst
 (Prod.snd (Prod.snd (Prod.snd (Prod.snd (Prod.snd (Prod.snd (Prod.snd (Prod.snd x_10)))))))),
 Prod.fst
 (Prod.snd
 (Prod.snd
 (Prod.snd (Prod.snd (Prod.snd (Prod.snd (Prod.snd (Prod.snd (Prod.snd x_10))))))))),
 Prod.fst
 (Prod.snd
 (Prod.snd
 (Prod.snd
 (Prod.snd (Prod.snd (Prod.snd (Prod.snd (Prod.snd (Prod.snd (Prod.snd x_10)))))))))),
 Prod.fst
 (Prod.snd
 (Prod.snd
 (Prod.snd
 (Prod.snd
 (Prod.snd (Prod.snd (Prod.snd (Prod.snd (Prod.snd (Prod.snd (Prod.snd x_10))))))))))),
 Prod.fst
 (Prod.snd
 (Prod.snd
 (Prod.snd
 (Prod.snd
 (Prod.snd
 (Prod.snd
 (Prod.snd (Prod.snd (Prod.snd (Prod.snd (Prod.snd (Prod.snd x_10)))))))))))),
 Prod.snd
 (Prod.snd
 (Prod.snd
 (Prod.snd
 (Prod.snd
 (Prod.snd
 (Prod.snd
 (Prod.snd (Prod.snd (Prod.snd (Prod.snd (Prod.snd (Prod.snd x_10))))))))))))))
 fun (x_11 : Bool × Unit) =>
 oite (!Prod.fst x_11) (some (false, ()))
 (rec_3 many_4 all__3 got t_7 t_1_4 t_2_4 (t_3_2 + (1 : Int64)) s_4 want_2 t_4_2))
 none))
 none)
 (rec_1 many_4 all__3 t_7 (t_1_4 + (1 : Int64)) s_4 t_4_2)
noncomputable def F3_R2076159 : Nat →
 Arr
 [PT.int IntKind.i64,
 PT.list
 (CTs.cons (CT.int IntKind.u64)
 (CTs.cons CT.bool
 (CTs.cons (CT.int IntKind.u8)
 (CTs.cons (CT.int IntKind.u64)
 (CTs.cons (CT.int IntKind.u64)
 (CTs.cons CT.str
 (CTs.cons (CT.ro (CTs.cons CT.str (CTs.cons CT.str CTs.nil)))
 (CTs.cons (CT.int IntKind.u8)
 (CTs.cons (CT.int IntKind.u8)
 (CTs.cons (CT.int IntKind.i64)
 (CTs.cons (CT.int IntKind.u8)
 (CTs.cons (CT.int IntKind.u8)
 (CTs.cons (CT.int IntKind.u64) (CTs.cons (CT.int IntKind.u64) CTs.nil)))))))))))))),
 PT.int IntKind.i64, PT.int IntKind.i64,
 PT.optA
 (OTs.cons (OT.c (CT.int IntKind.i64))
 (OTs.cons (OT.c (CT.int IntKind.i64))
 (OTs.cons (OT.c (CT.int IntKind.u64))
 (OTs.cons (OT.c (CT.int IntKind.u64))
 (OTs.cons
 (OT.row
 (CTs.cons (CT.int IntKind.u64)
 (CTs.cons CT.bool
 (CTs.cons (CT.int IntKind.u8)
 (CTs.cons (CT.int IntKind.u64)
 (CTs.cons (CT.int IntKind.u64)
 (CTs.cons CT.str
 (CTs.cons (CT.ro (CTs.cons CT.str (CTs.cons CT.str CTs.nil)))
 (CTs.cons (CT.int IntKind.u8)
 (CTs.cons (CT.int IntKind.u8)
 (CTs.cons (CT.int IntKind.i64)
 (CTs.cons (CT.int IntKind.u8)
 (CTs.cons (CT.int IntKind.u8)
 (CTs.cons (CT.int IntKind.u64)
 (CTs.cons (CT.int IntKind.u64) CTs.nil)))))))))))))))
 OTs.nil)))))
 (CT.int IntKind.u64) (OTs.cons (OT.c (CT.int IntKind.u64)) OTs.nil),
 PT.list (CTs.cons (CT.int IntKind.u64) CTs.nil)]
 (Option (Bool × Unit)) →
 Nat →
 PT.T (PT.int IntKind.i64) →
 List
 (UInt64 ×
 Bool ×
 UInt8 ×
 UInt64 ×
 UInt64 ×
 List UInt8 ×
 List (List UInt8 × List UInt8) × UInt8 × UInt8 × Int64 × UInt8 × UInt8 × UInt64 × UInt64) →
 List
 (UInt64 ×
 Bool ×
 UInt8 ×
 UInt64 ×
 UInt64 ×
 List UInt8 ×
 List (List UInt8 × List UInt8) × UInt8 × UInt8 × Int64 × UInt8 × UInt8 × UInt64 × UInt64) →
 Int64 →
 Int64 →
 Int64 →
 Int64 →
 Option
 ((Int64 ×
 Int64 ×
 UInt64 ×
 UInt64 ×
 List
 (UInt64 ×
 Bool ×
 UInt8 ×
 UInt64 ×
 UInt64 ×
 List UInt8 ×
 List (List UInt8 × List UInt8) ×
 UInt8 × UInt8 × Int64 × UInt8 × UInt8 × UInt64 × UInt64)) ×
 List UInt64 × UInt64) →
 List
 (UInt64 ×
 Bool ×
 UInt8 ×
 UInt64 ×
 UInt64 ×
 List UInt8 ×
 List (List UInt8 × List UInt8) ×
 UInt8 × UInt8 × Int64 × UInt8 × UInt8 × UInt64 × UInt64) →
 List UInt64 → Option (Bool × Unit) := fun (n : Nat)
 (rec_1 :
 Arr
 [PT.int IntKind.i64,
 PT.list
 (CTs.cons (CT.int IntKind.u64)
 (CTs.cons CT.bool
 (CTs.cons (CT.int IntKind.u8)
 (CTs.cons (CT.int IntKind.u64)
 (CTs.cons (CT.int IntKind.u64)
 (CTs.cons CT.str
 (CTs.cons (CT.ro (CTs.cons CT.str (CTs.cons CT.str CTs.nil)))
 (CTs.cons (CT.int IntKind.u8)
 (CTs.cons (CT.int IntKind.u8)
 (CTs.cons (CT.int IntKind.i64)
 (CTs.cons (CT.int IntKind.u8)
 (CTs.cons (CT.int IntKind.u8)
 (CTs.cons (CT.int IntKind.u64) (CTs.cons (CT.int IntKind.u64) CTs.nil)))))))))))))),
 PT.int IntKind.i64, PT.int IntKind.i64,
 PT.optA
 (OTs.cons (OT.c (CT.int IntKind.i64))
 (OTs.cons (OT.c (CT.int IntKind.i64))
 (OTs.cons (OT.c (CT.int IntKind.u64))
 (OTs.cons (OT.c (CT.int IntKind.u64))
 (OTs.cons
 (OT.row
 (CTs.cons (CT.int IntKind.u64)
 (CTs.cons CT.bool
 (CTs.cons (CT.int IntKind.u8)
 (CTs.cons (CT.int IntKind.u64)
 (CTs.cons (CT.int IntKind.u64)
 (CTs.cons CT.str
 (CTs.cons (CT.ro (CTs.cons CT.str (CTs.cons CT.str CTs.nil)))
 (CTs.cons (CT.int IntKind.u8)
 (CTs.cons (CT.int IntKind.u8)
 (CTs.cons (CT.int IntKind.i64)
 (CTs.cons (CT.int IntKind.u8)
 (CTs.cons (CT.int IntKind.u8)
 (CTs.cons (CT.int IntKind.u64)
 (CTs.cons (CT.int IntKind.u64) CTs.nil)))))))))))))))
 OTs.nil)))))
 (CT.int IntKind.u64) (OTs.cons (OT.c (CT.int IntKind.u64)) OTs.nil),
 PT.list (CTs.cons (CT.int IntKind.u64) CTs.nil)]
 (Option (Bool × Unit))) =>
 ofixA (2076159 : Nat)
 [PT.int IntKind.i64,
 PT.list
 (CTs.cons (CT.int IntKind.u64)
 (CTs.cons CT.bool
 (CTs.cons (CT.int IntKind.u8)
 (CTs.cons (CT.int IntKind.u64)
 (CTs.cons (CT.int IntKind.u64)
 (CTs.cons CT.str
 (CTs.cons (CT.ro (CTs.cons CT.str (CTs.cons CT.str CTs.nil)))
 (CTs.cons (CT.int IntKind.u8)
 (CTs.cons (CT.int IntKind.u8)
 (CTs.cons (CT.int IntKind.i64)
 (CTs.cons (CT.int IntKind.u8)
 (CTs.cons (CT.int IntKind.u8)
 (CTs.cons (CT.int IntKind.u64) (CTs.cons (CT.int IntKind.u64) CTs.nil)))))))))))))),
 PT.list
 (CTs.cons (CT.int IntKind.u64)
 (CTs.cons CT.bool
 (CTs.cons (CT.int IntKind.u8)
 (CTs.cons (CT.int IntKind.u64)
 (CTs.cons (CT.int IntKind.u64)
 (CTs.cons CT.str
 (CTs.cons (CT.ro (CTs.cons CT.str (CTs.cons CT.str CTs.nil)))
 (CTs.cons (CT.int IntKind.u8)
 (CTs.cons (CT.int IntKind.u8)
 (CTs.cons (CT.int IntKind.i64)
 (CTs.cons (CT.int IntKind.u8)
 (CTs.cons (CT.int IntKind.u8)
 (CTs.cons (CT.int IntKind.u64) (CTs.cons (CT.int IntKind.u64) CTs.nil)))))))))))))),
 PT.int IntKind.i64, PT.int IntKind.i64, PT.int IntKind.i64, PT.int IntKind.i64,
 PT.optA
 (OTs.cons (OT.c (CT.int IntKind.i64))
 (OTs.cons (OT.c (CT.int IntKind.i64))
 (OTs.cons (OT.c (CT.int IntKind.u64))
 (OTs.cons (OT.c (CT.int IntKind.u64))
 (OTs.cons
 (OT.row
 (CTs.cons (CT.int IntKind.u64)
 (CTs.cons CT.bool
 (CTs.cons (CT.int IntKind.u8)
 (CTs.cons (CT.int IntKind.u64)
 (CTs.cons (CT.int IntKind.u64)
 (CTs.cons CT.str
 (CTs.cons (CT.ro (CTs.cons CT.str (CTs.cons CT.str CTs.nil)))
 (CTs.cons (CT.int IntKind.u8)
 (CTs.cons (CT.int IntKind.u8)
 (CTs.cons (CT.int IntKind.i64)
 (CTs.cons (CT.int IntKind.u8)
 (CTs.cons (CT.int IntKind.u8)
 (CTs.cons (CT.int IntKind.u64)
 (CTs.cons (CT.int IntKind.u64) CTs.nil)))))))))))))))
 OTs.nil)))))
 (CT.int IntKind.u64) (OTs.cons (OT.c (CT.int IntKind.u64)) OTs.nil),
 PT.list
 (CTs.cons (CT.int IntKind.u64)
 (CTs.cons CT.bool
 (CTs.cons (CT.int IntKind.u8)
 (CTs.cons (CT.int IntKind.u64)
 (CTs.cons (CT.int IntKind.u64)
 (CTs.cons CT.str
 (CTs.cons (CT.ro (CTs.cons CT.str (CTs.cons CT.str CTs.nil)))
 (CTs.cons (CT.int IntKind.u8)
 (CTs.cons (CT.int IntKind.u8)
 (CTs.cons (CT.int IntKind.i64)
 (CTs.cons (CT.int IntKind.u8)
 (CTs.cons (CT.int IntKind.u8)
 (CTs.cons (CT.int IntKind.u64) (CTs.cons (CT.int IntKind.u64) CTs.nil)))))))))))))),
 PT.list (CTs.cons (CT.int IntKind.u64) CTs.nil)]
 (F3_L2076159 n rec_1)
noncomputable def F3_J129759 : Nat →
 Arr
 [PT.int IntKind.i64,
 PT.list
 (CTs.cons (CT.int IntKind.u64)
 (CTs.cons CT.bool
 (CTs.cons (CT.int IntKind.u8)
 (CTs.cons (CT.int IntKind.u64)
 (CTs.cons (CT.int IntKind.u64)
 (CTs.cons CT.str
 (CTs.cons (CT.ro (CTs.cons CT.str (CTs.cons CT.str CTs.nil)))
 (CTs.cons (CT.int IntKind.u8)
 (CTs.cons (CT.int IntKind.u8)
 (CTs.cons (CT.int IntKind.i64)
 (CTs.cons (CT.int IntKind.u8)
 (CTs.cons (CT.int IntKind.u8)
 (CTs.cons (CT.int IntKind.u64) (CTs.cons (CT.int IntKind.u64) CTs.nil)))))))))))))),
 PT.int IntKind.i64, PT.int IntKind.i64,
 PT.optA
 (OTs.cons (OT.c (CT.int IntKind.i64))
 (OTs.cons (OT.c (CT.int IntKind.i64))
 (OTs.cons (OT.c (CT.int IntKind.u64))
 (OTs.cons (OT.c (CT.int IntKind.u64))
 (OTs.cons
 (OT.row
 (CTs.cons (CT.int IntKind.u64)
 (CTs.cons CT.bool
 (CTs.cons (CT.int IntKind.u8)
 (CTs.cons (CT.int IntKind.u64)
 (CTs.cons (CT.int IntKind.u64)
 (CTs.cons CT.str
 (CTs.cons (CT.ro (CTs.cons CT.str (CTs.cons CT.str CTs.nil)))
 (CTs.cons (CT.int IntKind.u8)
 (CTs.cons (CT.int IntKind.u8)
 (CTs.cons (CT.int IntKind.i64)
 (CTs.cons (CT.int IntKind.u8)
 (CTs.cons (CT.int IntKind.u8)
 (CTs.cons (CT.int IntKind.u64)
 (CTs.cons (CT.int IntKind.u64) CTs.nil)))))))))))))))
 OTs.nil)))))
 (CT.int IntKind.u64) (OTs.cons (OT.c (CT.int IntKind.u64)) OTs.nil),
 PT.list (CTs.cons (CT.int IntKind.u64) CTs.nil)]
 (Option (Bool × Unit)) →
 Int64 →
 List
 (UInt64 ×
 Bool ×
 UInt8 ×
 UInt64 ×
 UInt64 ×
 List UInt8 ×
 List (List UInt8 × List UInt8) × UInt8 × UInt8 × Int64 × UInt8 × UInt8 × UInt64 × UInt64) →
 UInt64 →
 Int64 →
 Int64 →
 Option
 ((Int64 ×
 Int64 ×
 UInt64 ×
 UInt64 ×
 List
 (UInt64 ×
 Bool ×
 UInt8 ×
 UInt64 ×
 UInt64 ×
 List UInt8 ×
 List (List UInt8 × List UInt8) ×
 UInt8 × UInt8 × Int64 × UInt8 × UInt8 × UInt64 × UInt64)) ×
 List UInt64 × UInt64) →
 List
 (UInt64 ×
 Bool ×
 UInt8 ×
 UInt64 ×
 UInt64 ×
 List UInt8 ×
 List (List UInt8 × List UInt8) ×
 UInt8 × UInt8 × Int64 × UInt8 × UInt8 × UInt64 × UInt64) →
 List UInt64 → Option (Bool × Unit) := fun (n : Nat)
 (rec_1 :
 Arr
 [PT.int IntKind.i64,
 PT.list
 (CTs.cons (CT.int IntKind.u64)
 (CTs.cons CT.bool
 (CTs.cons (CT.int IntKind.u8)
 (CTs.cons (CT.int IntKind.u64)
 (CTs.cons (CT.int IntKind.u64)
 (CTs.cons CT.str
 (CTs.cons (CT.ro (CTs.cons CT.str (CTs.cons CT.str CTs.nil)))
 (CTs.cons (CT.int IntKind.u8)
 (CTs.cons (CT.int IntKind.u8)
 (CTs.cons (CT.int IntKind.i64)
 (CTs.cons (CT.int IntKind.u8)
 (CTs.cons (CT.int IntKind.u8)
 (CTs.cons (CT.int IntKind.u64) (CTs.cons (CT.int IntKind.u64) CTs.nil)))))))))))))),
 PT.int IntKind.i64, PT.int IntKind.i64,
 PT.optA
 (OTs.cons (OT.c (CT.int IntKind.i64))
 (OTs.cons (OT.c (CT.int IntKind.i64))
 (OTs.cons (OT.c (CT.int IntKind.u64))
 (OTs.cons (OT.c (CT.int IntKind.u64))
 (OTs.cons
 (OT.row
 (CTs.cons (CT.int IntKind.u64)
 (CTs.cons CT.bool
 (CTs.cons (CT.int IntKind.u8)
 (CTs.cons (CT.int IntKind.u64)
 (CTs.cons (CT.int IntKind.u64)
 (CTs.cons CT.str
 (CTs.cons (CT.ro (CTs.cons CT.str (CTs.cons CT.str CTs.nil)))
 (CTs.cons (CT.int IntKind.u8)
 (CTs.cons (CT.int IntKind.u8)
 (CTs.cons (CT.int IntKind.i64)
 (CTs.cons (CT.int IntKind.u8)
 (CTs.cons (CT.int IntKind.u8)
 (CTs.cons (CT.int IntKind.u64)
 (CTs.cons (CT.int IntKind.u64) CTs.nil)))))))))))))))
 OTs.nil)))))
 (CT.int IntKind.u64) (OTs.cons (OT.c (CT.int IntKind.u64)) OTs.nil),
 PT.list (CTs.cons (CT.int IntKind.u64) CTs.nil)]
 (Option (Bool × Unit)))
 (many_3 : Int64)
 (all__2 :
 List
 (UInt64 ×
 Bool ×
 UInt8 ×
 UInt64 ×
 UInt64 ×
 List UInt8 ×
 List (List UInt8 × List UInt8) × UInt8 × UInt8 × Int64 × UInt8 × UInt8 × UInt64 × UInt64))
 (n__1 : UInt64) (t_6 t_1_3 : Int64)
 (s_3 :
 Option
 ((Int64 ×
 Int64 ×
 UInt64 ×
 UInt64 ×
 List
 (UInt64 ×
 Bool ×
 UInt8 ×
 UInt64 ×
 UInt64 ×
 List UInt8 ×
 List (List UInt8 × List UInt8) ×
 UInt8 × UInt8 × Int64 × UInt8 × UInt8 × UInt64 × UInt64)) ×
 List UInt64 × UInt64))
 (want_1 :
 List
 (UInt64 ×
 Bool ×
 UInt8 ×
 UInt64 ×
 UInt64 ×
 List UInt8 ×
 List (List UInt8 × List UInt8) × UInt8 × UInt8 × Int64 × UInt8 × UInt8 × UInt64 × UInt64))
 (t_2_3 : List UInt64) =>
 obind (F12 n (s_3, n__1, many_3))
 fun
 (x_6 :
 List
 (UInt64 ×
 Bool ×
 UInt8 ×
 UInt64 ×
 UInt64 ×
 List UInt8 ×
 List (List UInt8 × List UInt8) × UInt8 × UInt8 × Int64 × UInt8 × UInt8 × UInt64 × UInt64) ×
 Option
 ((Int64 ×
 Int64 ×
 UInt64 ×
 UInt64 ×
 List
 (UInt64 ×
 Bool ×
 UInt8 ×
 UInt64 ×
 UInt64 ×
 List UInt8 ×
 List (List UInt8 × List UInt8) ×
 UInt8 × UInt8 × Int64 × UInt8 × UInt8 × UInt64 × UInt64)) ×
 List UInt64 × UInt64)) =>
 oite (!decide (Int64.ofInt ↑(List.length (Prod.fst x_6)) = Int64.ofInt ↑(List.length want_1)))
 (some (false, ()))
 (F3_R2076159 n rec_1 n many_3 all__2 (Prod.fst x_6) t_6 t_1_3 (Int64.ofInt ↑(List.length want_1)) (0 : Int64)
 (Prod.snd x_6) want_1 t_2_3)
noncomputable def F3_L129757 : Nat →
 Arr
 [PT.int IntKind.i64,
 PT.list
 (CTs.cons (CT.int IntKind.u64)
 (CTs.cons CT.bool
 (CTs.cons (CT.int IntKind.u8)
 (CTs.cons (CT.int IntKind.u64)
 (CTs.cons (CT.int IntKind.u64)
 (CTs.cons CT.str
 (CTs.cons (CT.ro (CTs.cons CT.str (CTs.cons CT.str CTs.nil)))
 (CTs.cons (CT.int IntKind.u8)
 (CTs.cons (CT.int IntKind.u8)
 (CTs.cons (CT.int IntKind.i64)
 (CTs.cons (CT.int IntKind.u8)
 (CTs.cons (CT.int IntKind.u8)
 (CTs.cons (CT.int IntKind.u64) (CTs.cons (CT.int IntKind.u64) CTs.nil)))))))))))))),
 PT.int IntKind.i64, PT.int IntKind.i64,
 PT.optA
 (OTs.cons (OT.c (CT.int IntKind.i64))
 (OTs.cons (OT.c (CT.int IntKind.i64))
 (OTs.cons (OT.c (CT.int IntKind.u64))
 (OTs.cons (OT.c (CT.int IntKind.u64))
 (OTs.cons
 (OT.row
 (CTs.cons (CT.int IntKind.u64)
 (CTs.cons CT.bool
 (CTs.cons (CT.int IntKind.u8)
 (CTs.cons (CT.int IntKind.u64)
 (CTs.cons (CT.int IntKind.u64)
 (CTs.cons CT.str
 (CTs.cons (CT.ro (CTs.cons CT.str (CTs.cons CT.str CTs.nil)))
 (CTs.cons (CT.int IntKind.u8)
 (CTs.cons (CT.int IntKind.u8)
 (CTs.cons (CT.int IntKind.i64)
 (CTs.cons (CT.int IntKind.u8)
 (CTs.cons (CT.int IntKind.u8)
 (CTs.cons (CT.int IntKind.u64)
 (CTs.cons (CT.int IntKind.u64) CTs.nil)))))))))))))))
 OTs.nil)))))
 (CT.int IntKind.u64) (OTs.cons (OT.c (CT.int IntKind.u64)) OTs.nil),
 PT.list (CTs.cons (CT.int IntKind.u64) CTs.nil)]
 (Option (Bool × Unit)) →
 Arr
 [PT.int IntKind.i64,
 PT.list
 (CTs.cons (CT.int IntKind.u64)
 (CTs.cons CT.bool
 (CTs.cons (CT.int IntKind.u8)
 (CTs.cons (CT.int IntKind.u64)
 (CTs.cons (CT.int IntKind.u64)
 (CTs.cons CT.str
 (CTs.cons (CT.ro (CTs.cons CT.str (CTs.cons CT.str CTs.nil)))
 (CTs.cons (CT.int IntKind.u8)
 (CTs.cons (CT.int IntKind.u8)
 (CTs.cons (CT.int IntKind.i64)
 (CTs.cons (CT.int IntKind.u8)
 (CTs.cons (CT.int IntKind.u8)
 (CTs.cons (CT.int IntKind.u64) (CTs.cons (CT.int IntKind.u64) CTs.nil)))))))))))))),
 PT.int IntKind.u64, PT.int IntKind.i64, PT.int IntKind.i64, PT.int IntKind.i64,
 PT.list
 (CTs.cons (CT.int IntKind.u64)
 (CTs.cons CT.bool
 (CTs.cons (CT.int IntKind.u8)
 (CTs.cons (CT.int IntKind.u64)
 (CTs.cons (CT.int IntKind.u64)
 (CTs.cons CT.str
 (CTs.cons (CT.ro (CTs.cons CT.str (CTs.cons CT.str CTs.nil)))
 (CTs.cons (CT.int IntKind.u8)
 (CTs.cons (CT.int IntKind.u8)
 (CTs.cons (CT.int IntKind.i64)
 (CTs.cons (CT.int IntKind.u8)
 (CTs.cons (CT.int IntKind.u8)
 (CTs.cons (CT.int IntKind.u64) (CTs.cons (CT.int IntKind.u64) CTs.nil)))))))))))))),
 PT.int IntKind.i64, PT.int IntKind.i64,
 PT.optA
 (OTs.cons (OT.c (CT.int IntKind.i64))
 (OTs.cons (OT.c (CT.int IntKind.i64))
 (OTs.cons (OT.c (CT.int IntKind.u64))
 (OTs.cons (OT.c (CT.int IntKind.u64))
 (OTs.cons
 (OT.row
 (CTs.cons (CT.int IntKind.u64)
 (CTs.cons CT.bool
 (CTs.cons (CT.int IntKind.u8)
 (CTs.cons (CT.int IntKind.u64)
 (CTs.cons (CT.int IntKind.u64)
 (CTs.cons CT.str
 (CTs.cons (CT.ro (CTs.cons CT.str (CTs.cons CT.str CTs.nil)))
 (CTs.cons (CT.int IntKind.u8)
 (CTs.cons (CT.int IntKind.u8)
 (CTs.cons (CT.int IntKind.i64)
 (CTs.cons (CT.int IntKind.u8)
 (CTs.cons (CT.int IntKind.u8)
 (CTs.cons (CT.int IntKind.u64)
 (CTs.cons (CT.int IntKind.u64) CTs.nil)))))))))))))))
 OTs.nil)))))
 (CT.int IntKind.u64) (OTs.cons (OT.c (CT.int IntKind.u64)) OTs.nil),
 PT.list
 (CTs.cons (CT.int IntKind.u64)
 (CTs.cons CT.bool
 (CTs.cons (CT.int IntKind.u8)
 (CTs.cons (CT.int IntKind.u64)
 (CTs.cons (CT.int IntKind.u64)
 (CTs.cons CT.str
 (CTs.cons (CT.ro (CTs.cons CT.str (CTs.cons CT.str CTs.nil)))
 (CTs.cons (CT.int IntKind.u8)
 (CTs.cons (CT.int IntKind.u8)
 (CTs.cons (CT.int IntKind.i64)
 (CTs.cons (CT.int IntKind.u8)
 (CTs.cons (CT.int IntKind.u8)
 (CTs.cons (CT.int IntKind.u64) (CTs.cons (CT.int IntKind.u64) CTs.nil)))))))))))))),
 PT.list (CTs.cons (CT.int IntKind.u64) CTs.nil)]
 (Option (Bool × Unit)) →
 Int64 →
 List
 (UInt64 ×
 Bool ×
 UInt8 ×
 UInt64 ×
 UInt64 ×
 List UInt8 ×
 List (List UInt8 × List UInt8) × UInt8 × UInt8 × Int64 × UInt8 × UInt8 × UInt64 × UInt64) →
 UInt64 →
 Int64 →
 Int64 →
 Int64 →
 List
 (UInt64 ×
 Bool ×
 UInt8 ×
 UInt64 ×
 UInt64 ×
 List UInt8 ×
 List (List UInt8 × List UInt8) ×
 UInt8 × UInt8 × Int64 × UInt8 × UInt8 × UInt64 × UInt64) →
 Int64 →
 Int64 →
 Option
 ((Int64 ×
 Int64 ×
 UInt64 ×
 UInt64 ×
 List
 (UInt64 ×
 Bool ×
 UInt8 ×
 UInt64 ×
 UInt64 ×
 List UInt8 ×
 List (List UInt8 × List UInt8) ×
 UInt8 × UInt8 × Int64 × UInt8 × UInt8 × UInt64 × UInt64)) ×
 List UInt64 × UInt64) →
 List
 (UInt64 ×
 Bool ×
 UInt8 ×
 UInt64 ×
 UInt64 ×
 List UInt8 ×
 List (List UInt8 × List UInt8) ×
 UInt8 × UInt8 × Int64 × UInt8 × UInt8 × UInt64 × UInt64) →
 List UInt64 → Option (Bool × Unit) := fun (n : Nat)
 (rec_1 :
 Arr
 [PT.int IntKind.i64,
 PT.list
 (CTs.cons (CT.int IntKind.u64)
 (CTs.cons CT.bool
 (CTs.cons (CT.int IntKind.u8)
 (CTs.cons (CT.int IntKind.u64)
 (CTs.cons (CT.int IntKind.u64)
 (CTs.cons CT.str
 (CTs.cons (CT.ro (CTs.cons CT.str (CTs.cons CT.str CTs.nil)))
 (CTs.cons (CT.int IntKind.u8)
 (CTs.cons (CT.int IntKind.u8)
 (CTs.cons (CT.int IntKind.i64)
 (CTs.cons (CT.int IntKind.u8)
 (CTs.cons (CT.int IntKind.u8)
 (CTs.cons (CT.int IntKind.u64) (CTs.cons (CT.int IntKind.u64) CTs.nil)))))))))))))),
 PT.int IntKind.i64, PT.int IntKind.i64,
 PT.optA
 (OTs.cons (OT.c (CT.int IntKind.i64))
 (OTs.cons (OT.c (CT.int IntKind.i64))
 (OTs.cons (OT.c (CT.int IntKind.u64))
 (OTs.cons (OT.c (CT.int IntKind.u64))
 (OTs.cons
 (OT.row
 (CTs.cons (CT.int IntKind.u64)
 (CTs.cons CT.bool
 (CTs.cons (CT.int IntKind.u8)
 (CTs.cons (CT.int IntKind.u64)
 (CTs.cons (CT.int IntKind.u64)
 (CTs.cons CT.str
 (CTs.cons (CT.ro (CTs.cons CT.str (CTs.cons CT.str CTs.nil)))
 (CTs.cons (CT.int IntKind.u8)
 (CTs.cons (CT.int IntKind.u8)
 (CTs.cons (CT.int IntKind.i64)
 (CTs.cons (CT.int IntKind.u8)
 (CTs.cons (CT.int IntKind.u8)
 (CTs.cons (CT.int IntKind.u64)
 (CTs.cons (CT.int IntKind.u64) CTs.nil)))))))))))))))
 OTs.nil)))))
 (CT.int IntKind.u64) (OTs.cons (OT.c (CT.int IntKind.u64)) OTs.nil),
 PT.list (CTs.cons (CT.int IntKind.u64) CTs.nil)]
 (Option (Bool × Unit)))
 (rec_2 :
 Arr
 [PT.int IntKind.i64,
 PT.list
 (CTs.cons (CT.int IntKind.u64)
 (CTs.cons CT.bool
 (CTs.cons (CT.int IntKind.u8)
 (CTs.cons (CT.int IntKind.u64)
 (CTs.cons (CT.int IntKind.u64)
 (CTs.cons CT.str
 (CTs.cons (CT.ro (CTs.cons CT.str (CTs.cons CT.str CTs.nil)))
 (CTs.cons (CT.int IntKind.u8)
 (CTs.cons (CT.int IntKind.u8)
 (CTs.cons (CT.int IntKind.i64)
 (CTs.cons (CT.int IntKind.u8)
 (CTs.cons (CT.int IntKind.u8)
 (CTs.cons (CT.int IntKind.u64) (CTs.cons (CT.int IntKind.u64) CTs.nil)))))))))))))),
 PT.int IntKind.u64, PT.int IntKind.i64, PT.int IntKind.i64, PT.int IntKind.i64,
 PT.list
 (CTs.cons (CT.int IntKind.u64)
 (CTs.cons CT.bool
 (CTs.cons (CT.int IntKind.u8)
 (CTs.cons (CT.int IntKind.u64)
 (CTs.cons (CT.int IntKind.u64)
 (CTs.cons CT.str
 (CTs.cons (CT.ro (CTs.cons CT.str (CTs.cons CT.str CTs.nil)))
 (CTs.cons (CT.int IntKind.u8)
 (CTs.cons (CT.int IntKind.u8)
 (CTs.cons (CT.int IntKind.i64)
 (CTs.cons (CT.int IntKind.u8)
 (CTs.cons (CT.int IntKind.u8)
 (CTs.cons (CT.int IntKind.u64) (CTs.cons (CT.int IntKind.u64) CTs.nil)))))))))))))),
 PT.int IntKind.i64, PT.int IntKind.i64,
 PT.optA
 (OTs.cons (OT.c (CT.int IntKind.i64))
 (OTs.cons (OT.c (CT.int IntKind.i64))
 (OTs.cons (OT.c (CT.int IntKind.u64))
 (OTs.cons (OT.c (CT.int IntKind.u64))
 (OTs.cons
 (OT.row
 (CTs.cons (CT.int IntKind.u64)
 (CTs.cons CT.bool
 (CTs.cons (CT.int IntKind.u8)
 (CTs.cons (CT.int IntKind.u64)
 (CTs.cons (CT.int IntKind.u64)
 (CTs.cons CT.str
 (CTs.cons (CT.ro (CTs.cons CT.str (CTs.cons CT.str CTs.nil)))
 (CTs.cons (CT.int IntKind.u8)
 (CTs.cons (CT.int IntKind.u8)
 (CTs.cons (CT.int IntKind.i64)
 (CTs.cons (CT.int IntKind.u8)
 (CTs.cons (CT.int IntKind.u8)
 (CTs.cons (CT.int IntKind.u64)
 (CTs.cons (CT.int IntKind.u64) CTs.nil)))))))))))))))
 OTs.nil)))))
 (CT.int IntKind.u64) (OTs.cons (OT.c (CT.int IntKind.u64)) OTs.nil),
 PT.list
 (CTs.cons (CT.int IntKind.u64)
 (CTs.cons CT.bool
 (CTs.cons (CT.int IntKind.u8)
 (CTs.cons (CT.int IntKind.u64)
 (CTs.cons (CT.int IntKind.u64)
 (CTs.cons CT.str
 (CTs.cons (CT.ro (CTs.cons CT.str (CTs.cons CT.str CTs.nil)))
 (CTs.cons (CT.int IntKind.u8)
 (CTs.cons (CT.int IntKind.u8)
 (CTs.cons (CT.int IntKind.i64)
 (CTs.cons (CT.int IntKind.u8)
 (CTs.cons (CT.int IntKind.u8)
 (CTs.cons (CT.int IntKind.u64) (CTs.cons (CT.int IntKind.u64) CTs.nil)))))))))))))),
 PT.list (CTs.cons (CT.int IntKind.u64) CTs.nil)]
 (Option (Bool × Unit)))
 (many_2 : Int64)
 (all__1 :
 List
 (UInt64 ×
 Bool ×
 UInt8 ×
 UInt64 ×
 UInt64 ×
 List UInt8 ×
 List (List UInt8 × List UInt8) × UInt8 × UInt8 × Int64 × UInt8 × UInt8 × UInt64 × UInt64))
 (n_ : UInt64) (best t_4 t_1_2 : Int64)
 (t_2_2 :
 List
 (UInt64 ×
 Bool ×
 UInt8 ×
 UInt64 ×
 UInt64 ×
 List UInt8 ×
 List (List UInt8 × List UInt8) × UInt8 × UInt8 × Int64 × UInt8 × UInt8 × UInt64 × UInt64))
 (t_3_1 t_4_1 : Int64)
 (s_2 :
 Option
 ((Int64 ×
 Int64 ×
 UInt64 ×
 UInt64 ×
 List
 (UInt64 ×
 Bool ×
 UInt8 ×
 UInt64 ×
 UInt64 ×
 List UInt8 ×
 List (List UInt8 × List UInt8) ×
 UInt8 × UInt8 × Int64 × UInt8 × UInt8 × UInt64 × UInt64)) ×
 List UInt64 × UInt64))
 (want :
 List
 (UInt64 ×
 Bool ×
 UInt8 ×
 UInt64 ×
 UInt64 ×
 List UInt8 ×
 List (List UInt8 × List UInt8) × UInt8 × UInt8 × Int64 × UInt8 × UInt8 × UInt64 × UInt64))
 (t_5 : List UInt64) =>
 oite (decide (t_4_1 < t_3_1))
 (obind (at? t_2_2 (Int64.toInt t_4_1))
 fun
 (x_5 :
 UInt64 ×
 Bool ×
 UInt8 ×
 UInt64 ×
 UInt64 ×
 List UInt8 ×
 List (List UInt8 × List UInt8) × UInt8 × UInt8 × Int64 × UInt8 × UInt8 × UInt64 × UInt64) =>
 oite (decide (Prod.fst x_5 ≤ n_))
 (rec_2 many_2 all__1 n_ t_4_1 t_4 t_1_2 t_2_2 t_3_1 (t_4_1 + (1 : Int64)) s_2 want t_5)
 (oite (decide (Int64.ofInt ↑(List.length want) < many_2))
 (oite
 (Nat.ble
 (List.length want +
 List.length
 [(Prod.fst x_5, Prod.fst (Prod.snd x_5), Prod.fst (Prod.snd (Prod.snd x_5)),
 Prod.fst (Prod.snd (Prod.snd (Prod.snd x_5))),
 Prod.fst (Prod.snd (Prod.snd (Prod.snd (Prod.snd x_5)))),
 Prod.fst (Prod.snd (Prod.snd (Prod.snd (Prod.snd (Prod.snd x_5))))),
 Prod.fst (Prod.snd (Prod.snd (Prod.snd (Prod.snd (Prod.snd (Prod.snd x_5)))))),
 Prod.fst (Prod.snd (Prod.snd (Prod.snd (Prod.snd (Prod.snd (Prod.snd (Prod.snd x_5))))))),
 Prod.fst
 (Prod.snd (Prod.snd (Prod.snd (Prod.snd (Prod.snd (Prod.snd (Prod.snd (Prod.snd x_5)))))))),
 Prod.fst
 (Prod.snd
 (Prod.snd (Prod.snd (Prod.snd (Prod.snd (Prod.snd (Prod.snd (Prod.snd (Prod.snd x_5))))))))),
 Prod.fst
 (Prod.snd
 (Prod.snd
 (Prod.snd
 (Prod.snd (Prod.snd (Prod.snd (Prod.snd (Prod.snd (Prod.snd (Prod.snd x_5)))))))))),
 Prod.fst
 (Prod.snd
 (Prod.snd
 (Prod.snd
 (Prod.snd
 (Prod.snd (Prod.snd (Prod.snd (Prod.snd (Prod.snd (Prod.snd (Prod.snd x_5))))))))))),
 Prod.fst
 (Prod.snd
 (Prod.snd
 (Prod.snd
 (Prod.snd
 (Prod.snd
 (Prod.snd (Prod.snd (Prod.snd (Prod.snd (Prod.snd (Prod.snd (Prod.snd x_5)))))))))))),
 Prod.snd
 (Prod.snd
 (Prod.snd
 (Prod.snd
 (Prod.snd
 (Prod.snd
 (Prod.snd
 (Prod.snd (Prod.snd (Prod.snd (Prod.snd (Prod.snd (Prod.snd x_5)))))))))))))])
 (4294967296 : Nat))
 (rec_2 many_2 all__1 n_ best t_4 t_1_2 t_2_2 t_3_1 (t_4_1 + (1 : Int64)) s_2
 (want ++
 [(Prod.fst x_5, Prod.fst (Prod.snd x_5), Prod.fst (Prod.snd (Prod.snd x_5)),
 Prod.fst (Prod.snd (Prod.snd (Prod.snd x_5))),
 Prod.fst (Prod.snd (Prod.snd (Prod.snd (Prod.snd x_5)))),
 Prod.fst (Prod.snd (Prod.snd (Prod.snd (Prod.snd (Prod.snd x_5))))),
 Prod.fst (Prod.snd (Prod.snd (Prod.snd (Prod.snd (Prod.snd (Prod.snd x_5)))))),
 Prod.fst (Prod.snd (Prod.snd (Prod.snd (Prod.snd (Prod.snd (Prod.snd (Prod.snd x_5))))))),
 Prod.fst
 (Prod.snd (Prod.snd (Prod.snd (Prod.snd (Prod.snd (Prod.snd (Prod.snd (Prod.snd x_5)))))))),
 Prod.fst
 (Prod.snd
 (Prod.snd (Prod.snd (Prod.snd (Prod.snd (Prod.snd (Prod.snd (Prod.snd (Prod.snd x_5))))))))),
 Prod.fst
 (Prod.snd
 (Prod.snd
 (Prod.snd (Prod.snd (Prod.snd (Prod.snd (Prod.snd (Prod.snd (Prod.snd (Prod.snd x_5)))))))))),
 Prod.fst
 (Prod.snd
 (Prod.snd
 (Prod.snd
 (Prod.snd
 (Prod.snd (Prod.snd (Prod.snd (Prod.snd (Prod.snd (Prod.snd (Prod.snd x_5))))))))))),
 Prod.fst
 (Prod.snd
 (Prod.snd
 (Prod.snd
 (Prod.snd
 (Prod.snd
 (Prod.snd (Prod.snd (Prod.snd (Prod.snd (Prod.snd (Prod.snd (Prod.snd x_5)))))))))))),
 Prod.snd
 (Prod.snd
 (Prod.snd
 (Prod.snd
 (Prod.snd
 (Prod.snd
 (Prod.snd (Prod.snd (Prod.snd (Prod.snd (Prod.snd (Prod.snd (Prod.snd x_5)))))))))))))])
 t_5)
 none)
 (rec_2 many_2 all__1 n_ best t_4 t_1_2 t_2_2 t_3_1 (t_4_1 + (1 : Int64)) s_2 want t_5)))
 (obind (F13 n (s_2, n_))
 fun
 (x_5 :
 ((UInt64 ×
 Bool ×
 UInt8 ×
 UInt64 ×
 UInt64 ×
 List UInt8 ×
 List (List UInt8 × List UInt8) × UInt8 × UInt8 × Int64 × UInt8 × UInt8 × UInt64 × UInt64) ×
 Bool) ×
 Option
 ((Int64 ×
 Int64 ×
 UInt64 ×
 UInt64 ×
 List
 (UInt64 ×
 Bool ×
 UInt8 ×
 UInt64 ×
 UInt64 ×
 List UInt8 ×
 List (List UInt8 × List UInt8) ×
 UInt8 × UInt8 × Int64 × UInt8 × UInt8 × UInt64 × UInt64)) ×
 List UInt64 × UInt64)) =>
 ojoinA (129759 : Nat)
 [PT.int IntKind.i64,
 PT.list
 (CTs.cons (CT.int IntKind.u64)
 (CTs.cons CT.bool
 (CTs.cons (CT.int IntKind.u8)
 (CTs.cons (CT.int IntKind.u64)
 (CTs.cons (CT.int IntKind.u64)
 (CTs.cons CT.str
 (CTs.cons (CT.ro (CTs.cons CT.str (CTs.cons CT.str CTs.nil)))
 (CTs.cons (CT.int IntKind.u8)
 (CTs.cons (CT.int IntKind.u8)
 (CTs.cons (CT.int IntKind.i64)
 (CTs.cons (CT.int IntKind.u8)
 (CTs.cons (CT.int IntKind.u8)
 (CTs.cons (CT.int IntKind.u64) (CTs.cons (CT.int IntKind.u64) CTs.nil)))))))))))))),
 PT.int IntKind.u64, PT.int IntKind.i64, PT.int IntKind.i64,
 PT.optA
 (OTs.cons (OT.c (CT.int IntKind.i64))
 (OTs.cons (OT.c (CT.int IntKind.i64))
 (OTs.cons (OT.c (CT.int IntKind.u64))
 (OTs.cons (OT.c (CT.int IntKind.u64))
 (OTs.cons
 (OT.row
 (CTs.cons (CT.int IntKind.u64)
 (CTs.cons CT.bool
 (CTs.cons (CT.int IntKind.u8)
 (CTs.cons (CT.int IntKind.u64)
 (CTs.cons (CT.int IntKind.u64)
 (CTs.cons CT.str
 (CTs.cons (CT.ro (CTs.cons CT.str (CTs.cons CT.str CTs.nil)))
 (CTs.cons (CT.int IntKind.u8)
 (CTs.cons (CT.int IntKind.u8)
 (CTs.cons (CT.int IntKind.i64)
 (CTs.cons (CT.int IntKind.u8)
 (CTs.cons (CT.int IntKind.u8)
 (CTs.cons (CT.int IntKind.u64)
 (CTs.cons (CT.int IntKind.u64) CTs.nil)))))))))))))))
 OTs.nil)))))
 (CT.int IntKind.u64) (OTs.cons (OT.c (CT.int IntKind.u64)) OTs.nil),
 PT.list
 (CTs.cons (CT.int IntKind.u64)
 (CTs.cons CT.bool
 (CTs.cons (CT.int IntKind.u8)
 (CTs.cons (CT.int IntKind.u64)
 (CTs.cons (CT.int IntKind.u64)
 (CTs.cons CT.str
 (CTs.cons (CT.ro (CTs.cons CT.str (CTs.cons CT.str CTs.nil)))
 (CTs.cons (CT.int IntKind.u8)
 (CTs.cons (CT.int IntKind.u8)
 (CTs.cons (CT.int IntKind.i64)
 (CTs.cons (CT.int IntKind.u8)
 (CTs.cons (CT.int IntKind.u8)
 (CTs.cons (CT.int IntKind.u64) (CTs.cons (CT.int IntKind.u64) CTs.nil)))))))))))))),
 PT.list (CTs.cons (CT.int IntKind.u64) CTs.nil)]
 (fun
 (J :
 Arr
 [PT.int IntKind.i64,
 PT.list
 (CTs.cons (CT.int IntKind.u64)
 (CTs.cons CT.bool
 (CTs.cons (CT.int IntKind.u8)
 (CTs.cons (CT.int IntKind.u64)
 (CTs.cons (CT.int IntKind.u64)
 (CTs.cons CT.str
 (CTs.cons (CT.ro (CTs.cons CT.str (CTs.cons CT.str CTs.nil)))
 (CTs.cons (CT.int IntKind.u8)
 (CTs.cons (CT.int IntKind.u8)
 (CTs.cons (CT.int IntKind.i64)
 (CTs.cons (CT.int IntKind.u8)
 (CTs.cons (CT.int IntKind.u8)
 (CTs.cons (CT.int IntKind.u64)
 (CTs.cons (CT.int IntKind.u64) CTs.nil)))))))))))))),
 PT.int IntKind.u64, PT.int IntKind.i64, PT.int IntKind.i64,
 PT.optA
 (OTs.cons (OT.c (CT.int IntKind.i64))
 (OTs.cons (OT.c (CT.int IntKind.i64))
 (OTs.cons (OT.c (CT.int IntKind.u64))
 (OTs.cons (OT.c (CT.int IntKind.u64))
 (OTs.cons
 (OT.row
 (CTs.cons (CT.int IntKind.u64)
 (CTs.cons CT.bool
 (CTs.cons (CT.int IntKind.u8)
 (CTs.cons (CT.int IntKind.u64)
 (CTs.cons (CT.int IntKind.u64)
 (CTs.cons CT.str
 (CTs.cons (CT.ro (CTs.cons CT.str (CTs.cons CT.str CTs.nil)))
 (CTs.cons (CT.int IntKind.u8)
 (CTs.cons (CT.int IntKind.u8)
 (CTs.cons (CT.int IntKind.i64)
 (CTs.cons (CT.int IntKind.u8)
 (CTs.cons (CT.int IntKind.u8)
 (CTs.cons (CT.int IntKind.u64)
 (CTs.cons (CT.int IntKind.u64) CTs.nil)))))))))))))))
 OTs.nil)))))
 (CT.int IntKind.u64) (OTs.cons (OT.c (CT.int IntKind.u64)) OTs.nil),
 PT.list
 (CTs.cons (CT.int IntKind.u64)
 (CTs.cons CT.bool
 (CTs.cons (CT.int IntKind.u8)
 (CTs.cons (CT.int IntKind.u64)
 (CTs.cons (CT.int IntKind.u64)
 (CTs.cons CT.str
 (CTs.cons (CT.ro (CTs.cons CT.str (CTs.cons CT.str CTs.nil)))
 (CTs.cons (CT.int IntKind.u8)
 (CTs.cons (CT.int IntKind.u8)
 (CTs.cons (CT.int IntKind.i64)
 (CTs.cons (CT.int IntKind.u8)
 (CTs.cons (CT.int IntKind.u8)
 (CTs.cons (CT.int IntKind.u64)
 (CTs.cons (CT.int IntKind.u64) CTs.nil)))))))))))))),
 PT.list (CTs.cons (CT.int IntKind.u64) CTs.nil)]
 (Option (Bool × Unit))) =>
 oite (!Prod.snd (Prod.fst x_5) == decide ((0 : Int64) ≤ best)) (some (false, ()))
 (oite (Prod.snd (Prod.fst x_5))
 (obind (at? all__1 (Int64.toInt best))
 fun
 (x_6 :
 UInt64 ×
 Bool ×
 UInt8 ×
 UInt64 ×
 UInt64 ×
 List UInt8 ×
 List (List UInt8 × List UInt8) ×
 UInt8 × UInt8 × Int64 × UInt8 × UInt8 × UInt64 × UInt64) =>
 oite (!decide (Prod.fst (Prod.fst (Prod.fst x_5)) = Prod.fst x_6)) (some (false, ()))
 (obind (at? all__1 (Int64.toInt best))
 fun
 (x_7 :
 UInt64 ×
 Bool ×
 UInt8 ×
 UInt64 ×
 UInt64 ×
 List UInt8 ×
 List (List UInt8 × List UInt8) ×
 UInt8 × UInt8 × Int64 × UInt8 × UInt8 × UInt64 × UInt64) =>
 obind
 (F14 n
 ((Prod.fst (Prod.snd (Prod.fst (Prod.fst x_5))),
 Prod.fst (Prod.snd (Prod.snd (Prod.fst (Prod.fst x_5)))),
 Prod.fst (Prod.snd (Prod.snd (Prod.snd (Prod.fst (Prod.fst x_5))))),
 Prod.fst (Prod.snd (Prod.snd (Prod.snd (Prod.snd (Prod.fst (Prod.fst x_5)))))),
 Prod.fst (Prod.snd (Prod.snd (Prod.snd (Prod.snd (Prod.snd (Prod.fst (Prod.fst x_5))))))),
 Prod.fst
 (Prod.snd
 (Prod.snd (Prod.snd (Prod.snd (Prod.snd (Prod.snd (Prod.fst (Prod.fst x_5)))))))),
 Prod.fst
 (Prod.snd
 (Prod.snd
 (Prod.snd (Prod.snd (Prod.snd (Prod.snd (Prod.snd (Prod.fst (Prod.fst x_5))))))))),
 Prod.fst
 (Prod.snd
 (Prod.snd
 (Prod.snd
 (Prod.snd (Prod.snd (Prod.snd (Prod.snd (Prod.snd (Prod.fst (Prod.fst x_5)))))))))),
 Prod.fst
 (Prod.snd
 (Prod.snd
 (Prod.snd
 (Prod.snd
 (Prod.snd
 (Prod.snd (Prod.snd (Prod.snd (Prod.snd (Prod.fst (Prod.fst x_5))))))))))),
 Prod.fst
 (Prod.snd
 (Prod.snd
 (Prod.snd
 (Prod.snd
 (Prod.snd
 (Prod.snd
 (Prod.snd (Prod.snd (Prod.snd (Prod.snd (Prod.fst (Prod.fst x_5)))))))))))),
 Prod.fst
 (Prod.snd
 (Prod.snd
 (Prod.snd
 (Prod.snd
 (Prod.snd
 (Prod.snd
 (Prod.snd
 (Prod.snd
 (Prod.snd (Prod.snd (Prod.snd (Prod.fst (Prod.fst x_5))))))))))))),
 Prod.fst
 (Prod.snd
 (Prod.snd
 (Prod.snd
 (Prod.snd
 (Prod.snd
 (Prod.snd
 (Prod.snd
 (Prod.snd
 (Prod.snd
 (Prod.snd (Prod.snd (Prod.snd (Prod.fst (Prod.fst x_5)))))))))))))),
 Prod.snd
 (Prod.snd
 (Prod.snd
 (Prod.snd
 (Prod.snd
 (Prod.snd
 (Prod.snd
 (Prod.snd
 (Prod.snd
 (Prod.snd
 (Prod.snd (Prod.snd (Prod.snd (Prod.fst (Prod.fst x_5))))))))))))))),
 Prod.fst (Prod.snd x_7), Prod.fst (Prod.snd (Prod.snd x_7)),
 Prod.fst (Prod.snd (Prod.snd (Prod.snd x_7))),
 Prod.fst (Prod.snd (Prod.snd (Prod.snd (Prod.snd x_7)))),
 Prod.fst (Prod.snd (Prod.snd (Prod.snd (Prod.snd (Prod.snd x_7))))),
 Prod.fst (Prod.snd (Prod.snd (Prod.snd (Prod.snd (Prod.snd (Prod.snd x_7)))))),
 Prod.fst (Prod.snd (Prod.snd (Prod.snd (Prod.snd (Prod.snd (Prod.snd (Prod.snd x_7))))))),
 Prod.fst
 (Prod.snd (Prod.snd (Prod.snd (Prod.snd (Prod.snd (Prod.snd (Prod.snd (Prod.snd x_7)))))))),
 Prod.fst
 (Prod.snd
 (Prod.snd
 (Prod.snd (Prod.snd (Prod.snd (Prod.snd (Prod.snd (Prod.snd (Prod.snd x_7))))))))),
 Prod.fst
 (Prod.snd
 (Prod.snd
 (Prod.snd
 (Prod.snd (Prod.snd (Prod.snd (Prod.snd (Prod.snd (Prod.snd (Prod.snd x_7)))))))))),
 Prod.fst
 (Prod.snd
 (Prod.snd
 (Prod.snd
 (Prod.snd
 (Prod.snd
 (Prod.snd (Prod.snd (Prod.snd (Prod.snd (Prod.snd (Prod.snd x_7))))))))))),
 Prod.fst
 (Prod.snd
 (Prod.snd
 (Prod.snd
 (Prod.snd
 (Prod.snd
 (Prod.snd
 (Prod.snd (Prod.snd (Prod.snd (Prod.snd (Prod.snd (Prod.snd x_7)))))))))))),
 Prod.snd
 (Prod.snd
 (Prod.snd
 (Prod.snd
 (Prod.snd
 (Prod.snd
 (Prod.snd
 (Prod.snd (Prod.snd (Prod.snd (Prod.snd (Prod.snd (Prod.snd x_7))))))))))))))
 fun (x_8 : Bool × Unit) =>
 oite (!Prod.fst x_8) (some (false, ()))
 (J many_2 all__1 n_ t_4 t_1_2 (Prod.snd x_5) want t_5)))
 (J many_2 all__1 n_ t_4 t_1_2 (Prod.snd x_5) want t_5)))
 (F3_J129759 n rec_1))
noncomputable def F3_R129757 : Nat →
 Arr
 [PT.int IntKind.i64,
 PT.list
 (CTs.cons (CT.int IntKind.u64)
 (CTs.cons CT.bool
 (CTs.cons (CT.int IntKind.u8)
 (CTs.cons (CT.int IntKind.u64)
 (CTs.cons (CT.int IntKind.u64)
 (CTs.cons CT.str
 (CTs.cons (CT.ro (CTs.cons CT.str (CTs.cons CT.str CTs.nil)))
 (CTs.cons (CT.int IntKind.u8)
 (CTs.cons (CT.int IntKind.u8)
 (CTs.cons (CT.int IntKind.i64)
 (CTs.cons (CT.int IntKind.u8)
 (CTs.cons (CT.int IntKind.u8)
 (CTs.cons (CT.int IntKind.u64) (CTs.cons (CT.int IntKind.u64) CTs.nil)))))))))))))),
 PT.int IntKind.i64, PT.int IntKind.i64,
 PT.optA
 (OTs.cons (OT.c (CT.int IntKind.i64))
 (OTs.cons (OT.c (CT.int IntKind.i64))
 (OTs.cons (OT.c (CT.int IntKind.u64))
 (OTs.cons (OT.c (CT.int IntKind.u64))
 (OTs.cons
 (OT.row
 (CTs.cons (CT.int IntKind.u64)
 (CTs.cons CT.bool
 (CTs.cons (CT.int IntKind.u8)
 (CTs.cons (CT.int IntKind.u64)
 (CTs.cons (CT.int IntKind.u64)
 (CTs.cons CT.str
 (CTs.cons (CT.ro (CTs.cons CT.str (CTs.cons CT.str CTs.nil)))
 (CTs.cons (CT.int IntKind.u8)
 (CTs.cons (CT.int IntKind.u8)
 (CTs.cons (CT.int IntKind.i64)
 (CTs.cons (CT.int IntKind.u8)
 (CTs.cons (CT.int IntKind.u8)
 (CTs.cons (CT.int IntKind.u64)
 (CTs.cons (CT.int IntKind.u64) CTs.nil)))))))))))))))
 OTs.nil)))))
 (CT.int IntKind.u64) (OTs.cons (OT.c (CT.int IntKind.u64)) OTs.nil),
 PT.list (CTs.cons (CT.int IntKind.u64) CTs.nil)]
 (Option (Bool × Unit)) →
 Nat →
 PT.T (PT.int IntKind.i64) →
 List
 (UInt64 ×
 Bool ×
 UInt8 ×
 UInt64 ×
 UInt64 ×
 List UInt8 ×
 List (List UInt8 × List UInt8) × UInt8 × UInt8 × Int64 × UInt8 × UInt8 × UInt64 × UInt64) →
 UInt64 →
 Int64 →
 Int64 →
 Int64 →
 List
 (UInt64 ×
 Bool ×
 UInt8 ×
 UInt64 ×
 UInt64 ×
 List UInt8 ×
 List (List UInt8 × List UInt8) ×
 UInt8 × UInt8 × Int64 × UInt8 × UInt8 × UInt64 × UInt64) →
 Int64 →
 Int64 →
 Option
 ((Int64 ×
 Int64 ×
 UInt64 ×
 UInt64 ×
 List
 (UInt64 ×
 Bool ×
 UInt8 ×
 UInt64 ×
 UInt64 ×
 List UInt8 ×
 List (List UInt8 × List UInt8) ×
 UInt8 × UInt8 × Int64 × UInt8 × UInt8 × UInt64 × UInt64)) ×
 List UInt64 × UInt64) →
 List
 (UInt64 ×
 Bool ×
 UInt8 ×
 UInt64 ×
 UInt64 ×
 List UInt8 ×
 List (List UInt8 × List UInt8) ×
 UInt8 × UInt8 × Int64 × UInt8 × UInt8 × UInt64 × UInt64) →
 List UInt64 → Option (Bool × Unit) := fun (n : Nat)
 (rec_1 :
 Arr
 [PT.int IntKind.i64,
 PT.list
 (CTs.cons (CT.int IntKind.u64)
 (CTs.cons CT.bool
 (CTs.cons (CT.int IntKind.u8)
 (CTs.cons (CT.int IntKind.u64)
 (CTs.cons (CT.int IntKind.u64)
 (CTs.cons CT.str
 (CTs.cons (CT.ro (CTs.cons CT.str (CTs.cons CT.str CTs.nil)))
 (CTs.cons (CT.int IntKind.u8)
 (CTs.cons (CT.int IntKind.u8)
 (CTs.cons (CT.int IntKind.i64)
 (CTs.cons (CT.int IntKind.u8)
 (CTs.cons (CT.int IntKind.u8)
 (CTs.cons (CT.int IntKind.u64) (CTs.cons (CT.int IntKind.u64) CTs.nil)))))))))))))),
 PT.int IntKind.i64, PT.int IntKind.i64,
 PT.optA
 (OTs.cons (OT.c (CT.int IntKind.i64))
 (OTs.cons (OT.c (CT.int IntKind.i64))
 (OTs.cons (OT.c (CT.int IntKind.u64))
 (OTs.cons (OT.c (CT.int IntKind.u64))
 (OTs.cons
 (OT.row
 (CTs.cons (CT.int IntKind.u64)
 (CTs.cons CT.bool
 (CTs.cons (CT.int IntKind.u8)
 (CTs.cons (CT.int IntKind.u64)
 (CTs.cons (CT.int IntKind.u64)
 (CTs.cons CT.str
 (CTs.cons (CT.ro (CTs.cons CT.str (CTs.cons CT.str CTs.nil)))
 (CTs.cons (CT.int IntKind.u8)
 (CTs.cons (CT.int IntKind.u8)
 (CTs.cons (CT.int IntKind.i64)
 (CTs.cons (CT.int IntKind.u8)
 (CTs.cons (CT.int IntKind.u8)
 (CTs.cons (CT.int IntKind.u64)
 (CTs.cons (CT.int IntKind.u64) CTs.nil)))))))))))))))
 OTs.nil)))))
 (CT.int IntKind.u64) (OTs.cons (OT.c (CT.int IntKind.u64)) OTs.nil),
 PT.list (CTs.cons (CT.int IntKind.u64) CTs.nil)]
 (Option (Bool × Unit))) =>
 ofixA (129757 : Nat)
 [PT.int IntKind.i64,
 PT.list
 (CTs.cons (CT.int IntKind.u64)
 (CTs.cons CT.bool
 (CTs.cons (CT.int IntKind.u8)
 (CTs.cons (CT.int IntKind.u64)
 (CTs.cons (CT.int IntKind.u64)
 (CTs.cons CT.str
 (CTs.cons (CT.ro (CTs.cons CT.str (CTs.cons CT.str CTs.nil)))
 (CTs.cons (CT.int IntKind.u8)
 (CTs.cons (CT.int IntKind.u8)
 (CTs.cons (CT.int IntKind.i64)
 (CTs.cons (CT.int IntKind.u8)
 (CTs.cons (CT.int IntKind.u8)
 (CTs.cons (CT.int IntKind.u64) (CTs.cons (CT.int IntKind.u64) CTs.nil)))))))))))))),
 PT.int IntKind.u64, PT.int IntKind.i64, PT.int IntKind.i64, PT.int IntKind.i64,
 PT.list
 (CTs.cons (CT.int IntKind.u64)
 (CTs.cons CT.bool
 (CTs.cons (CT.int IntKind.u8)
 (CTs.cons (CT.int IntKind.u64)
 (CTs.cons (CT.int IntKind.u64)
 (CTs.cons CT.str
 (CTs.cons (CT.ro (CTs.cons CT.str (CTs.cons CT.str CTs.nil)))
 (CTs.cons (CT.int IntKind.u8)
 (CTs.cons (CT.int IntKind.u8)
 (CTs.cons (CT.int IntKind.i64)
 (CTs.cons (CT.int IntKind.u8)
 (CTs.cons (CT.int IntKind.u8)
 (CTs.cons (CT.int IntKind.u64) (CTs.cons (CT.int IntKind.u64) CTs.nil)))))))))))))),
 PT.int IntKind.i64, PT.int IntKind.i64,
 PT.optA
 (OTs.cons (OT.c (CT.int IntKind.i64))
 (OTs.cons (OT.c (CT.int IntKind.i64))
 (OTs.cons (OT.c (CT.int IntKind.u64))
 (OTs.cons (OT.c (CT.int IntKind.u64))
 (OTs.cons
 (OT.row
 (CTs.cons (CT.int IntKind.u64)
 (CTs.cons CT.bool
 (CTs.cons (CT.int IntKind.u8)
 (CTs.cons (CT.int IntKind.u64)
 (CTs.cons (CT.int IntKind.u64)
 (CTs.cons CT.str
 (CTs.cons (CT.ro (CTs.cons CT.str (CTs.cons CT.str CTs.nil)))
 (CTs.cons (CT.int IntKind.u8)
 (CTs.cons (CT.int IntKind.u8)
 (CTs.cons (CT.int IntKind.i64)
 (CTs.cons (CT.int IntKind.u8)
 (CTs.cons (CT.int IntKind.u8)
 (CTs.cons (CT.int IntKind.u64)
 (CTs.cons (CT.int IntKind.u64) CTs.nil)))))))))))))))
 OTs.nil)))))
 (CT.int IntKind.u64) (OTs.cons (OT.c (CT.int IntKind.u64)) OTs.nil),
 PT.list
 (CTs.cons (CT.int IntKind.u64)
 (CTs.cons CT.bool
 (CTs.cons (CT.int IntKind.u8)
 (CTs.cons (CT.int IntKind.u64)
 (CTs.cons (CT.int IntKind.u64)
 (CTs.cons CT.str
 (CTs.cons (CT.ro (CTs.cons CT.str (CTs.cons CT.str CTs.nil)))
 (CTs.cons (CT.int IntKind.u8)
 (CTs.cons (CT.int IntKind.u8)
 (CTs.cons (CT.int IntKind.i64)
 (CTs.cons (CT.int IntKind.u8)
 (CTs.cons (CT.int IntKind.u8)
 (CTs.cons (CT.int IntKind.u64) (CTs.cons (CT.int IntKind.u64) CTs.nil)))))))))))))),
 PT.list (CTs.cons (CT.int IntKind.u64) CTs.nil)]
 (F3_L129757 n rec_1)
noncomputable def F3_L253 : Nat →
 Arr
 [PT.int IntKind.i64,
 PT.list
 (CTs.cons (CT.int IntKind.u64)
 (CTs.cons CT.bool
 (CTs.cons (CT.int IntKind.u8)
 (CTs.cons (CT.int IntKind.u64)
 (CTs.cons (CT.int IntKind.u64)
 (CTs.cons CT.str
 (CTs.cons (CT.ro (CTs.cons CT.str (CTs.cons CT.str CTs.nil)))
 (CTs.cons (CT.int IntKind.u8)
 (CTs.cons (CT.int IntKind.u8)
 (CTs.cons (CT.int IntKind.i64)
 (CTs.cons (CT.int IntKind.u8)
 (CTs.cons (CT.int IntKind.u8)
 (CTs.cons (CT.int IntKind.u64) (CTs.cons (CT.int IntKind.u64) CTs.nil)))))))))))))),
 PT.int IntKind.i64, PT.int IntKind.i64,
 PT.optA
 (OTs.cons (OT.c (CT.int IntKind.i64))
 (OTs.cons (OT.c (CT.int IntKind.i64))
 (OTs.cons (OT.c (CT.int IntKind.u64))
 (OTs.cons (OT.c (CT.int IntKind.u64))
 (OTs.cons
 (OT.row
 (CTs.cons (CT.int IntKind.u64)
 (CTs.cons CT.bool
 (CTs.cons (CT.int IntKind.u8)
 (CTs.cons (CT.int IntKind.u64)
 (CTs.cons (CT.int IntKind.u64)
 (CTs.cons CT.str
 (CTs.cons (CT.ro (CTs.cons CT.str (CTs.cons CT.str CTs.nil)))
 (CTs.cons (CT.int IntKind.u8)
 (CTs.cons (CT.int IntKind.u8)
 (CTs.cons (CT.int IntKind.i64)
 (CTs.cons (CT.int IntKind.u8)
 (CTs.cons (CT.int IntKind.u8)
 (CTs.cons (CT.int IntKind.u64)
 (CTs.cons (CT.int IntKind.u64) CTs.nil)))))))))))))))
 OTs.nil)))))
 (CT.int IntKind.u64) (OTs.cons (OT.c (CT.int IntKind.u64)) OTs.nil),
 PT.list (CTs.cons (CT.int IntKind.u64) CTs.nil)]
 (Option (Bool × Unit)) →
 Int64 →
 List
 (UInt64 ×
 Bool ×
 UInt8 ×
 UInt64 ×
 UInt64 ×
 List UInt8 ×
 List (List UInt8 × List UInt8) × UInt8 × UInt8 × Int64 × UInt8 × UInt8 × UInt64 × UInt64) →
 Int64 →
 Int64 →
 Option
 ((Int64 ×
 Int64 ×
 UInt64 ×
 UInt64 ×
 List
 (UInt64 ×
 Bool ×
 UInt8 ×
 UInt64 ×
 UInt64 ×
 List UInt8 ×
 List (List UInt8 × List UInt8) ×
 UInt8 × UInt8 × Int64 × UInt8 × UInt8 × UInt64 × UInt64)) ×
 List UInt64 × UInt64) →
 List UInt64 → Option (Bool × Unit) := fun (n : Nat)
 (rec_1 :
 Arr
 [PT.int IntKind.i64,
 PT.list
 (CTs.cons (CT.int IntKind.u64)
 (CTs.cons CT.bool
 (CTs.cons (CT.int IntKind.u8)
 (CTs.cons (CT.int IntKind.u64)
 (CTs.cons (CT.int IntKind.u64)
 (CTs.cons CT.str
 (CTs.cons (CT.ro (CTs.cons CT.str (CTs.cons CT.str CTs.nil)))
 (CTs.cons (CT.int IntKind.u8)
 (CTs.cons (CT.int IntKind.u8)
 (CTs.cons (CT.int IntKind.i64)
 (CTs.cons (CT.int IntKind.u8)
 (CTs.cons (CT.int IntKind.u8)
 (CTs.cons (CT.int IntKind.u64) (CTs.cons (CT.int IntKind.u64) CTs.nil)))))))))))))),
 PT.int IntKind.i64, PT.int IntKind.i64,
 PT.optA
 (OTs.cons (OT.c (CT.int IntKind.i64))
 (OTs.cons (OT.c (CT.int IntKind.i64))
 (OTs.cons (OT.c (CT.int IntKind.u64))
 (OTs.cons (OT.c (CT.int IntKind.u64))
 (OTs.cons
 (OT.row
 (CTs.cons (CT.int IntKind.u64)
 (CTs.cons CT.bool
 (CTs.cons (CT.int IntKind.u8)
 (CTs.cons (CT.int IntKind.u64)
 (CTs.cons (CT.int IntKind.u64)
 (CTs.cons CT.str
 (CTs.cons (CT.ro (CTs.cons CT.str (CTs.cons CT.str CTs.nil)))
 (CTs.cons (CT.int IntKind.u8)
 (CTs.cons (CT.int IntKind.u8)
 (CTs.cons (CT.int IntKind.i64)
 (CTs.cons (CT.int IntKind.u8)
 (CTs.cons (CT.int IntKind.u8)
 (CTs.cons (CT.int IntKind.u64)
 (CTs.cons (CT.int IntKind.u64) CTs.nil)))))))))))))))
 OTs.nil)))))
 (CT.int IntKind.u64) (OTs.cons (OT.c (CT.int IntKind.u64)) OTs.nil),
 PT.list (CTs.cons (CT.int IntKind.u64) CTs.nil)]
 (Option (Bool × Unit)))
 (many_1 : Int64)
 (all_ :
 List
 (UInt64 ×
 Bool ×
 UInt8 ×
 UInt64 ×
 UInt64 ×
 List UInt8 ×
 List (List UInt8 × List UInt8) × UInt8 × UInt8 × Int64 × UInt8 × UInt8 × UInt64 × UInt64))
 (t_3 t_1_1 : Int64)
 (s_1 :
 Option
 ((Int64 ×
 Int64 ×
 UInt64 ×
 UInt64 ×
 List
 (UInt64 ×
 Bool ×
 UInt8 ×
 UInt64 ×
 UInt64 ×
 List UInt8 ×
 List (List UInt8 × List UInt8) ×
 UInt8 × UInt8 × Int64 × UInt8 × UInt8 × UInt64 × UInt64)) ×
 List UInt64 × UInt64))
 (t_2_1 : List UInt64) =>
 oite (decide (t_1_1 < t_3))
 (oite (decide ((0 : Int) ≤ Int64.toInt t_1_1) && Nat.blt (Int.toNat (Int64.toInt t_1_1)) (List.length t_2_1))
 (obind t_2_1[Int.toNat (Int64.toInt t_1_1)]? fun (x_4 : UInt64) =>
 F3_R129757 n rec_1 n many_1 all_ x_4 (-1 : Int64) t_3 t_1_1 all_ (Int64.ofInt ↑(List.length all_)) (0 : Int64)
 s_1 [] t_2_1)
 none)
 (some (true, ()))
noncomputable def F3_R253 : Nat →
 Nat →
 PT.T (PT.int IntKind.i64) →
 List
 (UInt64 ×
 Bool ×
 UInt8 ×
 UInt64 ×
 UInt64 ×
 List UInt8 ×
 List (List UInt8 × List UInt8) × UInt8 × UInt8 × Int64 × UInt8 × UInt8 × UInt64 × UInt64) →
 Int64 →
 Int64 →
 Option
 ((Int64 ×
 Int64 ×
 UInt64 ×
 UInt64 ×
 List
 (UInt64 ×
 Bool ×
 UInt8 ×
 UInt64 ×
 UInt64 ×
 List UInt8 ×
 List (List UInt8 × List UInt8) ×
 UInt8 × UInt8 × Int64 × UInt8 × UInt8 × UInt64 × UInt64)) ×
 List UInt64 × UInt64) →
 List UInt64 → Option (Bool × Unit) := fun (n : Nat) =>
 ofixA (253 : Nat)
 [PT.int IntKind.i64,
 PT.list
 (CTs.cons (CT.int IntKind.u64)
 (CTs.cons CT.bool
 (CTs.cons (CT.int IntKind.u8)
 (CTs.cons (CT.int IntKind.u64)
 (CTs.cons (CT.int IntKind.u64)
 (CTs.cons CT.str
 (CTs.cons (CT.ro (CTs.cons CT.str (CTs.cons CT.str CTs.nil)))
 (CTs.cons (CT.int IntKind.u8)
 (CTs.cons (CT.int IntKind.u8)
 (CTs.cons (CT.int IntKind.i64)
 (CTs.cons (CT.int IntKind.u8)
 (CTs.cons (CT.int IntKind.u8)
 (CTs.cons (CT.int IntKind.u64) (CTs.cons (CT.int IntKind.u64) CTs.nil)))))))))))))),
 PT.int IntKind.i64, PT.int IntKind.i64,
 PT.optA
 (OTs.cons (OT.c (CT.int IntKind.i64))
 (OTs.cons (OT.c (CT.int IntKind.i64))
 (OTs.cons (OT.c (CT.int IntKind.u64))
 (OTs.cons (OT.c (CT.int IntKind.u64))
 (OTs.cons
 (OT.row
 (CTs.cons (CT.int IntKind.u64)
 (CTs.cons CT.bool
 (CTs.cons (CT.int IntKind.u8)
 (CTs.cons (CT.int IntKind.u64)
 (CTs.cons (CT.int IntKind.u64)
 (CTs.cons CT.str
 (CTs.cons (CT.ro (CTs.cons CT.str (CTs.cons CT.str CTs.nil)))
 (CTs.cons (CT.int IntKind.u8)
 (CTs.cons (CT.int IntKind.u8)
 (CTs.cons (CT.int IntKind.i64)
 (CTs.cons (CT.int IntKind.u8)
 (CTs.cons (CT.int IntKind.u8)
 (CTs.cons (CT.int IntKind.u64)
 (CTs.cons (CT.int IntKind.u64) CTs.nil)))))))))))))))
 OTs.nil)))))
 (CT.int IntKind.u64) (OTs.cons (OT.c (CT.int IntKind.u64)) OTs.nil),
 PT.list (CTs.cons (CT.int IntKind.u64) CTs.nil)]
 (F3_L253 n)
noncomputable def F3_L61 : Nat →
 Arr
 [PT.int IntKind.u64, PT.int IntKind.i64,
 PT.list
 (CTs.cons CT.bool
 (CTs.cons (CT.int IntKind.u8)
 (CTs.cons (CT.int IntKind.u8)
 (CTs.cons (CT.int IntKind.u8)
 (CTs.cons (CT.int IntKind.u16)
 (CTs.cons (CT.int IntKind.u16)
 (CTs.cons (CT.int IntKind.u16)
 (CTs.cons (CT.int IntKind.u8)
 (CTs.cons (CT.int IntKind.u8)
 (CTs.cons (CT.int IntKind.u8) (CTs.cons CT.bool CTs.nil))))))))))),
 PT.int IntKind.i64, PT.int IntKind.i64,
 PT.optA
 (OTs.cons (OT.c (CT.int IntKind.i64))
 (OTs.cons (OT.c (CT.int IntKind.i64))
 (OTs.cons (OT.c (CT.int IntKind.u64))
 (OTs.cons (OT.c (CT.int IntKind.u64))
 (OTs.cons
 (OT.row
 (CTs.cons (CT.int IntKind.u64)
 (CTs.cons CT.bool
 (CTs.cons (CT.int IntKind.u8)
 (CTs.cons (CT.int IntKind.u64)
 (CTs.cons (CT.int IntKind.u64)
 (CTs.cons CT.str
 (CTs.cons (CT.ro (CTs.cons CT.str (CTs.cons CT.str CTs.nil)))
 (CTs.cons (CT.int IntKind.u8)
 (CTs.cons (CT.int IntKind.u8)
 (CTs.cons (CT.int IntKind.i64)
 (CTs.cons (CT.int IntKind.u8)
 (CTs.cons (CT.int IntKind.u8)
 (CTs.cons (CT.int IntKind.u64)
 (CTs.cons (CT.int IntKind.u64) CTs.nil)))))))))))))))
 OTs.nil)))))
 (CT.int IntKind.u64) (OTs.cons (OT.c (CT.int IntKind.u64)) OTs.nil)]
 (Option (Bool × Unit)) →
 UInt64 →
 Int64 →
 List (Bool × UInt8 × UInt8 × UInt8 × UInt16 × UInt16 × UInt16 × UInt8 × UInt8 × UInt8 × Bool) →
 Int64 →
 Int64 →
 Option
 ((Int64 ×
 Int64 ×
 UInt64 ×
 UInt64 ×
 List
 (UInt64 ×
 Bool ×
 UInt8 ×
 UInt64 ×
 UInt64 ×
 List UInt8 ×
 List (List UInt8 × List UInt8) ×
 UInt8 × UInt8 × Int64 × UInt8 × UInt8 × UInt64 × UInt64)) ×
 List UInt64 × UInt64) →
 Option (Bool × Unit) := fun (n : Nat)
 (rec :
 Arr
 [PT.int IntKind.u64, PT.int IntKind.i64,
 PT.list
 (CTs.cons CT.bool
 (CTs.cons (CT.int IntKind.u8)
 (CTs.cons (CT.int IntKind.u8)
 (CTs.cons (CT.int IntKind.u8)
 (CTs.cons (CT.int IntKind.u16)
 (CTs.cons (CT.int IntKind.u16)
 (CTs.cons (CT.int IntKind.u16)
 (CTs.cons (CT.int IntKind.u8)
 (CTs.cons (CT.int IntKind.u8)
 (CTs.cons (CT.int IntKind.u8) (CTs.cons CT.bool CTs.nil))))))))))),
 PT.int IntKind.i64, PT.int IntKind.i64,
 PT.optA
 (OTs.cons (OT.c (CT.int IntKind.i64))
 (OTs.cons (OT.c (CT.int IntKind.i64))
 (OTs.cons (OT.c (CT.int IntKind.u64))
 (OTs.cons (OT.c (CT.int IntKind.u64))
 (OTs.cons
 (OT.row
 (CTs.cons (CT.int IntKind.u64)
 (CTs.cons CT.bool
 (CTs.cons (CT.int IntKind.u8)
 (CTs.cons (CT.int IntKind.u64)
 (CTs.cons (CT.int IntKind.u64)
 (CTs.cons CT.str
 (CTs.cons (CT.ro (CTs.cons CT.str (CTs.cons CT.str CTs.nil)))
 (CTs.cons (CT.int IntKind.u8)
 (CTs.cons (CT.int IntKind.u8)
 (CTs.cons (CT.int IntKind.i64)
 (CTs.cons (CT.int IntKind.u8)
 (CTs.cons (CT.int IntKind.u8)
 (CTs.cons (CT.int IntKind.u64)
 (CTs.cons (CT.int IntKind.u64) CTs.nil)))))))))))))))
 OTs.nil)))))
 (CT.int IntKind.u64) (OTs.cons (OT.c (CT.int IntKind.u64)) OTs.nil)]
 (Option (Bool × Unit)))
 (index : UInt64) (many : Int64)
 (t : List (Bool × UInt8 × UInt8 × UInt8 × UInt16 × UInt16 × UInt16 × UInt8 × UInt8 × UInt8 × Bool))
 (t_1 t_2 : Int64)
 (s :
 Option
 ((Int64 ×
 Int64 ×
 UInt64 ×
 UInt64 ×
 List
 (UInt64 ×
 Bool ×
 UInt8 ×
 UInt64 ×
 UInt64 ×
 List UInt8 ×
 List (List UInt8 × List UInt8) ×
 UInt8 × UInt8 × Int64 × UInt8 × UInt8 × UInt64 × UInt64)) ×
 List UInt64 × UInt64)) =>
 oite (decide (t_2 < t_1))
 (obind (at? t (Int64.toInt t_2))
 fun (x_3 : Bool × UInt8 × UInt8 × UInt8 × UInt16 × UInt16 × UInt16 × UInt8 × UInt8 × UInt8 × Bool) =>
 oite (decide (t_2 < (40 : Int64)))
 (obind
 (F10 n
 (@List.nil (Bool × Bool × Bool × Bool × Bool × Bool × Bool × Bool × Bool × Bool × Bool), (),
 (),
 (Prod.fst x_3, Prod.fst (Prod.snd x_3), Prod.fst (Prod.snd (Prod.snd x_3)),
 Prod.fst (Prod.snd (Prod.snd (Prod.snd x_3))), Prod.fst (Prod.snd (Prod.snd (Prod.snd (Prod.snd x_3)))),
 Prod.fst (Prod.snd (Prod.snd (Prod.snd (Prod.snd (Prod.snd x_3))))),
 Prod.fst (Prod.snd (Prod.snd (Prod.snd (Prod.snd (Prod.snd (Prod.snd x_3)))))),
 Prod.fst (Prod.snd (Prod.snd (Prod.snd (Prod.snd (Prod.snd (Prod.snd (Prod.snd x_3))))))),
 Prod.fst (Prod.snd (Prod.snd (Prod.snd (Prod.snd (Prod.snd (Prod.snd (Prod.snd (Prod.snd x_3)))))))),
 Prod.fst
 (Prod.snd
 (Prod.snd (Prod.snd (Prod.snd (Prod.snd (Prod.snd (Prod.snd (Prod.snd (Prod.snd x_3))))))))),
 Prod.snd
 (Prod.snd
 (Prod.snd (Prod.snd (Prod.snd (Prod.snd (Prod.snd (Prod.snd (Prod.snd (Prod.snd x_3)))))))))),
 s))
 fun
 (x_4 :
 (Bool ×
 UInt8 ×
 UInt64 ×
 UInt64 ×
 List UInt8 ×
 List (List UInt8 × List UInt8) × UInt8 × UInt8 × Int64 × UInt8 × UInt8 × UInt64 × UInt64) ×
 Option
 ((Int64 ×
 Int64 ×
 UInt64 ×
 UInt64 ×
 List
 (UInt64 ×
 Bool ×
 UInt8 ×
 UInt64 ×
 UInt64 ×
 List UInt8 ×
 List (List UInt8 × List UInt8) ×
 UInt8 × UInt8 × Int64 × UInt8 × UInt8 × UInt64 × UInt64)) ×
 List UInt64 × UInt64)) =>
 obind
 (F9 n
 (Prod.snd x_4, Prod.fst (Prod.fst x_4), Prod.fst (Prod.snd (Prod.fst x_4)),
 Prod.fst (Prod.snd (Prod.snd (Prod.fst x_4))), Prod.fst (Prod.snd (Prod.snd (Prod.snd (Prod.fst x_4)))),
 Prod.fst (Prod.snd (Prod.snd (Prod.snd (Prod.snd (Prod.fst x_4))))),
 Prod.fst (Prod.snd (Prod.snd (Prod.snd (Prod.snd (Prod.snd (Prod.fst x_4)))))),
 Prod.fst (Prod.snd (Prod.snd (Prod.snd (Prod.snd (Prod.snd (Prod.snd (Prod.fst x_4))))))),
 Prod.fst (Prod.snd (Prod.snd (Prod.snd (Prod.snd (Prod.snd (Prod.snd (Prod.snd (Prod.fst x_4)))))))),
 Prod.fst
 (Prod.snd
 (Prod.snd (Prod.snd (Prod.snd (Prod.snd (Prod.snd (Prod.snd (Prod.snd (Prod.fst x_4))))))))),
 Prod.fst
 (Prod.snd
 (Prod.snd
 (Prod.snd (Prod.snd (Prod.snd (Prod.snd (Prod.snd (Prod.snd (Prod.snd (Prod.fst x_4)))))))))),
 Prod.fst
 (Prod.snd
 (Prod.snd
 (Prod.snd
 (Prod.snd (Prod.snd (Prod.snd (Prod.snd (Prod.snd (Prod.snd (Prod.snd (Prod.fst x_4))))))))))),
 Prod.fst
 (Prod.snd
 (Prod.snd
 (Prod.snd
 (Prod.snd
 (Prod.snd
 (Prod.snd (Prod.snd (Prod.snd (Prod.snd (Prod.snd (Prod.snd (Prod.fst x_4)))))))))))),
 Prod.snd
 (Prod.snd
 (Prod.snd
 (Prod.snd
 (Prod.snd
 (Prod.snd
 (Prod.snd (Prod.snd (Prod.snd (Prod.snd (Prod.snd (Prod.snd (Prod.fst x_4))))))))))))))
 fun
 (x_5 :
 (UInt64 × UInt64 × Int64) ×
 Option
 ((Int64 ×
 Int64 ×
 UInt64 ×
 UInt64 ×
 List
 (UInt64 ×
 Bool ×
 UInt8 ×
 UInt64 ×
 UInt64 ×
 List UInt8 ×
 List (List UInt8 × List UInt8) ×
 UInt8 × UInt8 × Int64 × UInt8 × UInt8 × UInt64 × UInt64)) ×
 List UInt64 × UInt64)) =>
 rec index many t t_1 (t_2 + (1 : Int64)) (Prod.snd x_5))
 (rec index many t t_1 (t_2 + (1 : Int64)) s))
 (obind (F12 n (s, (0 : UInt64), (1000 : Int64)))
 fun
 (x_3 :
 List
 (UInt64 ×
 Bool ×
 UInt8 ×
 UInt64 ×
 UInt64 ×
 List UInt8 ×
 List (List UInt8 × List UInt8) × UInt8 × UInt8 × Int64 × UInt8 × UInt8 × UInt64 × UInt64) ×
 Option
 ((Int64 ×
 Int64 ×
 UInt64 ×
 UInt64 ×
 List
 (UInt64 ×
 Bool ×
 UInt8 ×
 UInt64 ×
 UInt64 ×
 List UInt8 ×
 List (List UInt8 × List UInt8) ×
 UInt8 × UInt8 × Int64 × UInt8 × UInt8 × UInt64 × UInt64)) ×
 List UInt64 × UInt64)) =>
 F3_R253 n n many (Prod.fst x_3) (Int64.ofInt ↑(List.length [index, index % (50 : UInt64)])) (0 : Int64)
 (Prod.snd x_3) [index, index % (50 : UInt64)])
noncomputable def F3_R61 : Nat →
 Nat →
 PT.T (PT.int IntKind.u64) →
 Int64 →
 List (Bool × UInt8 × UInt8 × UInt8 × UInt16 × UInt16 × UInt16 × UInt8 × UInt8 × UInt8 × Bool) →
 Int64 →
 Int64 →
 Option
 ((Int64 ×
 Int64 ×
 UInt64 ×
 UInt64 ×
 List
 (UInt64 ×
 Bool ×
 UInt8 ×
 UInt64 ×
 UInt64 ×
 List UInt8 ×
 List (List UInt8 × List UInt8) ×
 UInt8 × UInt8 × Int64 × UInt8 × UInt8 × UInt64 × UInt64)) ×
 List UInt64 × UInt64) →
 Option (Bool × Unit) := fun (n : Nat) =>
 ofixA (61 : Nat)
 [PT.int IntKind.u64, PT.int IntKind.i64,
 PT.list
 (CTs.cons CT.bool
 (CTs.cons (CT.int IntKind.u8)
 (CTs.cons (CT.int IntKind.u8)
 (CTs.cons (CT.int IntKind.u8)
 (CTs.cons (CT.int IntKind.u16)
 (CTs.cons (CT.int IntKind.u16)
 (CTs.cons (CT.int IntKind.u16)
 (CTs.cons (CT.int IntKind.u8)
 (CTs.cons (CT.int IntKind.u8)
 (CTs.cons (CT.int IntKind.u8) (CTs.cons CT.bool CTs.nil))))))))))),
 PT.int IntKind.i64, PT.int IntKind.i64,
 PT.optA
 (OTs.cons (OT.c (CT.int IntKind.i64))
 (OTs.cons (OT.c (CT.int IntKind.i64))
 (OTs.cons (OT.c (CT.int IntKind.u64))
 (OTs.cons (OT.c (CT.int IntKind.u64))
 (OTs.cons
 (OT.row
 (CTs.cons (CT.int IntKind.u64)
 (CTs.cons CT.bool
 (CTs.cons (CT.int IntKind.u8)
 (CTs.cons (CT.int IntKind.u64)
 (CTs.cons (CT.int IntKind.u64)
 (CTs.cons CT.str
 (CTs.cons (CT.ro (CTs.cons CT.str (CTs.cons CT.str CTs.nil)))
 (CTs.cons (CT.int IntKind.u8)
 (CTs.cons (CT.int IntKind.u8)
 (CTs.cons (CT.int IntKind.i64)
 (CTs.cons (CT.int IntKind.u8)
 (CTs.cons (CT.int IntKind.u8)
 (CTs.cons (CT.int IntKind.u64)
 (CTs.cons (CT.int IntKind.u64) CTs.nil)))))))))))))))
 OTs.nil)))))
 (CT.int IntKind.u64) (OTs.cons (OT.c (CT.int IntKind.u64)) OTs.nil)]
 (F3_L61 n)
noncomputable def F3 : Nat →
 UInt16 ×
 List (Bool × UInt8 × UInt8 × UInt8 × UInt16 × UInt16 × UInt16 × UInt8 × UInt8 × UInt8 × Bool) × UInt64 × Int64 →
 Option (Bool × Unit) := fun (n : Nat)
 (x :
 UInt16 ×
 List (Bool × UInt8 × UInt8 × UInt8 × UInt16 × UInt16 × UInt16 × UInt8 × UInt8 × UInt8 × Bool) ×
 UInt64 × Int64) =>
 obind (F7 n ()) fun (x_1 : Bool × Unit) =>
 oite (!Prod.fst x_1) (some (false, ()))
 (obind (F8 n ((64 : Int64) + Int64.ofInt ↑(UInt16.toNat (Prod.fst x % (300 : UInt16)))))
 fun
 (x_2 :
 (Option
 ((Int64 ×
 Int64 ×
 UInt64 ×
 UInt64 ×
 List
 (UInt64 ×
 Bool ×
 UInt8 ×
 UInt64 ×
 UInt64 ×
 List UInt8 ×
 List (List UInt8 × List UInt8) ×
 UInt8 × UInt8 × Int64 × UInt8 × UInt8 × UInt64 × UInt64)) ×
 List UInt64 × UInt64) ×
 Int64) ×
 Unit) =>
 F3_R61 n n (Prod.fst (Prod.snd (Prod.snd x))) (Prod.snd (Prod.snd (Prod.snd x))) (Prod.fst (Prod.snd x))
 (Int64.ofInt ↑(List.length (Prod.fst (Prod.snd x)))) (0 : Int64) (Prod.fst (Prod.fst x_2)))
theorem F3_R2076159_s (n : Nat) (rec_1 : Arr [PT.int IntKind.i64, PT.list (CTs.cons (CT.int IntKind.u64) (CTs.cons CT.bool (CTs.cons (CT.int IntKind.u8) (CTs.cons (CT.int IntKind.u64) (CTs.cons (CT.int IntKind.u64) (CTs.cons CT.str (CTs.cons (CT.ro (CTs.cons CT.str (CTs.cons CT.str CTs.nil))) (CTs.cons (CT.int IntKind.u8) (CTs.cons (CT.int IntKind.u8) (CTs.cons (CT.int IntKind.i64) (CTs.cons (CT.int IntKind.u8) (CTs.cons (CT.int IntKind.u8) (CTs.cons (CT.int IntKind.u64) (CTs.cons (CT.int IntKind.u64) CTs.nil)))))))))))))), PT.int IntKind.i64, PT.int IntKind.i64, PT.optA (OTs.cons (OT.c (CT.int IntKind.i64)) (OTs.cons (OT.c (CT.int IntKind.i64)) (OTs.cons (OT.c (CT.int IntKind.u64)) (OTs.cons (OT.c (CT.int IntKind.u64)) (OTs.cons (OT.row (CTs.cons (CT.int IntKind.u64) (CTs.cons CT.bool (CTs.cons (CT.int IntKind.u8) (CTs.cons (CT.int IntKind.u64) (CTs.cons (CT.int IntKind.u64) (CTs.cons CT.str (CTs.cons (CT.ro (CTs.cons CT.str (CTs.cons CT.str CTs.nil))) (CTs.cons (CT.int IntKind.u8) (CTs.cons (CT.int IntKind.u8) (CTs.cons (CT.int IntKind.i64) (CTs.cons (CT.int IntKind.u8) (CTs.cons (CT.int IntKind.u8) (CTs.cons (CT.int IntKind.u64) (CTs.cons (CT.int IntKind.u64) CTs.nil))))))))))))))) OTs.nil))))) (CT.int IntKind.u64) (OTs.cons (OT.c (CT.int IntKind.u64)) OTs.nil), PT.list (CTs.cons (CT.int IntKind.u64) CTs.nil)] (Option (Bool × Unit))) (m_ : Nat) : F3_R2076159 n rec_1 (m_ + 1) = F3_L2076159 n rec_1 (F3_R2076159 n rec_1 m_) := rfl
theorem F3_R129757_s (n : Nat) (rec_1 : Arr [PT.int IntKind.i64, PT.list (CTs.cons (CT.int IntKind.u64) (CTs.cons CT.bool (CTs.cons (CT.int IntKind.u8) (CTs.cons (CT.int IntKind.u64) (CTs.cons (CT.int IntKind.u64) (CTs.cons CT.str (CTs.cons (CT.ro (CTs.cons CT.str (CTs.cons CT.str CTs.nil))) (CTs.cons (CT.int IntKind.u8) (CTs.cons (CT.int IntKind.u8) (CTs.cons (CT.int IntKind.i64) (CTs.cons (CT.int IntKind.u8) (CTs.cons (CT.int IntKind.u8) (CTs.cons (CT.int IntKind.u64) (CTs.cons (CT.int IntKind.u64) CTs.nil)))))))))))))), PT.int IntKind.i64, PT.int IntKind.i64, PT.optA (OTs.cons (OT.c (CT.int IntKind.i64)) (OTs.cons (OT.c (CT.int IntKind.i64)) (OTs.cons (OT.c (CT.int IntKind.u64)) (OTs.cons (OT.c (CT.int IntKind.u64)) (OTs.cons (OT.row (CTs.cons (CT.int IntKind.u64) (CTs.cons CT.bool (CTs.cons (CT.int IntKind.u8) (CTs.cons (CT.int IntKind.u64) (CTs.cons (CT.int IntKind.u64) (CTs.cons CT.str (CTs.cons (CT.ro (CTs.cons CT.str (CTs.cons CT.str CTs.nil))) (CTs.cons (CT.int IntKind.u8) (CTs.cons (CT.int IntKind.u8) (CTs.cons (CT.int IntKind.i64) (CTs.cons (CT.int IntKind.u8) (CTs.cons (CT.int IntKind.u8) (CTs.cons (CT.int IntKind.u64) (CTs.cons (CT.int IntKind.u64) CTs.nil))))))))))))))) OTs.nil))))) (CT.int IntKind.u64) (OTs.cons (OT.c (CT.int IntKind.u64)) OTs.nil), PT.list (CTs.cons (CT.int IntKind.u64) CTs.nil)] (Option (Bool × Unit))) (m_ : Nat) : F3_R129757 n rec_1 (m_ + 1) = F3_L129757 n rec_1 (F3_R129757 n rec_1 m_) := rfl
theorem F3_R253_s (n : Nat) (m_ : Nat) : F3_R253 n (m_ + 1) = F3_L253 n (F3_R253 n m_) := rfl
theorem F3_R61_s (n : Nat) (m_ : Nat) : F3_R61 n (m_ + 1) = F3_L61 n (F3_R61 n m_) := rfl
theorem ok3 (n : Nat) : FunOK Try.prog ⟨3, sig3, F3 n⟩ :=
 fun_ok (hints := ⟨[(129759, ⟨[(3, .one (.int .i64)), (9, .one (.own 4)), (13, .one (.ro (.cons (.int .u64) (.cons .bool (.cons (.int .u8) (.cons (.int .u64) (.cons (.int .u64) (.cons .str (.cons (.ro (.cons .str (.cons .str .nil))) (.cons (.int .u8) (.cons (.int .u8) (.cons (.int .i64) (.cons (.int .u8) (.cons (.int .u8) (.cons (.int .u64) (.cons (.int .u64) .nil)))))))))))))))), (15, .one (.int .u64)), (16, .one (.own 5)), (55, .one (.own 6)), (56, .one (.int .i64)), (57, .one (.int .i64))], [(4, .foldA (.cons (.c (.int .i64)) (.cons (.c (.int .i64)) (.cons (.c (.int .u64)) (.cons (.c (.int .u64)) (.cons (.row (.cons (.int .u64) (.cons .bool (.cons (.int .u8) (.cons (.int .u64) (.cons (.int .u64) (.cons .str (.cons (.ro (.cons .str (.cons .str .nil))) (.cons (.int .u8) (.cons (.int .u8) (.cons (.int .i64) (.cons (.int .u8) (.cons (.int .u8) (.cons (.int .u64) (.cons (.int .u64) .nil))))))))))))))) .nil))))) (.int .u64) 32 (.cons (.c (.int .u64)) .nil)), (5, .row (.cons (.int .u64) (.cons .bool (.cons (.int .u8) (.cons (.int .u64) (.cons (.int .u64) (.cons .str (.cons (.ro (.cons .str (.cons .str .nil))) (.cons (.int .u8) (.cons (.int .u8) (.cons (.int .i64) (.cons (.int .u8) (.cons (.int .u8) (.cons (.int .u64) (.cons (.int .u64) .nil))))))))))))))), (6, .row (.cons (.int .u64) .nil))], 7⟩)], [(61, ⟨[(2, .one (.int .u64)), (3, .one (.int .i64)), (9, .one (.own 4)), (34, .one (.ro (.cons .bool (.cons (.int .u8) (.cons (.int .u8) (.cons (.int .u8) (.cons (.int .u16) (.cons (.int .u16) (.cons (.int .u16) (.cons (.int .u8) (.cons (.int .u8) (.cons (.int .u8) (.cons .bool .nil))))))))))))), (35, .one (.int .i64)), (36, .one (.int .i64))], [(4, .foldA (.cons (.c (.int .i64)) (.cons (.c (.int .i64)) (.cons (.c (.int .u64)) (.cons (.c (.int .u64)) (.cons (.row (.cons (.int .u64) (.cons .bool (.cons (.int .u8) (.cons (.int .u64) (.cons (.int .u64) (.cons .str (.cons (.ro (.cons .str (.cons .str .nil))) (.cons (.int .u8) (.cons (.int .u8) (.cons (.int .i64) (.cons (.int .u8) (.cons (.int .u8) (.cons (.int .u64) (.cons (.int .u64) .nil))))))))))))))) .nil))))) (.int .u64) 32 (.cons (.c (.int .u64)) .nil))], 5⟩), (253, ⟨[(3, .one (.int .i64)), (9, .one (.own 4)), (13, .one (.ro (.cons (.int .u64) (.cons .bool (.cons (.int .u8) (.cons (.int .u64) (.cons (.int .u64) (.cons .str (.cons (.ro (.cons .str (.cons .str .nil))) (.cons (.int .u8) (.cons (.int .u8) (.cons (.int .i64) (.cons (.int .u8) (.cons (.int .u8) (.cons (.int .u64) (.cons (.int .u64) .nil)))))))))))))))), (55, .one (.own 5)), (56, .one (.int .i64)), (57, .one (.int .i64))], [(4, .foldA (.cons (.c (.int .i64)) (.cons (.c (.int .i64)) (.cons (.c (.int .u64)) (.cons (.c (.int .u64)) (.cons (.row (.cons (.int .u64) (.cons .bool (.cons (.int .u8) (.cons (.int .u64) (.cons (.int .u64) (.cons .str (.cons (.ro (.cons .str (.cons .str .nil))) (.cons (.int .u8) (.cons (.int .u8) (.cons (.int .i64) (.cons (.int .u8) (.cons (.int .u8) (.cons (.int .u64) (.cons (.int .u64) .nil))))))))))))))) .nil))))) (.int .u64) 32 (.cons (.c (.int .u64)) .nil)), (5, .row (.cons (.int .u64) .nil))], 6⟩), (129757, ⟨[(3, .one (.int .i64)), (9, .one (.own 4)), (13, .one (.ro (.cons (.int .u64) (.cons .bool (.cons (.int .u8) (.cons (.int .u64) (.cons (.int .u64) (.cons .str (.cons (.ro (.cons .str (.cons .str .nil))) (.cons (.int .u8) (.cons (.int .u8) (.cons (.int .i64) (.cons (.int .u8) (.cons (.int .u8) (.cons (.int .u64) (.cons (.int .u64) .nil)))))))))))))))), (15, .one (.int .u64)), (16, .one (.own 5)), (17, .one (.int .i64)), (55, .one (.own 6)), (56, .one (.int .i64)), (57, .one (.int .i64)), (61, .one (.ro (.cons (.int .u64) (.cons .bool (.cons (.int .u8) (.cons (.int .u64) (.cons (.int .u64) (.cons .str (.cons (.ro (.cons .str (.cons .str .nil))) (.cons (.int .u8) (.cons (.int .u8) (.cons (.int .i64) (.cons (.int .u8) (.cons (.int .u8) (.cons (.int .u64) (.cons (.int .u64) .nil)))))))))))))))), (62, .one (.int .i64)), (63, .one (.int .i64))], [(4, .foldA (.cons (.c (.int .i64)) (.cons (.c (.int .i64)) (.cons (.c (.int .u64)) (.cons (.c (.int .u64)) (.cons (.row (.cons (.int .u64) (.cons .bool (.cons (.int .u8) (.cons (.int .u64) (.cons (.int .u64) (.cons .str (.cons (.ro (.cons .str (.cons .str .nil))) (.cons (.int .u8) (.cons (.int .u8) (.cons (.int .i64) (.cons (.int .u8) (.cons (.int .u8) (.cons (.int .u64) (.cons (.int .u64) .nil))))))))))))))) .nil))))) (.int .u64) 32 (.cons (.c (.int .u64)) .nil)), (5, .row (.cons (.int .u64) (.cons .bool (.cons (.int .u8) (.cons (.int .u64) (.cons (.int .u64) (.cons .str (.cons (.ro (.cons .str (.cons .str .nil))) (.cons (.int .u8) (.cons (.int .u8) (.cons (.int .i64) (.cons (.int .u8) (.cons (.int .u8) (.cons (.int .u64) (.cons (.int .u64) .nil))))))))))))))), (6, .row (.cons (.int .u64) .nil))], 7⟩), (2076159, ⟨[(3, .one (.int .i64)), (9, .one (.own 4)), (13, .one (.ro (.cons (.int .u64) (.cons .bool (.cons (.int .u8) (.cons (.int .u64) (.cons (.int .u64) (.cons .str (.cons (.ro (.cons .str (.cons .str .nil))) (.cons (.int .u8) (.cons (.int .u8) (.cons (.int .i64) (.cons (.int .u8) (.cons (.int .u8) (.cons (.int .u64) (.cons (.int .u64) .nil)))))))))))))))), (16, .one (.own 5)), (22, .one (.ro (.cons (.int .u64) (.cons .bool (.cons (.int .u8) (.cons (.int .u64) (.cons (.int .u64) (.cons .str (.cons (.ro (.cons .str (.cons .str .nil))) (.cons (.int .u8) (.cons (.int .u8) (.cons (.int .i64) (.cons (.int .u8) (.cons (.int .u8) (.cons (.int .u64) (.cons (.int .u64) .nil)))))))))))))))), (55, .one (.own 6)), (56, .one (.int .i64)), (57, .one (.int .i64)), (126, .one (.int .i64)), (127, .one (.int .i64))], [(4, .foldA (.cons (.c (.int .i64)) (.cons (.c (.int .i64)) (.cons (.c (.int .u64)) (.cons (.c (.int .u64)) (.cons (.row (.cons (.int .u64) (.cons .bool (.cons (.int .u8) (.cons (.int .u64) (.cons (.int .u64) (.cons .str (.cons (.ro (.cons .str (.cons .str .nil))) (.cons (.int .u8) (.cons (.int .u8) (.cons (.int .i64) (.cons (.int .u8) (.cons (.int .u8) (.cons (.int .u64) (.cons (.int .u64) .nil))))))))))))))) .nil))))) (.int .u64) 32 (.cons (.c (.int .u64)) .nil)), (5, .row (.cons (.int .u64) (.cons .bool (.cons (.int .u8) (.cons (.int .u64) (.cons (.int .u64) (.cons .str (.cons (.ro (.cons .str (.cons .str .nil))) (.cons (.int .u8) (.cons (.int .u8) (.cons (.int .i64) (.cons (.int .u8) (.cons (.int .u8) (.cons (.int .u64) (.cons (.int .u64) .nil))))))))))))))), (6, .row (.cons (.int .u64) .nil))], 7⟩)]⟩) (fuel := n) (c := Try.f3.body.getD .skip) (rs := Try.f3.results.toList) tt_ok mix (FsOK.cons (ok7 n) (FsOK.cons (ok8 n) (FsOK.cons (ok11 n) (FsOK.cons (ok10 n) (FsOK.cons (ok9 n) (FsOK.cons (ok12 n) (FsOK.cons (ok13 n) (FsOK.cons (ok14 n) (FsOK.nil))))))))) Try.func3 (by kernel_rfl) (by kernel_rfl) rfl (by kernel_rfl) rfl rfl (by kernel_rfl)
-- (*watchfire/spool.Spool).Ack
def sig16 : Sig := ⟨(.cons (.one (.ptrA (.cons (.c (.int .i64)) (.cons (.c (.int .i64)) (.cons (.c (.int .u64)) (.cons (.c (.int .u64)) (.cons (.row (.cons (.int .u64) (.cons .bool (.cons (.int .u8) (.cons (.int .u64) (.cons (.int .u64) (.cons .str (.cons (.ro (.cons .str (.cons .str .nil))) (.cons (.int .u8) (.cons (.int .u8) (.cons (.int .i64) (.cons (.int .u8) (.cons (.int .u8) (.cons (.int .u64) (.cons (.int .u64) .nil))))))))))))))) .nil))))) (.int .u64) 32 (.cons (.c (.int .u64)) .nil))) (.cons (.one (.c (.int .u64))) .nil)), (.cons (.one (.c (.int .i64))) .nil)⟩
def F16_J31 : Nat →
 Int64 →
 List UInt64 →
 Int64 →
 Int64 →
 UInt64 →
 UInt64 →
 UInt64 →
 List
 (UInt64 ×
 Bool ×
 UInt8 ×
 UInt64 ×
 UInt64 ×
 List UInt8 ×
 List (List UInt8 × List UInt8) ×
 UInt8 × UInt8 × Int64 × UInt8 × UInt8 × UInt64 × UInt64) →
 Option
 (Int64 ×
 Option
 ((Int64 ×
 Int64 ×
 UInt64 ×
 UInt64 ×
 List
 (UInt64 ×
 Bool ×
 UInt8 ×
 UInt64 ×
 UInt64 ×
 List UInt8 ×
 List (List UInt8 × List UInt8) ×
 UInt8 × UInt8 × Int64 × UInt8 × UInt8 × UInt64 × UInt64)) ×
 List UInt64 × UInt64)) := fun (n : Nat) (n_ : Int64) (sa : List UInt64) (s0 s1 : Int64) (s2 s3 s5 : UInt64)
 (sl :
 List
 (UInt64 ×
 Bool ×
 UInt8 ×
 UInt64 ×
 UInt64 ×
 List UInt8 ×
 List (List UInt8 × List UInt8) × UInt8 × UInt8 × Int64 × UInt8 × UInt8 × UInt64 × UInt64)) =>
 oite (decide ((0 : Int) ≤ Int64.toInt n_) && Nat.ble (Int.toNat (Int64.toInt n_)) (List.length sl))
 (obind (F33 n (List.take (List.length sl - Int.toNat (Int64.toInt n_)) (List.drop (Int.toNat (Int64.toInt n_)) sl)))
 fun
 (x_2 :
 List
 (UInt64 ×
 Bool ×
 UInt8 ×
 UInt64 ×
 UInt64 ×
 List UInt8 ×
 List (List UInt8 × List UInt8) × UInt8 × UInt8 × Int64 × UInt8 × UInt8 × UInt64 × UInt64) ×
 Unit) =>
 some ((0 : Int64), some ((s0, s1, s2, s3, Prod.fst x_2), sa, s5)))
 none
def F16_L62 : Nat →
 Arr
 [PT.int IntKind.i64, PT.list1 (CT.int IntKind.u64), PT.int IntKind.i64, PT.int IntKind.i64, PT.int IntKind.u64,
 PT.int IntKind.u64, PT.int IntKind.u64,
 PT.list
 (CTs.cons (CT.int IntKind.u64)
 (CTs.cons CT.bool
 (CTs.cons (CT.int IntKind.u8)
 (CTs.cons (CT.int IntKind.u64)
 (CTs.cons (CT.int IntKind.u64)
 (CTs.cons CT.str
 (CTs.cons (CT.ro (CTs.cons CT.str (CTs.cons CT.str CTs.nil)))
 (CTs.cons (CT.int IntKind.u8)
 (CTs.cons (CT.int IntKind.u8)
 (CTs.cons (CT.int IntKind.i64)
 (CTs.cons (CT.int IntKind.u8)
 (CTs.cons (CT.int IntKind.u8)
 (CTs.cons (CT.int IntKind.u64) (CTs.cons (CT.int IntKind.u64) CTs.nil))))))))))))))]
 (Option
 (Int64 ×
 Option
 ((Int64 ×
 Int64 ×
 UInt64 ×
 UInt64 ×
 List
 (UInt64 ×
 Bool ×
 UInt8 ×
 UInt64 ×
 UInt64 ×
 List UInt8 ×
 List (List UInt8 × List UInt8) ×
 UInt8 × UInt8 × Int64 × UInt8 × UInt8 × UInt64 × UInt64)) ×
 List UInt64 × UInt64))) →
 Arr
 [PT.int IntKind.u64, PT.int IntKind.i64, PT.list1 (CT.int IntKind.u64), PT.int IntKind.i64, PT.int IntKind.i64,
 PT.int IntKind.u64, PT.int IntKind.u64, PT.int IntKind.u64,
 PT.list
 (CTs.cons (CT.int IntKind.u64)
 (CTs.cons CT.bool
 (CTs.cons (CT.int IntKind.u8)
 (CTs.cons (CT.int IntKind.u64)
 (CTs.cons (CT.int IntKind.u64)
 (CTs.cons CT.str
 (CTs.cons (CT.ro (CTs.cons CT.str (CTs.cons CT.str CTs.nil)))
 (CTs.cons (CT.int IntKind.u8)
 (CTs.cons (CT.int IntKind.u8)
 (CTs.cons (CT.int IntKind.i64)
 (CTs.cons (CT.int IntKind.u8)
 (CTs.cons (CT.int IntKind.u8)
 (CTs.cons (CT.int IntKind.u64) (CTs.cons (CT.int IntKind.u64) CTs.nil))))))))))))))]
 (Option
 (Int64 ×
 Option
 ((Int64 ×
 Int64 ×
 UInt64 ×
 UInt64 ×
 List
 (UInt64 ×
 Bool ×
 UInt8 ×
 UInt64 ×
 UInt64 ×
 List UInt8 ×
 List (List UInt8 × List UInt8) ×
 UInt8 × UInt8 × Int64 × UInt8 × UInt8 × UInt64 × UInt64)) ×
 List UInt64 × UInt64))) →
 UInt64 →
 Int64 →
 List UInt64 →
 Int64 →
 Int64 →
 UInt64 →
 UInt64 →
 UInt64 →
 List
 (UInt64 ×
 Bool ×
 UInt8 ×
 UInt64 ×
 UInt64 ×
 List UInt8 ×
 List (List UInt8 × List UInt8) ×
 UInt8 × UInt8 × Int64 × UInt8 × UInt8 × UInt64 × UInt64) →
 Option
 (Int64 ×
 Option
 ((Int64 ×
 Int64 ×
 UInt64 ×
 UInt64 ×
 List
 (UInt64 ×
 Bool ×
 UInt8 ×
 UInt64 ×
 UInt64 ×
 List UInt8 ×
 List (List UInt8 × List UInt8) ×
 UInt8 × UInt8 × Int64 × UInt8 × UInt8 × UInt64 × UInt64)) ×
 List UInt64 × UInt64)) := fun (n : Nat)
 (J :
 Arr
 [PT.int IntKind.i64, PT.list1 (CT.int IntKind.u64), PT.int IntKind.i64, PT.int IntKind.i64, PT.int IntKind.u64,
 PT.int IntKind.u64, PT.int IntKind.u64,
 PT.list
 (CTs.cons (CT.int IntKind.u64)
 (CTs.cons CT.bool
 (CTs.cons (CT.int IntKind.u8)
 (CTs.cons (CT.int IntKind.u64)
 (CTs.cons (CT.int IntKind.u64)
 (CTs.cons CT.str
 (CTs.cons (CT.ro (CTs.cons CT.str (CTs.cons CT.str CTs.nil)))
 (CTs.cons (CT.int IntKind.u8)
 (CTs.cons (CT.int IntKind.u8)
 (CTs.cons (CT.int IntKind.i64)
 (CTs.cons (CT.int IntKind.u8)
 (CTs.cons (CT.int IntKind.u8)
 (CTs.cons (CT.int IntKind.u64) (CTs.cons (CT.int IntKind.u64) CTs.nil))))))))))))))]
 (Option
 (Int64 ×
 Option
 ((Int64 ×
 Int64 ×
 UInt64 ×
 UInt64 ×
 List
 (UInt64 ×
 Bool ×
 UInt8 ×
 UInt64 ×
 UInt64 ×
 List UInt8 ×
 List (List UInt8 × List UInt8) ×
 UInt8 × UInt8 × Int64 × UInt8 × UInt8 × UInt64 × UInt64)) ×
 List UInt64 × UInt64))))
 (rec :
 Arr
 [PT.int IntKind.u64, PT.int IntKind.i64, PT.list1 (CT.int IntKind.u64), PT.int IntKind.i64, PT.int IntKind.i64,
 PT.int IntKind.u64, PT.int IntKind.u64, PT.int IntKind.u64,
 PT.list
 (CTs.cons (CT.int IntKind.u64)
 (CTs.cons CT.bool
 (CTs.cons (CT.int IntKind.u8)
 (CTs.cons (CT.int IntKind.u64)
 (CTs.cons (CT.int IntKind.u64)
 (CTs.cons CT.str
 (CTs.cons (CT.ro (CTs.cons CT.str (CTs.cons CT.str CTs.nil)))
 (CTs.cons (CT.int IntKind.u8)
 (CTs.cons (CT.int IntKind.u8)
 (CTs.cons (CT.int IntKind.i64)
 (CTs.cons (CT.int IntKind.u8)
 (CTs.cons (CT.int IntKind.u8)
 (CTs.cons (CT.int IntKind.u64) (CTs.cons (CT.int IntKind.u64) CTs.nil))))))))))))))]
 (Option
 (Int64 ×
 Option
 ((Int64 ×
 Int64 ×
 UInt64 ×
 UInt64 ×
 List
 (UInt64 ×
 Bool ×
 UInt8 ×
 UInt64 ×
 UInt64 ×
 List UInt8 ×
 List (List UInt8 × List UInt8) ×
 UInt8 × UInt8 × Int64 × UInt8 × UInt8 × UInt64 × UInt64)) ×
 List UInt64 × UInt64))))
 (index : UInt64) (n_ : Int64) (sa : List UInt64) (s0 s1 : Int64) (s2 s3 s5 : UInt64)
 (sl :
 List
 (UInt64 ×
 Bool ×
 UInt8 ×
 UInt64 ×
 UInt64 ×
 List UInt8 ×
 List (List UInt8 × List UInt8) × UInt8 × UInt8 × Int64 × UInt8 × UInt8 × UInt64 × UInt64)) =>
 oite (decide (n_ < Int64.ofInt ↑(List.length sl)))
 (oite (decide ((0 : Int) ≤ Int64.toInt n_) && Nat.blt (Int.toNat (Int64.toInt n_)) (List.length sl))
 (obind sl[Int.toNat (Int64.toInt n_)]?
 fun
 (x_2 :
 UInt64 ×
 Bool ×
 UInt8 ×
 UInt64 ×
 UInt64 ×
 List UInt8 ×
 List (List UInt8 × List UInt8) × UInt8 × UInt8 × Int64 × UInt8 × UInt8 × UInt64 × UInt64) =>
 oite (decide (Prod.fst x_2 ≤ index))
 (oite (decide ((0 : Int) ≤ Int64.toInt n_) && Nat.blt (Int.toNat (Int64.toInt n_)) (List.length sl))
 (obind sl[Int.toNat (Int64.toInt n_)]?
 fun
 (x_3 :
 UInt64 ×
 Bool ×
 UInt8 ×
 UInt64 ×
 UInt64 ×
 List UInt8 ×
 List (List UInt8 × List UInt8) ×
 UInt8 × UInt8 × Int64 × UInt8 × UInt8 × UInt64 × UInt64) =>
 obind
 (F27 n
 (Prod.fst (Prod.snd x_3), Prod.fst (Prod.snd (Prod.snd x_3)),
 Prod.fst (Prod.snd (Prod.snd (Prod.snd x_3))),
 Prod.fst (Prod.snd (Prod.snd (Prod.snd (Prod.snd x_3)))),
 Prod.fst (Prod.snd (Prod.snd (Prod.snd (Prod.snd (Prod.snd x_3))))),
 Prod.fst (Prod.snd (Prod.snd (Prod.snd (Prod.snd (Prod.snd (Prod.snd x_3)))))),
 Prod.fst (Prod.snd (Prod.snd (Prod.snd (Prod.snd (Prod.snd (Prod.snd (Prod.snd x_3))))))),
 Prod.fst
 (Prod.snd (Prod.snd (Prod.snd (Prod.snd (Prod.snd (Prod.snd (Prod.snd (Prod.snd x_3)))))))),
 Prod.fst
 (Prod.snd
 (Prod.snd (Prod.snd (Prod.snd (Prod.snd (Prod.snd (Prod.snd (Prod.snd (Prod.snd x_3))))))))),
 Prod.fst
 (Prod.snd
 (Prod.snd
 (Prod.snd (Prod.snd (Prod.snd (Prod.snd (Prod.snd (Prod.snd (Prod.snd (Prod.snd x_3)))))))))),
 Prod.fst
 (Prod.snd
 (Prod.snd
 (Prod.snd
 (Prod.snd
 (Prod.snd (Prod.snd (Prod.snd (Prod.snd (Prod.snd (Prod.snd (Prod.snd x_3))))))))))),
 Prod.fst
 (Prod.snd
 (Prod.snd
 (Prod.snd
 (Prod.snd
 (Prod.snd
 (Prod.snd (Prod.snd (Prod.snd (Prod.snd (Prod.snd (Prod.snd (Prod.snd x_3)))))))))))),
 Prod.snd
 (Prod.snd
 (Prod.snd
 (Prod.snd
 (Prod.snd
 (Prod.snd
 (Prod.snd (Prod.snd (Prod.snd (Prod.snd (Prod.snd (Prod.snd (Prod.snd x_3))))))))))))))
 fun (x_4 : Int64 × Unit) => rec index (n_ + (1 : Int64)) sa s0 (s1 - Prod.fst x_4) s2 s3 s5 sl)
 none)
 (J n_ sa s0 s1 s2 s3 s5 sl))
 none)
 (J n_ sa s0 s1 s2 s3 s5 sl)
def F16_R62 : Nat →
 Arr
 [PT.int IntKind.i64, PT.list1 (CT.int IntKind.u64), PT.int IntKind.i64, PT.int IntKind.i64, PT.int IntKind.u64,
 PT.int IntKind.u64, PT.int IntKind.u64,
 PT.list
 (CTs.cons (CT.int IntKind.u64)
 (CTs.cons CT.bool
 (CTs.cons (CT.int IntKind.u8)
 (CTs.cons (CT.int IntKind.u64)
 (CTs.cons (CT.int IntKind.u64)
 (CTs.cons CT.str
 (CTs.cons (CT.ro (CTs.cons CT.str (CTs.cons CT.str CTs.nil)))
 (CTs.cons (CT.int IntKind.u8)
 (CTs.cons (CT.int IntKind.u8)
 (CTs.cons (CT.int IntKind.i64)
 (CTs.cons (CT.int IntKind.u8)
 (CTs.cons (CT.int IntKind.u8)
 (CTs.cons (CT.int IntKind.u64) (CTs.cons (CT.int IntKind.u64) CTs.nil))))))))))))))]
 (Option
 (Int64 ×
 Option
 ((Int64 ×
 Int64 ×
 UInt64 ×
 UInt64 ×
 List
 (UInt64 ×
 Bool ×
 UInt8 ×
 UInt64 ×
 UInt64 ×
 List UInt8 ×
 List (List UInt8 × List UInt8) ×
 UInt8 × UInt8 × Int64 × UInt8 × UInt8 × UInt64 × UInt64)) ×
 List UInt64 × UInt64))) →
 Nat →
 PT.T (PT.int IntKind.u64) →
 Int64 →
 List UInt64 →
 Int64 →
 Int64 →
 UInt64 →
 UInt64 →
 UInt64 →
 List
 (UInt64 ×
 Bool ×
 UInt8 ×
 UInt64 ×
 UInt64 ×
 List UInt8 ×
 List (List UInt8 × List UInt8) ×
 UInt8 × UInt8 × Int64 × UInt8 × UInt8 × UInt64 × UInt64) →
 Option
 (Int64 ×
 Option
 ((Int64 ×
 Int64 ×
 UInt64 ×
 UInt64 ×
 List
 (UInt64 ×
 Bool ×
 UInt8 ×
 UInt64 ×
 UInt64 ×
 List UInt8 ×
 List (List UInt8 × List UInt8) ×
 UInt8 × UInt8 × Int64 × UInt8 × UInt8 × UInt64 × UInt64)) ×
 List UInt64 × UInt64)) := fun (n : Nat)
 (J :
 Arr
 [PT.int IntKind.i64, PT.list1 (CT.int IntKind.u64), PT.int IntKind.i64, PT.int IntKind.i64, PT.int IntKind.u64,
 PT.int IntKind.u64, PT.int IntKind.u64,
 PT.list
 (CTs.cons (CT.int IntKind.u64)
 (CTs.cons CT.bool
 (CTs.cons (CT.int IntKind.u8)
 (CTs.cons (CT.int IntKind.u64)
 (CTs.cons (CT.int IntKind.u64)
 (CTs.cons CT.str
 (CTs.cons (CT.ro (CTs.cons CT.str (CTs.cons CT.str CTs.nil)))
 (CTs.cons (CT.int IntKind.u8)
 (CTs.cons (CT.int IntKind.u8)
 (CTs.cons (CT.int IntKind.i64)
 (CTs.cons (CT.int IntKind.u8)
 (CTs.cons (CT.int IntKind.u8)
 (CTs.cons (CT.int IntKind.u64) (CTs.cons (CT.int IntKind.u64) CTs.nil))))))))))))))]
 (Option
 (Int64 ×
 Option
 ((Int64 ×
 Int64 ×
 UInt64 ×
 UInt64 ×
 List
 (UInt64 ×
 Bool ×
 UInt8 ×
 UInt64 ×
 UInt64 ×
 List UInt8 ×
 List (List UInt8 × List UInt8) ×
 UInt8 × UInt8 × Int64 × UInt8 × UInt8 × UInt64 × UInt64)) ×
 List UInt64 × UInt64)))) =>
 ofixA (62 : Nat)
 [PT.int IntKind.u64, PT.int IntKind.i64, PT.list1 (CT.int IntKind.u64), PT.int IntKind.i64, PT.int IntKind.i64,
 PT.int IntKind.u64, PT.int IntKind.u64, PT.int IntKind.u64,
 PT.list
 (CTs.cons (CT.int IntKind.u64)
 (CTs.cons CT.bool
 (CTs.cons (CT.int IntKind.u8)
 (CTs.cons (CT.int IntKind.u64)
 (CTs.cons (CT.int IntKind.u64)
 (CTs.cons CT.str
 (CTs.cons (CT.ro (CTs.cons CT.str (CTs.cons CT.str CTs.nil)))
 (CTs.cons (CT.int IntKind.u8)
 (CTs.cons (CT.int IntKind.u8)
 (CTs.cons (CT.int IntKind.i64)
 (CTs.cons (CT.int IntKind.u8)
 (CTs.cons (CT.int IntKind.u8)
 (CTs.cons (CT.int IntKind.u64) (CTs.cons (CT.int IntKind.u64) CTs.nil))))))))))))))]
 (F16_L62 n J)
def F16 : Nat →
 Option
 ((Int64 ×
 Int64 ×
 UInt64 ×
 UInt64 ×
 List
 (UInt64 ×
 Bool ×
 UInt8 ×
 UInt64 ×
 UInt64 ×
 List UInt8 ×
 List (List UInt8 × List UInt8) ×
 UInt8 × UInt8 × Int64 × UInt8 × UInt8 × UInt64 × UInt64)) ×
 List UInt64 × UInt64) ×
 UInt64 →
 Option
 (Int64 ×
 Option
 ((Int64 ×
 Int64 ×
 UInt64 ×
 UInt64 ×
 List
 (UInt64 ×
 Bool ×
 UInt8 ×
 UInt64 ×
 UInt64 ×
 List UInt8 ×
 List (List UInt8 × List UInt8) ×
 UInt8 × UInt8 × Int64 × UInt8 × UInt8 × UInt64 × UInt64)) ×
 List UInt64 × UInt64)) := fun (n : Nat)
 (x :
 Option
 ((Int64 ×
 Int64 ×
 UInt64 ×
 UInt64 ×
 List
 (UInt64 ×
 Bool ×
 UInt8 ×
 UInt64 ×
 UInt64 ×
 List UInt8 ×
 List (List UInt8 × List UInt8) ×
 UInt8 × UInt8 × Int64 × UInt8 × UInt8 × UInt64 × UInt64)) ×
 List UInt64 × UInt64) ×
 UInt64) =>
 oelim (Prod.fst x) (some ((1 : Int64), none))
 fun
 (x_1 :
 (Int64 ×
 Int64 ×
 UInt64 ×
 UInt64 ×
 List
 (UInt64 ×
 Bool ×
 UInt8 ×
 UInt64 ×
 UInt64 ×
 List UInt8 ×
 List (List UInt8 × List UInt8) ×
 UInt8 × UInt8 × Int64 × UInt8 × UInt8 × UInt64 × UInt64)) ×
 List UInt64 × UInt64) =>
 oite (decide (Prod.fst (Prod.snd (Prod.snd (Prod.fst x_1))) ≤ Prod.snd x))
 (some
 ((6 : Int64),
 some
 ((Prod.fst (Prod.fst x_1), Prod.fst (Prod.snd (Prod.fst x_1)),
 Prod.fst (Prod.snd (Prod.snd (Prod.fst x_1))), Prod.fst (Prod.snd (Prod.snd (Prod.snd (Prod.fst x_1)))),
 Prod.snd (Prod.snd (Prod.snd (Prod.snd (Prod.fst x_1))))),
 Prod.fst (Prod.snd x_1), Prod.snd (Prod.snd x_1))))
 (oite (decide (Prod.snd x ≤ Prod.fst (Prod.snd (Prod.snd (Prod.snd (Prod.fst x_1))))))
 (some
 ((17 : Int64),
 some
 ((Prod.fst (Prod.fst x_1), Prod.fst (Prod.snd (Prod.fst x_1)),
 Prod.fst (Prod.snd (Prod.snd (Prod.fst x_1))),
 Prod.fst (Prod.snd (Prod.snd (Prod.snd (Prod.fst x_1)))),
 Prod.snd (Prod.snd (Prod.snd (Prod.snd (Prod.fst x_1))))),
 Prod.fst (Prod.snd x_1), Prod.snd (Prod.snd x_1))))
 (ojoinA (31 : Nat)
 [PT.int IntKind.i64, PT.list1 (CT.int IntKind.u64), PT.int IntKind.i64, PT.int IntKind.i64,
 PT.int IntKind.u64, PT.int IntKind.u64, PT.int IntKind.u64,
 PT.list
 (CTs.cons (CT.int IntKind.u64)
 (CTs.cons CT.bool
 (CTs.cons (CT.int IntKind.u8)
 (CTs.cons (CT.int IntKind.u64)
 (CTs.cons (CT.int IntKind.u64)
 (CTs.cons CT.str
 (CTs.cons (CT.ro (CTs.cons CT.str (CTs.cons CT.str CTs.nil)))
 (CTs.cons (CT.int IntKind.u8)
 (CTs.cons (CT.int IntKind.u8)
 (CTs.cons (CT.int IntKind.i64)
 (CTs.cons (CT.int IntKind.u8)
 (CTs.cons (CT.int IntKind.u8)
 (CTs.cons (CT.int IntKind.u64)
 (CTs.cons (CT.int IntKind.u64) CTs.nil))))))))))))))]
 (fun
 (J :
 Arr
 [PT.int IntKind.i64, PT.list1 (CT.int IntKind.u64), PT.int IntKind.i64, PT.int IntKind.i64,
 PT.int IntKind.u64, PT.int IntKind.u64, PT.int IntKind.u64,
 PT.list
 (CTs.cons (CT.int IntKind.u64)
 (CTs.cons CT.bool
 (CTs.cons (CT.int IntKind.u8)
 (CTs.cons (CT.int IntKind.u64)
 (CTs.cons (CT.int IntKind.u64)
 (CTs.cons CT.str
 (CTs.cons (CT.ro (CTs.cons CT.str (CTs.cons CT.str CTs.nil)))
 (CTs.cons (CT.int IntKind.u8)
 (CTs.cons (CT.int IntKind.u8)
 (CTs.cons (CT.int IntKind.i64)
 (CTs.cons (CT.int IntKind.u8)
 (CTs.cons (CT.int IntKind.u8)
 (CTs.cons (CT.int IntKind.u64)
 (CTs.cons (CT.int IntKind.u64) CTs.nil))))))))))))))]
 (Option
 (Int64 ×
 Option
 ((Int64 ×
 Int64 ×
 UInt64 ×
 UInt64 ×
 List
 (UInt64 ×
 Bool ×
 UInt8 ×
 UInt64 ×
 UInt64 ×
 List UInt8 ×
 List (List UInt8 × List UInt8) ×
 UInt8 × UInt8 × Int64 × UInt8 × UInt8 × UInt64 × UInt64)) ×
 List UInt64 × UInt64)))) =>
 F16_R62 n J n (Prod.snd x) (0 : Int64) (Prod.fst (Prod.snd x_1)) (Prod.fst (Prod.fst x_1))
 (Prod.fst (Prod.snd (Prod.fst x_1))) (Prod.fst (Prod.snd (Prod.snd (Prod.fst x_1)))) (Prod.snd x)
 (Prod.snd (Prod.snd x_1)) (Prod.snd (Prod.snd (Prod.snd (Prod.snd (Prod.fst x_1))))))
 (F16_J31 n)))
theorem F16_R62_s (n : Nat) (J : Arr [PT.int IntKind.i64, PT.list1 (CT.int IntKind.u64), PT.int IntKind.i64, PT.int IntKind.i64, PT.int IntKind.u64, PT.int IntKind.u64, PT.int IntKind.u64, PT.list (CTs.cons (CT.int IntKind.u64) (CTs.cons CT.bool (CTs.cons (CT.int IntKind.u8) (CTs.cons (CT.int IntKind.u64) (CTs.cons (CT.int IntKind.u64) (CTs.cons CT.str (CTs.cons (CT.ro (CTs.cons CT.str (CTs.cons CT.str CTs.nil))) (CTs.cons (CT.int IntKind.u8) (CTs.cons (CT.int IntKind.u8) (CTs.cons (CT.int IntKind.i64) (CTs.cons (CT.int IntKind.u8) (CTs.cons (CT.int IntKind.u8) (CTs.cons (CT.int IntKind.u64) (CTs.cons (CT.int IntKind.u64) CTs.nil))))))))))))))] (Option (Int64 × Option ((Int64 × Int64 × UInt64 × UInt64 × List (UInt64 × Bool × UInt8 × UInt64 × UInt64 × List UInt8 × List (List UInt8 × List UInt8) × UInt8 × UInt8 × Int64 × UInt8 × UInt8 × UInt64 × UInt64)) × List UInt64 × UInt64)))) (m_ : Nat) : F16_R62 n J (m_ + 1) = F16_L62 n J (F16_R62 n J m_) := rfl
theorem ok16 (n : Nat) : FunOK Try.prog ⟨16, sig16, F16 n⟩ :=
 fun_ok (hints := ⟨[(31, ⟨[(0, .one (.own 0)), (5, .one (.int .i64))], [(0, .cellsA [.int .i64, .int .i64, .int .u64, .int .u64, .own 2] (.int .u64) 32 [.int .u64]), (2, .row (.cons (.int .u64) (.cons .bool (.cons (.int .u8) (.cons (.int .u64) (.cons (.int .u64) (.cons .str (.cons (.ro (.cons .str (.cons .str .nil))) (.cons (.int .u8) (.cons (.int .u8) (.cons (.int .i64) (.cons (.int .u8) (.cons (.int .u8) (.cons (.int .u64) (.cons (.int .u64) .nil)))))))))))))))], 3⟩)], [(62, ⟨[(0, .one (.own 0)), (1, .one (.int .u64)), (5, .one (.int .i64))], [(0, .cellsA [.int .i64, .int .i64, .int .u64, .int .u64, .own 2] (.int .u64) 32 [.int .u64]), (2, .row (.cons (.int .u64) (.cons .bool (.cons (.int .u8) (.cons (.int .u64) (.cons (.int .u64) (.cons .str (.cons (.ro (.cons .str (.cons .str .nil))) (.cons (.int .u8) (.cons (.int .u8) (.cons (.int .i64) (.cons (.int .u8) (.cons (.int .u8) (.cons (.int .u64) (.cons (.int .u64) .nil)))))))))))))))], 3⟩)]⟩) (fuel := n) (c := Try.f16.body.getD .skip) (rs := Try.f16.results.toList) tt_ok mix (FsOK.cons (ok27 n) (FsOK.cons (ok1033 n) (FsOK.cons (ok33 n) (FsOK.nil)))) Try.func16 (by kernel_rfl) (by kernel_rfl) rfl (by kernel_rfl) rfl rfl (by kernel_rfl)
-- watchfire/watchfirelaw08.has
def sig35 : Sig := ⟨(.cons (.one (.c (.ro (.cons (.int .u64) (.cons .bool (.cons (.int .u8) (.cons (.int .u64) (.cons (.int .u64) (.cons .str (.cons (.ro (.cons .str (.cons .str .nil))) (.cons (.int .u8) (.cons (.int .u8) (.cons (.int .i64) (.cons (.int .u8) (.cons (.int .u8) (.cons (.int .u64) (.cons (.int .u64) .nil))))))))))))))))) (.cons (.agg (.cons .bool (.cons (.int .u8) (.cons (.int .u64) (.cons (.int .u64) (.cons .str (.cons (.ro (.cons .str (.cons .str .nil))) (.cons (.int .u8) (.cons (.int .u8) (.cons (.int .i64) (.cons (.int .u8) (.cons (.int .u8) (.cons (.int .u64) (.cons (.int .u64) .nil)))))))))))))) .nil)), (.cons (.one (.c .bool)) .nil)⟩
def F35_L13 : Nat →
 Arr
 [PT.list
 (CTs.cons (CT.int IntKind.u64)
 (CTs.cons CT.bool
 (CTs.cons (CT.int IntKind.u8)
 (CTs.cons (CT.int IntKind.u64)
 (CTs.cons (CT.int IntKind.u64)
 (CTs.cons CT.str
 (CTs.cons (CT.ro (CTs.cons CT.str (CTs.cons CT.str CTs.nil)))
 (CTs.cons (CT.int IntKind.u8)
 (CTs.cons (CT.int IntKind.u8)
 (CTs.cons (CT.int IntKind.i64)
 (CTs.cons (CT.int IntKind.u8)
 (CTs.cons (CT.int IntKind.u8)
 (CTs.cons (CT.int IntKind.u64) (CTs.cons (CT.int IntKind.u64) CTs.nil)))))))))))))),
 PT.int IntKind.i64, PT.int IntKind.i64, PT.bool, PT.int IntKind.u8, PT.int IntKind.u64, PT.int IntKind.u64,
 PT.bytes, PT.list (CTs.cons CT.str (CTs.cons CT.str CTs.nil)), PT.int IntKind.u8, PT.int IntKind.u8,
 PT.int IntKind.i64, PT.int IntKind.u8, PT.int IntKind.u8, PT.int IntKind.u64, PT.int IntKind.u64]
 (Option (Bool × Unit)) →
 List
 (UInt64 ×
 Bool ×
 UInt8 ×
 UInt64 ×
 UInt64 ×
 List UInt8 ×
 List (List UInt8 × List UInt8) × UInt8 × UInt8 × Int64 × UInt8 × UInt8 × UInt64 × UInt64) →
 Int64 →
 Int64 →
 Bool →
 UInt8 →
 UInt64 →
 UInt64 →
 List UInt8 →
 List (List UInt8 × List UInt8) →
 UInt8 → UInt8 → Int64 → UInt8 → UInt8 → UInt64 → UInt64 → Option (Bool × Unit) := fun (n : Nat)
 (rec :
 Arr
 [PT.list
 (CTs.cons (CT.int IntKind.u64)
 (CTs.cons CT.bool
 (CTs.cons (CT.int IntKind.u8)
 (CTs.cons (CT.int IntKind.u64)
 (CTs.cons (CT.int IntKind.u64)
 (CTs.cons CT.str
 (CTs.cons (CT.ro (CTs.cons CT.str (CTs.cons CT.str CTs.nil)))
 (CTs.cons (CT.int IntKind.u8)
 (CTs.cons (CT.int IntKind.u8)
 (CTs.cons (CT.int IntKind.i64)
 (CTs.cons (CT.int IntKind.u8)
 (CTs.cons (CT.int IntKind.u8)
 (CTs.cons (CT.int IntKind.u64) (CTs.cons (CT.int IntKind.u64) CTs.nil)))))))))))))),
 PT.int IntKind.i64, PT.int IntKind.i64, PT.bool, PT.int IntKind.u8, PT.int IntKind.u64, PT.int IntKind.u64,
 PT.bytes, PT.list (CTs.cons CT.str (CTs.cons CT.str CTs.nil)), PT.int IntKind.u8, PT.int IntKind.u8,
 PT.int IntKind.i64, PT.int IntKind.u8, PT.int IntKind.u8, PT.int IntKind.u64, PT.int IntKind.u64]
 (Option (Bool × Unit)))
 (t :
 List
 (UInt64 ×
 Bool ×
 UInt8 ×
 UInt64 ×
 UInt64 ×
 List UInt8 ×
 List (List UInt8 × List UInt8) × UInt8 × UInt8 × Int64 × UInt8 × UInt8 × UInt64 × UInt64))
 (t_1 t_2 : Int64) (x0 : Bool) (x1 : UInt8) (x2 x3 : UInt64) (x4 : List UInt8) (x5 : List (List UInt8 × List UInt8))
 (x6 x7 : UInt8) (x8 : Int64) (x9 x10 : UInt8) (x11 x12 : UInt64) =>
 oite (decide (t_2 < t_1))
 (obind (at? t (Int64.toInt t_2))
 fun
 (x_1 :
 UInt64 ×
 Bool ×
 UInt8 ×
 UInt64 ×
 UInt64 ×
 List UInt8 ×
 List (List UInt8 × List UInt8) × UInt8 × UInt8 × Int64 × UInt8 × UInt8 × UInt64 × UInt64) =>
 obind
 (F14 n
 ((x0, x1, x2, x3, x4, x5, x6, x7, x8, x9, x10, x11, x12), Prod.fst (Prod.snd x_1),
 Prod.fst (Prod.snd (Prod.snd x_1)), Prod.fst (Prod.snd (Prod.snd (Prod.snd x_1))),
 Prod.fst (Prod.snd (Prod.snd (Prod.snd (Prod.snd x_1)))),
 Prod.fst (Prod.snd (Prod.snd (Prod.snd (Prod.snd (Prod.snd x_1))))),
 Prod.fst (Prod.snd (Prod.snd (Prod.snd (Prod.snd (Prod.snd (Prod.snd x_1)))))),
 Prod.fst (Prod.snd (Prod.snd (Prod.snd (Prod.snd (Prod.snd (Prod.snd (Prod.snd x_1))))))),
 Prod.fst (Prod.snd (Prod.snd (Prod.snd (Prod.snd (Prod.snd (Prod.snd (Prod.snd (Prod.snd x_1)))))))),
 Prod.fst
 (Prod.snd (Prod.snd (Prod.snd (Prod.snd (Prod.snd (Prod.snd (Prod.snd (Prod.snd (Prod.snd x_1))))))))),
 Prod.fst
 (Prod.snd
 (Prod.snd (Prod.snd (Prod.snd (Prod.snd (Prod.snd (Prod.snd (Prod.snd (Prod.snd (Prod.snd x_1)))))))))),
 Prod.fst
 (Prod.snd
 (Prod.snd
 (Prod.snd
 (Prod.snd (Prod.snd (Prod.snd (Prod.snd (Prod.snd (Prod.snd (Prod.snd (Prod.snd x_1))))))))))),
 Prod.fst
 (Prod.snd
 (Prod.snd
 (Prod.snd
 (Prod.snd
 (Prod.snd (Prod.snd (Prod.snd (Prod.snd (Prod.snd (Prod.snd (Prod.snd (Prod.snd x_1)))))))))))),
 Prod.snd
 (Prod.snd
 (Prod.snd
 (Prod.snd
 (Prod.snd
 (Prod.snd (Prod.snd (Prod.snd (Prod.snd (Prod.snd (Prod.snd (Prod.snd (Prod.snd x_1))))))))))))))
 fun (x_2 : Bool × Unit) =>
 oite (Prod.fst x_2) (some (true, ()))
 (rec t t_1 (t_2 + (1 : Int64)) x0 x1 x2 x3 x4 x5 x6 x7 x8 x9 x10 x11 x12))
 (some (false, ()))
def F35_R13 : Nat →
 Nat →
 PT.T
 (PT.list
 (CTs.cons (CT.int IntKind.u64)
 (CTs.cons CT.bool
 (CTs.cons (CT.int IntKind.u8)
 (CTs.cons (CT.int IntKind.u64)
 (CTs.cons (CT.int IntKind.u64)
 (CTs.cons CT.str
 (CTs.cons (CT.ro (CTs.cons CT.str (CTs.cons CT.str CTs.nil)))
 (CTs.cons (CT.int IntKind.u8)
 (CTs.cons (CT.int IntKind.u8)
 (CTs.cons (CT.int IntKind.i64)
 (CTs.cons (CT.int IntKind.u8)
 (CTs.cons (CT.int IntKind.u8)
 (CTs.cons (CT.int IntKind.u64) (CTs.cons (CT.int IntKind.u64) CTs.nil))))))))))))))) →
 Int64 →
 Int64 →
 Bool →
 UInt8 →
 UInt64 →
 UInt64 →
 List UInt8 →
 List (List UInt8 × List UInt8) →
 UInt8 → UInt8 → Int64 → UInt8 → UInt8 → UInt64 → UInt64 → Option (Bool × Unit) := fun (n : Nat) =>
 ofixA (13 : Nat)
 [PT.list
 (CTs.cons (CT.int IntKind.u64)
 (CTs.cons CT.bool
 (CTs.cons (CT.int IntKind.u8)
 (CTs.cons (CT.int IntKind.u64)
 (CTs.cons (CT.int IntKind.u64)
 (CTs.cons CT.str
 (CTs.cons (CT.ro (CTs.cons CT.str (CTs.cons CT.str CTs.nil)))
 (CTs.cons (CT.int IntKind.u8)
 (CTs.cons (CT.int IntKind.u8)
 (CTs.cons (CT.int IntKind.i64)
 (CTs.cons (CT.int IntKind.u8)
 (CTs.cons (CT.int IntKind.u8)
 (CTs.cons (CT.int IntKind.u64) (CTs.cons (CT.int IntKind.u64) CTs.nil)))))))))))))),
 PT.int IntKind.i64, PT.int IntKind.i64, PT.bool, PT.int IntKind.u8, PT.int IntKind.u64, PT.int IntKind.u64,
 PT.bytes, PT.list (CTs.cons CT.str (CTs.cons CT.str CTs.nil)), PT.int IntKind.u8, PT.int IntKind.u8,
 PT.int IntKind.i64, PT.int IntKind.u8, PT.int IntKind.u8, PT.int IntKind.u64, PT.int IntKind.u64]
 (F35_L13 n)
def F35 : Nat →
 List
 (UInt64 ×
 Bool ×
 UInt8 ×
 UInt64 ×
 UInt64 ×
 List UInt8 ×
 List (List UInt8 × List UInt8) × UInt8 × UInt8 × Int64 × UInt8 × UInt8 × UInt64 × UInt64) ×
 Bool ×
 UInt8 ×
 UInt64 ×
 UInt64 ×
 List UInt8 × List (List UInt8 × List UInt8) × UInt8 × UInt8 × Int64 × UInt8 × UInt8 × UInt64 × UInt64 →
 Option (Bool × Unit) := fun (n : Nat)
 (x :
 List
 (UInt64 ×
 Bool ×
 UInt8 ×
 UInt64 ×
 UInt64 ×
 List UInt8 ×
 List (List UInt8 × List UInt8) × UInt8 × UInt8 × Int64 × UInt8 × UInt8 × UInt64 × UInt64) ×
 Bool ×
 UInt8 ×
 UInt64 ×
 UInt64 ×
 List UInt8 ×
 List (List UInt8 × List UInt8) × UInt8 × UInt8 × Int64 × UInt8 × UInt8 × UInt64 × UInt64) =>
 F35_R13 n n (Prod.fst x) (Int64.ofInt ↑(List.length (Prod.fst x))) (0 : Int64) (Prod.fst (Prod.snd x))
 (Prod.fst (Prod.snd (Prod.snd x))) (Prod.fst (Prod.snd (Prod.snd (Prod.snd x))))
 (Prod.fst (Prod.snd (Prod.snd (Prod.snd (Prod.snd x)))))
 (Prod.fst (Prod.snd (Prod.snd (Prod.snd (Prod.snd (Prod.snd x))))))
 (Prod.fst (Prod.snd (Prod.snd (Prod.snd (Prod.snd (Prod.snd (Prod.snd x)))))))
 (Prod.fst (Prod.snd (Prod.snd (Prod.snd (Prod.snd (Prod.snd (Prod.snd (Prod.snd x))))))))
 (Prod.fst (Prod.snd (Prod.snd (Prod.snd (Prod.snd (Prod.snd (Prod.snd (Prod.snd (Prod.snd x)))))))))
 (Prod.fst (Prod.snd (Prod.snd (Prod.snd (Prod.snd (Prod.snd (Prod.snd (Prod.snd (Prod.snd (Prod.snd x))))))))))
 (Prod.fst
 (Prod.snd (Prod.snd (Prod.snd (Prod.snd (Prod.snd (Prod.snd (Prod.snd (Prod.snd (Prod.snd (Prod.snd x)))))))))))
 (Prod.fst
 (Prod.snd
 (Prod.snd
 (Prod.snd (Prod.snd (Prod.snd (Prod.snd (Prod.snd (Prod.snd (Prod.snd (Prod.snd (Prod.snd x))))))))))))
 (Prod.fst
 (Prod.snd
 (Prod.snd
 (Prod.snd
 (Prod.snd (Prod.snd (Prod.snd (Prod.snd (Prod.snd (Prod.snd (Prod.snd (Prod.snd (Prod.snd x)))))))))))))
 (Prod.snd
 (Prod.snd
 (Prod.snd
 (Prod.snd
 (Prod.snd (Prod.snd (Prod.snd (Prod.snd (Prod.snd (Prod.snd (Prod.snd (Prod.snd (Prod.snd x)))))))))))))
theorem F35_R13_s (n : Nat) (m_ : Nat) : F35_R13 n (m_ + 1) = F35_L13 n (F35_R13 n m_) := rfl
theorem ok35 (n : Nat) : FunOK Try.prog ⟨35, sig35, F35 n⟩ :=
 fun_ok (hints := ⟨[], [(13, ⟨[(3, .one (.own 2)), (7, .one (.ro (.cons (.int .u64) (.cons .bool (.cons (.int .u8) (.cons (.int .u64) (.cons (.int .u64) (.cons .str (.cons (.ro (.cons .str (.cons .str .nil))) (.cons (.int .u8) (.cons (.int .u8) (.cons (.int .i64) (.cons (.int .u8) (.cons (.int .u8) (.cons (.int .u64) (.cons (.int .u64) .nil)))))))))))))))), (8, .one (.int .i64)), (9, .one (.int .i64))], [(2, .cells [.bool, .int .u8, .int .u64, .int .u64, .str, .ro (.cons .str (.cons .str .nil)), .int .u8, .int .u8, .int .i64, .int .u8, .int .u8, .int .u64, .int .u64])], 3⟩)]⟩) (fuel := n) (c := Try.f35.body.getD .skip) (rs := Try.f35.results.toList) tt_ok mix (FsOK.cons (ok14 n) (FsOK.nil)) Try.func35 (by kernel_rfl) (by kernel_rfl) rfl (by kernel_rfl) rfl rfl (by kernel_rfl)
-- watchfire/watchfirelaw08.kept
def sig17 : Sig := ⟨(.cons (.one (.c (.ro (.cons (.int .u64) (.cons .bool (.cons (.int .u8) (.cons (.int .u64) (.cons (.int .u64) (.cons .str (.cons (.ro (.cons .str (.cons .str .nil))) (.cons (.int .u8) (.cons (.int .u8) (.cons (.int .i64) (.cons (.int .u8) (.cons (.int .u8) (.cons (.int .u64) (.cons (.int .u64) .nil))))))))))))))))) (.cons (.one (.c (.ro (.cons (.int .u64) (.cons .bool (.cons (.int .u8) (.cons (.int .u64) (.cons (.int .u64) (.cons .str (.cons (.ro (.cons .str (.cons .str .nil))) (.cons (.int .u8) (.cons (.int .u8) (.cons (.int .i64) (.cons (.int .u8) (.cons (.int .u8) (.cons (.int .u64) (.cons (.int .u64) .nil))))))))))))))))) (.cons (.agg (.cons .bool (.cons (.int .u8) (.cons (.int .u64) (.cons (.int .u64) (.cons .str (.cons (.ro (.cons .str (.cons .str .nil))) (.cons (.int .u8) (.cons (.int .u8) (.cons (.int .i64) (.cons (.int .u8) (.cons (.int .u8) (.cons (.int .u64) (.cons (.int .u64) .nil)))))))))))))) .nil))), (.cons (.one (.c .bool)) .nil)⟩
def F17_L29 : Nat →
 Arr
 [PT.list
 (CTs.cons (CT.int IntKind.u64)
 (CTs.cons CT.bool
 (CTs.cons (CT.int IntKind.u8)
 (CTs.cons (CT.int IntKind.u64)
 (CTs.cons (CT.int IntKind.u64)
 (CTs.cons CT.str
 (CTs.cons (CT.ro (CTs.cons CT.str (CTs.cons CT.str CTs.nil)))
 (CTs.cons (CT.int IntKind.u8)
 (CTs.cons (CT.int IntKind.u8)
 (CTs.cons (CT.int IntKind.i64)
 (CTs.cons (CT.int IntKind.u8)
 (CTs.cons (CT.int IntKind.u8)
 (CTs.cons (CT.int IntKind.u64) (CTs.cons (CT.int IntKind.u64) CTs.nil)))))))))))))),
 PT.int IntKind.i64, PT.int IntKind.i64,
 PT.list
 (CTs.cons (CT.int IntKind.u64)
 (CTs.cons CT.bool
 (CTs.cons (CT.int IntKind.u8)
 (CTs.cons (CT.int IntKind.u64)
 (CTs.cons (CT.int IntKind.u64)
 (CTs.cons CT.str
 (CTs.cons (CT.ro (CTs.cons CT.str (CTs.cons CT.str CTs.nil)))
 (CTs.cons (CT.int IntKind.u8)
 (CTs.cons (CT.int IntKind.u8)
 (CTs.cons (CT.int IntKind.i64)
 (CTs.cons (CT.int IntKind.u8)
 (CTs.cons (CT.int IntKind.u8)
 (CTs.cons (CT.int IntKind.u64) (CTs.cons (CT.int IntKind.u64) CTs.nil)))))))))))))),
 PT.int IntKind.i64, PT.int IntKind.i64, PT.bool, PT.int IntKind.u8, PT.int IntKind.u64, PT.int IntKind.u64,
 PT.bytes, PT.list (CTs.cons CT.str (CTs.cons CT.str CTs.nil)), PT.int IntKind.u8, PT.int IntKind.u8,
 PT.int IntKind.i64, PT.int IntKind.u8, PT.int IntKind.u8, PT.int IntKind.u64, PT.int IntKind.u64]
 (Option (Bool × Unit)) →
 List
 (UInt64 ×
 Bool ×
 UInt8 ×
 UInt64 ×
 UInt64 ×
 List UInt8 ×
 List (List UInt8 × List UInt8) × UInt8 × UInt8 × Int64 × UInt8 × UInt8 × UInt64 × UInt64) →
 Int64 →
 Int64 →
 List
 (UInt64 ×
 Bool ×
 UInt8 ×
 UInt64 ×
 UInt64 ×
 List UInt8 ×
 List (List UInt8 × List UInt8) × UInt8 × UInt8 × Int64 × UInt8 × UInt8 × UInt64 × UInt64) →
 Int64 →
 Int64 →
 Bool →
 UInt8 →
 UInt64 →
 UInt64 →
 List UInt8 →
 List (List UInt8 × List UInt8) →
 UInt8 → UInt8 → Int64 → UInt8 → UInt8 → UInt64 → UInt64 → Option (Bool × Unit) := fun (n : Nat)
 (rec :
 Arr
 [PT.list
 (CTs.cons (CT.int IntKind.u64)
 (CTs.cons CT.bool
 (CTs.cons (CT.int IntKind.u8)
 (CTs.cons (CT.int IntKind.u64)
 (CTs.cons (CT.int IntKind.u64)
 (CTs.cons CT.str
 (CTs.cons (CT.ro (CTs.cons CT.str (CTs.cons CT.str CTs.nil)))
 (CTs.cons (CT.int IntKind.u8)
 (CTs.cons (CT.int IntKind.u8)
 (CTs.cons (CT.int IntKind.i64)
 (CTs.cons (CT.int IntKind.u8)
 (CTs.cons (CT.int IntKind.u8)
 (CTs.cons (CT.int IntKind.u64) (CTs.cons (CT.int IntKind.u64) CTs.nil)))))))))))))),
 PT.int IntKind.i64, PT.int IntKind.i64,
 PT.list
 (CTs.cons (CT.int IntKind.u64)
 (CTs.cons CT.bool
 (CTs.cons (CT.int IntKind.u8)
 (CTs.cons (CT.int IntKind.u64)
 (CTs.cons (CT.int IntKind.u64)
 (CTs.cons CT.str
 (CTs.cons (CT.ro (CTs.cons CT.str (CTs.cons CT.str CTs.nil)))
 (CTs.cons (CT.int IntKind.u8)
 (CTs.cons (CT.int IntKind.u8)
 (CTs.cons (CT.int IntKind.i64)
 (CTs.cons (CT.int IntKind.u8)
 (CTs.cons (CT.int IntKind.u8)
 (CTs.cons (CT.int IntKind.u64) (CTs.cons (CT.int IntKind.u64) CTs.nil)))))))))))))),
 PT.int IntKind.i64, PT.int IntKind.i64, PT.bool, PT.int IntKind.u8, PT.int IntKind.u64, PT.int IntKind.u64,
 PT.bytes, PT.list (CTs.cons CT.str (CTs.cons CT.str CTs.nil)), PT.int IntKind.u8, PT.int IntKind.u8,
 PT.int IntKind.i64, PT.int IntKind.u8, PT.int IntKind.u8, PT.int IntKind.u64, PT.int IntKind.u64]
 (Option (Bool × Unit)))
 (after :
 List
 (UInt64 ×
 Bool ×
 UInt8 ×
 UInt64 ×
 UInt64 ×
 List UInt8 ×
 List (List UInt8 × List UInt8) × UInt8 × UInt8 × Int64 × UInt8 × UInt8 × UInt64 × UInt64))
 (least most : Int64)
 (t :
 List
 (UInt64 ×
 Bool ×
 UInt8 ×
 UInt64 ×
 UInt64 ×
 List UInt8 ×
 List (List UInt8 × List UInt8) × UInt8 × UInt8 × Int64 × UInt8 × UInt8 × UInt64 × UInt64))
 (t_1 t_2 : Int64) (put0 : Bool) (put1 : UInt8) (put2 put3 : UInt64) (put4 : List UInt8)
 (put5 : List (List UInt8 × List UInt8)) (put6 put7 : UInt8) (put8 : Int64) (put9 put10 : UInt8)
 (put11 put12 : UInt64) =>
 oite (decide (t_2 < t_1))
 (obind (at? t (Int64.toInt t_2))
 fun
 (x_1 :
 UInt64 ×
 Bool ×
 UInt8 ×
 UInt64 ×
 UInt64 ×
 List UInt8 ×
 List (List UInt8 × List UInt8) × UInt8 × UInt8 × Int64 × UInt8 × UInt8 × UInt64 × UInt64) =>
 obind
 (F34 n
 (Prod.fst (Prod.snd x_1), Prod.fst (Prod.snd (Prod.snd x_1)), Prod.fst (Prod.snd (Prod.snd (Prod.snd x_1))),
 Prod.fst (Prod.snd (Prod.snd (Prod.snd (Prod.snd x_1)))),
 Prod.fst (Prod.snd (Prod.snd (Prod.snd (Prod.snd (Prod.snd x_1))))),
 Prod.fst (Prod.snd (Prod.snd (Prod.snd (Prod.snd (Prod.snd (Prod.snd x_1)))))),
 Prod.fst (Prod.snd (Prod.snd (Prod.snd (Prod.snd (Prod.snd (Prod.snd (Prod.snd x_1))))))),
 Prod.fst (Prod.snd (Prod.snd (Prod.snd (Prod.snd (Prod.snd (Prod.snd (Prod.snd (Prod.snd x_1)))))))),
 Prod.fst
 (Prod.snd (Prod.snd (Prod.snd (Prod.snd (Prod.snd (Prod.snd (Prod.snd (Prod.snd (Prod.snd x_1))))))))),
 Prod.fst
 (Prod.snd
 (Prod.snd (Prod.snd (Prod.snd (Prod.snd (Prod.snd (Prod.snd (Prod.snd (Prod.snd (Prod.snd x_1)))))))))),
 Prod.fst
 (Prod.snd
 (Prod.snd
 (Prod.snd
 (Prod.snd (Prod.snd (Prod.snd (Prod.snd (Prod.snd (Prod.snd (Prod.snd (Prod.snd x_1))))))))))),
 Prod.fst
 (Prod.snd
 (Prod.snd
 (Prod.snd
 (Prod.snd
 (Prod.snd (Prod.snd (Prod.snd (Prod.snd (Prod.snd (Prod.snd (Prod.snd (Prod.snd x_1)))))))))))),
 Prod.snd
 (Prod.snd
 (Prod.snd
 (Prod.snd
 (Prod.snd
 (Prod.snd (Prod.snd (Prod.snd (Prod.snd (Prod.snd (Prod.snd (Prod.snd (Prod.snd x_1))))))))))))))
 fun (x_2 : Bool × Unit) =>
 oite (Prod.fst x_2)
 (oite (!Prod.fst (Prod.snd x_1))
 (obind
 (F35 n
 (after, Prod.fst (Prod.snd x_1), Prod.fst (Prod.snd (Prod.snd x_1)),
 Prod.fst (Prod.snd (Prod.snd (Prod.snd x_1))),
 Prod.fst (Prod.snd (Prod.snd (Prod.snd (Prod.snd x_1)))),
 Prod.fst (Prod.snd (Prod.snd (Prod.snd (Prod.snd (Prod.snd x_1))))),
 Prod.fst (Prod.snd (Prod.snd (Prod.snd (Prod.snd (Prod.snd (Prod.snd x_1)))))),
 Prod.fst (Prod.snd (Prod.snd (Prod.snd (Prod.snd (Prod.snd (Prod.snd (Prod.snd x_1))))))),
 Prod.fst (Prod.snd (Prod.snd (Prod.snd (Prod.snd (Prod.snd (Prod.snd (Prod.snd (Prod.snd x_1)))))))),
 Prod.fst
 (Prod.snd
 (Prod.snd (Prod.snd (Prod.snd (Prod.snd (Prod.snd (Prod.snd (Prod.snd (Prod.snd x_1))))))))),
 Prod.fst
 (Prod.snd
 (Prod.snd
 (Prod.snd (Prod.snd (Prod.snd (Prod.snd (Prod.snd (Prod.snd (Prod.snd (Prod.snd x_1)))))))))),
 Prod.fst
 (Prod.snd
 (Prod.snd
 (Prod.snd
 (Prod.snd
 (Prod.snd (Prod.snd (Prod.snd (Prod.snd (Prod.snd (Prod.snd (Prod.snd x_1))))))))))),
 Prod.fst
 (Prod.snd
 (Prod.snd
 (Prod.snd
 (Prod.snd
 (Prod.snd
 (Prod.snd (Prod.snd (Prod.snd (Prod.snd (Prod.snd (Prod.snd (Prod.snd x_1)))))))))))),
 Prod.snd
 (Prod.snd
 (Prod.snd
 (Prod.snd
 (Prod.snd
 (Prod.snd
 (Prod.snd (Prod.snd (Prod.snd (Prod.snd (Prod.snd (Prod.snd (Prod.snd x_1))))))))))))))
 fun (x_3 : Bool × Unit) =>
 oite (!Prod.fst x_3) (some (false, ()))
 (rec after least most t t_1 (t_2 + (1 : Int64)) put0 put1 put2 put3 put4 put5 put6 put7 put8 put9 put10
 put11 put12))
 (rec after least most t t_1 (t_2 + (1 : Int64)) put0 put1 put2 put3 put4 put5 put6 put7 put8 put9 put10
 put11 put12))
 (obind
 (F35 n
 (after, Prod.fst (Prod.snd x_1), Prod.fst (Prod.snd (Prod.snd x_1)),
 Prod.fst (Prod.snd (Prod.snd (Prod.snd x_1))), Prod.fst (Prod.snd (Prod.snd (Prod.snd (Prod.snd x_1)))),
 Prod.fst (Prod.snd (Prod.snd (Prod.snd (Prod.snd (Prod.snd x_1))))),
 Prod.fst (Prod.snd (Prod.snd (Prod.snd (Prod.snd (Prod.snd (Prod.snd x_1)))))),
 Prod.fst (Prod.snd (Prod.snd (Prod.snd (Prod.snd (Prod.snd (Prod.snd (Prod.snd x_1))))))),
 Prod.fst (Prod.snd (Prod.snd (Prod.snd (Prod.snd (Prod.snd (Prod.snd (Prod.snd (Prod.snd x_1)))))))),
 Prod.fst
 (Prod.snd
 (Prod.snd (Prod.snd (Prod.snd (Prod.snd (Prod.snd (Prod.snd (Prod.snd (Prod.snd x_1))))))))),
 Prod.fst
 (Prod.snd
 (Prod.snd
 (Prod.snd (Prod.snd (Prod.snd (Prod.snd (Prod.snd (Prod.snd (Prod.snd (Prod.snd x_1)))))))))),
 Prod.fst
 (Prod.snd
 (Prod.snd
 (Prod.snd
 (Prod.snd (Prod.snd (Prod.snd (Prod.snd (Prod.snd (Prod.snd (Prod.snd (Prod.snd x_1))))))))))),
 Prod.fst
 (Prod.snd
 (Prod.snd
 (Prod.snd
 (Prod.snd
 (Prod.snd
 (Prod.snd (Prod.snd (Prod.snd (Prod.snd (Prod.snd (Prod.snd (Prod.snd x_1)))))))))))),
 Prod.snd
 (Prod.snd
 (Prod.snd
 (Prod.snd
 (Prod.snd
 (Prod.snd
 (Prod.snd (Prod.snd (Prod.snd (Prod.snd (Prod.snd (Prod.snd (Prod.snd x_1))))))))))))))
 fun (x_3 : Bool × Unit) =>
 oite (Prod.fst x_3)
 (rec after
 (IK.minI IntKind.i64 least
 (Int64.ofInt
 ↑(UInt8.toNat
 (Prod.fst
 (Prod.snd
 (Prod.snd (Prod.snd (Prod.snd (Prod.snd (Prod.snd (Prod.snd (Prod.snd x_1))))))))))))
 most t t_1 (t_2 + (1 : Int64)) put0 put1 put2 put3 put4 put5 put6 put7 put8 put9 put10 put11 put12)
 (rec after least
 (IK.maxI IntKind.i64 most
 (Int64.ofInt
 ↑(UInt8.toNat
 (Prod.fst
 (Prod.snd
 (Prod.snd (Prod.snd (Prod.snd (Prod.snd (Prod.snd (Prod.snd (Prod.snd x_1))))))))))))
 t t_1 (t_2 + (1 : Int64)) put0 put1 put2 put3 put4 put5 put6 put7 put8 put9 put10 put11 put12)))
 (oite (decide (most ≤ least))
 (oite put0 (some (true, ()))
 (obind (F35 n (after, put0, put1, put2, put3, put4, put5, put6, put7, put8, put9, put10, put11, put12))
 fun (x_1 : Bool × Unit) => some (Prod.fst x_1, ())))
 (some (false, ())))
def F17_R29 : Nat →
 Nat →
 PT.T
 (PT.list
 (CTs.cons (CT.int IntKind.u64)
 (CTs.cons CT.bool
 (CTs.cons (CT.int IntKind.u8)
 (CTs.cons (CT.int IntKind.u64)
 (CTs.cons (CT.int IntKind.u64)
 (CTs.cons CT.str
 (CTs.cons (CT.ro (CTs.cons CT.str (CTs.cons CT.str CTs.nil)))
 (CTs.cons (CT.int IntKind.u8)
 (CTs.cons (CT.int IntKind.u8)
 (CTs.cons (CT.int IntKind.i64)
 (CTs.cons (CT.int IntKind.u8)
 (CTs.cons (CT.int IntKind.u8)
 (CTs.cons (CT.int IntKind.u64) (CTs.cons (CT.int IntKind.u64) CTs.nil))))))))))))))) →
 Int64 →
 Int64 →
 List
 (UInt64 ×
 Bool ×
 UInt8 ×
 UInt64 ×
 UInt64 ×
 List UInt8 ×
 List (List UInt8 × List UInt8) × UInt8 × UInt8 × Int64 × UInt8 × UInt8 × UInt64 × UInt64) →
 Int64 →
 Int64 →
 Bool →
 UInt8 →
 UInt64 →
 UInt64 →
 List UInt8 →
 List (List UInt8 × List UInt8) →
 UInt8 → UInt8 → Int64 → UInt8 → UInt8 → UInt64 → UInt64 → Option (Bool × Unit) := fun (n : Nat) =>
 ofixA (29 : Nat)
 [PT.list
 (CTs.cons (CT.int IntKind.u64)
 (CTs.cons CT.bool
 (CTs.cons (CT.int IntKind.u8)
 (CTs.cons (CT.int IntKind.u64)
 (CTs.cons (CT.int IntKind.u64)
 (CTs.cons CT.str
 (CTs.cons (CT.ro (CTs.cons CT.str (CTs.cons CT.str CTs.nil)))
 (CTs.cons (CT.int IntKind.u8)
 (CTs.cons (CT.int IntKind.u8)
 (CTs.cons (CT.int IntKind.i64)
 (CTs.cons (CT.int IntKind.u8)
 (CTs.cons (CT.int IntKind.u8)
 (CTs.cons (CT.int IntKind.u64) (CTs.cons (CT.int IntKind.u64) CTs.nil)))))))))))))),
 PT.int IntKind.i64, PT.int IntKind.i64,
 PT.list
 (CTs.cons (CT.int IntKind.u64)
 (CTs.cons CT.bool
 (CTs.cons (CT.int IntKind.u8)
 (CTs.cons (CT.int IntKind.u64)
 (CTs.cons (CT.int IntKind.u64)
 (CTs.cons CT.str
 (CTs.cons (CT.ro (CTs.cons CT.str (CTs.cons CT.str CTs.nil)))
 (CTs.cons (CT.int IntKind.u8)
 (CTs.cons (CT.int IntKind.u8)
 (CTs.cons (CT.int IntKind.i64)
 (CTs.cons (CT.int IntKind.u8)
 (CTs.cons (CT.int IntKind.u8)
 (CTs.cons (CT.int IntKind.u64) (CTs.cons (CT.int IntKind.u64) CTs.nil)))))))))))))),
 PT.int IntKind.i64, PT.int IntKind.i64, PT.bool, PT.int IntKind.u8, PT.int IntKind.u64, PT.int IntKind.u64,
 PT.bytes, PT.list (CTs.cons CT.str (CTs.cons CT.str CTs.nil)), PT.int IntKind.u8, PT.int IntKind.u8,
 PT.int IntKind.i64, PT.int IntKind.u8, PT.int IntKind.u8, PT.int IntKind.u64, PT.int IntKind.u64]
 (F17_L29 n)
def F17 : Nat →
 List
 (UInt64 ×
 Bool ×
 UInt8 ×
 UInt64 ×
 UInt64 ×
 List UInt8 ×
 List (List UInt8 × List UInt8) × UInt8 × UInt8 × Int64 × UInt8 × UInt8 × UInt64 × UInt64) ×
 List
 (UInt64 ×
 Bool ×
 UInt8 ×
 UInt64 ×
 UInt64 ×
 List UInt8 ×
 List (List UInt8 × List UInt8) × UInt8 × UInt8 × Int64 × UInt8 × UInt8 × UInt64 × UInt64) ×
 Bool ×
 UInt8 ×
 UInt64 ×
 UInt64 ×
 List UInt8 × List (List UInt8 × List UInt8) × UInt8 × UInt8 × Int64 × UInt8 × UInt8 × UInt64 × UInt64 →
 Option (Bool × Unit) := fun (n : Nat)
 (x :
 List
 (UInt64 ×
 Bool ×
 UInt8 ×
 UInt64 ×
 UInt64 ×
 List UInt8 ×
 List (List UInt8 × List UInt8) × UInt8 × UInt8 × Int64 × UInt8 × UInt8 × UInt64 × UInt64) ×
 List
 (UInt64 ×
 Bool ×
 UInt8 ×
 UInt64 ×
 UInt64 ×
 List UInt8 ×
 List (List UInt8 × List UInt8) × UInt8 × UInt8 × Int64 × UInt8 × UInt8 × UInt64 × UInt64) ×
 Bool ×
 UInt8 ×
 UInt64 ×
 UInt64 ×
 List UInt8 ×
 List (List UInt8 × List UInt8) × UInt8 × UInt8 × Int64 × UInt8 × UInt8 × UInt64 × UInt64) =>
 F17_R29 n n (Prod.fst (Prod.snd x)) (8 : Int64) (-1 : Int64) (Prod.fst x) (Int64.ofInt ↑(List.length (Prod.fst x)))
 (0 : Int64) (Prod.fst (Prod.snd (Prod.snd x))) (Prod.fst (Prod.snd (Prod.snd (Prod.snd x))))
 (Prod.fst (Prod.snd (Prod.snd (Prod.snd (Prod.snd x)))))
 (Prod.fst (Prod.snd (Prod.snd (Prod.snd (Prod.snd (Prod.snd x))))))
 (Prod.fst (Prod.snd (Prod.snd (Prod.snd (Prod.snd (Prod.snd (Prod.snd x)))))))
 (Prod.fst (Prod.snd (Prod.snd (Prod.snd (Prod.snd (Prod.snd (Prod.snd (Prod.snd x))))))))
 (Prod.fst (Prod.snd (Prod.snd (Prod.snd (Prod.snd (Prod.snd (Prod.snd (Prod.snd (Prod.snd x)))))))))
 (Prod.fst (Prod.snd (Prod.snd (Prod.snd (Prod.snd (Prod.snd (Prod.snd (Prod.snd (Prod.snd (Prod.snd x))))))))))
 (Prod.fst
 (Prod.snd (Prod.snd (Prod.snd (Prod.snd (Prod.snd (Prod.snd (Prod.snd (Prod.snd (Prod.snd (Prod.snd x)))))))))))
 (Prod.fst
 (Prod.snd
 (Prod.snd
 (Prod.snd (Prod.snd (Prod.snd (Prod.snd (Prod.snd (Prod.snd (Prod.snd (Prod.snd (Prod.snd x))))))))))))
 (Prod.fst
 (Prod.snd
 (Prod.snd
 (Prod.snd
 (Prod.snd (Prod.snd (Prod.snd (Prod.snd (Prod.snd (Prod.snd (Prod.snd (Prod.snd (Prod.snd x)))))))))))))
 (Prod.fst
 (Prod.snd
 (Prod.snd
 (Prod.snd
 (Prod.snd
 (Prod.snd (Prod.snd (Prod.snd (Prod.snd (Prod.snd (Prod.snd (Prod.snd (Prod.snd (Prod.snd x))))))))))))))
 (Prod.snd
 (Prod.snd
 (Prod.snd
 (Prod.snd
 (Prod.snd
 (Prod.snd (Prod.snd (Prod.snd (Prod.snd (Prod.snd (Prod.snd (Prod.snd (Prod.snd (Prod.snd x))))))))))))))
theorem F17_R29_s (n : Nat) (m_ : Nat) : F17_R29 n (m_ + 1) = F17_L29 n (F17_R29 n m_) := rfl
theorem ok17 (n : Nat) : FunOK Try.prog ⟨17, sig17, F17 n⟩ :=
 fun_ok (hints := ⟨[], [(29, ⟨[(1, .one (.ro (.cons (.int .u64) (.cons .bool (.cons (.int .u8) (.cons (.int .u64) (.cons (.int .u64) (.cons .str (.cons (.ro (.cons .str (.cons .str .nil))) (.cons (.int .u8) (.cons (.int .u8) (.cons (.int .i64) (.cons (.int .u8) (.cons (.int .u8) (.cons (.int .u64) (.cons (.int .u64) .nil)))))))))))))))), (5, .one (.own 3)), (7, .one (.int .i64)), (8, .one (.int .i64)), (12, .one (.ro (.cons (.int .u64) (.cons .bool (.cons (.int .u8) (.cons (.int .u64) (.cons (.int .u64) (.cons .str (.cons (.ro (.cons .str (.cons .str .nil))) (.cons (.int .u8) (.cons (.int .u8) (.cons (.int .i64) (.cons (.int .u8) (.cons (.int .u8) (.cons (.int .u64) (.cons (.int .u64) .nil)))))))))))))))), (13, .one (.int .i64)), (14, .one (.int .i64))], [(3, .cells [.bool, .int .u8, .int .u64, .int .u64, .str, .ro (.cons .str (.cons .str .nil)), .int .u8, .int .u8, .int .i64, .int .u8, .int .u8, .int .u64, .int .u64])], 4⟩)]⟩) (fuel := n) (c := Try.f17.body.getD .skip) (rs := Try.f17.results.toList) tt_ok mix (FsOK.cons (ok34 n) (FsOK.cons (ok35 n) (FsOK.nil))) Try.func17 (by kernel_rfl) (by kernel_rfl) rfl (by kernel_rfl) rfl rfl (by kernel_rfl)
end Go.Proofs.Ytblldmpkljcnjaa
