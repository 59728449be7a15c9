/- What the functions of this seat compute, found by walking their code symbolically: each F is what the walk finds, each ok says that the Go function keeps it as a contract. Printed by a program of this repo's. -/
import Derived.Test.YtegncnhhofbmiaaBnFns1
open Go Go.Sx
namespace Go.Proofs.Ytegncnhhofbmiaa
set_option maxRecDepth 100000
set_option linter.unusedVariables false
-- watchfire/watchfirelaw23.BoardNone
def sig4 : Sig := ⟨(.cons (.agg (.cons .bool (.cons (.int .u8) (.cons (.int .u64) (.cons (.int .u64) (.cons .str (.cons (.ro (.cons .str (.cons .str .nil))) (.cons (.int .u8) (.cons (.int .u8) (.cons (.int .i64) (.cons (.int .u8) (.cons (.int .u8) (.cons (.int .u64) (.cons (.int .u64) .nil)))))))))))))) (.cons (.agg (.cons .bool (.cons (.int .u8) (.cons (.int .u8) (.cons (.int .u8) (.cons (.int .u16) (.cons (.int .u16) (.cons (.int .u16) (.cons (.int .u8) (.cons (.int .u8) (.cons (.int .u8) (.cons .bool .nil)))))))))))) (.cons (.one (.c (.int .u64))) .nil))), (.cons (.one (.c .bool)) .nil)⟩
noncomputable def F4_L32765 : Nat →
 Arr
 [PT.bool, PT.int IntKind.i64, PT.int IntKind.i64, PT.int IntKind.i64, PT.nat, PT.int IntKind.i64,
 PT.int IntKind.i64, PT.bool, PT.int IntKind.u8, PT.int IntKind.u64, PT.int IntKind.u64, PT.bytes,
 PT.list (CTs.cons CT.str (CTs.cons CT.str CTs.nil)), PT.int IntKind.u8, PT.int IntKind.u8, PT.int IntKind.i64,
 PT.int IntKind.u8, PT.int IntKind.u8, PT.int IntKind.u64, PT.int IntKind.u64, PT.bool, PT.int IntKind.u8,
 PT.int IntKind.u8, PT.int IntKind.u8, PT.int IntKind.u16, PT.int IntKind.u16, PT.int IntKind.u16,
 PT.int IntKind.u8, PT.int IntKind.u8, PT.int IntKind.u8, PT.bool,
 PT.optA
 (OTs.cons
 (OT.map
 (VT.agg
 (CTs.cons (CT.int IntKind.u8)
 (CTs.cons CT.str (CTs.cons CT.str (CTs.cons (CT.int IntKind.u8) CTs.nil)))))
 (VT.agg
 (CTs.cons (CT.int IntKind.u8)
 (CTs.cons CT.str
 (CTs.cons (CT.ro (CTs.cons CT.str (CTs.cons CT.str CTs.nil)))
 (CTs.cons (CT.int IntKind.u8)
 (CTs.cons (CT.int IntKind.u64)
 (CTs.cons (CT.int IntKind.u8) (CTs.cons (CT.int IntKind.i64) CTs.nil)))))))))
 OTs.nil)
 (CT.int IntKind.u64) OTs.nil,
 PT.list (CTs.cons CT.str (CTs.cons CT.str CTs.nil))]
 (Option (Bool × Unit)) →
 Bool →
 Int64 →
 Int64 →
 Int64 →
 Nat →
 Int64 →
 Int64 →
 Bool →
 UInt8 →
 UInt64 →
 UInt64 →
 List UInt8 →
 List (List UInt8 × List UInt8) →
 UInt8 →
 UInt8 →
 Int64 →
 UInt8 →
 UInt8 →
 UInt64 →
 UInt64 →
 Bool →
 UInt8 →
 UInt8 →
 UInt8 →
 UInt16 →
 UInt16 →
 UInt16 →
 UInt8 →
 UInt8 →
 UInt8 →
 Bool →
 Option
 (List
 ((UInt8 × List UInt8 × List UInt8 × UInt8) ×
 UInt8 ×
 List UInt8 ×
 List (List UInt8 × List UInt8) ×
 UInt8 × UInt64 × UInt8 × Int64) ×
 List UInt64 × Unit) →
 List (List UInt8 × List UInt8) →
 Option (Bool × Unit) := fun (n : Nat)
 (rec :
 Arr
 [PT.bool, PT.int IntKind.i64, PT.int IntKind.i64, PT.int IntKind.i64, PT.nat, PT.int IntKind.i64,
 PT.int IntKind.i64, PT.bool, PT.int IntKind.u8, PT.int IntKind.u64, PT.int IntKind.u64, PT.bytes,
 PT.list (CTs.cons CT.str (CTs.cons CT.str CTs.nil)), PT.int IntKind.u8, PT.int IntKind.u8, PT.int IntKind.i64,
 PT.int IntKind.u8, PT.int IntKind.u8, PT.int IntKind.u64, PT.int IntKind.u64, PT.bool, PT.int IntKind.u8,
 PT.int IntKind.u8, PT.int IntKind.u8, PT.int IntKind.u16, PT.int IntKind.u16, PT.int IntKind.u16,
 PT.int IntKind.u8, PT.int IntKind.u8, PT.int IntKind.u8, PT.bool,
 PT.optA
 (OTs.cons
 (OT.map
 (VT.agg
 (CTs.cons (CT.int IntKind.u8)
 (CTs.cons CT.str (CTs.cons CT.str (CTs.cons (CT.int IntKind.u8) CTs.nil)))))
 (VT.agg
 (CTs.cons (CT.int IntKind.u8)
 (CTs.cons CT.str
 (CTs.cons (CT.ro (CTs.cons CT.str (CTs.cons CT.str CTs.nil)))
 (CTs.cons (CT.int IntKind.u8)
 (CTs.cons (CT.int IntKind.u64)
 (CTs.cons (CT.int IntKind.u8) (CTs.cons (CT.int IntKind.i64) CTs.nil)))))))))
 OTs.nil)
 (CT.int IntKind.u64) OTs.nil,
 PT.list (CTs.cons CT.str (CTs.cons CT.str CTs.nil))]
 (Option (Bool × Unit)))
 (is_ : Bool) (i f u : Int64) (ln : Nat) (t t_1 : Int64) (x0 : Bool) (x1 : UInt8) (x2 x3 : UInt64) (x4 : List UInt8)
 (x5 : List (List UInt8 × List UInt8)) (x6 x7 : UInt8) (x8 : Int64) (x9 x10 : UInt8) (x11 x12 : UInt64) (s0 : Bool)
 (s1 s2 s3 : UInt8) (s4 s5 s6 : UInt16) (s7 s8 s9 : UInt8) (s10 : Bool)
 (b :
 Option
 (List
 ((UInt8 × List UInt8 × List UInt8 × UInt8) ×
 UInt8 × List UInt8 × List (List UInt8 × List UInt8) × UInt8 × UInt64 × UInt8 × Int64) ×
 List UInt64 × Unit))
 (c6 : List (List UInt8 × List UInt8)) =>
 oite (decide (t_1 < t))
 (oite (Nat.beq ln (1 : Nat))
 (oite (decide ((0 : Int) ≤ Int64.toInt t_1) && Nat.blt (Int.toNat (Int64.toInt t_1)) (List.length c6))
 (obind c6[Int.toNat (Int64.toInt t_1)]? fun (x_8 : List UInt8 × List UInt8) =>
 rec is_ i f u ln t (t_1 + (1 : Int64)) x0 x1 x2 x3 x4 x5 x6 x7 x8 x9 x10 x11 x12 s0 s1 s2 s3 s4 s5 s6 s7 s8 s9
 s10 b (List.set c6 (Int.toNat (Int64.toInt t_1)) ([(122 : UInt8), (122 : UInt8)], Prod.snd x_8)))
 none)
 none)
 (obind (F8 n (s0, s1, s2, s3, s4, s5, s6, s7, s8, s9, s10))
 fun
 (x_8 :
 (Bool ×
 UInt8 ×
 UInt64 ×
 UInt64 ×
 List UInt8 ×
 List (List UInt8 × List UInt8) × UInt8 × UInt8 × Int64 × UInt8 × UInt8 × UInt64 × UInt64) ×
 Unit) =>
 obind
 (F13 n
 (b, Prod.fst (Prod.snd (Prod.fst x_8)), Prod.fst (Prod.snd (Prod.snd (Prod.snd (Prod.snd (Prod.fst x_8))))),
 Prod.fst (Prod.snd (Prod.snd (Prod.snd (Prod.snd (Prod.snd (Prod.fst x_8)))))),
 Prod.fst
 (Prod.snd
 (Prod.snd
 (Prod.snd (Prod.snd (Prod.snd (Prod.snd (Prod.snd (Prod.snd (Prod.snd (Prod.fst x_8))))))))))))
 fun
 (x_9 :
 ((UInt8 × List UInt8 × List (List UInt8 × List UInt8) × UInt8 × UInt64 × UInt8 × Int64) × Bool) ×
 Option
 (List
 ((UInt8 × List UInt8 × List UInt8 × UInt8) ×
 UInt8 × List UInt8 × List (List UInt8 × List UInt8) × UInt8 × UInt64 × UInt8 × Int64) ×
 List UInt64 × Unit)) =>
 obind (F7 n (none, (0 : UInt64), x0, x1, x2, x3, x4, x5, x6, x7, x8, x9, x10, x11, x12))
 fun
 (x_10 :
 Int64 ×
 Option
 (List
 ((UInt8 × List UInt8 × List UInt8 × UInt8) ×
 UInt8 × List UInt8 × List (List UInt8 × List UInt8) × UInt8 × UInt64 × UInt8 × Int64) ×
 List UInt64 × Unit)) =>
 oite (decide (Prod.fst x_10 = (1 : Int64)))
 (oite (!is_)
 (oite (decide (i + f + u = (0 : Int64)))
 (obind (F9 n none)
 fun
 (x_11 :
 (Nat × List (List UInt8 × List UInt8)) ×
 Option
 (List
 ((UInt8 × List UInt8 × List UInt8 × UInt8) ×
 UInt8 × List UInt8 × List (List UInt8 × List UInt8) × UInt8 × UInt64 × UInt8 × Int64) ×
 List UInt64 × Unit)) =>
 oite (decide (Int64.ofInt ↑(Prod.fst (Prod.fst x_11)) = (0 : Int64)))
 (obind (F15 n (none, (3 : UInt8)))
 fun
 (x_12 :
 UInt64 ×
 Option
 (List
 ((UInt8 × List UInt8 × List UInt8 × UInt8) ×
 UInt8 ×
 List UInt8 × List (List UInt8 × List UInt8) × UInt8 × UInt64 × UInt8 × Int64) ×
 List UInt64 × Unit)) =>
 oite (decide (Prod.fst x_12 = (0 : UInt64)))
 (oite (Prod.snd (Prod.fst x_9))
 (obind
 (F16 n
 (Prod.fst (Prod.snd (Prod.snd (Prod.fst (Prod.fst x_9)))),
 Prod.fst (Prod.snd (Prod.snd (Prod.snd (Prod.snd (Prod.snd (Prod.fst x_8))))))))
 fun (x_13 : Bool × Unit) => some (Prod.fst x_13, ()))
 (some (false, ())))
 (some (false, ())))
 (some (false, ())))
 (some (false, ())))
 (some (false, ())))
 (some (false, ())))
noncomputable def F4_R32765 : Nat →
 Nat →
 PT.T PT.bool →
 Int64 →
 Int64 →
 Int64 →
 Nat →
 Int64 →
 Int64 →
 Bool →
 UInt8 →
 UInt64 →
 UInt64 →
 List UInt8 →
 List (List UInt8 × List UInt8) →
 UInt8 →
 UInt8 →
 Int64 →
 UInt8 →
 UInt8 →
 UInt64 →
 UInt64 →
 Bool →
 UInt8 →
 UInt8 →
 UInt8 →
 UInt16 →
 UInt16 →
 UInt16 →
 UInt8 →
 UInt8 →
 UInt8 →
 Bool →
 Option
 (List
 ((UInt8 × List UInt8 × List UInt8 × UInt8) ×
 UInt8 ×
 List UInt8 ×
 List (List UInt8 × List UInt8) ×
 UInt8 × UInt64 × UInt8 × Int64) ×
 List UInt64 × Unit) →
 List (List UInt8 × List UInt8) →
 Option (Bool × Unit) := fun (n : Nat) =>
 ofixA (32765 : Nat)
 [PT.bool, PT.int IntKind.i64, PT.int IntKind.i64, PT.int IntKind.i64, PT.nat, PT.int IntKind.i64,
 PT.int IntKind.i64, PT.bool, PT.int IntKind.u8, PT.int IntKind.u64, PT.int IntKind.u64, PT.bytes,
 PT.list (CTs.cons CT.str (CTs.cons CT.str CTs.nil)), PT.int IntKind.u8, PT.int IntKind.u8, PT.int IntKind.i64,
 PT.int IntKind.u8, PT.int IntKind.u8, PT.int IntKind.u64, PT.int IntKind.u64, PT.bool, PT.int IntKind.u8,
 PT.int IntKind.u8, PT.int IntKind.u8, PT.int IntKind.u16, PT.int IntKind.u16, PT.int IntKind.u16,
 PT.int IntKind.u8, PT.int IntKind.u8, PT.int IntKind.u8, PT.bool,
 PT.optA
 (OTs.cons
 (OT.map
 (VT.agg
 (CTs.cons (CT.int IntKind.u8) (CTs.cons CT.str (CTs.cons CT.str (CTs.cons (CT.int IntKind.u8) CTs.nil)))))
 (VT.agg
 (CTs.cons (CT.int IntKind.u8)
 (CTs.cons CT.str
 (CTs.cons (CT.ro (CTs.cons CT.str (CTs.cons CT.str CTs.nil)))
 (CTs.cons (CT.int IntKind.u8)
 (CTs.cons (CT.int IntKind.u64)
 (CTs.cons (CT.int IntKind.u8) (CTs.cons (CT.int IntKind.i64) CTs.nil)))))))))
 OTs.nil)
 (CT.int IntKind.u64) OTs.nil,
 PT.list (CTs.cons CT.str (CTs.cons CT.str CTs.nil))]
 (F4_L32765 n)
noncomputable def F4 : Nat →
 (Bool ×
 UInt8 ×
 UInt64 ×
 UInt64 ×
 List UInt8 × List (List UInt8 × List UInt8) × UInt8 × UInt8 × Int64 × UInt8 × UInt8 × UInt64 × UInt64) ×
 (Bool × UInt8 × UInt8 × UInt8 × UInt16 × UInt16 × UInt16 × UInt8 × UInt8 × UInt8 × Bool) × UInt64 →
 Option (Bool × Unit) := fun (n : Nat)
 (x :
 (Bool ×
 UInt8 ×
 UInt64 ×
 UInt64 ×
 List UInt8 × List (List UInt8 × List UInt8) × UInt8 × UInt8 × Int64 × UInt8 × UInt8 × UInt64 × UInt64) ×
 (Bool × UInt8 × UInt8 × UInt8 × UInt16 × UInt16 × UInt16 × UInt8 × UInt8 × UInt8 × Bool) × UInt64) =>
 obind (F5 n ()) fun (x_1 : Bool × Unit) =>
 oite (!Prod.fst x_1) (some (false, ()))
 (oite
 (decide
 ((12 : Int64) <
 Int64.ofInt ↑(List.length (Prod.fst (Prod.snd (Prod.snd (Prod.snd (Prod.snd (Prod.snd (Prod.fst x))))))))))
 (some (true, ()))
 (obind (F13 n (none, (0 : UInt8), [(120 : UInt8)], @List.nil (List UInt8 × List UInt8), (0 : UInt8)))
 fun
 (x_2 :
 ((UInt8 × List UInt8 × List (List UInt8 × List UInt8) × UInt8 × UInt64 × UInt8 × Int64) × Bool) ×
 Option
 (List
 ((UInt8 × List UInt8 × List UInt8 × UInt8) ×
 UInt8 × List UInt8 × List (List UInt8 × List UInt8) × UInt8 × UInt64 × UInt8 × Int64) ×
 List UInt64 × Unit)) =>
 obind (F14 n none)
 fun
 (x_3 :
 (Int64 × Int64 × Int64) ×
 Option
 (List
 ((UInt8 × List UInt8 × List UInt8 × UInt8) ×
 UInt8 × List UInt8 × List (List UInt8 × List UInt8) × UInt8 × UInt64 × UInt8 × Int64) ×
 List UInt64 × Unit)) =>
 obind (F6 n ())
 fun
 (x_4 :
 Option
 (List
 ((UInt8 × List UInt8 × List UInt8 × UInt8) ×
 UInt8 × List UInt8 × List (List UInt8 × List UInt8) × UInt8 × UInt64 × UInt8 × Int64) ×
 List UInt64 × Unit) ×
 Unit) =>
 obind
 (F8 n
 (false, Prod.fst (Prod.snd (Prod.fst (Prod.snd x))),
 Prod.fst (Prod.snd (Prod.snd (Prod.fst (Prod.snd x)))),
 Prod.fst (Prod.snd (Prod.snd (Prod.snd (Prod.fst (Prod.snd x))))),
 Prod.fst (Prod.snd (Prod.snd (Prod.snd (Prod.snd (Prod.fst (Prod.snd x)))))),
 Prod.fst (Prod.snd (Prod.snd (Prod.snd (Prod.snd (Prod.snd (Prod.fst (Prod.snd x))))))),
 Prod.fst (Prod.snd (Prod.snd (Prod.snd (Prod.snd (Prod.snd (Prod.snd (Prod.fst (Prod.snd x)))))))),
 Prod.fst
 (Prod.snd
 (Prod.snd (Prod.snd (Prod.snd (Prod.snd (Prod.snd (Prod.snd (Prod.fst (Prod.snd x))))))))),
 Prod.fst
 (Prod.snd
 (Prod.snd
 (Prod.snd
 (Prod.snd (Prod.snd (Prod.snd (Prod.snd (Prod.snd (Prod.fst (Prod.snd x)))))))))) |||
 (3 : UInt8),
 Prod.fst
 (Prod.snd
 (Prod.snd
 (Prod.snd
 (Prod.snd
 (Prod.snd (Prod.snd (Prod.snd (Prod.snd (Prod.snd (Prod.fst (Prod.snd x))))))))))),
 Prod.snd
 (Prod.snd
 (Prod.snd
 (Prod.snd
 (Prod.snd
 (Prod.snd (Prod.snd (Prod.snd (Prod.snd (Prod.snd (Prod.fst (Prod.snd x)))))))))))))
 fun
 (x_5 :
 (Bool ×
 UInt8 ×
 UInt64 ×
 UInt64 ×
 List UInt8 ×
 List (List UInt8 × List UInt8) ×
 UInt8 × UInt8 × Int64 × UInt8 × UInt8 × UInt64 × UInt64) ×
 Unit) =>
 obind
 (F7 n
 (Prod.fst x_4, Prod.snd (Prod.snd x) % (100 : UInt64), Prod.fst (Prod.fst x_5),
 Prod.fst (Prod.snd (Prod.fst x_5)), Prod.fst (Prod.snd (Prod.snd (Prod.fst x_5))),
 Prod.fst (Prod.snd (Prod.snd (Prod.snd (Prod.fst x_5)))),
 Prod.fst (Prod.snd (Prod.snd (Prod.snd (Prod.snd (Prod.fst x_5))))),
 Prod.fst (Prod.snd (Prod.snd (Prod.snd (Prod.snd (Prod.snd (Prod.fst x_5)))))),
 Prod.fst (Prod.snd (Prod.snd (Prod.snd (Prod.snd (Prod.snd (Prod.snd (Prod.fst x_5))))))),
 Prod.fst
 (Prod.snd (Prod.snd (Prod.snd (Prod.snd (Prod.snd (Prod.snd (Prod.snd (Prod.fst x_5)))))))),
 Prod.fst
 (Prod.snd
 (Prod.snd (Prod.snd (Prod.snd (Prod.snd (Prod.snd (Prod.snd (Prod.snd (Prod.fst x_5))))))))),
 Prod.fst
 (Prod.snd
 (Prod.snd
 (Prod.snd
 (Prod.snd (Prod.snd (Prod.snd (Prod.snd (Prod.snd (Prod.snd (Prod.fst x_5)))))))))),
 Prod.fst
 (Prod.snd
 (Prod.snd
 (Prod.snd
 (Prod.snd
 (Prod.snd (Prod.snd (Prod.snd (Prod.snd (Prod.snd (Prod.snd (Prod.fst x_5))))))))))),
 Prod.fst
 (Prod.snd
 (Prod.snd
 (Prod.snd
 (Prod.snd
 (Prod.snd
 (Prod.snd (Prod.snd (Prod.snd (Prod.snd (Prod.snd (Prod.snd (Prod.fst x_5)))))))))))),
 Prod.snd
 (Prod.snd
 (Prod.snd
 (Prod.snd
 (Prod.snd
 (Prod.snd
 (Prod.snd
 (Prod.snd (Prod.snd (Prod.snd (Prod.snd (Prod.snd (Prod.fst x_5))))))))))))))
 fun
 (x_6 :
 Int64 ×
 Option
 (List
 ((UInt8 × List UInt8 × List UInt8 × UInt8) ×
 UInt8 × List UInt8 × List (List UInt8 × List UInt8) × UInt8 × UInt64 × UInt8 × Int64) ×
 List UInt64 × Unit)) =>
 obind (F9 n (Prod.snd x_6))
 fun
 (x_7 :
 (Nat × List (List UInt8 × List UInt8)) ×
 Option
 (List
 ((UInt8 × List UInt8 × List UInt8 × UInt8) ×
 UInt8 ×
 List UInt8 × List (List UInt8 × List UInt8) × UInt8 × UInt64 × UInt8 × Int64) ×
 List UInt64 × Unit)) =>
 oite (!decide (Int64.ofInt ↑(Prod.fst (Prod.fst x_7)) = (1 : Int64))) (some (false, ()))
 (oite (Nat.beq (Prod.fst (Prod.fst x_7)) (1 : Nat))
 (F4_R32765 n n (Prod.snd (Prod.fst x_2)) (Prod.fst (Prod.fst x_3))
 (Prod.fst (Prod.snd (Prod.fst x_3))) (Prod.snd (Prod.snd (Prod.fst x_3)))
 (Prod.fst (Prod.fst x_7)) (Int64.ofInt ↑(List.length (Prod.snd (Prod.fst x_7)))) (0 : Int64)
 (Prod.fst (Prod.fst x)) (Prod.fst (Prod.snd (Prod.fst x)))
 (Prod.fst (Prod.snd (Prod.snd (Prod.fst x))))
 (Prod.fst (Prod.snd (Prod.snd (Prod.snd (Prod.fst x)))))
 (Prod.fst (Prod.snd (Prod.snd (Prod.snd (Prod.snd (Prod.fst x))))))
 (Prod.fst (Prod.snd (Prod.snd (Prod.snd (Prod.snd (Prod.snd (Prod.fst x)))))))
 (Prod.fst (Prod.snd (Prod.snd (Prod.snd (Prod.snd (Prod.snd (Prod.snd (Prod.fst x))))))))
 (Prod.fst
 (Prod.snd (Prod.snd (Prod.snd (Prod.snd (Prod.snd (Prod.snd (Prod.snd (Prod.fst x)))))))))
 (Prod.fst
 (Prod.snd
 (Prod.snd
 (Prod.snd (Prod.snd (Prod.snd (Prod.snd (Prod.snd (Prod.snd (Prod.fst x))))))))))
 (Prod.fst
 (Prod.snd
 (Prod.snd
 (Prod.snd
 (Prod.snd (Prod.snd (Prod.snd (Prod.snd (Prod.snd (Prod.snd (Prod.fst x)))))))))))
 (Prod.fst
 (Prod.snd
 (Prod.snd
 (Prod.snd
 (Prod.snd
 (Prod.snd (Prod.snd (Prod.snd (Prod.snd (Prod.snd (Prod.snd (Prod.fst x))))))))))))
 (Prod.fst
 (Prod.snd
 (Prod.snd
 (Prod.snd
 (Prod.snd
 (Prod.snd
 (Prod.snd
 (Prod.snd (Prod.snd (Prod.snd (Prod.snd (Prod.snd (Prod.fst x)))))))))))))
 (Prod.snd
 (Prod.snd
 (Prod.snd
 (Prod.snd
 (Prod.snd
 (Prod.snd
 (Prod.snd
 (Prod.snd (Prod.snd (Prod.snd (Prod.snd (Prod.snd (Prod.fst x)))))))))))))
 false (Prod.fst (Prod.snd (Prod.fst (Prod.snd x))))
 (Prod.fst (Prod.snd (Prod.snd (Prod.fst (Prod.snd x)))))
 (Prod.fst (Prod.snd (Prod.snd (Prod.snd (Prod.fst (Prod.snd x))))))
 (Prod.fst (Prod.snd (Prod.snd (Prod.snd (Prod.snd (Prod.fst (Prod.snd x)))))))
 (Prod.fst (Prod.snd (Prod.snd (Prod.snd (Prod.snd (Prod.snd (Prod.fst (Prod.snd x))))))))
 (Prod.fst
 (Prod.snd (Prod.snd (Prod.snd (Prod.snd (Prod.snd (Prod.snd (Prod.fst (Prod.snd x)))))))))
 (Prod.fst
 (Prod.snd
 (Prod.snd
 (Prod.snd (Prod.snd (Prod.snd (Prod.snd (Prod.snd (Prod.fst (Prod.snd x))))))))))
 (Prod.fst
 (Prod.snd
 (Prod.snd
 (Prod.snd
 (Prod.snd
 (Prod.snd (Prod.snd (Prod.snd (Prod.snd (Prod.fst (Prod.snd x)))))))))) |||
 (3 : UInt8))
 (Prod.fst
 (Prod.snd
 (Prod.snd
 (Prod.snd
 (Prod.snd
 (Prod.snd (Prod.snd (Prod.snd (Prod.snd (Prod.snd (Prod.fst (Prod.snd x))))))))))))
 (Prod.snd
 (Prod.snd
 (Prod.snd
 (Prod.snd
 (Prod.snd
 (Prod.snd (Prod.snd (Prod.snd (Prod.snd (Prod.snd (Prod.fst (Prod.snd x))))))))))))
 (Prod.snd x_7) (Prod.snd (Prod.fst x_7)))
 none)))
theorem F4_R32765_s (n : Nat) (m_ : Nat) : F4_R32765 n (m_ + 1) = F4_L32765 n (F4_R32765 n m_) := rfl
theorem ok4 (n : Nat) : FunOK Try.prog ⟨4, sig4, F4 n⟩ :=
 fun_ok (hints := ⟨[], [(32765, ⟨[(3, .one (.own 3)), (4, .one (.own 4)), (7, .one (.nilp)), (9, .one (.bool)), (10, .one (.int .i64)), (11, .one (.int .i64)), (12, .one (.int .i64)), (13, .one (.own 5)), (14, .one (.rs1 2 6)), (59, .one (.int .i64)), (60, .one (.int .i64))], [(3, .cells [.bool, .int .u8, .int .u64, .int .u64, .str, .ro (.cons .str (.cons .str .nil)), .int .u8, .int .u8, .int .i64, .int .u8, .int .u8, .int .u64, .int .u64]), (4, .cells [.bool, .int .u8, .int .u8, .int .u8, .int .u16, .int .u16, .int .u16, .int .u8, .int .u8, .int .u8, .bool]), (5, .foldA (.cons (.map (.agg (.cons (.int .u8) (.cons .str (.cons .str (.cons (.int .u8) .nil))))) (.agg (.cons (.int .u8) (.cons .str (.cons (.ro (.cons .str (.cons .str .nil))) (.cons (.int .u8) (.cons (.int .u64) (.cons (.int .u8) (.cons (.int .i64) .nil))))))))) .nil) (.int .u64) 32 .nil), (6, .row (.cons .str (.cons .str .nil)))], 7⟩)]⟩) (fuel := n) (c := Try.f4.body.getD .skip) (rs := Try.f4.results.toList) tt_ok mix (FsOK.cons (ok5 n) (FsOK.cons (ok13 n) (FsOK.cons (ok14 n) (FsOK.cons (ok6 n) (FsOK.cons (ok8 n) (FsOK.cons (ok7 n) (FsOK.cons (ok9 n) (FsOK.cons (ok15 n) (FsOK.cons (ok16 n) (FsOK.nil)))))))))) Try.func4 (by kernel_rfl) (by kernel_rfl) rfl (by kernel_rfl) rfl rfl (by kernel_rfl)
end Go.Proofs.Ytegncnhhofbmiaa
