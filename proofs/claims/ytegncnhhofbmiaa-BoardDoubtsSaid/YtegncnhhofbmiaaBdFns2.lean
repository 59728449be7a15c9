/- What the functions of this seat compute, found by walking their code symbolically: each F is what the walk finds, each ok says that the Go function keeps it as a contract. Printed by a program of this repo's. -/
import Derived.Test.YtegncnhhofbmiaaBdFns1
open Go Go.Sx
namespace Go.Proofs.Ytegncnhhofbmiaa
set_option maxRecDepth 100000
set_option linter.unusedVariables false
-- (*watchfire/board.Board).List
def sig9 : Sig := ⟨(.cons (.one (.ptrA (.cons (.map (.agg (.cons (.int .u8) (.cons .str (.cons .str (.cons (.int .u8) .nil))))) (.agg (.cons (.int .u8) (.cons .str (.cons (.ro (.cons .str (.cons .str .nil))) (.cons (.int .u8) (.cons (.int .u64) (.cons (.int .u8) (.cons (.int .i64) .nil))))))))) .nil) (.int .u64) 32 .nil)) .nil), (.cons (.one (.c (.ro (.cons (.int .u8) (.cons .str (.cons (.ro (.cons .str (.cons .str .nil))) (.cons (.int .u8) (.cons (.int .u64) (.cons (.int .u8) (.cons (.int .i64) .nil)))))))))) .nil)⟩
noncomputable def F9_L509 : Nat →
 Arr
 [PT.int IntKind.i64, PT.int IntKind.i64, PT.list1 (CT.int IntKind.u64),
 PT.list
 (CTs.cons (CT.int IntKind.u8)
 (CTs.cons CT.str
 (CTs.cons (CT.ro (CTs.cons CT.str (CTs.cons CT.str CTs.nil)))
 (CTs.cons (CT.int IntKind.u8)
 (CTs.cons (CT.int IntKind.u64)
 (CTs.cons (CT.int IntKind.u8) (CTs.cons (CT.int IntKind.i64) CTs.nil))))))),
 PT.list
 (CTs.cons (CT.int IntKind.u8) (CTs.cons CT.str (CTs.cons CT.str (CTs.cons (CT.int IntKind.u8) CTs.nil)))),
 PT.ents
 (VT.agg
 (CTs.cons (CT.int IntKind.u8) (CTs.cons CT.str (CTs.cons CT.str (CTs.cons (CT.int IntKind.u8) CTs.nil)))))
 (VT.agg
 (CTs.cons (CT.int IntKind.u8)
 (CTs.cons CT.str
 (CTs.cons (CT.ro (CTs.cons CT.str (CTs.cons CT.str CTs.nil)))
 (CTs.cons (CT.int IntKind.u8)
 (CTs.cons (CT.int IntKind.u64)
 (CTs.cons (CT.int IntKind.u8) (CTs.cons (CT.int IntKind.i64) CTs.nil))))))))]
 (Option
 (List (UInt8 × List UInt8 × List (List UInt8 × List UInt8) × UInt8 × UInt64 × UInt8 × Int64) ×
 Option
 (List
 ((UInt8 × List UInt8 × List UInt8 × UInt8) ×
 UInt8 × List UInt8 × List (List UInt8 × List UInt8) × UInt8 × UInt64 × UInt8 × Int64) ×
 List UInt64 × Unit))) →
 Int64 →
 Int64 →
 List UInt64 →
 List (UInt8 × List UInt8 × List (List UInt8 × List UInt8) × UInt8 × UInt64 × UInt8 × Int64) →
 List (UInt8 × List UInt8 × List UInt8 × UInt8) →
 List
 ((UInt8 × List UInt8 × List UInt8 × UInt8) ×
 UInt8 × List UInt8 × List (List UInt8 × List UInt8) × UInt8 × UInt64 × UInt8 × Int64) →
 Option
 (List (UInt8 × List UInt8 × List (List UInt8 × List UInt8) × UInt8 × UInt64 × UInt8 × Int64) ×
 Option
 (List
 ((UInt8 × List UInt8 × List UInt8 × UInt8) ×
 UInt8 × List UInt8 × List (List UInt8 × List UInt8) × UInt8 × UInt64 × UInt8 × Int64) ×
 List UInt64 × Unit)) := fun (n : Nat)
 (rec_1 :
 Arr
 [PT.int IntKind.i64, PT.int IntKind.i64, PT.list1 (CT.int IntKind.u64),
 PT.list
 (CTs.cons (CT.int IntKind.u8)
 (CTs.cons CT.str
 (CTs.cons (CT.ro (CTs.cons CT.str (CTs.cons CT.str CTs.nil)))
 (CTs.cons (CT.int IntKind.u8)
 (CTs.cons (CT.int IntKind.u64)
 (CTs.cons (CT.int IntKind.u8) (CTs.cons (CT.int IntKind.i64) CTs.nil))))))),
 PT.list
 (CTs.cons (CT.int IntKind.u8) (CTs.cons CT.str (CTs.cons CT.str (CTs.cons (CT.int IntKind.u8) CTs.nil)))),
 PT.ents
 (VT.agg
 (CTs.cons (CT.int IntKind.u8) (CTs.cons CT.str (CTs.cons CT.str (CTs.cons (CT.int IntKind.u8) CTs.nil)))))
 (VT.agg
 (CTs.cons (CT.int IntKind.u8)
 (CTs.cons CT.str
 (CTs.cons (CT.ro (CTs.cons CT.str (CTs.cons CT.str CTs.nil)))
 (CTs.cons (CT.int IntKind.u8)
 (CTs.cons (CT.int IntKind.u64)
 (CTs.cons (CT.int IntKind.u8) (CTs.cons (CT.int IntKind.i64) CTs.nil))))))))]
 (Option
 (List (UInt8 × List UInt8 × List (List UInt8 × List UInt8) × UInt8 × UInt64 × UInt8 × Int64) ×
 Option
 (List
 ((UInt8 × List UInt8 × List UInt8 × UInt8) ×
 UInt8 × List UInt8 × List (List UInt8 × List UInt8) × UInt8 × UInt64 × UInt8 × Int64) ×
 List UInt64 × Unit))))
 (t t_1 : Int64) (bla_1 : List UInt64)
 (out : List (UInt8 × List UInt8 × List (List UInt8 × List UInt8) × UInt8 × UInt64 × UInt8 × Int64))
 (t_2 : List (UInt8 × List UInt8 × List UInt8 × UInt8))
 (c0l :
 List
 ((UInt8 × List UInt8 × List UInt8 × UInt8) ×
 UInt8 × List UInt8 × List (List UInt8 × List UInt8) × UInt8 × UInt64 × UInt8 × Int64)) =>
 oite (decide (t_1 < t))
 (oite (decide ((0 : Int) ≤ Int64.toInt t_1) && Nat.blt (Int.toNat (Int64.toInt t_1)) (List.length t_2))
 (obind t_2[Int.toNat (Int64.toInt t_1)]? fun (x_3 : UInt8 × List UInt8 × List UInt8 × UInt8) =>
 obind
 (F22 n
 (Prod.fst
 (Prod.snd
 (Prod.snd
 (Option.getD
 (mget
 (VT.agg
 (CTs.cons (CT.int IntKind.u8)
 (CTs.cons CT.str (CTs.cons CT.str (CTs.cons (CT.int IntKind.u8) CTs.nil)))))
 (VT.agg
 (CTs.cons (CT.int IntKind.u8)
 (CTs.cons CT.str
 (CTs.cons (CT.ro (CTs.cons CT.str (CTs.cons CT.str CTs.nil)))
 (CTs.cons (CT.int IntKind.u8)
 (CTs.cons (CT.int IntKind.u64)
 (CTs.cons (CT.int IntKind.u8) (CTs.cons (CT.int IntKind.i64) CTs.nil))))))))
 (Prod.fst x_3, Prod.fst (Prod.snd x_3), Prod.fst (Prod.snd (Prod.snd x_3)),
 Prod.snd (Prod.snd (Prod.snd x_3)))
 c0l)
 ((0 : UInt8), @List.nil UInt8, @List.nil (List UInt8 × List UInt8), (0 : UInt8), (0 : UInt64),
 (0 : UInt8), (0 : Int64)))))))
 fun (x_4 : List (List UInt8 × List UInt8) × Unit) =>
 oite
 (Nat.ble
 (List.length out +
 List.length
 [(Prod.fst
 (Option.getD
 (mget
 (VT.agg
 (CTs.cons (CT.int IntKind.u8)
 (CTs.cons CT.str (CTs.cons CT.str (CTs.cons (CT.int IntKind.u8) CTs.nil)))))
 (VT.agg
 (CTs.cons (CT.int IntKind.u8)
 (CTs.cons CT.str
 (CTs.cons (CT.ro (CTs.cons CT.str (CTs.cons CT.str CTs.nil)))
 (CTs.cons (CT.int IntKind.u8)
 (CTs.cons (CT.int IntKind.u64)
 (CTs.cons (CT.int IntKind.u8) (CTs.cons (CT.int IntKind.i64) CTs.nil))))))))
 (Prod.fst x_3, Prod.fst (Prod.snd x_3), Prod.fst (Prod.snd (Prod.snd x_3)),
 Prod.snd (Prod.snd (Prod.snd x_3)))
 c0l)
 ((0 : UInt8), @List.nil UInt8, @List.nil (List UInt8 × List UInt8), (0 : UInt8), (0 : UInt64),
 (0 : UInt8), (0 : Int64))),
 Prod.fst
 (Prod.snd
 (Option.getD
 (mget
 (VT.agg
 (CTs.cons (CT.int IntKind.u8)
 (CTs.cons CT.str (CTs.cons CT.str (CTs.cons (CT.int IntKind.u8) CTs.nil)))))
 (VT.agg
 (CTs.cons (CT.int IntKind.u8)
 (CTs.cons CT.str
 (CTs.cons (CT.ro (CTs.cons CT.str (CTs.cons CT.str CTs.nil)))
 (CTs.cons (CT.int IntKind.u8)
 (CTs.cons (CT.int IntKind.u64)
 (CTs.cons (CT.int IntKind.u8) (CTs.cons (CT.int IntKind.i64) CTs.nil))))))))
 (Prod.fst x_3, Prod.fst (Prod.snd x_3), Prod.fst (Prod.snd (Prod.snd x_3)),
 Prod.snd (Prod.snd (Prod.snd x_3)))
 c0l)
 ((0 : UInt8), @List.nil UInt8, @List.nil (List UInt8 × List UInt8), (0 : UInt8),
 (0 : UInt64), (0 : UInt8), (0 : Int64)))),
 Prod.fst x_4,
 Prod.fst
 (Prod.snd
 (Prod.snd
 (Prod.snd
 (Option.getD
 (mget
 (VT.agg
 (CTs.cons (CT.int IntKind.u8)
 (CTs.cons CT.str (CTs.cons CT.str (CTs.cons (CT.int IntKind.u8) CTs.nil)))))
 (VT.agg
 (CTs.cons (CT.int IntKind.u8)
 (CTs.cons CT.str
 (CTs.cons (CT.ro (CTs.cons CT.str (CTs.cons CT.str CTs.nil)))
 (CTs.cons (CT.int IntKind.u8)
 (CTs.cons (CT.int IntKind.u64)
 (CTs.cons (CT.int IntKind.u8)
 (CTs.cons (CT.int IntKind.i64) CTs.nil))))))))
 (Prod.fst x_3, Prod.fst (Prod.snd x_3), Prod.fst (Prod.snd (Prod.snd x_3)),
 Prod.snd (Prod.snd (Prod.snd x_3)))
 c0l)
 ((0 : UInt8), @List.nil UInt8, @List.nil (List UInt8 × List UInt8), (0 : UInt8),
 (0 : UInt64), (0 : UInt8), (0 : Int64)))))),
 Prod.fst
 (Prod.snd
 (Prod.snd
 (Prod.snd
 (Prod.snd
 (Option.getD
 (mget
 (VT.agg
 (CTs.cons (CT.int IntKind.u8)
 (CTs.cons CT.str (CTs.cons CT.str (CTs.cons (CT.int IntKind.u8) CTs.nil)))))
 (VT.agg
 (CTs.cons (CT.int IntKind.u8)
 (CTs.cons CT.str
 (CTs.cons (CT.ro (CTs.cons CT.str (CTs.cons CT.str CTs.nil)))
 (CTs.cons (CT.int IntKind.u8)
 (CTs.cons (CT.int IntKind.u64)
 (CTs.cons (CT.int IntKind.u8)
 (CTs.cons (CT.int IntKind.i64) CTs.nil))))))))
 (Prod.fst x_3, Prod.fst (Prod.snd x_3), Prod.fst (Prod.snd (Prod.snd x_3)),
 Prod.snd (Prod.snd (Prod.snd x_3)))
 c0l)
 ((0 : UInt8), @List.nil UInt8, @List.nil (List UInt8 × List UInt8), (0 : UInt8),
 (0 : UInt64), (0 : UInt8), (0 : Int64))))))),
 Prod.fst
 (Prod.snd
 (Prod.snd
 (Prod.snd
 (Prod.snd
 (Prod.snd
 (Option.getD
 (mget
 (VT.agg
 (CTs.cons (CT.int IntKind.u8)
 (CTs.cons CT.str (CTs.cons CT.str (CTs.cons (CT.int IntKind.u8) CTs.nil)))))
 (VT.agg
 (CTs.cons (CT.int IntKind.u8)
 (CTs.cons CT.str
 (CTs.cons (CT.ro (CTs.cons CT.str (CTs.cons CT.str CTs.nil)))
 (CTs.cons (CT.int IntKind.u8)
 (CTs.cons (CT.int IntKind.u64)
 (CTs.cons (CT.int IntKind.u8)
 (CTs.cons (CT.int IntKind.i64) CTs.nil))))))))
 (Prod.fst x_3, Prod.fst (Prod.snd x_3), Prod.fst (Prod.snd (Prod.snd x_3)),
 Prod.snd (Prod.snd (Prod.snd x_3)))
 c0l)
 ((0 : UInt8), @List.nil UInt8, @List.nil (List UInt8 × List UInt8), (0 : UInt8),
 (0 : UInt64), (0 : UInt8), (0 : Int64)))))))),
 Prod.snd
 (Prod.snd
 (Prod.snd
 (Prod.snd
 (Prod.snd
 (Prod.snd
 (Option.getD
 (mget
 (VT.agg
 (CTs.cons (CT.int IntKind.u8)
 (CTs.cons CT.str (CTs.cons CT.str (CTs.cons (CT.int IntKind.u8) CTs.nil)))))
 (VT.agg
 (CTs.cons (CT.int IntKind.u8)
 (CTs.cons CT.str
 (CTs.cons (CT.ro (CTs.cons CT.str (CTs.cons CT.str CTs.nil)))
 (CTs.cons (CT.int IntKind.u8)
 (CTs.cons (CT.int IntKind.u64)
 (CTs.cons (CT.int IntKind.u8)
 (CTs.cons (CT.int IntKind.i64) CTs.nil))))))))
 (Prod.fst x_3, Prod.fst (Prod.snd x_3), Prod.fst (Prod.snd (Prod.snd x_3)),
 Prod.snd (Prod.snd (Prod.snd x_3)))
 c0l)
 ((0 : UInt8), @List.nil UInt8, @List.nil (List UInt8 × List UInt8), (0 : UInt8),
 (0 : UInt64), (0 : UInt8), (0 : Int64)))))))))])
 (4294967296 : Nat))
 (rec_1 t (t_1 + (1 : Int64)) bla_1
 (out ++
 [(Prod.fst
 (Option.getD
 (mget
 (VT.agg
 (CTs.cons (CT.int IntKind.u8)
 (CTs.cons CT.str (CTs.cons CT.str (CTs.cons (CT.int IntKind.u8) CTs.nil)))))
 (VT.agg
 (CTs.cons (CT.int IntKind.u8)
 (CTs.cons CT.str
 (CTs.cons (CT.ro (CTs.cons CT.str (CTs.cons CT.str CTs.nil)))
 (CTs.cons (CT.int IntKind.u8)
 (CTs.cons (CT.int IntKind.u64)
 (CTs.cons (CT.int IntKind.u8) (CTs.cons (CT.int IntKind.i64) CTs.nil))))))))
 (Prod.fst x_3, Prod.fst (Prod.snd x_3), Prod.fst (Prod.snd (Prod.snd x_3)),
 Prod.snd (Prod.snd (Prod.snd x_3)))
 c0l)
 ((0 : UInt8), @List.nil UInt8, @List.nil (List UInt8 × List UInt8), (0 : UInt8), (0 : UInt64),
 (0 : UInt8), (0 : Int64))),
 Prod.fst
 (Prod.snd
 (Option.getD
 (mget
 (VT.agg
 (CTs.cons (CT.int IntKind.u8)
 (CTs.cons CT.str (CTs.cons CT.str (CTs.cons (CT.int IntKind.u8) CTs.nil)))))
 (VT.agg
 (CTs.cons (CT.int IntKind.u8)
 (CTs.cons CT.str
 (CTs.cons (CT.ro (CTs.cons CT.str (CTs.cons CT.str CTs.nil)))
 (CTs.cons (CT.int IntKind.u8)
 (CTs.cons (CT.int IntKind.u64)
 (CTs.cons (CT.int IntKind.u8) (CTs.cons (CT.int IntKind.i64) CTs.nil))))))))
 (Prod.fst x_3, Prod.fst (Prod.snd x_3), Prod.fst (Prod.snd (Prod.snd x_3)),
 Prod.snd (Prod.snd (Prod.snd x_3)))
 c0l)
 ((0 : UInt8), @List.nil UInt8, @List.nil (List UInt8 × List UInt8), (0 : UInt8), (0 : UInt64),
 (0 : UInt8), (0 : Int64)))),
 Prod.fst x_4,
 Prod.fst
 (Prod.snd
 (Prod.snd
 (Prod.snd
 (Option.getD
 (mget
 (VT.agg
 (CTs.cons (CT.int IntKind.u8)
 (CTs.cons CT.str (CTs.cons CT.str (CTs.cons (CT.int IntKind.u8) CTs.nil)))))
 (VT.agg
 (CTs.cons (CT.int IntKind.u8)
 (CTs.cons CT.str
 (CTs.cons (CT.ro (CTs.cons CT.str (CTs.cons CT.str CTs.nil)))
 (CTs.cons (CT.int IntKind.u8)
 (CTs.cons (CT.int IntKind.u64)
 (CTs.cons (CT.int IntKind.u8) (CTs.cons (CT.int IntKind.i64) CTs.nil))))))))
 (Prod.fst x_3, Prod.fst (Prod.snd x_3), Prod.fst (Prod.snd (Prod.snd x_3)),
 Prod.snd (Prod.snd (Prod.snd x_3)))
 c0l)
 ((0 : UInt8), @List.nil UInt8, @List.nil (List UInt8 × List UInt8), (0 : UInt8),
 (0 : UInt64), (0 : UInt8), (0 : Int64)))))),
 Prod.fst
 (Prod.snd
 (Prod.snd
 (Prod.snd
 (Prod.snd
 (Option.getD
 (mget
 (VT.agg
 (CTs.cons (CT.int IntKind.u8)
 (CTs.cons CT.str (CTs.cons CT.str (CTs.cons (CT.int IntKind.u8) CTs.nil)))))
 (VT.agg
 (CTs.cons (CT.int IntKind.u8)
 (CTs.cons CT.str
 (CTs.cons (CT.ro (CTs.cons CT.str (CTs.cons CT.str CTs.nil)))
 (CTs.cons (CT.int IntKind.u8)
 (CTs.cons (CT.int IntKind.u64)
 (CTs.cons (CT.int IntKind.u8)
 (CTs.cons (CT.int IntKind.i64) CTs.nil))))))))
 (Prod.fst x_3, Prod.fst (Prod.snd x_3), Prod.fst (Prod.snd (Prod.snd x_3)),
 Prod.snd (Prod.snd (Prod.snd x_3)))
 c0l)
 ((0 : UInt8), @List.nil UInt8, @List.nil (List UInt8 × List UInt8), (0 : UInt8),
 (0 : UInt64), (0 : UInt8), (0 : Int64))))))),
 Prod.fst
 (Prod.snd
 (Prod.snd
 (Prod.snd
 (Prod.snd
 (Prod.snd
 (Option.getD
 (mget
 (VT.agg
 (CTs.cons (CT.int IntKind.u8)
 (CTs.cons CT.str (CTs.cons CT.str (CTs.cons (CT.int IntKind.u8) CTs.nil)))))
 (VT.agg
 (CTs.cons (CT.int IntKind.u8)
 (CTs.cons CT.str
 (CTs.cons (CT.ro (CTs.cons CT.str (CTs.cons CT.str CTs.nil)))
 (CTs.cons (CT.int IntKind.u8)
 (CTs.cons (CT.int IntKind.u64)
 (CTs.cons (CT.int IntKind.u8)
 (CTs.cons (CT.int IntKind.i64) CTs.nil))))))))
 (Prod.fst x_3, Prod.fst (Prod.snd x_3), Prod.fst (Prod.snd (Prod.snd x_3)),
 Prod.snd (Prod.snd (Prod.snd x_3)))
 c0l)
 ((0 : UInt8), @List.nil UInt8, @List.nil (List UInt8 × List UInt8), (0 : UInt8),
 (0 : UInt64), (0 : UInt8), (0 : Int64)))))))),
 Prod.snd
 (Prod.snd
 (Prod.snd
 (Prod.snd
 (Prod.snd
 (Prod.snd
 (Option.getD
 (mget
 (VT.agg
 (CTs.cons (CT.int IntKind.u8)
 (CTs.cons CT.str (CTs.cons CT.str (CTs.cons (CT.int IntKind.u8) CTs.nil)))))
 (VT.agg
 (CTs.cons (CT.int IntKind.u8)
 (CTs.cons CT.str
 (CTs.cons (CT.ro (CTs.cons CT.str (CTs.cons CT.str CTs.nil)))
 (CTs.cons (CT.int IntKind.u8)
 (CTs.cons (CT.int IntKind.u64)
 (CTs.cons (CT.int IntKind.u8)
 (CTs.cons (CT.int IntKind.i64) CTs.nil))))))))
 (Prod.fst x_3, Prod.fst (Prod.snd x_3), Prod.fst (Prod.snd (Prod.snd x_3)),
 Prod.snd (Prod.snd (Prod.snd x_3)))
 c0l)
 ((0 : UInt8), @List.nil UInt8, @List.nil (List UInt8 × List UInt8), (0 : UInt8),
 (0 : UInt64), (0 : UInt8), (0 : Int64)))))))))])
 t_2 c0l)
 none)
 none)
 (some (out, some (c0l, bla_1, ())))
noncomputable def F9_R509 : Nat →
 Nat →
 PT.T (PT.int IntKind.i64) →
 Int64 →
 List UInt64 →
 List (UInt8 × List UInt8 × List (List UInt8 × List UInt8) × UInt8 × UInt64 × UInt8 × Int64) →
 List (UInt8 × List UInt8 × List UInt8 × UInt8) →
 List
 ((UInt8 × List UInt8 × List UInt8 × UInt8) ×
 UInt8 × List UInt8 × List (List UInt8 × List UInt8) × UInt8 × UInt64 × UInt8 × Int64) →
 Option
 (List (UInt8 × List UInt8 × List (List UInt8 × List UInt8) × UInt8 × UInt64 × UInt8 × Int64) ×
 Option
 (List
 ((UInt8 × List UInt8 × List UInt8 × UInt8) ×
 UInt8 × List UInt8 × List (List UInt8 × List UInt8) × UInt8 × UInt64 × UInt8 × Int64) ×
 List UInt64 × Unit)) := fun (n : Nat) =>
 ofixA (509 : Nat)
 [PT.int IntKind.i64, PT.int IntKind.i64, PT.list1 (CT.int IntKind.u64),
 PT.list
 (CTs.cons (CT.int IntKind.u8)
 (CTs.cons CT.str
 (CTs.cons (CT.ro (CTs.cons CT.str (CTs.cons CT.str CTs.nil)))
 (CTs.cons (CT.int IntKind.u8)
 (CTs.cons (CT.int IntKind.u64)
 (CTs.cons (CT.int IntKind.u8) (CTs.cons (CT.int IntKind.i64) CTs.nil))))))),
 PT.list (CTs.cons (CT.int IntKind.u8) (CTs.cons CT.str (CTs.cons CT.str (CTs.cons (CT.int IntKind.u8) CTs.nil)))),
 PT.ents
 (VT.agg
 (CTs.cons (CT.int IntKind.u8) (CTs.cons CT.str (CTs.cons CT.str (CTs.cons (CT.int IntKind.u8) CTs.nil)))))
 (VT.agg
 (CTs.cons (CT.int IntKind.u8)
 (CTs.cons CT.str
 (CTs.cons (CT.ro (CTs.cons CT.str (CTs.cons CT.str CTs.nil)))
 (CTs.cons (CT.int IntKind.u8)
 (CTs.cons (CT.int IntKind.u64)
 (CTs.cons (CT.int IntKind.u8) (CTs.cons (CT.int IntKind.i64) CTs.nil))))))))]
 (F9_L509 n)
noncomputable def F9_L61 : Nat →
 Arr
 [PT.list1 (CT.int IntKind.u64),
 PT.list
 (CTs.cons (CT.int IntKind.u8) (CTs.cons CT.str (CTs.cons CT.str (CTs.cons (CT.int IntKind.u8) CTs.nil)))),
 PT.ents
 (VT.agg
 (CTs.cons (CT.int IntKind.u8) (CTs.cons CT.str (CTs.cons CT.str (CTs.cons (CT.int IntKind.u8) CTs.nil)))))
 (VT.agg
 (CTs.cons (CT.int IntKind.u8)
 (CTs.cons CT.str
 (CTs.cons (CT.ro (CTs.cons CT.str (CTs.cons CT.str CTs.nil)))
 (CTs.cons (CT.int IntKind.u8)
 (CTs.cons (CT.int IntKind.u64)
 (CTs.cons (CT.int IntKind.u8) (CTs.cons (CT.int IntKind.i64) CTs.nil)))))))),
 PT.ents
 (VT.agg
 (CTs.cons (CT.int IntKind.u8) (CTs.cons CT.str (CTs.cons CT.str (CTs.cons (CT.int IntKind.u8) CTs.nil)))))
 (VT.agg
 (CTs.cons (CT.int IntKind.u8)
 (CTs.cons CT.str
 (CTs.cons (CT.ro (CTs.cons CT.str (CTs.cons CT.str CTs.nil)))
 (CTs.cons (CT.int IntKind.u8)
 (CTs.cons (CT.int IntKind.u64)
 (CTs.cons (CT.int IntKind.u8) (CTs.cons (CT.int IntKind.i64) CTs.nil))))))))]
 (Option
 (List (UInt8 × List UInt8 × List (List UInt8 × List UInt8) × UInt8 × UInt64 × UInt8 × Int64) ×
 Option
 (List
 ((UInt8 × List UInt8 × List UInt8 × UInt8) ×
 UInt8 × List UInt8 × List (List UInt8 × List UInt8) × UInt8 × UInt64 × UInt8 × Int64) ×
 List UInt64 × Unit))) →
 List UInt64 →
 List (UInt8 × List UInt8 × List UInt8 × UInt8) →
 List
 ((UInt8 × List UInt8 × List UInt8 × UInt8) ×
 UInt8 × List UInt8 × List (List UInt8 × List UInt8) × UInt8 × UInt64 × UInt8 × Int64) →
 List
 ((UInt8 × List UInt8 × List UInt8 × UInt8) ×
 UInt8 × List UInt8 × List (List UInt8 × List UInt8) × UInt8 × UInt64 × UInt8 × Int64) →
 Option
 (List (UInt8 × List UInt8 × List (List UInt8 × List UInt8) × UInt8 × UInt64 × UInt8 × Int64) ×
 Option
 (List
 ((UInt8 × List UInt8 × List UInt8 × UInt8) ×
 UInt8 × List UInt8 × List (List UInt8 × List UInt8) × UInt8 × UInt64 × UInt8 × Int64) ×
 List UInt64 × Unit)) := fun (n : Nat)
 (rec :
 Arr
 [PT.list1 (CT.int IntKind.u64),
 PT.list
 (CTs.cons (CT.int IntKind.u8) (CTs.cons CT.str (CTs.cons CT.str (CTs.cons (CT.int IntKind.u8) CTs.nil)))),
 PT.ents
 (VT.agg
 (CTs.cons (CT.int IntKind.u8) (CTs.cons CT.str (CTs.cons CT.str (CTs.cons (CT.int IntKind.u8) CTs.nil)))))
 (VT.agg
 (CTs.cons (CT.int IntKind.u8)
 (CTs.cons CT.str
 (CTs.cons (CT.ro (CTs.cons CT.str (CTs.cons CT.str CTs.nil)))
 (CTs.cons (CT.int IntKind.u8)
 (CTs.cons (CT.int IntKind.u64)
 (CTs.cons (CT.int IntKind.u8) (CTs.cons (CT.int IntKind.i64) CTs.nil)))))))),
 PT.ents
 (VT.agg
 (CTs.cons (CT.int IntKind.u8) (CTs.cons CT.str (CTs.cons CT.str (CTs.cons (CT.int IntKind.u8) CTs.nil)))))
 (VT.agg
 (CTs.cons (CT.int IntKind.u8)
 (CTs.cons CT.str
 (CTs.cons (CT.ro (CTs.cons CT.str (CTs.cons CT.str CTs.nil)))
 (CTs.cons (CT.int IntKind.u8)
 (CTs.cons (CT.int IntKind.u64)
 (CTs.cons (CT.int IntKind.u8) (CTs.cons (CT.int IntKind.i64) CTs.nil))))))))]
 (Option
 (List (UInt8 × List UInt8 × List (List UInt8 × List UInt8) × UInt8 × UInt64 × UInt8 × Int64) ×
 Option
 (List
 ((UInt8 × List UInt8 × List UInt8 × UInt8) ×
 UInt8 × List UInt8 × List (List UInt8 × List UInt8) × UInt8 × UInt64 × UInt8 × Int64) ×
 List UInt64 × Unit))))
 (bla : List UInt64) (keys : List (UInt8 × List UInt8 × List UInt8 × UInt8))
 (tm tr :
 List
 ((UInt8 × List UInt8 × List UInt8 × UInt8) ×
 UInt8 × List UInt8 × List (List UInt8 × List UInt8) × UInt8 × UInt64 × UInt8 × Int64)) =>
 oite (Nat.blt (0 : Nat) (List.length tr))
 (oallN (List.length tr) fun (j : Nat) =>
 obind tr[j]?
 fun
 (p :
 (UInt8 × List UInt8 × List UInt8 × UInt8) ×
 UInt8 × List UInt8 × List (List UInt8 × List UInt8) × UInt8 × UInt64 × UInt8 × Int64) =>
 oite
 (Nat.ble
 (List.length keys +
 List.length
 [(Prod.fst (Prod.fst p), Prod.fst (Prod.snd (Prod.fst p)), Prod.fst (Prod.snd (Prod.snd (Prod.fst p))),
 Prod.snd (Prod.snd (Prod.snd (Prod.fst p))))])
 (4294967296 : Nat))
 (rec bla
 (keys ++
 [(Prod.fst (Prod.fst p), Prod.fst (Prod.snd (Prod.fst p)), Prod.fst (Prod.snd (Prod.snd (Prod.fst p))),
 Prod.snd (Prod.snd (Prod.snd (Prod.fst p))))])
 tm (List.eraseIdx tr j))
 none)
 (obind
 (obind
 (F23 n
 (@List.nil
 (Bool ×
 Bool ×
 Bool ×
 Bool ×
 Bool ×
 Bool ×
 Bool ×
 Bool ×
 Bool ×
 Bool ×
 Bool ×
 Bool ×
 Bool ×
 Bool × Bool × Bool × Bool × Bool × Bool × Bool × Bool × Bool × Bool × Bool),
 (), keys, tm))
 fun
 (y : Unit × List (UInt8 × List UInt8 × List UInt8 × UInt8)) =>
 some (Prod.snd y))
 fun (x_2 : List (UInt8 × List UInt8 × List UInt8 × UInt8)) =>
 F9_R509 n n (Int64.ofInt ↑(List.length x_2)) (0 : Int64) bla [] x_2 tm)
noncomputable def F9_R61 : Nat →
 Nat →
 PT.T (PT.list1 (CT.int IntKind.u64)) →
 List (UInt8 × List UInt8 × List UInt8 × UInt8) →
 List
 ((UInt8 × List UInt8 × List UInt8 × UInt8) ×
 UInt8 × List UInt8 × List (List UInt8 × List UInt8) × UInt8 × UInt64 × UInt8 × Int64) →
 List
 ((UInt8 × List UInt8 × List UInt8 × UInt8) ×
 UInt8 × List UInt8 × List (List UInt8 × List UInt8) × UInt8 × UInt64 × UInt8 × Int64) →
 Option
 (List (UInt8 × List UInt8 × List (List UInt8 × List UInt8) × UInt8 × UInt64 × UInt8 × Int64) ×
 Option
 (List
 ((UInt8 × List UInt8 × List UInt8 × UInt8) ×
 UInt8 × List UInt8 × List (List UInt8 × List UInt8) × UInt8 × UInt64 × UInt8 × Int64) ×
 List UInt64 × Unit)) := fun (n : Nat) =>
 ofixA (61 : Nat)
 [PT.list1 (CT.int IntKind.u64),
 PT.list (CTs.cons (CT.int IntKind.u8) (CTs.cons CT.str (CTs.cons CT.str (CTs.cons (CT.int IntKind.u8) CTs.nil)))),
 PT.ents
 (VT.agg
 (CTs.cons (CT.int IntKind.u8) (CTs.cons CT.str (CTs.cons CT.str (CTs.cons (CT.int IntKind.u8) CTs.nil)))))
 (VT.agg
 (CTs.cons (CT.int IntKind.u8)
 (CTs.cons CT.str
 (CTs.cons (CT.ro (CTs.cons CT.str (CTs.cons CT.str CTs.nil)))
 (CTs.cons (CT.int IntKind.u8)
 (CTs.cons (CT.int IntKind.u64)
 (CTs.cons (CT.int IntKind.u8) (CTs.cons (CT.int IntKind.i64) CTs.nil)))))))),
 PT.ents
 (VT.agg
 (CTs.cons (CT.int IntKind.u8) (CTs.cons CT.str (CTs.cons CT.str (CTs.cons (CT.int IntKind.u8) CTs.nil)))))
 (VT.agg
 (CTs.cons (CT.int IntKind.u8)
 (CTs.cons CT.str
 (CTs.cons (CT.ro (CTs.cons CT.str (CTs.cons CT.str CTs.nil)))
 (CTs.cons (CT.int IntKind.u8)
 (CTs.cons (CT.int IntKind.u64)
 (CTs.cons (CT.int IntKind.u8) (CTs.cons (CT.int IntKind.i64) CTs.nil))))))))]
 (F9_L61 n)
noncomputable def F9 : Nat →
 Option
 (List
 ((UInt8 × List UInt8 × List UInt8 × UInt8) ×
 UInt8 × List UInt8 × List (List UInt8 × List UInt8) × UInt8 × UInt64 × UInt8 × Int64) ×
 List UInt64 × Unit) →
 Option
 (List (UInt8 × List UInt8 × List (List UInt8 × List UInt8) × UInt8 × UInt64 × UInt8 × Int64) ×
 Option
 (List
 ((UInt8 × List UInt8 × List UInt8 × UInt8) ×
 UInt8 × List UInt8 × List (List UInt8 × List UInt8) × UInt8 × UInt64 × UInt8 × Int64) ×
 List UInt64 × Unit)) := fun (n : Nat)
 (x :
 Option
 (List
 ((UInt8 × List UInt8 × List UInt8 × UInt8) ×
 UInt8 × List UInt8 × List (List UInt8 × List UInt8) × UInt8 × UInt64 × UInt8 × Int64) ×
 List UInt64 × Unit)) =>
 oelim x
 (some (@List.nil (UInt8 × List UInt8 × List (List UInt8 × List UInt8) × UInt8 × UInt64 × UInt8 × Int64), none))
 fun
 (x_1 :
 List
 ((UInt8 × List UInt8 × List UInt8 × UInt8) ×
 UInt8 × List UInt8 × List (List UInt8 × List UInt8) × UInt8 × UInt64 × UInt8 × Int64) ×
 List UInt64 × Unit) =>
 F9_R61 n n (Prod.fst (Prod.snd x_1)) [] (Prod.fst x_1) (Prod.fst x_1)
theorem F9_R509_s (n : Nat) (m_ : Nat) : F9_R509 n (m_ + 1) = F9_L509 n (F9_R509 n m_) := rfl
theorem F9_R61_s (n : Nat) (m_ : Nat) : F9_R61 n (m_ + 1) = F9_L61 n (F9_R61 n m_) := rfl
theorem ok9 (n : Nat) : FunOK Try.prog ⟨9, sig9, F9 n⟩ :=
 fun_ok (hints := ⟨[], [(61, ⟨[(1, .one (.own 1)), (3, .one (.own 2)), (15, .one (.own 3))], [(0, .cellsA [.own 4] (.int .u64) 32 []), (1, .cells [.own 0]), (2, .row (.cons (.int .u8) (.cons .str (.cons .str (.cons (.int .u8) .nil))))), (3, .miter 4 (.agg (.cons (.int .u8) (.cons .str (.cons .str (.cons (.int .u8) .nil))))) (.agg (.cons (.int .u8) (.cons .str (.cons (.ro (.cons .str (.cons .str .nil))) (.cons (.int .u8) (.cons (.int .u64) (.cons (.int .u8) (.cons (.int .i64) .nil))))))))), (4, .ranged 3)], 5⟩), (509, ⟨[(1, .one (.own 1)), (5, .one (.own 2)), (27, .one (.own 3)), (28, .one (.int .i64)), (29, .one (.int .i64))], [(0, .cellsA [.own 4] (.int .u64) 32 []), (1, .cells [.own 0]), (2, .row (.cons (.int .u8) (.cons .str (.cons (.ro (.cons .str (.cons .str .nil))) (.cons (.int .u8) (.cons (.int .u64) (.cons (.int .u8) (.cons (.int .i64) .nil)))))))), (3, .row (.cons (.int .u8) (.cons .str (.cons .str (.cons (.int .u8) .nil))))), (4, .map (.agg (.cons (.int .u8) (.cons .str (.cons .str (.cons (.int .u8) .nil))))) (.agg (.cons (.int .u8) (.cons .str (.cons (.ro (.cons .str (.cons .str .nil))) (.cons (.int .u8) (.cons (.int .u64) (.cons (.int .u8) (.cons (.int .i64) .nil)))))))))], 5⟩)]⟩) (fuel := n) (c := Try.f9.body.getD .skip) (rs := Try.f9.results.toList) tt_ok mix (FsOK.cons (ok23 n) (FsOK.cons (ok22 n) (FsOK.nil))) Try.func9 (by kernel_rfl) (by kernel_rfl) rfl (by kernel_rfl) rfl rfl (by kernel_rfl)
-- watchfire/watchfireref01.Same
def sig16 : Sig := ⟨(.cons (.one (.c (.ro (.cons .str (.cons .str .nil))))) (.cons (.one (.c (.ro (.cons .str (.cons .str .nil))))) .nil)), (.cons (.one (.c .bool)) .nil)⟩
def F16_L29 : Arr
 [PT.list (CTs.cons CT.str (CTs.cons CT.str CTs.nil)), PT.list (CTs.cons CT.str (CTs.cons CT.str CTs.nil)),
 PT.int IntKind.i64]
 (Option (Bool × Unit)) →
 List (List UInt8 × List UInt8) → List (List UInt8 × List UInt8) → Int64 → Option (Bool × Unit) := fun
 (rec :
 Arr
 [PT.list (CTs.cons CT.str (CTs.cons CT.str CTs.nil)), PT.list (CTs.cons CT.str (CTs.cons CT.str CTs.nil)),
 PT.int IntKind.i64]
 (Option (Bool × Unit)))
 (a b : List (List UInt8 × List UInt8)) (i : Int64) =>
 oite (decide (i < Int64.ofInt ↑(List.length a)))
 (obind (at? a (Int64.toInt i)) fun (x_1 : List UInt8 × List UInt8) =>
 obind (at? b (Int64.toInt i)) fun (x_2 : List UInt8 × List UInt8) =>
 oite (!(Prod.fst x_1 == Prod.fst x_2 && (Prod.snd x_1 == Prod.snd x_2 && true))) (some (false, ()))
 (rec a b (i + (1 : Int64))))
 (some (true, ()))
def F16_R29 : Nat →
 PT.T (PT.list (CTs.cons CT.str (CTs.cons CT.str CTs.nil))) →
 List (List UInt8 × List UInt8) → Int64 → Option (Bool × Unit) := ofixA (29 : Nat)
 [PT.list (CTs.cons CT.str (CTs.cons CT.str CTs.nil)), PT.list (CTs.cons CT.str (CTs.cons CT.str CTs.nil)),
 PT.int IntKind.i64]
 F16_L29
def F16 : Nat → List (List UInt8 × List UInt8) × List (List UInt8 × List UInt8) → Option (Bool × Unit) := fun (n : Nat) (x : List (List UInt8 × List UInt8) × List (List UInt8 × List UInt8)) =>
 oite (!decide (Int64.ofInt ↑(List.length (Prod.fst x)) = Int64.ofInt ↑(List.length (Prod.snd x))))
 (some (false, ())) (F16_R29 n (Prod.fst x) (Prod.snd x) (0 : Int64))
theorem F16_R29_s  (m_ : Nat) : F16_R29  (m_ + 1) = F16_L29  (F16_R29  m_) := rfl
theorem ok16 (n : Nat) : FunOK Try.prog ⟨16, sig16, F16 n⟩ :=
 fun_ok (hints := ⟨[], [(29, ⟨[(0, .one (.ro (.cons .str (.cons .str .nil)))), (1, .one (.ro (.cons .str (.cons .str .nil)))), (5, .one (.int .i64))], [], 2⟩)]⟩) (fuel := n) (c := Try.f16.body.getD .skip) (rs := Try.f16.results.toList) tt_ok mix (FsOK.nil) Try.func16 (by kernel_rfl) (by kernel_rfl) rfl (by kernel_rfl) rfl rfl (by kernel_rfl)
-- watchfire/watchfireref17.One
def sig27 : Sig := ⟨(.cons (.agg (.cons (.int .u8) (.cons .str (.cons (.ro (.cons .str (.cons .str .nil))) (.cons (.int .u8) (.cons (.int .u64) (.cons (.int .u8) (.cons (.int .i64) .nil)))))))) (.cons (.agg (.cons (.int .u8) (.cons .str (.cons (.ro (.cons .str (.cons .str .nil))) (.cons (.int .u8) (.cons (.int .u64) (.cons (.int .u8) (.cons (.int .i64) .nil)))))))) .nil)), (.cons (.one (.c .bool)) .nil)⟩
def F27 : Nat →
 (UInt8 × List UInt8 × List (List UInt8 × List UInt8) × UInt8 × UInt64 × UInt8 × Int64) ×
 UInt8 × List UInt8 × List (List UInt8 × List UInt8) × UInt8 × UInt64 × UInt8 × Int64 →
 Option (Bool × Unit) := fun (n : Nat)
 (x :
 (UInt8 × List UInt8 × List (List UInt8 × List UInt8) × UInt8 × UInt64 × UInt8 × Int64) ×
 UInt8 × List UInt8 × List (List UInt8 × List UInt8) × UInt8 × UInt64 × UInt8 × Int64) =>
 oite (decide (Prod.fst (Prod.fst x) = Prod.fst (Prod.snd x)))
 (oite (Prod.fst (Prod.snd (Prod.fst x)) == Prod.fst (Prod.snd (Prod.snd x)))
 (obind (F16 n (Prod.fst (Prod.snd (Prod.snd (Prod.fst x))), Prod.fst (Prod.snd (Prod.snd (Prod.snd x)))))
 fun (x_1 : Bool × Unit) => some (Prod.fst x_1, ()))
 (some (false, ())))
 (some (false, ()))
theorem ok27 (n : Nat) : FunOK Try.prog ⟨27, sig27, F27 n⟩ :=
 fun_ok (hints := ⟨[], []⟩) (fuel := n) (c := Try.f27.body.getD .skip) (rs := Try.f27.results.toList) tt_ok mix (FsOK.cons (ok16 n) (FsOK.nil)) Try.func27 (by kernel_rfl) (by kernel_rfl) rfl (by kernel_rfl) rfl rfl (by kernel_rfl)
-- watchfire/watchfireref17.SameAlert
def sig12 : Sig := ⟨(.cons (.agg (.cons (.int .u8) (.cons .str (.cons (.ro (.cons .str (.cons .str .nil))) (.cons (.int .u8) (.cons (.int .u64) (.cons (.int .u8) (.cons (.int .i64) .nil)))))))) (.cons (.agg (.cons (.int .u8) (.cons .str (.cons (.ro (.cons .str (.cons .str .nil))) (.cons (.int .u8) (.cons (.int .u64) (.cons (.int .u8) (.cons (.int .i64) .nil)))))))) .nil)), (.cons (.one (.c .bool)) .nil)⟩
def F12 : Nat →
 (UInt8 × List UInt8 × List (List UInt8 × List UInt8) × UInt8 × UInt64 × UInt8 × Int64) ×
 UInt8 × List UInt8 × List (List UInt8 × List UInt8) × UInt8 × UInt64 × UInt8 × Int64 →
 Option (Bool × Unit) := fun (n : Nat)
 (x :
 (UInt8 × List UInt8 × List (List UInt8 × List UInt8) × UInt8 × UInt64 × UInt8 × Int64) ×
 UInt8 × List UInt8 × List (List UInt8 × List UInt8) × UInt8 × UInt64 × UInt8 × Int64) =>
 obind
 (F27 n
 ((Prod.fst (Prod.fst x), Prod.fst (Prod.snd (Prod.fst x)), Prod.fst (Prod.snd (Prod.snd (Prod.fst x))),
 Prod.fst (Prod.snd (Prod.snd (Prod.snd (Prod.fst x)))),
 Prod.fst (Prod.snd (Prod.snd (Prod.snd (Prod.snd (Prod.fst x))))),
 Prod.fst (Prod.snd (Prod.snd (Prod.snd (Prod.snd (Prod.snd (Prod.fst x)))))),
 Prod.snd (Prod.snd (Prod.snd (Prod.snd (Prod.snd (Prod.snd (Prod.fst x))))))),
 Prod.fst (Prod.snd x), Prod.fst (Prod.snd (Prod.snd x)), Prod.fst (Prod.snd (Prod.snd (Prod.snd x))),
 Prod.fst (Prod.snd (Prod.snd (Prod.snd (Prod.snd x)))),
 Prod.fst (Prod.snd (Prod.snd (Prod.snd (Prod.snd (Prod.snd x))))),
 Prod.fst (Prod.snd (Prod.snd (Prod.snd (Prod.snd (Prod.snd (Prod.snd x)))))),
 Prod.snd (Prod.snd (Prod.snd (Prod.snd (Prod.snd (Prod.snd (Prod.snd x))))))))
 fun (x_1 : Bool × Unit) =>
 oite (Prod.fst x_1)
 (oite
 (decide
 (Prod.fst (Prod.snd (Prod.snd (Prod.snd (Prod.fst x)))) =
 Prod.fst (Prod.snd (Prod.snd (Prod.snd (Prod.snd x))))))
 (oite
 (decide
 (Prod.fst (Prod.snd (Prod.snd (Prod.snd (Prod.snd (Prod.fst x))))) =
 Prod.fst (Prod.snd (Prod.snd (Prod.snd (Prod.snd (Prod.snd x)))))))
 (oite
 (decide
 (Prod.fst (Prod.snd (Prod.snd (Prod.snd (Prod.snd (Prod.snd (Prod.fst x)))))) =
 Prod.fst (Prod.snd (Prod.snd (Prod.snd (Prod.snd (Prod.snd (Prod.snd x))))))))
 (some
 (decide
 (Prod.snd (Prod.snd (Prod.snd (Prod.snd (Prod.snd (Prod.snd (Prod.fst x)))))) =
 Prod.snd (Prod.snd (Prod.snd (Prod.snd (Prod.snd (Prod.snd (Prod.snd x))))))),
 ()))
 (some (false, ())))
 (some (false, ())))
 (some (false, ())))
 (some (false, ()))
theorem ok12 (n : Nat) : FunOK Try.prog ⟨12, sig12, F12 n⟩ :=
 fun_ok (hints := ⟨[], []⟩) (fuel := n) (c := Try.f12.body.getD .skip) (rs := Try.f12.results.toList) tt_ok mix (FsOK.cons (ok27 n) (FsOK.nil)) Try.func12 (by kernel_rfl) (by kernel_rfl) rfl (by kernel_rfl) rfl rfl (by kernel_rfl)
-- watchfire/watchfirelaw23.BoardDoubts
def sig3 : Sig := ⟨(.cons (.one (.c (.ro (.cons .bool (.cons (.int .u8) (.cons (.int .u8) (.cons (.int .u8) (.cons (.int .u16) (.cons (.int .u16) (.cons (.int .u16) (.cons (.int .u8) (.cons (.int .u8) (.cons (.int .u8) (.cons .bool .nil)))))))))))))) (.cons (.one (.c (.int .u8))) (.cons (.agg (.cons .bool (.cons (.int .u8) (.cons (.int .u8) (.cons (.int .u8) (.cons (.int .u16) (.cons (.int .u16) (.cons (.int .u16) (.cons (.int .u8) (.cons (.int .u8) (.cons (.int .u8) (.cons .bool .nil)))))))))))) .nil))), (.cons (.one (.c .bool)) .nil)⟩
noncomputable def F3_J130907 : Nat →
 Arr
 [PT.list
 (CTs.cons (CT.int IntKind.u8)
 (CTs.cons CT.str
 (CTs.cons (CT.ro (CTs.cons CT.str (CTs.cons CT.str CTs.nil)))
 (CTs.cons (CT.int IntKind.u8)
 (CTs.cons (CT.int IntKind.u64)
 (CTs.cons (CT.int IntKind.u8) (CTs.cons (CT.int IntKind.i64) CTs.nil))))))),
 PT.int IntKind.u8, PT.int IntKind.i64,
 PT.list
 (CTs.cons (CT.int IntKind.u8)
 (CTs.cons CT.str
 (CTs.cons (CT.ro (CTs.cons CT.str (CTs.cons CT.str CTs.nil)))
 (CTs.cons (CT.int IntKind.u8)
 (CTs.cons (CT.int IntKind.u64)
 (CTs.cons (CT.int IntKind.u8) (CTs.cons (CT.int IntKind.i64) CTs.nil))))))),
 PT.int IntKind.i64, PT.int IntKind.i64, PT.bool, PT.int IntKind.u8, PT.int IntKind.u8, PT.int IntKind.u8,
 PT.int IntKind.u16, PT.int IntKind.u16, PT.int IntKind.u16, PT.int IntKind.u8, PT.int IntKind.u8,
 PT.int IntKind.u8, PT.bool,
 PT.optA
 (OTs.cons
 (OT.map
 (VT.agg
 (CTs.cons (CT.int IntKind.u8)
 (CTs.cons CT.str (CTs.cons CT.str (CTs.cons (CT.int IntKind.u8) CTs.nil)))))
 (VT.agg
 (CTs.cons (CT.int IntKind.u8)
 (CTs.cons CT.str
 (CTs.cons (CT.ro (CTs.cons CT.str (CTs.cons CT.str CTs.nil)))
 (CTs.cons (CT.int IntKind.u8)
 (CTs.cons (CT.int IntKind.u64)
 (CTs.cons (CT.int IntKind.u8) (CTs.cons (CT.int IntKind.i64) CTs.nil)))))))))
 OTs.nil)
 (CT.int IntKind.u64) OTs.nil]
 (Option (Bool × Unit)) →
 List (UInt8 × List UInt8 × List (List UInt8 × List UInt8) × UInt8 × UInt64 × UInt8 × Int64) →
 UInt8 →
 Int64 →
 List (UInt8 × List UInt8 × List (List UInt8 × List UInt8) × UInt8 × UInt64 × UInt8 × Int64) →
 Int64 →
 Int64 →
 Bool →
 UInt8 →
 UInt8 →
 UInt8 →
 UInt16 →
 UInt16 →
 UInt16 →
 UInt8 →
 UInt8 →
 UInt8 →
 Bool →
 Option
 (List
 ((UInt8 × List UInt8 × List UInt8 × UInt8) ×
 UInt8 ×
 List UInt8 ×
 List (List UInt8 × List UInt8) × UInt8 × UInt64 × UInt8 × Int64) ×
 List UInt64 × Unit) →
 UInt8 →
 List UInt8 →
 List (List UInt8 × List UInt8) →
 UInt8 →
 UInt64 →
 UInt8 →
 Int64 →
 UInt8 →
 List UInt8 →
 List (List UInt8 × List UInt8) →
 UInt8 → UInt64 → UInt8 → Int64 → Option (Bool × Unit) := fun (n : Nat)
 (rec_1 :
 Arr
 [PT.list
 (CTs.cons (CT.int IntKind.u8)
 (CTs.cons CT.str
 (CTs.cons (CT.ro (CTs.cons CT.str (CTs.cons CT.str CTs.nil)))
 (CTs.cons (CT.int IntKind.u8)
 (CTs.cons (CT.int IntKind.u64)
 (CTs.cons (CT.int IntKind.u8) (CTs.cons (CT.int IntKind.i64) CTs.nil))))))),
 PT.int IntKind.u8, PT.int IntKind.i64,
 PT.list
 (CTs.cons (CT.int IntKind.u8)
 (CTs.cons CT.str
 (CTs.cons (CT.ro (CTs.cons CT.str (CTs.cons CT.str CTs.nil)))
 (CTs.cons (CT.int IntKind.u8)
 (CTs.cons (CT.int IntKind.u64)
 (CTs.cons (CT.int IntKind.u8) (CTs.cons (CT.int IntKind.i64) CTs.nil))))))),
 PT.int IntKind.i64, PT.int IntKind.i64, PT.bool, PT.int IntKind.u8, PT.int IntKind.u8, PT.int IntKind.u8,
 PT.int IntKind.u16, PT.int IntKind.u16, PT.int IntKind.u16, PT.int IntKind.u8, PT.int IntKind.u8,
 PT.int IntKind.u8, PT.bool,
 PT.optA
 (OTs.cons
 (OT.map
 (VT.agg
 (CTs.cons (CT.int IntKind.u8)
 (CTs.cons CT.str (CTs.cons CT.str (CTs.cons (CT.int IntKind.u8) CTs.nil)))))
 (VT.agg
 (CTs.cons (CT.int IntKind.u8)
 (CTs.cons CT.str
 (CTs.cons (CT.ro (CTs.cons CT.str (CTs.cons CT.str CTs.nil)))
 (CTs.cons (CT.int IntKind.u8)
 (CTs.cons (CT.int IntKind.u64)
 (CTs.cons (CT.int IntKind.u8) (CTs.cons (CT.int IntKind.i64) CTs.nil)))))))))
 OTs.nil)
 (CT.int IntKind.u64) OTs.nil]
 (Option (Bool × Unit)))
 (was_1 : List (UInt8 × List UInt8 × List (List UInt8 × List UInt8) × UInt8 × UInt64 × UInt8 × Int64)) (o_1 : UInt8)
 (e_1 : Int64) (t_4 : List (UInt8 × List UInt8 × List (List UInt8 × List UInt8) × UInt8 × UInt64 × UInt8 × Int64))
 (t_1_2 t_2_2 : Int64) (again0_2 : Bool) (again1_2 again2_2 again3_2 : UInt8) (again4_2 again5_2 again6_2 : UInt16)
 (again7_2 again8_2 again9_2 : UInt8) (again10_2 : Bool)
 (b_2 :
 Option
 (List
 ((UInt8 × List UInt8 × List UInt8 × UInt8) ×
 UInt8 × List UInt8 × List (List UInt8 × List UInt8) × UInt8 × UInt64 × UInt8 × Int64) ×
 List UInt64 × Unit))
 (a0 : UInt8) (a1 : List UInt8) (a2 : List (List UInt8 × List UInt8)) (a3 : UInt8) (a4 : UInt64) (a5 : UInt8)
 (a6 : Int64) (old0 : UInt8) (old1 : List UInt8) (old2 : List (List UInt8 × List UInt8)) (old3 : UInt8)
 (old4 : UInt64) (old5 : UInt8) (old6 : Int64) =>
 obind (F12 n ((a0, a1, a2, a3, a4, a5, a6), old0, old1, old2, old3, old4, old5, old6)) fun (x_9 : Bool × Unit) =>
 oite (!Prod.fst x_9) (some (false, ()))
 (rec_1 was_1 o_1 e_1 t_4 t_1_2 (t_2_2 + (1 : Int64)) again0_2 again1_2 again2_2 again3_2 again4_2 again5_2
 again6_2 again7_2 again8_2 again9_2 again10_2 b_2)
noncomputable def F3_L2045 : Nat →
 Arr
 [PT.list
 (CTs.cons (CT.int IntKind.u8)
 (CTs.cons CT.str
 (CTs.cons (CT.ro (CTs.cons CT.str (CTs.cons CT.str CTs.nil)))
 (CTs.cons (CT.int IntKind.u8)
 (CTs.cons (CT.int IntKind.u64)
 (CTs.cons (CT.int IntKind.u8) (CTs.cons (CT.int IntKind.i64) CTs.nil))))))),
 PT.int IntKind.u8, PT.int IntKind.i64,
 PT.list
 (CTs.cons (CT.int IntKind.u8)
 (CTs.cons CT.str
 (CTs.cons (CT.ro (CTs.cons CT.str (CTs.cons CT.str CTs.nil)))
 (CTs.cons (CT.int IntKind.u8)
 (CTs.cons (CT.int IntKind.u64)
 (CTs.cons (CT.int IntKind.u8) (CTs.cons (CT.int IntKind.i64) CTs.nil))))))),
 PT.int IntKind.i64, PT.int IntKind.i64, PT.bool, PT.int IntKind.u8, PT.int IntKind.u8, PT.int IntKind.u8,
 PT.int IntKind.u16, PT.int IntKind.u16, PT.int IntKind.u16, PT.int IntKind.u8, PT.int IntKind.u8,
 PT.int IntKind.u8, PT.bool,
 PT.optA
 (OTs.cons
 (OT.map
 (VT.agg
 (CTs.cons (CT.int IntKind.u8)
 (CTs.cons CT.str (CTs.cons CT.str (CTs.cons (CT.int IntKind.u8) CTs.nil)))))
 (VT.agg
 (CTs.cons (CT.int IntKind.u8)
 (CTs.cons CT.str
 (CTs.cons (CT.ro (CTs.cons CT.str (CTs.cons CT.str CTs.nil)))
 (CTs.cons (CT.int IntKind.u8)
 (CTs.cons (CT.int IntKind.u64)
 (CTs.cons (CT.int IntKind.u8) (CTs.cons (CT.int IntKind.i64) CTs.nil)))))))))
 OTs.nil)
 (CT.int IntKind.u64) OTs.nil]
 (Option (Bool × Unit)) →
 List (UInt8 × List UInt8 × List (List UInt8 × List UInt8) × UInt8 × UInt64 × UInt8 × Int64) →
 UInt8 →
 Int64 →
 List (UInt8 × List UInt8 × List (List UInt8 × List UInt8) × UInt8 × UInt64 × UInt8 × Int64) →
 Int64 →
 Int64 →
 Bool →
 UInt8 →
 UInt8 →
 UInt8 →
 UInt16 →
 UInt16 →
 UInt16 →
 UInt8 →
 UInt8 →
 UInt8 →
 Bool →
 Option
 (List
 ((UInt8 × List UInt8 × List UInt8 × UInt8) ×
 UInt8 ×
 List UInt8 ×
 List (List UInt8 × List UInt8) × UInt8 × UInt64 × UInt8 × Int64) ×
 List UInt64 × Unit) →
 Option (Bool × Unit) := fun (n : Nat)
 (rec_1 :
 Arr
 [PT.list
 (CTs.cons (CT.int IntKind.u8)
 (CTs.cons CT.str
 (CTs.cons (CT.ro (CTs.cons CT.str (CTs.cons CT.str CTs.nil)))
 (CTs.cons (CT.int IntKind.u8)
 (CTs.cons (CT.int IntKind.u64)
 (CTs.cons (CT.int IntKind.u8) (CTs.cons (CT.int IntKind.i64) CTs.nil))))))),
 PT.int IntKind.u8, PT.int IntKind.i64,
 PT.list
 (CTs.cons (CT.int IntKind.u8)
 (CTs.cons CT.str
 (CTs.cons (CT.ro (CTs.cons CT.str (CTs.cons CT.str CTs.nil)))
 (CTs.cons (CT.int IntKind.u8)
 (CTs.cons (CT.int IntKind.u64)
 (CTs.cons (CT.int IntKind.u8) (CTs.cons (CT.int IntKind.i64) CTs.nil))))))),
 PT.int IntKind.i64, PT.int IntKind.i64, PT.bool, PT.int IntKind.u8, PT.int IntKind.u8, PT.int IntKind.u8,
 PT.int IntKind.u16, PT.int IntKind.u16, PT.int IntKind.u16, PT.int IntKind.u8, PT.int IntKind.u8,
 PT.int IntKind.u8, PT.bool,
 PT.optA
 (OTs.cons
 (OT.map
 (VT.agg
 (CTs.cons (CT.int IntKind.u8)
 (CTs.cons CT.str (CTs.cons CT.str (CTs.cons (CT.int IntKind.u8) CTs.nil)))))
 (VT.agg
 (CTs.cons (CT.int IntKind.u8)
 (CTs.cons CT.str
 (CTs.cons (CT.ro (CTs.cons CT.str (CTs.cons CT.str CTs.nil)))
 (CTs.cons (CT.int IntKind.u8)
 (CTs.cons (CT.int IntKind.u64)
 (CTs.cons (CT.int IntKind.u8) (CTs.cons (CT.int IntKind.i64) CTs.nil)))))))))
 OTs.nil)
 (CT.int IntKind.u64) OTs.nil]
 (Option (Bool × Unit)))
 (was : List (UInt8 × List UInt8 × List (List UInt8 × List UInt8) × UInt8 × UInt64 × UInt8 × Int64)) (o : UInt8)
 (e : Int64) (t_3 : List (UInt8 × List UInt8 × List (List UInt8 × List UInt8) × UInt8 × UInt64 × UInt8 × Int64))
 (t_1_1 t_2_1 : Int64) (again0_1 : Bool) (again1_1 again2_1 again3_1 : UInt8) (again4_1 again5_1 again6_1 : UInt16)
 (again7_1 again8_1 again9_1 : UInt8) (again10_1 : Bool)
 (b_1 :
 Option
 (List
 ((UInt8 × List UInt8 × List UInt8 × UInt8) ×
 UInt8 × List UInt8 × List (List UInt8 × List UInt8) × UInt8 × UInt64 × UInt8 × Int64) ×
 List UInt64 × Unit)) =>
 oite (decide (t_2_1 < t_1_1))
 (obind (at? t_3 (Int64.toInt t_2_1))
 fun (x_7 : UInt8 × List UInt8 × List (List UInt8 × List UInt8) × UInt8 × UInt64 × UInt8 × Int64) =>
 obind (at? was (Int64.toInt t_2_1))
 fun (x_8 : UInt8 × List UInt8 × List (List UInt8 × List UInt8) × UInt8 × UInt64 × UInt8 × Int64) =>
 ojoinA (130907 : Nat)
 [PT.list
 (CTs.cons (CT.int IntKind.u8)
 (CTs.cons CT.str
 (CTs.cons (CT.ro (CTs.cons CT.str (CTs.cons CT.str CTs.nil)))
 (CTs.cons (CT.int IntKind.u8)
 (CTs.cons (CT.int IntKind.u64)
 (CTs.cons (CT.int IntKind.u8) (CTs.cons (CT.int IntKind.i64) CTs.nil))))))),
 PT.int IntKind.u8, PT.int IntKind.i64,
 PT.list
 (CTs.cons (CT.int IntKind.u8)
 (CTs.cons CT.str
 (CTs.cons (CT.ro (CTs.cons CT.str (CTs.cons CT.str CTs.nil)))
 (CTs.cons (CT.int IntKind.u8)
 (CTs.cons (CT.int IntKind.u64)
 (CTs.cons (CT.int IntKind.u8) (CTs.cons (CT.int IntKind.i64) CTs.nil))))))),
 PT.int IntKind.i64, PT.int IntKind.i64, PT.bool, PT.int IntKind.u8, PT.int IntKind.u8, PT.int IntKind.u8,
 PT.int IntKind.u16, PT.int IntKind.u16, PT.int IntKind.u16, PT.int IntKind.u8, PT.int IntKind.u8,
 PT.int IntKind.u8, PT.bool,
 PT.optA
 (OTs.cons
 (OT.map
 (VT.agg
 (CTs.cons (CT.int IntKind.u8)
 (CTs.cons CT.str (CTs.cons CT.str (CTs.cons (CT.int IntKind.u8) CTs.nil)))))
 (VT.agg
 (CTs.cons (CT.int IntKind.u8)
 (CTs.cons CT.str
 (CTs.cons (CT.ro (CTs.cons CT.str (CTs.cons CT.str CTs.nil)))
 (CTs.cons (CT.int IntKind.u8)
 (CTs.cons (CT.int IntKind.u64)
 (CTs.cons (CT.int IntKind.u8) (CTs.cons (CT.int IntKind.i64) CTs.nil)))))))))
 OTs.nil)
 (CT.int IntKind.u64) OTs.nil,
 PT.int IntKind.u8, PT.bytes, PT.list (CTs.cons CT.str (CTs.cons CT.str CTs.nil)), PT.int IntKind.u8,
 PT.int IntKind.u64, PT.int IntKind.u8, PT.int IntKind.i64, PT.int IntKind.u8, PT.bytes,
 PT.list (CTs.cons CT.str (CTs.cons CT.str CTs.nil)), PT.int IntKind.u8, PT.int IntKind.u64,
 PT.int IntKind.u8, PT.int IntKind.i64]
 (fun
 (J :
 Arr
 [PT.list
 (CTs.cons (CT.int IntKind.u8)
 (CTs.cons CT.str
 (CTs.cons (CT.ro (CTs.cons CT.str (CTs.cons CT.str CTs.nil)))
 (CTs.cons (CT.int IntKind.u8)
 (CTs.cons (CT.int IntKind.u64)
 (CTs.cons (CT.int IntKind.u8) (CTs.cons (CT.int IntKind.i64) CTs.nil))))))),
 PT.int IntKind.u8, PT.int IntKind.i64,
 PT.list
 (CTs.cons (CT.int IntKind.u8)
 (CTs.cons CT.str
 (CTs.cons (CT.ro (CTs.cons CT.str (CTs.cons CT.str CTs.nil)))
 (CTs.cons (CT.int IntKind.u8)
 (CTs.cons (CT.int IntKind.u64)
 (CTs.cons (CT.int IntKind.u8) (CTs.cons (CT.int IntKind.i64) CTs.nil))))))),
 PT.int IntKind.i64, PT.int IntKind.i64, PT.bool, PT.int IntKind.u8, PT.int IntKind.u8,
 PT.int IntKind.u8, PT.int IntKind.u16, PT.int IntKind.u16, PT.int IntKind.u16, PT.int IntKind.u8,
 PT.int IntKind.u8, PT.int IntKind.u8, PT.bool,
 PT.optA
 (OTs.cons
 (OT.map
 (VT.agg
 (CTs.cons (CT.int IntKind.u8)
 (CTs.cons CT.str (CTs.cons CT.str (CTs.cons (CT.int IntKind.u8) CTs.nil)))))
 (VT.agg
 (CTs.cons (CT.int IntKind.u8)
 (CTs.cons CT.str
 (CTs.cons (CT.ro (CTs.cons CT.str (CTs.cons CT.str CTs.nil)))
 (CTs.cons (CT.int IntKind.u8)
 (CTs.cons (CT.int IntKind.u64)
 (CTs.cons (CT.int IntKind.u8) (CTs.cons (CT.int IntKind.i64) CTs.nil)))))))))
 OTs.nil)
 (CT.int IntKind.u64) OTs.nil,
 PT.int IntKind.u8, PT.bytes, PT.list (CTs.cons CT.str (CTs.cons CT.str CTs.nil)), PT.int IntKind.u8,
 PT.int IntKind.u64, PT.int IntKind.u8, PT.int IntKind.i64, PT.int IntKind.u8, PT.bytes,
 PT.list (CTs.cons CT.str (CTs.cons CT.str CTs.nil)), PT.int IntKind.u8, PT.int IntKind.u64,
 PT.int IntKind.u8, PT.int IntKind.i64]
 (Option (Bool × Unit))) =>
 oite (decide (Prod.fst x_7 = o))
 (oite (decide (Prod.fst (Prod.snd (Prod.snd (Prod.snd x_8))) = (2 : UInt8)))
 (obind (F11 n (Prod.fst (Prod.snd x_7))) fun (x_9 : Bool × Unit) =>
 oite (!Prod.fst x_9)
 (J was o e t_3 t_1_1 t_2_1 again0_1 again1_1 again2_1 again3_1 again4_1 again5_1 again6_1 again7_1
 again8_1 again9_1 again10_1 b_1 (Prod.fst x_7) (Prod.fst (Prod.snd x_7))
 (Prod.fst (Prod.snd (Prod.snd x_7))) (Prod.fst (Prod.snd (Prod.snd (Prod.snd x_7))))
 (Prod.fst (Prod.snd (Prod.snd (Prod.snd (Prod.snd x_7)))))
 (Prod.fst (Prod.snd (Prod.snd (Prod.snd (Prod.snd (Prod.snd x_7))))))
 (Prod.snd (Prod.snd (Prod.snd (Prod.snd (Prod.snd (Prod.snd x_7)))))) (Prod.fst x_8)
 (Prod.fst (Prod.snd x_8)) (Prod.fst (Prod.snd (Prod.snd x_8))) (3 : UInt8) (100 : UInt64)
 (Prod.fst (Prod.snd (Prod.snd (Prod.snd (Prod.snd (Prod.snd x_8))))))
 (Prod.snd (Prod.snd (Prod.snd (Prod.snd (Prod.snd (Prod.snd x_8)))))))
 (J was o e t_3 t_1_1 t_2_1 again0_1 again1_1 again2_1 again3_1 again4_1 again5_1 again6_1 again7_1
 again8_1 again9_1 again10_1 b_1 (Prod.fst x_7) (Prod.fst (Prod.snd x_7))
 (Prod.fst (Prod.snd (Prod.snd x_7))) (Prod.fst (Prod.snd (Prod.snd (Prod.snd x_7))))
 (Prod.fst (Prod.snd (Prod.snd (Prod.snd (Prod.snd x_7)))))
 (Prod.fst (Prod.snd (Prod.snd (Prod.snd (Prod.snd (Prod.snd x_7))))))
 (Prod.snd (Prod.snd (Prod.snd (Prod.snd (Prod.snd (Prod.snd x_7)))))) (Prod.fst x_8)
 (Prod.fst (Prod.snd x_8)) (Prod.fst (Prod.snd (Prod.snd x_8)))
 (Prod.fst (Prod.snd (Prod.snd (Prod.snd x_8))))
 (Prod.fst (Prod.snd (Prod.snd (Prod.snd (Prod.snd x_8)))))
 (Prod.fst (Prod.snd (Prod.snd (Prod.snd (Prod.snd (Prod.snd x_8))))))
 (Prod.snd (Prod.snd (Prod.snd (Prod.snd (Prod.snd (Prod.snd x_8))))))))
 (J was o e t_3 t_1_1 t_2_1 again0_1 again1_1 again2_1 again3_1 again4_1 again5_1 again6_1 again7_1
 again8_1 again9_1 again10_1 b_1 (Prod.fst x_7) (Prod.fst (Prod.snd x_7))
 (Prod.fst (Prod.snd (Prod.snd x_7))) (Prod.fst (Prod.snd (Prod.snd (Prod.snd x_7))))
 (Prod.fst (Prod.snd (Prod.snd (Prod.snd (Prod.snd x_7)))))
 (Prod.fst (Prod.snd (Prod.snd (Prod.snd (Prod.snd (Prod.snd x_7))))))
 (Prod.snd (Prod.snd (Prod.snd (Prod.snd (Prod.snd (Prod.snd x_7)))))) (Prod.fst x_8)
 (Prod.fst (Prod.snd x_8)) (Prod.fst (Prod.snd (Prod.snd x_8)))
 (Prod.fst (Prod.snd (Prod.snd (Prod.snd x_8))))
 (Prod.fst (Prod.snd (Prod.snd (Prod.snd (Prod.snd x_8)))))
 (Prod.fst (Prod.snd (Prod.snd (Prod.snd (Prod.snd (Prod.snd x_8))))))
 (Prod.snd (Prod.snd (Prod.snd (Prod.snd (Prod.snd (Prod.snd x_8))))))))
 (J was o e t_3 t_1_1 t_2_1 again0_1 again1_1 again2_1 again3_1 again4_1 again5_1 again6_1 again7_1
 again8_1 again9_1 again10_1 b_1 (Prod.fst x_7) (Prod.fst (Prod.snd x_7))
 (Prod.fst (Prod.snd (Prod.snd x_7))) (Prod.fst (Prod.snd (Prod.snd (Prod.snd x_7))))
 (Prod.fst (Prod.snd (Prod.snd (Prod.snd (Prod.snd x_7)))))
 (Prod.fst (Prod.snd (Prod.snd (Prod.snd (Prod.snd (Prod.snd x_7))))))
 (Prod.snd (Prod.snd (Prod.snd (Prod.snd (Prod.snd (Prod.snd x_7)))))) (Prod.fst x_8)
 (Prod.fst (Prod.snd x_8)) (Prod.fst (Prod.snd (Prod.snd x_8)))
 (Prod.fst (Prod.snd (Prod.snd (Prod.snd x_8))))
 (Prod.fst (Prod.snd (Prod.snd (Prod.snd (Prod.snd x_8)))))
 (Prod.fst (Prod.snd (Prod.snd (Prod.snd (Prod.snd (Prod.snd x_8))))))
 (Prod.snd (Prod.snd (Prod.snd (Prod.snd (Prod.snd (Prod.snd x_8))))))))
 (F3_J130907 n rec_1))
 (obind
 (F8 n
 (false, again1_1, again2_1, again3_1, again4_1, again5_1, again6_1, again7_1, again8_1, again9_1, again10_1))
 fun
 (x_7 :
 (Bool ×
 UInt8 ×
 UInt64 ×
 UInt64 ×
 List UInt8 ×
 List (List UInt8 × List UInt8) × UInt8 × UInt8 × Int64 × UInt8 × UInt8 × UInt64 × UInt64) ×
 Unit) =>
 obind
 (F7 n
 (b_1, (200 : UInt64), Prod.fst (Prod.fst x_7), Prod.fst (Prod.snd (Prod.fst x_7)),
 Prod.fst (Prod.snd (Prod.snd (Prod.fst x_7))), Prod.fst (Prod.snd (Prod.snd (Prod.snd (Prod.fst x_7)))),
 Prod.fst (Prod.snd (Prod.snd (Prod.snd (Prod.snd (Prod.fst x_7))))),
 Prod.fst (Prod.snd (Prod.snd (Prod.snd (Prod.snd (Prod.snd (Prod.fst x_7)))))),
 Prod.fst (Prod.snd (Prod.snd (Prod.snd (Prod.snd (Prod.snd (Prod.snd (Prod.fst x_7))))))),
 Prod.fst (Prod.snd (Prod.snd (Prod.snd (Prod.snd (Prod.snd (Prod.snd (Prod.snd (Prod.fst x_7)))))))),
 Prod.fst
 (Prod.snd (Prod.snd (Prod.snd (Prod.snd (Prod.snd (Prod.snd (Prod.snd (Prod.snd (Prod.fst x_7))))))))),
 Prod.fst
 (Prod.snd
 (Prod.snd (Prod.snd (Prod.snd (Prod.snd (Prod.snd (Prod.snd (Prod.snd (Prod.snd (Prod.fst x_7)))))))))),
 Prod.fst
 (Prod.snd
 (Prod.snd
 (Prod.snd
 (Prod.snd (Prod.snd (Prod.snd (Prod.snd (Prod.snd (Prod.snd (Prod.snd (Prod.fst x_7))))))))))),
 Prod.fst
 (Prod.snd
 (Prod.snd
 (Prod.snd
 (Prod.snd
 (Prod.snd (Prod.snd (Prod.snd (Prod.snd (Prod.snd (Prod.snd (Prod.snd (Prod.fst x_7)))))))))))),
 Prod.snd
 (Prod.snd
 (Prod.snd
 (Prod.snd
 (Prod.snd
 (Prod.snd (Prod.snd (Prod.snd (Prod.snd (Prod.snd (Prod.snd (Prod.snd (Prod.fst x_7))))))))))))))
 fun
 (x_8 :
 Int64 ×
 Option
 (List
 ((UInt8 × List UInt8 × List UInt8 × UInt8) ×
 UInt8 × List UInt8 × List (List UInt8 × List UInt8) × UInt8 × UInt64 × UInt8 × Int64) ×
 List UInt64 × Unit)) =>
 obind
 (F13 n
 (Prod.snd x_8, Prod.fst (Prod.snd (Prod.fst x_7)),
 Prod.fst (Prod.snd (Prod.snd (Prod.snd (Prod.snd (Prod.fst x_7))))),
 Prod.fst (Prod.snd (Prod.snd (Prod.snd (Prod.snd (Prod.snd (Prod.fst x_7)))))),
 Prod.fst
 (Prod.snd
 (Prod.snd
 (Prod.snd (Prod.snd (Prod.snd (Prod.snd (Prod.snd (Prod.snd (Prod.snd (Prod.fst x_7))))))))))))
 fun
 (x_9 :
 ((UInt8 × List UInt8 × List (List UInt8 × List UInt8) × UInt8 × UInt64 × UInt8 × Int64) × Bool) ×
 Option
 (List
 ((UInt8 × List UInt8 × List UInt8 × UInt8) ×
 UInt8 × List UInt8 × List (List UInt8 × List UInt8) × UInt8 × UInt64 × UInt8 × Int64) ×
 List UInt64 × Unit)) =>
 oite (decide (e = (0 : Int64)))
 (oite (decide (Prod.fst x_8 = (0 : Int64)))
 (oite (Prod.snd (Prod.fst x_9))
 (oite
 (decide
 (Prod.fst (Prod.snd (Prod.snd (Prod.snd (Prod.fst (Prod.fst x_9))))) =
 Prod.fst (Prod.snd (Prod.snd (Prod.snd (Prod.snd (Prod.snd (Prod.snd (Prod.fst x_7)))))))))
 (some
 (decide
 (Prod.snd (Prod.snd (Prod.snd (Prod.snd (Prod.snd (Prod.snd (Prod.fst (Prod.fst x_9))))))) =
 Prod.fst
 (Prod.snd
 (Prod.snd
 (Prod.snd (Prod.snd (Prod.snd (Prod.snd (Prod.snd (Prod.snd (Prod.fst x_7)))))))))),
 ()))
 (some (false, ())))
 (some (false, ())))
 (some (false, ())))
 (some (false, ())))
noncomputable def F3_R2045 : Nat →
 Nat →
 PT.T
 (PT.list
 (CTs.cons (CT.int IntKind.u8)
 (CTs.cons CT.str
 (CTs.cons (CT.ro (CTs.cons CT.str (CTs.cons CT.str CTs.nil)))
 (CTs.cons (CT.int IntKind.u8)
 (CTs.cons (CT.int IntKind.u64)
 (CTs.cons (CT.int IntKind.u8) (CTs.cons (CT.int IntKind.i64) CTs.nil)))))))) →
 UInt8 →
 Int64 →
 List (UInt8 × List UInt8 × List (List UInt8 × List UInt8) × UInt8 × UInt64 × UInt8 × Int64) →
 Int64 →
 Int64 →
 Bool →
 UInt8 →
 UInt8 →
 UInt8 →
 UInt16 →
 UInt16 →
 UInt16 →
 UInt8 →
 UInt8 →
 UInt8 →
 Bool →
 Option
 (List
 ((UInt8 × List UInt8 × List UInt8 × UInt8) ×
 UInt8 ×
 List UInt8 ×
 List (List UInt8 × List UInt8) × UInt8 × UInt64 × UInt8 × Int64) ×
 List UInt64 × Unit) →
 Option (Bool × Unit) := fun (n : Nat) =>
 ofixA (2045 : Nat)
 [PT.list
 (CTs.cons (CT.int IntKind.u8)
 (CTs.cons CT.str
 (CTs.cons (CT.ro (CTs.cons CT.str (CTs.cons CT.str CTs.nil)))
 (CTs.cons (CT.int IntKind.u8)
 (CTs.cons (CT.int IntKind.u64)
 (CTs.cons (CT.int IntKind.u8) (CTs.cons (CT.int IntKind.i64) CTs.nil))))))),
 PT.int IntKind.u8, PT.int IntKind.i64,
 PT.list
 (CTs.cons (CT.int IntKind.u8)
 (CTs.cons CT.str
 (CTs.cons (CT.ro (CTs.cons CT.str (CTs.cons CT.str CTs.nil)))
 (CTs.cons (CT.int IntKind.u8)
 (CTs.cons (CT.int IntKind.u64)
 (CTs.cons (CT.int IntKind.u8) (CTs.cons (CT.int IntKind.i64) CTs.nil))))))),
 PT.int IntKind.i64, PT.int IntKind.i64, PT.bool, PT.int IntKind.u8, PT.int IntKind.u8, PT.int IntKind.u8,
 PT.int IntKind.u16, PT.int IntKind.u16, PT.int IntKind.u16, PT.int IntKind.u8, PT.int IntKind.u8,
 PT.int IntKind.u8, PT.bool,
 PT.optA
 (OTs.cons
 (OT.map
 (VT.agg
 (CTs.cons (CT.int IntKind.u8) (CTs.cons CT.str (CTs.cons CT.str (CTs.cons (CT.int IntKind.u8) CTs.nil)))))
 (VT.agg
 (CTs.cons (CT.int IntKind.u8)
 (CTs.cons CT.str
 (CTs.cons (CT.ro (CTs.cons CT.str (CTs.cons CT.str CTs.nil)))
 (CTs.cons (CT.int IntKind.u8)
 (CTs.cons (CT.int IntKind.u64)
 (CTs.cons (CT.int IntKind.u8) (CTs.cons (CT.int IntKind.i64) CTs.nil)))))))))
 OTs.nil)
 (CT.int IntKind.u64) OTs.nil]
 (F3_L2045 n)
noncomputable def F3_L125 : Nat →
 Arr
 [PT.int IntKind.u8,
 PT.list
 (CTs.cons CT.bool
 (CTs.cons (CT.int IntKind.u8)
 (CTs.cons (CT.int IntKind.u8)
 (CTs.cons (CT.int IntKind.u8)
 (CTs.cons (CT.int IntKind.u16)
 (CTs.cons (CT.int IntKind.u16)
 (CTs.cons (CT.int IntKind.u16)
 (CTs.cons (CT.int IntKind.u8)
 (CTs.cons (CT.int IntKind.u8)
 (CTs.cons (CT.int IntKind.u8) (CTs.cons CT.bool CTs.nil))))))))))),
 PT.int IntKind.i64, PT.int IntKind.i64, PT.bool, PT.int IntKind.u8, PT.int IntKind.u8, PT.int IntKind.u8,
 PT.int IntKind.u16, PT.int IntKind.u16, PT.int IntKind.u16, PT.int IntKind.u8, PT.int IntKind.u8,
 PT.int IntKind.u8, PT.bool,
 PT.optA
 (OTs.cons
 (OT.map
 (VT.agg
 (CTs.cons (CT.int IntKind.u8)
 (CTs.cons CT.str (CTs.cons CT.str (CTs.cons (CT.int IntKind.u8) CTs.nil)))))
 (VT.agg
 (CTs.cons (CT.int IntKind.u8)
 (CTs.cons CT.str
 (CTs.cons (CT.ro (CTs.cons CT.str (CTs.cons CT.str CTs.nil)))
 (CTs.cons (CT.int IntKind.u8)
 (CTs.cons (CT.int IntKind.u64)
 (CTs.cons (CT.int IntKind.u8) (CTs.cons (CT.int IntKind.i64) CTs.nil)))))))))
 OTs.nil)
 (CT.int IntKind.u64) OTs.nil]
 (Option (Bool × Unit)) →
 UInt8 →
 List (Bool × UInt8 × UInt8 × UInt8 × UInt16 × UInt16 × UInt16 × UInt8 × UInt8 × UInt8 × Bool) →
 Int64 →
 Int64 →
 Bool →
 UInt8 →
 UInt8 →
 UInt8 →
 UInt16 →
 UInt16 →
 UInt16 →
 UInt8 →
 UInt8 →
 UInt8 →
 Bool →
 Option
 (List
 ((UInt8 × List UInt8 × List UInt8 × UInt8) ×
 UInt8 ×
 List UInt8 ×
 List (List UInt8 × List UInt8) × UInt8 × UInt64 × UInt8 × Int64) ×
 List UInt64 × Unit) →
 Option (Bool × Unit) := fun (n : Nat)
 (rec :
 Arr
 [PT.int IntKind.u8,
 PT.list
 (CTs.cons CT.bool
 (CTs.cons (CT.int IntKind.u8)
 (CTs.cons (CT.int IntKind.u8)
 (CTs.cons (CT.int IntKind.u8)
 (CTs.cons (CT.int IntKind.u16)
 (CTs.cons (CT.int IntKind.u16)
 (CTs.cons (CT.int IntKind.u16)
 (CTs.cons (CT.int IntKind.u8)
 (CTs.cons (CT.int IntKind.u8)
 (CTs.cons (CT.int IntKind.u8) (CTs.cons CT.bool CTs.nil))))))))))),
 PT.int IntKind.i64, PT.int IntKind.i64, PT.bool, PT.int IntKind.u8, PT.int IntKind.u8, PT.int IntKind.u8,
 PT.int IntKind.u16, PT.int IntKind.u16, PT.int IntKind.u16, PT.int IntKind.u8, PT.int IntKind.u8,
 PT.int IntKind.u8, PT.bool,
 PT.optA
 (OTs.cons
 (OT.map
 (VT.agg
 (CTs.cons (CT.int IntKind.u8)
 (CTs.cons CT.str (CTs.cons CT.str (CTs.cons (CT.int IntKind.u8) CTs.nil)))))
 (VT.agg
 (CTs.cons (CT.int IntKind.u8)
 (CTs.cons CT.str
 (CTs.cons (CT.ro (CTs.cons CT.str (CTs.cons CT.str CTs.nil)))
 (CTs.cons (CT.int IntKind.u8)
 (CTs.cons (CT.int IntKind.u64)
 (CTs.cons (CT.int IntKind.u8) (CTs.cons (CT.int IntKind.i64) CTs.nil)))))))))
 OTs.nil)
 (CT.int IntKind.u64) OTs.nil]
 (Option (Bool × Unit)))
 (origin : UInt8) (t : List (Bool × UInt8 × UInt8 × UInt8 × UInt16 × UInt16 × UInt16 × UInt8 × UInt8 × UInt8 × Bool))
 (t_1 t_2 : Int64) (again0 : Bool) (again1 again2 again3 : UInt8) (again4 again5 again6 : UInt16)
 (again7 again8 again9 : UInt8) (again10 : Bool)
 (b :
 Option
 (List
 ((UInt8 × List UInt8 × List UInt8 × UInt8) ×
 UInt8 × List UInt8 × List (List UInt8 × List UInt8) × UInt8 × UInt64 × UInt8 × Int64) ×
 List UInt64 × Unit)) =>
 oite (decide (t_2 < t_1))
 (obind (at? t (Int64.toInt t_2))
 fun (x_3 : Bool × UInt8 × UInt8 × UInt8 × UInt16 × UInt16 × UInt16 × UInt8 × UInt8 × UInt8 × Bool) =>
 obind
 (F8 n
 (false, Prod.fst (Prod.snd x_3) % (3 : UInt8), Prod.fst (Prod.snd (Prod.snd x_3)),
 Prod.fst (Prod.snd (Prod.snd (Prod.snd x_3))), Prod.fst (Prod.snd (Prod.snd (Prod.snd (Prod.snd x_3)))),
 Prod.fst (Prod.snd (Prod.snd (Prod.snd (Prod.snd (Prod.snd x_3))))),
 Prod.fst (Prod.snd (Prod.snd (Prod.snd (Prod.snd (Prod.snd (Prod.snd x_3)))))),
 Prod.fst (Prod.snd (Prod.snd (Prod.snd (Prod.snd (Prod.snd (Prod.snd (Prod.snd x_3))))))),
 Prod.fst (Prod.snd (Prod.snd (Prod.snd (Prod.snd (Prod.snd (Prod.snd (Prod.snd (Prod.snd x_3)))))))),
 Prod.fst
 (Prod.snd (Prod.snd (Prod.snd (Prod.snd (Prod.snd (Prod.snd (Prod.snd (Prod.snd (Prod.snd x_3))))))))),
 Prod.snd
 (Prod.snd (Prod.snd (Prod.snd (Prod.snd (Prod.snd (Prod.snd (Prod.snd (Prod.snd (Prod.snd x_3)))))))))))
 fun
 (x_4 :
 (Bool ×
 UInt8 ×
 UInt64 ×
 UInt64 ×
 List UInt8 ×
 List (List UInt8 × List UInt8) × UInt8 × UInt8 × Int64 × UInt8 × UInt8 × UInt64 × UInt64) ×
 Unit) =>
 obind
 (F7 n
 (b, UInt64.ofInt (Int64.toInt t_2), Prod.fst (Prod.fst x_4), Prod.fst (Prod.snd (Prod.fst x_4)),
 Prod.fst (Prod.snd (Prod.snd (Prod.fst x_4))), Prod.fst (Prod.snd (Prod.snd (Prod.snd (Prod.fst x_4)))),
 Prod.fst (Prod.snd (Prod.snd (Prod.snd (Prod.snd (Prod.fst x_4))))),
 Prod.fst (Prod.snd (Prod.snd (Prod.snd (Prod.snd (Prod.snd (Prod.fst x_4)))))),
 Prod.fst (Prod.snd (Prod.snd (Prod.snd (Prod.snd (Prod.snd (Prod.snd (Prod.fst x_4))))))),
 Prod.fst (Prod.snd (Prod.snd (Prod.snd (Prod.snd (Prod.snd (Prod.snd (Prod.snd (Prod.fst x_4)))))))),
 Prod.fst
 (Prod.snd (Prod.snd (Prod.snd (Prod.snd (Prod.snd (Prod.snd (Prod.snd (Prod.snd (Prod.fst x_4))))))))),
 Prod.fst
 (Prod.snd
 (Prod.snd
 (Prod.snd (Prod.snd (Prod.snd (Prod.snd (Prod.snd (Prod.snd (Prod.snd (Prod.fst x_4)))))))))),
 Prod.fst
 (Prod.snd
 (Prod.snd
 (Prod.snd
 (Prod.snd (Prod.snd (Prod.snd (Prod.snd (Prod.snd (Prod.snd (Prod.snd (Prod.fst x_4))))))))))),
 Prod.fst
 (Prod.snd
 (Prod.snd
 (Prod.snd
 (Prod.snd
 (Prod.snd (Prod.snd (Prod.snd (Prod.snd (Prod.snd (Prod.snd (Prod.snd (Prod.fst x_4)))))))))))),
 Prod.snd
 (Prod.snd
 (Prod.snd
 (Prod.snd
 (Prod.snd
 (Prod.snd
 (Prod.snd (Prod.snd (Prod.snd (Prod.snd (Prod.snd (Prod.snd (Prod.fst x_4))))))))))))))
 fun
 (x_5 :
 Int64 ×
 Option
 (List
 ((UInt8 × List UInt8 × List UInt8 × UInt8) ×
 UInt8 × List UInt8 × List (List UInt8 × List UInt8) × UInt8 × UInt64 × UInt8 × Int64) ×
 List UInt64 × Unit)) =>
 oite (!decide (Prod.fst x_5 = (0 : Int64))) (some (false, ()))
 (rec origin t t_1 (t_2 + (1 : Int64)) again0 again1 again2 again3 again4 again5 again6 again7 again8 again9
 again10 (Prod.snd x_5)))
 (obind (F9 n b)
 fun
 (x_3 :
 List (UInt8 × List UInt8 × List (List UInt8 × List UInt8) × UInt8 × UInt64 × UInt8 × Int64) ×
 Option
 (List
 ((UInt8 × List UInt8 × List UInt8 × UInt8) ×
 UInt8 × List UInt8 × List (List UInt8 × List UInt8) × UInt8 × UInt64 × UInt8 × Int64) ×
 List UInt64 × Unit)) =>
 obind (F10 n (origin % (3 : UInt8), (7 : UInt64), (9 : UInt64)))
 fun
 (x_4 :
 (Bool ×
 UInt8 ×
 UInt64 ×
 UInt64 ×
 List UInt8 ×
 List (List UInt8 × List UInt8) × UInt8 × UInt8 × Int64 × UInt8 × UInt8 × UInt64 × UInt64) ×
 Unit) =>
 obind
 (F7 n
 (Prod.snd x_3, (100 : UInt64), Prod.fst (Prod.fst x_4), Prod.fst (Prod.snd (Prod.fst x_4)),
 Prod.fst (Prod.snd (Prod.snd (Prod.fst x_4))), Prod.fst (Prod.snd (Prod.snd (Prod.snd (Prod.fst x_4)))),
 Prod.fst (Prod.snd (Prod.snd (Prod.snd (Prod.snd (Prod.fst x_4))))),
 Prod.fst (Prod.snd (Prod.snd (Prod.snd (Prod.snd (Prod.snd (Prod.fst x_4)))))),
 Prod.fst (Prod.snd (Prod.snd (Prod.snd (Prod.snd (Prod.snd (Prod.snd (Prod.fst x_4))))))),
 Prod.fst (Prod.snd (Prod.snd (Prod.snd (Prod.snd (Prod.snd (Prod.snd (Prod.snd (Prod.fst x_4)))))))),
 Prod.fst
 (Prod.snd (Prod.snd (Prod.snd (Prod.snd (Prod.snd (Prod.snd (Prod.snd (Prod.snd (Prod.fst x_4))))))))),
 Prod.fst
 (Prod.snd
 (Prod.snd
 (Prod.snd (Prod.snd (Prod.snd (Prod.snd (Prod.snd (Prod.snd (Prod.snd (Prod.fst x_4)))))))))),
 Prod.fst
 (Prod.snd
 (Prod.snd
 (Prod.snd
 (Prod.snd (Prod.snd (Prod.snd (Prod.snd (Prod.snd (Prod.snd (Prod.snd (Prod.fst x_4))))))))))),
 Prod.fst
 (Prod.snd
 (Prod.snd
 (Prod.snd
 (Prod.snd
 (Prod.snd (Prod.snd (Prod.snd (Prod.snd (Prod.snd (Prod.snd (Prod.snd (Prod.fst x_4)))))))))))),
 Prod.snd
 (Prod.snd
 (Prod.snd
 (Prod.snd
 (Prod.snd
 (Prod.snd
 (Prod.snd (Prod.snd (Prod.snd (Prod.snd (Prod.snd (Prod.snd (Prod.fst x_4))))))))))))))
 fun
 (x_5 :
 Int64 ×
 Option
 (List
 ((UInt8 × List UInt8 × List UInt8 × UInt8) ×
 UInt8 × List UInt8 × List (List UInt8 × List UInt8) × UInt8 × UInt64 × UInt8 × Int64) ×
 List UInt64 × Unit)) =>
 obind (F9 n (Prod.snd x_5))
 fun
 (x_6 :
 List (UInt8 × List UInt8 × List (List UInt8 × List UInt8) × UInt8 × UInt64 × UInt8 × Int64) ×
 Option
 (List
 ((UInt8 × List UInt8 × List UInt8 × UInt8) ×
 UInt8 × List UInt8 × List (List UInt8 × List UInt8) × UInt8 × UInt64 × UInt8 × Int64) ×
 List UInt64 × Unit)) =>
 F3_R2045 n n (Prod.fst x_3) (origin % (3 : UInt8)) (Prod.fst x_5) (Prod.fst x_6)
 (Int64.ofInt ↑(List.length (Prod.fst x_6))) (0 : Int64) again0 again1 again2 again3 again4 again5 again6
 again7 again8 again9 again10 (Prod.snd x_6))
noncomputable def F3_R125 : Nat →
 Nat →
 PT.T (PT.int IntKind.u8) →
 List (Bool × UInt8 × UInt8 × UInt8 × UInt16 × UInt16 × UInt16 × UInt8 × UInt8 × UInt8 × Bool) →
 Int64 →
 Int64 →
 Bool →
 UInt8 →
 UInt8 →
 UInt8 →
 UInt16 →
 UInt16 →
 UInt16 →
 UInt8 →
 UInt8 →
 UInt8 →
 Bool →
 Option
 (List
 ((UInt8 × List UInt8 × List UInt8 × UInt8) ×
 UInt8 ×
 List UInt8 ×
 List (List UInt8 × List UInt8) × UInt8 × UInt64 × UInt8 × Int64) ×
 List UInt64 × Unit) →
 Option (Bool × Unit) := fun (n : Nat) =>
 ofixA (125 : Nat)
 [PT.int IntKind.u8,
 PT.list
 (CTs.cons CT.bool
 (CTs.cons (CT.int IntKind.u8)
 (CTs.cons (CT.int IntKind.u8)
 (CTs.cons (CT.int IntKind.u8)
 (CTs.cons (CT.int IntKind.u16)
 (CTs.cons (CT.int IntKind.u16)
 (CTs.cons (CT.int IntKind.u16)
 (CTs.cons (CT.int IntKind.u8)
 (CTs.cons (CT.int IntKind.u8)
 (CTs.cons (CT.int IntKind.u8) (CTs.cons CT.bool CTs.nil))))))))))),
 PT.int IntKind.i64, PT.int IntKind.i64, PT.bool, PT.int IntKind.u8, PT.int IntKind.u8, PT.int IntKind.u8,
 PT.int IntKind.u16, PT.int IntKind.u16, PT.int IntKind.u16, PT.int IntKind.u8, PT.int IntKind.u8,
 PT.int IntKind.u8, PT.bool,
 PT.optA
 (OTs.cons
 (OT.map
 (VT.agg
 (CTs.cons (CT.int IntKind.u8) (CTs.cons CT.str (CTs.cons CT.str (CTs.cons (CT.int IntKind.u8) CTs.nil)))))
 (VT.agg
 (CTs.cons (CT.int IntKind.u8)
 (CTs.cons CT.str
 (CTs.cons (CT.ro (CTs.cons CT.str (CTs.cons CT.str CTs.nil)))
 (CTs.cons (CT.int IntKind.u8)
 (CTs.cons (CT.int IntKind.u64)
 (CTs.cons (CT.int IntKind.u8) (CTs.cons (CT.int IntKind.i64) CTs.nil)))))))))
 OTs.nil)
 (CT.int IntKind.u64) OTs.nil]
 (F3_L125 n)
noncomputable def F3 : Nat →
 List (Bool × UInt8 × UInt8 × UInt8 × UInt16 × UInt16 × UInt16 × UInt8 × UInt8 × UInt8 × Bool) ×
 UInt8 × Bool × UInt8 × UInt8 × UInt8 × UInt16 × UInt16 × UInt16 × UInt8 × UInt8 × UInt8 × Bool →
 Option (Bool × Unit) := fun (n : Nat)
 (x :
 List (Bool × UInt8 × UInt8 × UInt8 × UInt16 × UInt16 × UInt16 × UInt8 × UInt8 × UInt8 × Bool) ×
 UInt8 × Bool × UInt8 × UInt8 × UInt8 × UInt16 × UInt16 × UInt16 × UInt8 × UInt8 × UInt8 × Bool) =>
 obind (F5 n ()) fun (x_1 : Bool × Unit) =>
 oite (!Prod.fst x_1) (some (false, ()))
 (oite (decide ((50 : Int64) < Int64.ofInt ↑(List.length (Prod.fst x)))) (some (true, ()))
 (obind (F6 n ())
 fun
 (x_2 :
 Option
 (List
 ((UInt8 × List UInt8 × List UInt8 × UInt8) ×
 UInt8 × List UInt8 × List (List UInt8 × List UInt8) × UInt8 × UInt64 × UInt8 × Int64) ×
 List UInt64 × Unit) ×
 Unit) =>
 F3_R125 n n (Prod.fst (Prod.snd x)) (Prod.fst x) (Int64.ofInt ↑(List.length (Prod.fst x))) (0 : Int64)
 (Prod.fst (Prod.snd (Prod.snd x))) (Prod.fst (Prod.snd (Prod.snd (Prod.snd x))))
 (Prod.fst (Prod.snd (Prod.snd (Prod.snd (Prod.snd x)))))
 (Prod.fst (Prod.snd (Prod.snd (Prod.snd (Prod.snd (Prod.snd x))))))
 (Prod.fst (Prod.snd (Prod.snd (Prod.snd (Prod.snd (Prod.snd (Prod.snd x)))))))
 (Prod.fst (Prod.snd (Prod.snd (Prod.snd (Prod.snd (Prod.snd (Prod.snd (Prod.snd x))))))))
 (Prod.fst (Prod.snd (Prod.snd (Prod.snd (Prod.snd (Prod.snd (Prod.snd (Prod.snd (Prod.snd x)))))))))
 (Prod.fst
 (Prod.snd (Prod.snd (Prod.snd (Prod.snd (Prod.snd (Prod.snd (Prod.snd (Prod.snd (Prod.snd x))))))))))
 (Prod.fst
 (Prod.snd
 (Prod.snd (Prod.snd (Prod.snd (Prod.snd (Prod.snd (Prod.snd (Prod.snd (Prod.snd (Prod.snd x)))))))))))
 (Prod.fst
 (Prod.snd
 (Prod.snd
 (Prod.snd
 (Prod.snd (Prod.snd (Prod.snd (Prod.snd (Prod.snd (Prod.snd (Prod.snd (Prod.snd x))))))))))))
 (Prod.snd
 (Prod.snd
 (Prod.snd
 (Prod.snd
 (Prod.snd (Prod.snd (Prod.snd (Prod.snd (Prod.snd (Prod.snd (Prod.snd (Prod.snd x))))))))))))
 (Prod.fst x_2)))
theorem F3_R2045_s (n : Nat) (m_ : Nat) : F3_R2045 n (m_ + 1) = F3_L2045 n (F3_R2045 n m_) := rfl
theorem F3_R125_s (n : Nat) (m_ : Nat) : F3_R125 n (m_ + 1) = F3_L125 n (F3_R125 n m_) := rfl
theorem ok3 (n : Nat) : FunOK Try.prog ⟨3, sig3, F3 n⟩ :=
 fun_ok (hints := ⟨[(130907, ⟨[(5, .one (.own 3)), (7, .one (.own 4)), (10, .one (.ro (.cons (.int .u8) (.cons .str (.cons (.ro (.cons .str (.cons .str .nil))) (.cons (.int .u8) (.cons (.int .u64) (.cons (.int .u8) (.cons (.int .i64) .nil))))))))), (11, .one (.int .u8)), (12, .one (.int .i64)), (14, .one (.own 5)), (15, .one (.own 6)), (57, .one (.ro (.cons (.int .u8) (.cons .str (.cons (.ro (.cons .str (.cons .str .nil))) (.cons (.int .u8) (.cons (.int .u64) (.cons (.int .u8) (.cons (.int .i64) .nil))))))))), (58, .one (.int .i64)), (59, .one (.int .i64))], [(3, .cells [.bool, .int .u8, .int .u8, .int .u8, .int .u16, .int .u16, .int .u16, .int .u8, .int .u8, .int .u8, .bool]), (4, .foldA (.cons (.map (.agg (.cons (.int .u8) (.cons .str (.cons .str (.cons (.int .u8) .nil))))) (.agg (.cons (.int .u8) (.cons .str (.cons (.ro (.cons .str (.cons .str .nil))) (.cons (.int .u8) (.cons (.int .u64) (.cons (.int .u8) (.cons (.int .i64) .nil))))))))) .nil) (.int .u64) 32 .nil), (5, .cells [.int .u8, .str, .ro (.cons .str (.cons .str .nil)), .int .u8, .int .u64, .int .u8, .int .i64]), (6, .cells [.int .u8, .str, .ro (.cons .str (.cons .str .nil)), .int .u8, .int .u64, .int .u8, .int .i64])], 7⟩)], [(125, ⟨[(1, .one (.int .u8)), (5, .one (.own 3)), (7, .one (.own 4)), (26, .one (.ro (.cons .bool (.cons (.int .u8) (.cons (.int .u8) (.cons (.int .u8) (.cons (.int .u16) (.cons (.int .u16) (.cons (.int .u16) (.cons (.int .u8) (.cons (.int .u8) (.cons (.int .u8) (.cons .bool .nil))))))))))))), (27, .one (.int .i64)), (28, .one (.int .i64))], [(3, .cells [.bool, .int .u8, .int .u8, .int .u8, .int .u16, .int .u16, .int .u16, .int .u8, .int .u8, .int .u8, .bool]), (4, .foldA (.cons (.map (.agg (.cons (.int .u8) (.cons .str (.cons .str (.cons (.int .u8) .nil))))) (.agg (.cons (.int .u8) (.cons .str (.cons (.ro (.cons .str (.cons .str .nil))) (.cons (.int .u8) (.cons (.int .u64) (.cons (.int .u8) (.cons (.int .i64) .nil))))))))) .nil) (.int .u64) 32 .nil)], 5⟩), (2045, ⟨[(5, .one (.own 3)), (7, .one (.own 4)), (10, .one (.ro (.cons (.int .u8) (.cons .str (.cons (.ro (.cons .str (.cons .str .nil))) (.cons (.int .u8) (.cons (.int .u64) (.cons (.int .u8) (.cons (.int .i64) .nil))))))))), (11, .one (.int .u8)), (12, .one (.int .i64)), (57, .one (.ro (.cons (.int .u8) (.cons .str (.cons (.ro (.cons .str (.cons .str .nil))) (.cons (.int .u8) (.cons (.int .u64) (.cons (.int .u8) (.cons (.int .i64) .nil))))))))), (58, .one (.int .i64)), (59, .one (.int .i64))], [(3, .cells [.bool, .int .u8, .int .u8, .int .u8, .int .u16, .int .u16, .int .u16, .int .u8, .int .u8, .int .u8, .bool]), (4, .foldA (.cons (.map (.agg (.cons (.int .u8) (.cons .str (.cons .str (.cons (.int .u8) .nil))))) (.agg (.cons (.int .u8) (.cons .str (.cons (.ro (.cons .str (.cons .str .nil))) (.cons (.int .u8) (.cons (.int .u64) (.cons (.int .u8) (.cons (.int .i64) .nil))))))))) .nil) (.int .u64) 32 .nil)], 5⟩)]⟩) (fuel := n) (c := Try.f3.body.getD .skip) (rs := Try.f3.results.toList) tt_ok mix (FsOK.cons (ok5 n) (FsOK.cons (ok6 n) (FsOK.cons (ok8 n) (FsOK.cons (ok7 n) (FsOK.cons (ok9 n) (FsOK.cons (ok10 n) (FsOK.cons (ok11 n) (FsOK.cons (ok12 n) (FsOK.cons (ok13 n) (FsOK.nil)))))))))) Try.func3 (by kernel_rfl) (by kernel_rfl) rfl (by kernel_rfl) rfl rfl (by kernel_rfl)
end Go.Proofs.Ytegncnhhofbmiaa
