/- What the functions of this seat compute, found by walking their code symbolically: each F is what the walk finds, each ok says that the Go function keeps it as a contract. Printed by a program of this repo's. -/
import Derived.Test.YtehpdcdpkdhcgaaQpFns1
open Go Go.Sx
namespace Go.Proofs.Ytehpdcdpkdhcgaa
set_option maxRecDepth 100000
set_option linter.unusedVariables false
-- watchfire/watchfirelaw18.QuietPlays
def sig5 : Sig := ⟨(.cons (.one (.c (.ro (.cons (.int .u8) (.cons (.ro (.cons (.int .u8) (.cons (.int .u8) (.cons (.int .u8) .nil)))) (.cons (.int .u8) (.cons (.int .u8) (.cons (.int .i64) (.cons (.int .u8) (.cons (.int .u8) (.cons (.int .u8) (.cons (.int .u8) (.cons (.int .u8) (.cons (.int .u8) (.cons (.ro (.cons .str (.cons (.int .u8) (.cons .str .nil)))) (.cons (.int .u64) (.cons (.int .u64) (.cons .bool .nil)))))))))))))))))) .nil), (.cons (.one (.c .bool)) .nil)⟩
noncomputable def F5_L2076159 : Nat →
 Arr
 [PT.int IntKind.i64,
 PT.list
 (CTs.cons (CT.int IntKind.u8)
 (CTs.cons
 (CT.ro
 (CTs.cons (CT.int IntKind.u8) (CTs.cons (CT.int IntKind.u8) (CTs.cons (CT.int IntKind.u8) CTs.nil))))
 (CTs.cons (CT.int IntKind.u8)
 (CTs.cons (CT.int IntKind.u8)
 (CTs.cons (CT.int IntKind.i64)
 (CTs.cons (CT.int IntKind.u8)
 (CTs.cons (CT.int IntKind.u8)
 (CTs.cons (CT.int IntKind.u8)
 (CTs.cons (CT.int IntKind.u8)
 (CTs.cons (CT.int IntKind.u8)
 (CTs.cons (CT.int IntKind.u8)
 (CTs.cons
 (CT.ro (CTs.cons CT.str (CTs.cons (CT.int IntKind.u8) (CTs.cons CT.str CTs.nil))))
 (CTs.cons (CT.int IntKind.u64)
 (CTs.cons (CT.int IntKind.u64) (CTs.cons CT.bool CTs.nil))))))))))))))),
 PT.int IntKind.i64, PT.int IntKind.i64,
 PT.opt
 (OTs.cons
 (OT.map (VT.one (CT.int IntKind.i64))
 (VT.agg
 (CTs.cons (CT.ro (CTs.cons CT.str (CTs.cons (CT.int IntKind.u8) (CTs.cons CT.str CTs.nil))))
 (CTs.cons (CT.int IntKind.u64) (CTs.cons (CT.int IntKind.u64) CTs.nil)))))
 (OTs.cons (OT.c (CT.int IntKind.i64)) OTs.nil)),
 PT.list
 (CTs.cons (CT.int IntKind.i64)
 (CTs.cons (CT.ro (CTs.cons CT.str (CTs.cons (CT.int IntKind.u8) (CTs.cons CT.str CTs.nil))))
 (CTs.cons (CT.int IntKind.u64) (CTs.cons (CT.int IntKind.u64) CTs.nil))))]
 (Option (Bool × Unit)) →
 Arr
 [PT.int IntKind.i64, PT.list (CTs.cons (CT.int IntKind.i64) CTs.nil),
 PT.list
 (CTs.cons (CT.int IntKind.u8)
 (CTs.cons
 (CT.ro
 (CTs.cons (CT.int IntKind.u8) (CTs.cons (CT.int IntKind.u8) (CTs.cons (CT.int IntKind.u8) CTs.nil))))
 (CTs.cons (CT.int IntKind.u8)
 (CTs.cons (CT.int IntKind.u8)
 (CTs.cons (CT.int IntKind.i64)
 (CTs.cons (CT.int IntKind.u8)
 (CTs.cons (CT.int IntKind.u8)
 (CTs.cons (CT.int IntKind.u8)
 (CTs.cons (CT.int IntKind.u8)
 (CTs.cons (CT.int IntKind.u8)
 (CTs.cons (CT.int IntKind.u8)
 (CTs.cons
 (CT.ro (CTs.cons CT.str (CTs.cons (CT.int IntKind.u8) (CTs.cons CT.str CTs.nil))))
 (CTs.cons (CT.int IntKind.u64)
 (CTs.cons (CT.int IntKind.u64) (CTs.cons CT.bool CTs.nil))))))))))))))),
 PT.int IntKind.i64, PT.int IntKind.i64, PT.int IntKind.i64, PT.int IntKind.i64,
 PT.opt
 (OTs.cons
 (OT.map (VT.one (CT.int IntKind.i64))
 (VT.agg
 (CTs.cons (CT.ro (CTs.cons CT.str (CTs.cons (CT.int IntKind.u8) (CTs.cons CT.str CTs.nil))))
 (CTs.cons (CT.int IntKind.u64) (CTs.cons (CT.int IntKind.u64) CTs.nil)))))
 (OTs.cons (OT.c (CT.int IntKind.i64)) OTs.nil)),
 PT.list
 (CTs.cons (CT.int IntKind.i64)
 (CTs.cons (CT.ro (CTs.cons CT.str (CTs.cons (CT.int IntKind.u8) (CTs.cons CT.str CTs.nil))))
 (CTs.cons (CT.int IntKind.u64) (CTs.cons (CT.int IntKind.u64) CTs.nil))))]
 (Option (Bool × Unit)) →
 Int64 →
 List Int64 →
 List
 (UInt8 ×
 List (UInt8 × UInt8 × UInt8) ×
 UInt8 ×
 UInt8 ×
 Int64 ×
 UInt8 ×
 UInt8 ×
 UInt8 ×
 UInt8 × UInt8 × UInt8 × List (List UInt8 × UInt8 × List UInt8) × UInt64 × UInt64 × Bool) →
 Int64 →
 Int64 →
 Int64 →
 Int64 →
 Option (List (Int64 × List (List UInt8 × UInt8 × List UInt8) × UInt64 × UInt64) × Int64) →
 List (Int64 × List (List UInt8 × UInt8 × List UInt8) × UInt64 × UInt64) → Option (Bool × Unit) := fun (n : Nat)
 (rec :
 Arr
 [PT.int IntKind.i64,
 PT.list
 (CTs.cons (CT.int IntKind.u8)
 (CTs.cons
 (CT.ro
 (CTs.cons (CT.int IntKind.u8) (CTs.cons (CT.int IntKind.u8) (CTs.cons (CT.int IntKind.u8) CTs.nil))))
 (CTs.cons (CT.int IntKind.u8)
 (CTs.cons (CT.int IntKind.u8)
 (CTs.cons (CT.int IntKind.i64)
 (CTs.cons (CT.int IntKind.u8)
 (CTs.cons (CT.int IntKind.u8)
 (CTs.cons (CT.int IntKind.u8)
 (CTs.cons (CT.int IntKind.u8)
 (CTs.cons (CT.int IntKind.u8)
 (CTs.cons (CT.int IntKind.u8)
 (CTs.cons
 (CT.ro (CTs.cons CT.str (CTs.cons (CT.int IntKind.u8) (CTs.cons CT.str CTs.nil))))
 (CTs.cons (CT.int IntKind.u64)
 (CTs.cons (CT.int IntKind.u64) (CTs.cons CT.bool CTs.nil))))))))))))))),
 PT.int IntKind.i64, PT.int IntKind.i64,
 PT.opt
 (OTs.cons
 (OT.map (VT.one (CT.int IntKind.i64))
 (VT.agg
 (CTs.cons (CT.ro (CTs.cons CT.str (CTs.cons (CT.int IntKind.u8) (CTs.cons CT.str CTs.nil))))
 (CTs.cons (CT.int IntKind.u64) (CTs.cons (CT.int IntKind.u64) CTs.nil)))))
 (OTs.cons (OT.c (CT.int IntKind.i64)) OTs.nil)),
 PT.list
 (CTs.cons (CT.int IntKind.i64)
 (CTs.cons (CT.ro (CTs.cons CT.str (CTs.cons (CT.int IntKind.u8) (CTs.cons CT.str CTs.nil))))
 (CTs.cons (CT.int IntKind.u64) (CTs.cons (CT.int IntKind.u64) CTs.nil))))]
 (Option (Bool × Unit)))
 (rec_1 :
 Arr
 [PT.int IntKind.i64, PT.list (CTs.cons (CT.int IntKind.i64) CTs.nil),
 PT.list
 (CTs.cons (CT.int IntKind.u8)
 (CTs.cons
 (CT.ro
 (CTs.cons (CT.int IntKind.u8) (CTs.cons (CT.int IntKind.u8) (CTs.cons (CT.int IntKind.u8) CTs.nil))))
 (CTs.cons (CT.int IntKind.u8)
 (CTs.cons (CT.int IntKind.u8)
 (CTs.cons (CT.int IntKind.i64)
 (CTs.cons (CT.int IntKind.u8)
 (CTs.cons (CT.int IntKind.u8)
 (CTs.cons (CT.int IntKind.u8)
 (CTs.cons (CT.int IntKind.u8)
 (CTs.cons (CT.int IntKind.u8)
 (CTs.cons (CT.int IntKind.u8)
 (CTs.cons
 (CT.ro (CTs.cons CT.str (CTs.cons (CT.int IntKind.u8) (CTs.cons CT.str CTs.nil))))
 (CTs.cons (CT.int IntKind.u64)
 (CTs.cons (CT.int IntKind.u64) (CTs.cons CT.bool CTs.nil))))))))))))))),
 PT.int IntKind.i64, PT.int IntKind.i64, PT.int IntKind.i64, PT.int IntKind.i64,
 PT.opt
 (OTs.cons
 (OT.map (VT.one (CT.int IntKind.i64))
 (VT.agg
 (CTs.cons (CT.ro (CTs.cons CT.str (CTs.cons (CT.int IntKind.u8) (CTs.cons CT.str CTs.nil))))
 (CTs.cons (CT.int IntKind.u64) (CTs.cons (CT.int IntKind.u64) CTs.nil)))))
 (OTs.cons (OT.c (CT.int IntKind.i64)) OTs.nil)),
 PT.list
 (CTs.cons (CT.int IntKind.i64)
 (CTs.cons (CT.ro (CTs.cons CT.str (CTs.cons (CT.int IntKind.u8) (CTs.cons CT.str CTs.nil))))
 (CTs.cons (CT.int IntKind.u64) (CTs.cons (CT.int IntKind.u64) CTs.nil))))]
 (Option (Bool × Unit)))
 (last_3 : Int64) (got : List Int64)
 (t_5 :
 List
 (UInt8 ×
 List (UInt8 × UInt8 × UInt8) ×
 UInt8 ×
 UInt8 ×
 Int64 ×
 UInt8 ×
 UInt8 ×
 UInt8 × UInt8 × UInt8 × UInt8 × List (List UInt8 × UInt8 × List UInt8) × UInt64 × UInt64 × Bool))
 (t_1_3 t_2_3 t_3_1 t_4_1 : Int64)
 (l_3 : Option (List (Int64 × List (List UInt8 × UInt8 × List UInt8) × UInt64 × UInt64) × Int64))
 (m_3 : List (Int64 × List (List UInt8 × UInt8 × List UInt8) × UInt64 × UInt64)) =>
 oite (decide (t_4_1 < t_3_1))
 (oite (decide ((0 : Int) ≤ Int64.toInt t_4_1) && Nat.blt (Int.toNat (Int64.toInt t_4_1)) (List.length m_3))
 (obind m_3[Int.toNat (Int64.toInt t_4_1)]?
 fun (x_5 : Int64 × List (List UInt8 × UInt8 × List UInt8) × UInt64 × UInt64) =>
 obind (F21 n (l_3, Prod.fst x_5))
 fun
 (x_6 :
 ((List (List UInt8 × UInt8 × List UInt8) × UInt64 × UInt64) × Bool) ×
 Option (List (Int64 × List (List UInt8 × UInt8 × List UInt8) × UInt64 × UInt64) × Int64)) =>
 obind (at? got (Int64.toInt t_4_1)) fun (x_7 : Int64) =>
 oite (!decide (x_7 = Prod.fst x_5)) (some (false, ()))
 (oite (!Prod.snd (Prod.fst x_6)) (some (false, ()))
 (oite (!decide (Prod.fst (Prod.snd (Prod.fst (Prod.fst x_6))) = Prod.fst (Prod.snd (Prod.snd x_5))))
 (some (false, ()))
 (oite (!decide (Prod.snd (Prod.snd (Prod.fst (Prod.fst x_6))) = Prod.snd (Prod.snd (Prod.snd x_5))))
 (some (false, ()))
 (oite
 (!decide
 (Int64.ofInt ↑(List.length (Prod.fst (Prod.fst (Prod.fst x_6)))) =
 Int64.ofInt ↑(List.length (Prod.fst (Prod.snd x_5)))))
 (some (false, ()))
 (rec_1 last_3 got t_5 t_1_3 t_2_3 t_3_1 (t_4_1 + (1 : Int64)) (Prod.snd x_6) m_3))))))
 none)
 (rec last_3 t_5 t_1_3 (t_2_3 + (1 : Int64)) l_3 m_3)
noncomputable def F5_R2076159 : Nat →
 Arr
 [PT.int IntKind.i64,
 PT.list
 (CTs.cons (CT.int IntKind.u8)
 (CTs.cons
 (CT.ro
 (CTs.cons (CT.int IntKind.u8) (CTs.cons (CT.int IntKind.u8) (CTs.cons (CT.int IntKind.u8) CTs.nil))))
 (CTs.cons (CT.int IntKind.u8)
 (CTs.cons (CT.int IntKind.u8)
 (CTs.cons (CT.int IntKind.i64)
 (CTs.cons (CT.int IntKind.u8)
 (CTs.cons (CT.int IntKind.u8)
 (CTs.cons (CT.int IntKind.u8)
 (CTs.cons (CT.int IntKind.u8)
 (CTs.cons (CT.int IntKind.u8)
 (CTs.cons (CT.int IntKind.u8)
 (CTs.cons
 (CT.ro (CTs.cons CT.str (CTs.cons (CT.int IntKind.u8) (CTs.cons CT.str CTs.nil))))
 (CTs.cons (CT.int IntKind.u64)
 (CTs.cons (CT.int IntKind.u64) (CTs.cons CT.bool CTs.nil))))))))))))))),
 PT.int IntKind.i64, PT.int IntKind.i64,
 PT.opt
 (OTs.cons
 (OT.map (VT.one (CT.int IntKind.i64))
 (VT.agg
 (CTs.cons (CT.ro (CTs.cons CT.str (CTs.cons (CT.int IntKind.u8) (CTs.cons CT.str CTs.nil))))
 (CTs.cons (CT.int IntKind.u64) (CTs.cons (CT.int IntKind.u64) CTs.nil)))))
 (OTs.cons (OT.c (CT.int IntKind.i64)) OTs.nil)),
 PT.list
 (CTs.cons (CT.int IntKind.i64)
 (CTs.cons (CT.ro (CTs.cons CT.str (CTs.cons (CT.int IntKind.u8) (CTs.cons CT.str CTs.nil))))
 (CTs.cons (CT.int IntKind.u64) (CTs.cons (CT.int IntKind.u64) CTs.nil))))]
 (Option (Bool × Unit)) →
 Nat →
 PT.T (PT.int IntKind.i64) →
 List Int64 →
 List
 (UInt8 ×
 List (UInt8 × UInt8 × UInt8) ×
 UInt8 ×
 UInt8 ×
 Int64 ×
 UInt8 ×
 UInt8 ×
 UInt8 ×
 UInt8 × UInt8 × UInt8 × List (List UInt8 × UInt8 × List UInt8) × UInt64 × UInt64 × Bool) →
 Int64 →
 Int64 →
 Int64 →
 Int64 →
 Option (List (Int64 × List (List UInt8 × UInt8 × List UInt8) × UInt64 × UInt64) × Int64) →
 List (Int64 × List (List UInt8 × UInt8 × List UInt8) × UInt64 × UInt64) → Option (Bool × Unit) := fun (n : Nat)
 (rec :
 Arr
 [PT.int IntKind.i64,
 PT.list
 (CTs.cons (CT.int IntKind.u8)
 (CTs.cons
 (CT.ro
 (CTs.cons (CT.int IntKind.u8) (CTs.cons (CT.int IntKind.u8) (CTs.cons (CT.int IntKind.u8) CTs.nil))))
 (CTs.cons (CT.int IntKind.u8)
 (CTs.cons (CT.int IntKind.u8)
 (CTs.cons (CT.int IntKind.i64)
 (CTs.cons (CT.int IntKind.u8)
 (CTs.cons (CT.int IntKind.u8)
 (CTs.cons (CT.int IntKind.u8)
 (CTs.cons (CT.int IntKind.u8)
 (CTs.cons (CT.int IntKind.u8)
 (CTs.cons (CT.int IntKind.u8)
 (CTs.cons
 (CT.ro (CTs.cons CT.str (CTs.cons (CT.int IntKind.u8) (CTs.cons CT.str CTs.nil))))
 (CTs.cons (CT.int IntKind.u64)
 (CTs.cons (CT.int IntKind.u64) (CTs.cons CT.bool CTs.nil))))))))))))))),
 PT.int IntKind.i64, PT.int IntKind.i64,
 PT.opt
 (OTs.cons
 (OT.map (VT.one (CT.int IntKind.i64))
 (VT.agg
 (CTs.cons (CT.ro (CTs.cons CT.str (CTs.cons (CT.int IntKind.u8) (CTs.cons CT.str CTs.nil))))
 (CTs.cons (CT.int IntKind.u64) (CTs.cons (CT.int IntKind.u64) CTs.nil)))))
 (OTs.cons (OT.c (CT.int IntKind.i64)) OTs.nil)),
 PT.list
 (CTs.cons (CT.int IntKind.i64)
 (CTs.cons (CT.ro (CTs.cons CT.str (CTs.cons (CT.int IntKind.u8) (CTs.cons CT.str CTs.nil))))
 (CTs.cons (CT.int IntKind.u64) (CTs.cons (CT.int IntKind.u64) CTs.nil))))]
 (Option (Bool × Unit))) =>
 ofixA (2076159 : Nat)
 [PT.int IntKind.i64, PT.list (CTs.cons (CT.int IntKind.i64) CTs.nil),
 PT.list
 (CTs.cons (CT.int IntKind.u8)
 (CTs.cons
 (CT.ro (CTs.cons (CT.int IntKind.u8) (CTs.cons (CT.int IntKind.u8) (CTs.cons (CT.int IntKind.u8) CTs.nil))))
 (CTs.cons (CT.int IntKind.u8)
 (CTs.cons (CT.int IntKind.u8)
 (CTs.cons (CT.int IntKind.i64)
 (CTs.cons (CT.int IntKind.u8)
 (CTs.cons (CT.int IntKind.u8)
 (CTs.cons (CT.int IntKind.u8)
 (CTs.cons (CT.int IntKind.u8)
 (CTs.cons (CT.int IntKind.u8)
 (CTs.cons (CT.int IntKind.u8)
 (CTs.cons
 (CT.ro (CTs.cons CT.str (CTs.cons (CT.int IntKind.u8) (CTs.cons CT.str CTs.nil))))
 (CTs.cons (CT.int IntKind.u64)
 (CTs.cons (CT.int IntKind.u64) (CTs.cons CT.bool CTs.nil))))))))))))))),
 PT.int IntKind.i64, PT.int IntKind.i64, PT.int IntKind.i64, PT.int IntKind.i64,
 PT.opt
 (OTs.cons
 (OT.map (VT.one (CT.int IntKind.i64))
 (VT.agg
 (CTs.cons (CT.ro (CTs.cons CT.str (CTs.cons (CT.int IntKind.u8) (CTs.cons CT.str CTs.nil))))
 (CTs.cons (CT.int IntKind.u64) (CTs.cons (CT.int IntKind.u64) CTs.nil)))))
 (OTs.cons (OT.c (CT.int IntKind.i64)) OTs.nil)),
 PT.list
 (CTs.cons (CT.int IntKind.i64)
 (CTs.cons (CT.ro (CTs.cons CT.str (CTs.cons (CT.int IntKind.u8) (CTs.cons CT.str CTs.nil))))
 (CTs.cons (CT.int IntKind.u64) (CTs.cons (CT.int IntKind.u64) CTs.nil))))]
 (F5_L2076159 n rec)
noncomputable def F5_J129759 : Nat →
 Arr
 [PT.int IntKind.i64,
 PT.list
 (CTs.cons (CT.int IntKind.u8)
 (CTs.cons
 (CT.ro
 (CTs.cons (CT.int IntKind.u8) (CTs.cons (CT.int IntKind.u8) (CTs.cons (CT.int IntKind.u8) CTs.nil))))
 (CTs.cons (CT.int IntKind.u8)
 (CTs.cons (CT.int IntKind.u8)
 (CTs.cons (CT.int IntKind.i64)
 (CTs.cons (CT.int IntKind.u8)
 (CTs.cons (CT.int IntKind.u8)
 (CTs.cons (CT.int IntKind.u8)
 (CTs.cons (CT.int IntKind.u8)
 (CTs.cons (CT.int IntKind.u8)
 (CTs.cons (CT.int IntKind.u8)
 (CTs.cons
 (CT.ro (CTs.cons CT.str (CTs.cons (CT.int IntKind.u8) (CTs.cons CT.str CTs.nil))))
 (CTs.cons (CT.int IntKind.u64)
 (CTs.cons (CT.int IntKind.u64) (CTs.cons CT.bool CTs.nil))))))))))))))),
 PT.int IntKind.i64, PT.int IntKind.i64,
 PT.opt
 (OTs.cons
 (OT.map (VT.one (CT.int IntKind.i64))
 (VT.agg
 (CTs.cons (CT.ro (CTs.cons CT.str (CTs.cons (CT.int IntKind.u8) (CTs.cons CT.str CTs.nil))))
 (CTs.cons (CT.int IntKind.u64) (CTs.cons (CT.int IntKind.u64) CTs.nil)))))
 (OTs.cons (OT.c (CT.int IntKind.i64)) OTs.nil)),
 PT.list
 (CTs.cons (CT.int IntKind.i64)
 (CTs.cons (CT.ro (CTs.cons CT.str (CTs.cons (CT.int IntKind.u8) (CTs.cons CT.str CTs.nil))))
 (CTs.cons (CT.int IntKind.u64) (CTs.cons (CT.int IntKind.u64) CTs.nil))))]
 (Option (Bool × Unit)) →
 Int64 →
 List
 (UInt8 ×
 List (UInt8 × UInt8 × UInt8) ×
 UInt8 ×
 UInt8 ×
 Int64 ×
 UInt8 ×
 UInt8 ×
 UInt8 ×
 UInt8 × UInt8 × UInt8 × List (List UInt8 × UInt8 × List UInt8) × UInt64 × UInt64 × Bool) →
 Int64 →
 Int64 →
 Option (List (Int64 × List (List UInt8 × UInt8 × List UInt8) × UInt64 × UInt64) × Int64) →
 List (Int64 × List (List UInt8 × UInt8 × List UInt8) × UInt64 × UInt64) → Option (Bool × Unit) := fun (n : Nat)
 (rec :
 Arr
 [PT.int IntKind.i64,
 PT.list
 (CTs.cons (CT.int IntKind.u8)
 (CTs.cons
 (CT.ro
 (CTs.cons (CT.int IntKind.u8) (CTs.cons (CT.int IntKind.u8) (CTs.cons (CT.int IntKind.u8) CTs.nil))))
 (CTs.cons (CT.int IntKind.u8)
 (CTs.cons (CT.int IntKind.u8)
 (CTs.cons (CT.int IntKind.i64)
 (CTs.cons (CT.int IntKind.u8)
 (CTs.cons (CT.int IntKind.u8)
 (CTs.cons (CT.int IntKind.u8)
 (CTs.cons (CT.int IntKind.u8)
 (CTs.cons (CT.int IntKind.u8)
 (CTs.cons (CT.int IntKind.u8)
 (CTs.cons
 (CT.ro (CTs.cons CT.str (CTs.cons (CT.int IntKind.u8) (CTs.cons CT.str CTs.nil))))
 (CTs.cons (CT.int IntKind.u64)
 (CTs.cons (CT.int IntKind.u64) (CTs.cons CT.bool CTs.nil))))))))))))))),
 PT.int IntKind.i64, PT.int IntKind.i64,
 PT.opt
 (OTs.cons
 (OT.map (VT.one (CT.int IntKind.i64))
 (VT.agg
 (CTs.cons (CT.ro (CTs.cons CT.str (CTs.cons (CT.int IntKind.u8) (CTs.cons CT.str CTs.nil))))
 (CTs.cons (CT.int IntKind.u64) (CTs.cons (CT.int IntKind.u64) CTs.nil)))))
 (OTs.cons (OT.c (CT.int IntKind.i64)) OTs.nil)),
 PT.list
 (CTs.cons (CT.int IntKind.i64)
 (CTs.cons (CT.ro (CTs.cons CT.str (CTs.cons (CT.int IntKind.u8) (CTs.cons CT.str CTs.nil))))
 (CTs.cons (CT.int IntKind.u64) (CTs.cons (CT.int IntKind.u64) CTs.nil))))]
 (Option (Bool × Unit)))
 (last_2 : Int64)
 (t_4 :
 List
 (UInt8 ×
 List (UInt8 × UInt8 × UInt8) ×
 UInt8 ×
 UInt8 ×
 Int64 ×
 UInt8 ×
 UInt8 ×
 UInt8 × UInt8 × UInt8 × UInt8 × List (List UInt8 × UInt8 × List UInt8) × UInt64 × UInt64 × Bool))
 (t_1_2 t_2_2 : Int64)
 (l_2 : Option (List (Int64 × List (List UInt8 × UInt8 × List UInt8) × UInt64 × UInt64) × Int64))
 (m_2 : List (Int64 × List (List UInt8 × UInt8 × List UInt8) × UInt64 × UInt64)) =>
 obind (F20 n l_2)
 fun (x_4 : List Int64 × Option (List (Int64 × List (List UInt8 × UInt8 × List UInt8) × UInt64 × UInt64) × Int64)) =>
 oite (!decide (Int64.ofInt ↑(List.length (Prod.fst x_4)) = Int64.ofInt ↑(List.length m_2)))
 (some (false, ()))
 (F5_R2076159 n rec n last_2 (Prod.fst x_4) t_4 t_1_2 t_2_2 (Int64.ofInt ↑(List.length m_2)) (0 : Int64)
 (Prod.snd x_4) m_2)
noncomputable def F5_J8304603 : Arr
 [PT.int IntKind.i64,
 PT.list
 (CTs.cons (CT.int IntKind.u8)
 (CTs.cons
 (CT.ro (CTs.cons (CT.int IntKind.u8) (CTs.cons (CT.int IntKind.u8) (CTs.cons (CT.int IntKind.u8) CTs.nil))))
 (CTs.cons (CT.int IntKind.u8)
 (CTs.cons (CT.int IntKind.u8)
 (CTs.cons (CT.int IntKind.i64)
 (CTs.cons (CT.int IntKind.u8)
 (CTs.cons (CT.int IntKind.u8)
 (CTs.cons (CT.int IntKind.u8)
 (CTs.cons (CT.int IntKind.u8)
 (CTs.cons (CT.int IntKind.u8)
 (CTs.cons (CT.int IntKind.u8)
 (CTs.cons
 (CT.ro (CTs.cons CT.str (CTs.cons (CT.int IntKind.u8) (CTs.cons CT.str CTs.nil))))
 (CTs.cons (CT.int IntKind.u64)
 (CTs.cons (CT.int IntKind.u64) (CTs.cons CT.bool CTs.nil))))))))))))))),
 PT.int IntKind.i64, PT.int IntKind.i64,
 PT.opt
 (OTs.cons
 (OT.map (VT.one (CT.int IntKind.i64))
 (VT.agg
 (CTs.cons (CT.ro (CTs.cons CT.str (CTs.cons (CT.int IntKind.u8) (CTs.cons CT.str CTs.nil))))
 (CTs.cons (CT.int IntKind.u64) (CTs.cons (CT.int IntKind.u64) CTs.nil)))))
 (OTs.cons (OT.c (CT.int IntKind.i64)) OTs.nil)),
 PT.list
 (CTs.cons (CT.int IntKind.i64)
 (CTs.cons (CT.ro (CTs.cons CT.str (CTs.cons (CT.int IntKind.u8) (CTs.cons CT.str CTs.nil))))
 (CTs.cons (CT.int IntKind.u64) (CTs.cons (CT.int IntKind.u64) CTs.nil))))]
 (Option (Bool × Unit)) →
 Int64 →
 Int64 →
 Int64 →
 List
 (UInt8 ×
 List (UInt8 × UInt8 × UInt8) ×
 UInt8 ×
 UInt8 ×
 Int64 ×
 UInt8 ×
 UInt8 ×
 UInt8 ×
 UInt8 × UInt8 × UInt8 × List (List UInt8 × UInt8 × List UInt8) × UInt64 × UInt64 × Bool) →
 Int64 →
 Int64 →
 Option (List (Int64 × List (List UInt8 × UInt8 × List UInt8) × UInt64 × UInt64) × Int64) →
 List (Int64 × List (List UInt8 × UInt8 × List UInt8) × UInt64 × UInt64) → Option (Bool × Unit) := fun
 (J :
 Arr
 [PT.int IntKind.i64,
 PT.list
 (CTs.cons (CT.int IntKind.u8)
 (CTs.cons
 (CT.ro
 (CTs.cons (CT.int IntKind.u8) (CTs.cons (CT.int IntKind.u8) (CTs.cons (CT.int IntKind.u8) CTs.nil))))
 (CTs.cons (CT.int IntKind.u8)
 (CTs.cons (CT.int IntKind.u8)
 (CTs.cons (CT.int IntKind.i64)
 (CTs.cons (CT.int IntKind.u8)
 (CTs.cons (CT.int IntKind.u8)
 (CTs.cons (CT.int IntKind.u8)
 (CTs.cons (CT.int IntKind.u8)
 (CTs.cons (CT.int IntKind.u8)
 (CTs.cons (CT.int IntKind.u8)
 (CTs.cons
 (CT.ro (CTs.cons CT.str (CTs.cons (CT.int IntKind.u8) (CTs.cons CT.str CTs.nil))))
 (CTs.cons (CT.int IntKind.u64)
 (CTs.cons (CT.int IntKind.u64) (CTs.cons CT.bool CTs.nil))))))))))))))),
 PT.int IntKind.i64, PT.int IntKind.i64,
 PT.opt
 (OTs.cons
 (OT.map (VT.one (CT.int IntKind.i64))
 (VT.agg
 (CTs.cons (CT.ro (CTs.cons CT.str (CTs.cons (CT.int IntKind.u8) (CTs.cons CT.str CTs.nil))))
 (CTs.cons (CT.int IntKind.u64) (CTs.cons (CT.int IntKind.u64) CTs.nil)))))
 (OTs.cons (OT.c (CT.int IntKind.i64)) OTs.nil)),
 PT.list
 (CTs.cons (CT.int IntKind.i64)
 (CTs.cons (CT.ro (CTs.cons CT.str (CTs.cons (CT.int IntKind.u8) (CTs.cons CT.str CTs.nil))))
 (CTs.cons (CT.int IntKind.u64) (CTs.cons (CT.int IntKind.u64) CTs.nil))))]
 (Option (Bool × Unit)))
 (last_2 e want : Int64)
 (t_4 :
 List
 (UInt8 ×
 List (UInt8 × UInt8 × UInt8) ×
 UInt8 ×
 UInt8 ×
 Int64 ×
 UInt8 ×
 UInt8 ×
 UInt8 × UInt8 × UInt8 × UInt8 × List (List UInt8 × UInt8 × List UInt8) × UInt64 × UInt64 × Bool))
 (t_1_2 t_2_2 : Int64)
 (l_2 : Option (List (Int64 × List (List UInt8 × UInt8 × List UInt8) × UInt64 × UInt64) × Int64))
 (m_2 : List (Int64 × List (List UInt8 × UInt8 × List UInt8) × UInt64 × UInt64)) =>
 oite (!decide (e = want)) (some (false, ())) (J last_2 t_4 t_1_2 t_2_2 l_2 m_2)
noncomputable def F5_L33218413 : Arr
 [PT.int IntKind.i64, PT.int IntKind.i64, PT.int IntKind.i64,
 PT.list
 (CTs.cons (CT.int IntKind.u8)
 (CTs.cons
 (CT.ro (CTs.cons (CT.int IntKind.u8) (CTs.cons (CT.int IntKind.u8) (CTs.cons (CT.int IntKind.u8) CTs.nil))))
 (CTs.cons (CT.int IntKind.u8)
 (CTs.cons (CT.int IntKind.u8)
 (CTs.cons (CT.int IntKind.i64)
 (CTs.cons (CT.int IntKind.u8)
 (CTs.cons (CT.int IntKind.u8)
 (CTs.cons (CT.int IntKind.u8)
 (CTs.cons (CT.int IntKind.u8)
 (CTs.cons (CT.int IntKind.u8)
 (CTs.cons (CT.int IntKind.u8)
 (CTs.cons
 (CT.ro (CTs.cons CT.str (CTs.cons (CT.int IntKind.u8) (CTs.cons CT.str CTs.nil))))
 (CTs.cons (CT.int IntKind.u64)
 (CTs.cons (CT.int IntKind.u64) (CTs.cons CT.bool CTs.nil))))))))))))))),
 PT.int IntKind.i64, PT.int IntKind.i64,
 PT.opt
 (OTs.cons
 (OT.map (VT.one (CT.int IntKind.i64))
 (VT.agg
 (CTs.cons (CT.ro (CTs.cons CT.str (CTs.cons (CT.int IntKind.u8) (CTs.cons CT.str CTs.nil))))
 (CTs.cons (CT.int IntKind.u64) (CTs.cons (CT.int IntKind.u64) CTs.nil)))))
 (OTs.cons (OT.c (CT.int IntKind.i64)) OTs.nil)),
 PT.list
 (CTs.cons (CT.int IntKind.i64)
 (CTs.cons (CT.ro (CTs.cons CT.str (CTs.cons (CT.int IntKind.u8) (CTs.cons CT.str CTs.nil))))
 (CTs.cons (CT.int IntKind.u64) (CTs.cons (CT.int IntKind.u64) CTs.nil))))]
 (Option (Bool × Unit)) →
 Arr
 [PT.int IntKind.i64, PT.int IntKind.u64, PT.int IntKind.i64, PT.int IntKind.i64, PT.int IntKind.i64,
 PT.int IntKind.i64,
 PT.list
 (CTs.cons (CT.int IntKind.u8)
 (CTs.cons
 (CT.ro
 (CTs.cons (CT.int IntKind.u8) (CTs.cons (CT.int IntKind.u8) (CTs.cons (CT.int IntKind.u8) CTs.nil))))
 (CTs.cons (CT.int IntKind.u8)
 (CTs.cons (CT.int IntKind.u8)
 (CTs.cons (CT.int IntKind.i64)
 (CTs.cons (CT.int IntKind.u8)
 (CTs.cons (CT.int IntKind.u8)
 (CTs.cons (CT.int IntKind.u8)
 (CTs.cons (CT.int IntKind.u8)
 (CTs.cons (CT.int IntKind.u8)
 (CTs.cons (CT.int IntKind.u8)
 (CTs.cons
 (CT.ro (CTs.cons CT.str (CTs.cons (CT.int IntKind.u8) (CTs.cons CT.str CTs.nil))))
 (CTs.cons (CT.int IntKind.u64)
 (CTs.cons (CT.int IntKind.u64) (CTs.cons CT.bool CTs.nil))))))))))))))),
 PT.int IntKind.i64, PT.int IntKind.i64,
 PT.opt
 (OTs.cons
 (OT.map (VT.one (CT.int IntKind.i64))
 (VT.agg
 (CTs.cons (CT.ro (CTs.cons CT.str (CTs.cons (CT.int IntKind.u8) (CTs.cons CT.str CTs.nil))))
 (CTs.cons (CT.int IntKind.u64) (CTs.cons (CT.int IntKind.u64) CTs.nil)))))
 (OTs.cons (OT.c (CT.int IntKind.i64)) OTs.nil)),
 PT.list
 (CTs.cons (CT.int IntKind.i64)
 (CTs.cons (CT.ro (CTs.cons CT.str (CTs.cons (CT.int IntKind.u8) (CTs.cons CT.str CTs.nil))))
 (CTs.cons (CT.int IntKind.u64) (CTs.cons (CT.int IntKind.u64) CTs.nil))))]
 (Option (Bool × Unit)) →
 Int64 →
 UInt64 →
 Int64 →
 Int64 →
 Int64 →
 Int64 →
 List
 (UInt8 ×
 List (UInt8 × UInt8 × UInt8) ×
 UInt8 ×
 UInt8 ×
 Int64 ×
 UInt8 ×
 UInt8 ×
 UInt8 ×
 UInt8 ×
 UInt8 × UInt8 × List (List UInt8 × UInt8 × List UInt8) × UInt64 × UInt64 × Bool) →
 Int64 →
 Int64 →
 Option (List (Int64 × List (List UInt8 × UInt8 × List UInt8) × UInt64 × UInt64) × Int64) →
 List (Int64 × List (List UInt8 × UInt8 × List UInt8) × UInt64 × UInt64) → Option (Bool × Unit) := fun
 (J_1 :
 Arr
 [PT.int IntKind.i64, PT.int IntKind.i64, PT.int IntKind.i64,
 PT.list
 (CTs.cons (CT.int IntKind.u8)
 (CTs.cons
 (CT.ro
 (CTs.cons (CT.int IntKind.u8) (CTs.cons (CT.int IntKind.u8) (CTs.cons (CT.int IntKind.u8) CTs.nil))))
 (CTs.cons (CT.int IntKind.u8)
 (CTs.cons (CT.int IntKind.u8)
 (CTs.cons (CT.int IntKind.i64)
 (CTs.cons (CT.int IntKind.u8)
 (CTs.cons (CT.int IntKind.u8)
 (CTs.cons (CT.int IntKind.u8)
 (CTs.cons (CT.int IntKind.u8)
 (CTs.cons (CT.int IntKind.u8)
 (CTs.cons (CT.int IntKind.u8)
 (CTs.cons
 (CT.ro (CTs.cons CT.str (CTs.cons (CT.int IntKind.u8) (CTs.cons CT.str CTs.nil))))
 (CTs.cons (CT.int IntKind.u64)
 (CTs.cons (CT.int IntKind.u64) (CTs.cons CT.bool CTs.nil))))))))))))))),
 PT.int IntKind.i64, PT.int IntKind.i64,
 PT.opt
 (OTs.cons
 (OT.map (VT.one (CT.int IntKind.i64))
 (VT.agg
 (CTs.cons (CT.ro (CTs.cons CT.str (CTs.cons (CT.int IntKind.u8) (CTs.cons CT.str CTs.nil))))
 (CTs.cons (CT.int IntKind.u64) (CTs.cons (CT.int IntKind.u64) CTs.nil)))))
 (OTs.cons (OT.c (CT.int IntKind.i64)) OTs.nil)),
 PT.list
 (CTs.cons (CT.int IntKind.i64)
 (CTs.cons (CT.ro (CTs.cons CT.str (CTs.cons (CT.int IntKind.u8) (CTs.cons CT.str CTs.nil))))
 (CTs.cons (CT.int IntKind.u64) (CTs.cons (CT.int IntKind.u64) CTs.nil))))]
 (Option (Bool × Unit)))
 (rec_1 :
 Arr
 [PT.int IntKind.i64, PT.int IntKind.u64, PT.int IntKind.i64, PT.int IntKind.i64, PT.int IntKind.i64,
 PT.int IntKind.i64,
 PT.list
 (CTs.cons (CT.int IntKind.u8)
 (CTs.cons
 (CT.ro
 (CTs.cons (CT.int IntKind.u8) (CTs.cons (CT.int IntKind.u8) (CTs.cons (CT.int IntKind.u8) CTs.nil))))
 (CTs.cons (CT.int IntKind.u8)
 (CTs.cons (CT.int IntKind.u8)
 (CTs.cons (CT.int IntKind.i64)
 (CTs.cons (CT.int IntKind.u8)
 (CTs.cons (CT.int IntKind.u8)
 (CTs.cons (CT.int IntKind.u8)
 (CTs.cons (CT.int IntKind.u8)
 (CTs.cons (CT.int IntKind.u8)
 (CTs.cons (CT.int IntKind.u8)
 (CTs.cons
 (CT.ro (CTs.cons CT.str (CTs.cons (CT.int IntKind.u8) (CTs.cons CT.str CTs.nil))))
 (CTs.cons (CT.int IntKind.u64)
 (CTs.cons (CT.int IntKind.u64) (CTs.cons CT.bool CTs.nil))))))))))))))),
 PT.int IntKind.i64, PT.int IntKind.i64,
 PT.opt
 (OTs.cons
 (OT.map (VT.one (CT.int IntKind.i64))
 (VT.agg
 (CTs.cons (CT.ro (CTs.cons CT.str (CTs.cons (CT.int IntKind.u8) (CTs.cons CT.str CTs.nil))))
 (CTs.cons (CT.int IntKind.u64) (CTs.cons (CT.int IntKind.u64) CTs.nil)))))
 (OTs.cons (OT.c (CT.int IntKind.i64)) OTs.nil)),
 PT.list
 (CTs.cons (CT.int IntKind.i64)
 (CTs.cons (CT.ro (CTs.cons CT.str (CTs.cons (CT.int IntKind.u8) (CTs.cons CT.str CTs.nil))))
 (CTs.cons (CT.int IntKind.u64) (CTs.cons (CT.int IntKind.u64) CTs.nil))))]
 (Option (Bool × Unit)))
 (last_2 : Int64) (now_1 : UInt64) (n__1 e want k : Int64)
 (t_4 :
 List
 (UInt8 ×
 List (UInt8 × UInt8 × UInt8) ×
 UInt8 ×
 UInt8 ×
 Int64 ×
 UInt8 ×
 UInt8 ×
 UInt8 × UInt8 × UInt8 × UInt8 × List (List UInt8 × UInt8 × List UInt8) × UInt64 × UInt64 × Bool))
 (t_1_2 t_2_2 : Int64)
 (l_2 : Option (List (Int64 × List (List UInt8 × UInt8 × List UInt8) × UInt64 × UInt64) × Int64))
 (m_2 : List (Int64 × List (List UInt8 × UInt8 × List UInt8) × UInt64 × UInt64)) =>
 oite (decide (k < Int64.ofInt ↑(List.length m_2)))
 (oite (decide ((0 : Int) ≤ Int64.toInt k) && Nat.blt (Int.toNat (Int64.toInt k)) (List.length m_2))
 (obind m_2[Int.toNat (Int64.toInt k)]?
 fun (x_5 : Int64 × List (List UInt8 × UInt8 × List UInt8) × UInt64 × UInt64) =>
 oite (!decide (Prod.fst x_5 = n__1)) (rec_1 last_2 now_1 n__1 e want (k + (1 : Int64)) t_4 t_1_2 t_2_2 l_2 m_2)
 (oite (decide ((0 : Int) ≤ Int64.toInt k) && Nat.blt (Int.toNat (Int64.toInt k)) (List.length m_2))
 (obind m_2[Int.toNat (Int64.toInt k)]?
 fun (x_6 : Int64 × List (List UInt8 × UInt8 × List UInt8) × UInt64 × UInt64) =>
 oite (decide (now_1 ≤ Prod.fst (Prod.snd (Prod.snd x_6))))
 (oite (decide (Int64.toInt k = (0 : Int)) && decide (Int64.toInt k = (0 : Int)))
 (oite
 (decide ((0 : Int) ≤ Int64.toInt (k + (1 : Int64))) &&
 Nat.ble (Int.toNat (Int64.toInt (k + (1 : Int64)))) (List.length m_2))
 (oite
 (Nat.ble
 ((0 : Nat) +
 List.length
 (List.take (List.length m_2 - Int.toNat (Int64.toInt (k + (1 : Int64))))
 (List.drop (Int.toNat (Int64.toInt (k + (1 : Int64)))) m_2)))
 (4294967296 : Nat))
 (J_1 last_2 e (0 : Int64) t_4 t_1_2 t_2_2 l_2
 ([] ++
 List.take (List.length m_2 - Int.toNat (Int64.toInt (k + (1 : Int64))))
 (List.drop (Int.toNat (Int64.toInt (k + (1 : Int64)))) m_2)))
 none)
 none)
 (oite
 (decide ((0 : Int) ≤ Int64.toInt k) && decide (Int64.toInt k ≤ Int64.toInt k) &&
 Nat.ble (Int.toNat (Int64.toInt k)) (List.length m_2))
 (oite
 (decide ((0 : Int) ≤ Int64.toInt (k + (1 : Int64))) &&
 Nat.ble (Int.toNat (Int64.toInt (k + (1 : Int64)))) (List.length m_2))
 (oite (Nat.ble (Int.toNat (Int64.toInt k)) (List.length m_2))
 (oite
 (Nat.ble
 (List.length (List.take (Int.toNat (Int64.toInt k)) m_2) +
 List.length
 (List.take (List.length m_2 - Int.toNat (Int64.toInt (k + (1 : Int64))))
 (List.drop (Int.toNat (Int64.toInt (k + (1 : Int64)))) m_2)))
 (4294967296 : Nat))
 (J_1 last_2 e (0 : Int64) t_4 t_1_2 t_2_2 l_2
 (List.take (Int.toNat (Int64.toInt k)) m_2 ++
 List.take (List.length m_2 - Int.toNat (Int64.toInt (k + (1 : Int64))))
 (List.drop (Int.toNat (Int64.toInt (k + (1 : Int64)))) m_2)))
 none)
 none)
 none)
 none))
 (oite (decide ((0 : Int) ≤ Int64.toInt k) && Nat.blt (Int.toNat (Int64.toInt k)) (List.length m_2))
 (obind m_2[Int.toNat (Int64.toInt k)]?
 fun (x_7 : Int64 × List (List UInt8 × UInt8 × List UInt8) × UInt64 × UInt64) =>
 oite (decide ((0 : Int) ≤ Int64.toInt k) && Nat.blt (Int.toNat (Int64.toInt k)) (List.length m_2))
 (obind m_2[Int.toNat (Int64.toInt k)]?
 fun (x_8 : Int64 × List (List UInt8 × UInt8 × List UInt8) × UInt64 × UInt64) =>
 J_1 last_2 e (0 : Int64) t_4 t_1_2 t_2_2 l_2
 (List.set m_2 (Int.toNat (Int64.toInt k))
 (Prod.fst x_8, Prod.fst (Prod.snd x_8), Prod.fst (Prod.snd (Prod.snd x_8)),
 IK.minI IntKind.u64 (Prod.snd (Prod.snd (Prod.snd x_7))) now_1)))
 none)
 none))
 none))
 none)
 (J_1 last_2 e want t_4 t_1_2 t_2_2 l_2 m_2)
noncomputable def F5_R33218413 : Arr
 [PT.int IntKind.i64, PT.int IntKind.i64, PT.int IntKind.i64,
 PT.list
 (CTs.cons (CT.int IntKind.u8)
 (CTs.cons
 (CT.ro (CTs.cons (CT.int IntKind.u8) (CTs.cons (CT.int IntKind.u8) (CTs.cons (CT.int IntKind.u8) CTs.nil))))
 (CTs.cons (CT.int IntKind.u8)
 (CTs.cons (CT.int IntKind.u8)
 (CTs.cons (CT.int IntKind.i64)
 (CTs.cons (CT.int IntKind.u8)
 (CTs.cons (CT.int IntKind.u8)
 (CTs.cons (CT.int IntKind.u8)
 (CTs.cons (CT.int IntKind.u8)
 (CTs.cons (CT.int IntKind.u8)
 (CTs.cons (CT.int IntKind.u8)
 (CTs.cons
 (CT.ro (CTs.cons CT.str (CTs.cons (CT.int IntKind.u8) (CTs.cons CT.str CTs.nil))))
 (CTs.cons (CT.int IntKind.u64)
 (CTs.cons (CT.int IntKind.u64) (CTs.cons CT.bool CTs.nil))))))))))))))),
 PT.int IntKind.i64, PT.int IntKind.i64,
 PT.opt
 (OTs.cons
 (OT.map (VT.one (CT.int IntKind.i64))
 (VT.agg
 (CTs.cons (CT.ro (CTs.cons CT.str (CTs.cons (CT.int IntKind.u8) (CTs.cons CT.str CTs.nil))))
 (CTs.cons (CT.int IntKind.u64) (CTs.cons (CT.int IntKind.u64) CTs.nil)))))
 (OTs.cons (OT.c (CT.int IntKind.i64)) OTs.nil)),
 PT.list
 (CTs.cons (CT.int IntKind.i64)
 (CTs.cons (CT.ro (CTs.cons CT.str (CTs.cons (CT.int IntKind.u8) (CTs.cons CT.str CTs.nil))))
 (CTs.cons (CT.int IntKind.u64) (CTs.cons (CT.int IntKind.u64) CTs.nil))))]
 (Option (Bool × Unit)) →
 Nat →
 PT.T (PT.int IntKind.i64) →
 UInt64 →
 Int64 →
 Int64 →
 Int64 →
 Int64 →
 List
 (UInt8 ×
 List (UInt8 × UInt8 × UInt8) ×
 UInt8 ×
 UInt8 ×
 Int64 ×
 UInt8 ×
 UInt8 ×
 UInt8 ×
 UInt8 ×
 UInt8 × UInt8 × List (List UInt8 × UInt8 × List UInt8) × UInt64 × UInt64 × Bool) →
 Int64 →
 Int64 →
 Option (List (Int64 × List (List UInt8 × UInt8 × List UInt8) × UInt64 × UInt64) × Int64) →
 List (Int64 × List (List UInt8 × UInt8 × List UInt8) × UInt64 × UInt64) → Option (Bool × Unit) := fun
 (J_1 :
 Arr
 [PT.int IntKind.i64, PT.int IntKind.i64, PT.int IntKind.i64,
 PT.list
 (CTs.cons (CT.int IntKind.u8)
 (CTs.cons
 (CT.ro
 (CTs.cons (CT.int IntKind.u8) (CTs.cons (CT.int IntKind.u8) (CTs.cons (CT.int IntKind.u8) CTs.nil))))
 (CTs.cons (CT.int IntKind.u8)
 (CTs.cons (CT.int IntKind.u8)
 (CTs.cons (CT.int IntKind.i64)
 (CTs.cons (CT.int IntKind.u8)
 (CTs.cons (CT.int IntKind.u8)
 (CTs.cons (CT.int IntKind.u8)
 (CTs.cons (CT.int IntKind.u8)
 (CTs.cons (CT.int IntKind.u8)
 (CTs.cons (CT.int IntKind.u8)
 (CTs.cons
 (CT.ro (CTs.cons CT.str (CTs.cons (CT.int IntKind.u8) (CTs.cons CT.str CTs.nil))))
 (CTs.cons (CT.int IntKind.u64)
 (CTs.cons (CT.int IntKind.u64) (CTs.cons CT.bool CTs.nil))))))))))))))),
 PT.int IntKind.i64, PT.int IntKind.i64,
 PT.opt
 (OTs.cons
 (OT.map (VT.one (CT.int IntKind.i64))
 (VT.agg
 (CTs.cons (CT.ro (CTs.cons CT.str (CTs.cons (CT.int IntKind.u8) (CTs.cons CT.str CTs.nil))))
 (CTs.cons (CT.int IntKind.u64) (CTs.cons (CT.int IntKind.u64) CTs.nil)))))
 (OTs.cons (OT.c (CT.int IntKind.i64)) OTs.nil)),
 PT.list
 (CTs.cons (CT.int IntKind.i64)
 (CTs.cons (CT.ro (CTs.cons CT.str (CTs.cons (CT.int IntKind.u8) (CTs.cons CT.str CTs.nil))))
 (CTs.cons (CT.int IntKind.u64) (CTs.cons (CT.int IntKind.u64) CTs.nil))))]
 (Option (Bool × Unit))) =>
 ofixA (33218413 : Nat)
 [PT.int IntKind.i64, PT.int IntKind.u64, PT.int IntKind.i64, PT.int IntKind.i64, PT.int IntKind.i64,
 PT.int IntKind.i64,
 PT.list
 (CTs.cons (CT.int IntKind.u8)
 (CTs.cons
 (CT.ro (CTs.cons (CT.int IntKind.u8) (CTs.cons (CT.int IntKind.u8) (CTs.cons (CT.int IntKind.u8) CTs.nil))))
 (CTs.cons (CT.int IntKind.u8)
 (CTs.cons (CT.int IntKind.u8)
 (CTs.cons (CT.int IntKind.i64)
 (CTs.cons (CT.int IntKind.u8)
 (CTs.cons (CT.int IntKind.u8)
 (CTs.cons (CT.int IntKind.u8)
 (CTs.cons (CT.int IntKind.u8)
 (CTs.cons (CT.int IntKind.u8)
 (CTs.cons (CT.int IntKind.u8)
 (CTs.cons
 (CT.ro (CTs.cons CT.str (CTs.cons (CT.int IntKind.u8) (CTs.cons CT.str CTs.nil))))
 (CTs.cons (CT.int IntKind.u64)
 (CTs.cons (CT.int IntKind.u64) (CTs.cons CT.bool CTs.nil))))))))))))))),
 PT.int IntKind.i64, PT.int IntKind.i64,
 PT.opt
 (OTs.cons
 (OT.map (VT.one (CT.int IntKind.i64))
 (VT.agg
 (CTs.cons (CT.ro (CTs.cons CT.str (CTs.cons (CT.int IntKind.u8) (CTs.cons CT.str CTs.nil))))
 (CTs.cons (CT.int IntKind.u64) (CTs.cons (CT.int IntKind.u64) CTs.nil)))))
 (OTs.cons (OT.c (CT.int IntKind.i64)) OTs.nil)),
 PT.list
 (CTs.cons (CT.int IntKind.i64)
 (CTs.cons (CT.ro (CTs.cons CT.str (CTs.cons (CT.int IntKind.u8) (CTs.cons CT.str CTs.nil))))
 (CTs.cons (CT.int IntKind.u64) (CTs.cons (CT.int IntKind.u64) CTs.nil))))]
 (F5_L33218413 J_1)
noncomputable def F5_L132873709 : Arr
 [PT.int IntKind.i64,
 PT.list
 (CTs.cons (CT.int IntKind.u8)
 (CTs.cons
 (CT.ro (CTs.cons (CT.int IntKind.u8) (CTs.cons (CT.int IntKind.u8) (CTs.cons (CT.int IntKind.u8) CTs.nil))))
 (CTs.cons (CT.int IntKind.u8)
 (CTs.cons (CT.int IntKind.u8)
 (CTs.cons (CT.int IntKind.i64)
 (CTs.cons (CT.int IntKind.u8)
 (CTs.cons (CT.int IntKind.u8)
 (CTs.cons (CT.int IntKind.u8)
 (CTs.cons (CT.int IntKind.u8)
 (CTs.cons (CT.int IntKind.u8)
 (CTs.cons (CT.int IntKind.u8)
 (CTs.cons
 (CT.ro (CTs.cons CT.str (CTs.cons (CT.int IntKind.u8) (CTs.cons CT.str CTs.nil))))
 (CTs.cons (CT.int IntKind.u64)
 (CTs.cons (CT.int IntKind.u64) (CTs.cons CT.bool CTs.nil))))))))))))))),
 PT.int IntKind.i64, PT.int IntKind.i64,
 PT.opt
 (OTs.cons
 (OT.map (VT.one (CT.int IntKind.i64))
 (VT.agg
 (CTs.cons (CT.ro (CTs.cons CT.str (CTs.cons (CT.int IntKind.u8) (CTs.cons CT.str CTs.nil))))
 (CTs.cons (CT.int IntKind.u64) (CTs.cons (CT.int IntKind.u64) CTs.nil)))))
 (OTs.cons (OT.c (CT.int IntKind.i64)) OTs.nil)),
 PT.list
 (CTs.cons (CT.int IntKind.i64)
 (CTs.cons (CT.ro (CTs.cons CT.str (CTs.cons (CT.int IntKind.u8) (CTs.cons CT.str CTs.nil))))
 (CTs.cons (CT.int IntKind.u64) (CTs.cons (CT.int IntKind.u64) CTs.nil))))]
 (Option (Bool × Unit)) →
 Arr
 [PT.int IntKind.i64, PT.int IntKind.u64, PT.int IntKind.i64,
 PT.list
 (CTs.cons (CT.int IntKind.u8)
 (CTs.cons
 (CT.ro
 (CTs.cons (CT.int IntKind.u8) (CTs.cons (CT.int IntKind.u8) (CTs.cons (CT.int IntKind.u8) CTs.nil))))
 (CTs.cons (CT.int IntKind.u8)
 (CTs.cons (CT.int IntKind.u8)
 (CTs.cons (CT.int IntKind.i64)
 (CTs.cons (CT.int IntKind.u8)
 (CTs.cons (CT.int IntKind.u8)
 (CTs.cons (CT.int IntKind.u8)
 (CTs.cons (CT.int IntKind.u8)
 (CTs.cons (CT.int IntKind.u8)
 (CTs.cons (CT.int IntKind.u8)
 (CTs.cons
 (CT.ro (CTs.cons CT.str (CTs.cons (CT.int IntKind.u8) (CTs.cons CT.str CTs.nil))))
 (CTs.cons (CT.int IntKind.u64)
 (CTs.cons (CT.int IntKind.u64) (CTs.cons CT.bool CTs.nil))))))))))))))),
 PT.int IntKind.i64, PT.int IntKind.i64, PT.int IntKind.i64, PT.int IntKind.i64,
 PT.opt
 (OTs.cons
 (OT.map (VT.one (CT.int IntKind.i64))
 (VT.agg
 (CTs.cons (CT.ro (CTs.cons CT.str (CTs.cons (CT.int IntKind.u8) (CTs.cons CT.str CTs.nil))))
 (CTs.cons (CT.int IntKind.u64) (CTs.cons (CT.int IntKind.u64) CTs.nil)))))
 (OTs.cons (OT.c (CT.int IntKind.i64)) OTs.nil)),
 PT.list
 (CTs.cons (CT.int IntKind.i64)
 (CTs.cons (CT.ro (CTs.cons CT.str (CTs.cons (CT.int IntKind.u8) (CTs.cons CT.str CTs.nil))))
 (CTs.cons (CT.int IntKind.u64) (CTs.cons (CT.int IntKind.u64) CTs.nil)))),
 PT.list
 (CTs.cons (CT.int IntKind.i64)
 (CTs.cons (CT.ro (CTs.cons CT.str (CTs.cons (CT.int IntKind.u8) (CTs.cons CT.str CTs.nil))))
 (CTs.cons (CT.int IntKind.u64) (CTs.cons (CT.int IntKind.u64) CTs.nil))))]
 (Option (Bool × Unit)) →
 Int64 →
 UInt64 →
 Int64 →
 List
 (UInt8 ×
 List (UInt8 × UInt8 × UInt8) ×
 UInt8 ×
 UInt8 ×
 Int64 ×
 UInt8 ×
 UInt8 ×
 UInt8 ×
 UInt8 × UInt8 × UInt8 × List (List UInt8 × UInt8 × List UInt8) × UInt64 × UInt64 × Bool) →
 Int64 →
 Int64 →
 Int64 →
 Int64 →
 Option (List (Int64 × List (List UInt8 × UInt8 × List UInt8) × UInt64 × UInt64) × Int64) →
 List (Int64 × List (List UInt8 × UInt8 × List UInt8) × UInt64 × UInt64) →
 List (Int64 × List (List UInt8 × UInt8 × List UInt8) × UInt64 × UInt64) → Option (Bool × Unit) := fun
 (J :
 Arr
 [PT.int IntKind.i64,
 PT.list
 (CTs.cons (CT.int IntKind.u8)
 (CTs.cons
 (CT.ro
 (CTs.cons (CT.int IntKind.u8) (CTs.cons (CT.int IntKind.u8) (CTs.cons (CT.int IntKind.u8) CTs.nil))))
 (CTs.cons (CT.int IntKind.u8)
 (CTs.cons (CT.int IntKind.u8)
 (CTs.cons (CT.int IntKind.i64)
 (CTs.cons (CT.int IntKind.u8)
 (CTs.cons (CT.int IntKind.u8)
 (CTs.cons (CT.int IntKind.u8)
 (CTs.cons (CT.int IntKind.u8)
 (CTs.cons (CT.int IntKind.u8)
 (CTs.cons (CT.int IntKind.u8)
 (CTs.cons
 (CT.ro (CTs.cons CT.str (CTs.cons (CT.int IntKind.u8) (CTs.cons CT.str CTs.nil))))
 (CTs.cons (CT.int IntKind.u64)
 (CTs.cons (CT.int IntKind.u64) (CTs.cons CT.bool CTs.nil))))))))))))))),
 PT.int IntKind.i64, PT.int IntKind.i64,
 PT.opt
 (OTs.cons
 (OT.map (VT.one (CT.int IntKind.i64))
 (VT.agg
 (CTs.cons (CT.ro (CTs.cons CT.str (CTs.cons (CT.int IntKind.u8) (CTs.cons CT.str CTs.nil))))
 (CTs.cons (CT.int IntKind.u64) (CTs.cons (CT.int IntKind.u64) CTs.nil)))))
 (OTs.cons (OT.c (CT.int IntKind.i64)) OTs.nil)),
 PT.list
 (CTs.cons (CT.int IntKind.i64)
 (CTs.cons (CT.ro (CTs.cons CT.str (CTs.cons (CT.int IntKind.u8) (CTs.cons CT.str CTs.nil))))
 (CTs.cons (CT.int IntKind.u64) (CTs.cons (CT.int IntKind.u64) CTs.nil))))]
 (Option (Bool × Unit)))
 (rec_1 :
 Arr
 [PT.int IntKind.i64, PT.int IntKind.u64, PT.int IntKind.i64,
 PT.list
 (CTs.cons (CT.int IntKind.u8)
 (CTs.cons
 (CT.ro
 (CTs.cons (CT.int IntKind.u8) (CTs.cons (CT.int IntKind.u8) (CTs.cons (CT.int IntKind.u8) CTs.nil))))
 (CTs.cons (CT.int IntKind.u8)
 (CTs.cons (CT.int IntKind.u8)
 (CTs.cons (CT.int IntKind.i64)
 (CTs.cons (CT.int IntKind.u8)
 (CTs.cons (CT.int IntKind.u8)
 (CTs.cons (CT.int IntKind.u8)
 (CTs.cons (CT.int IntKind.u8)
 (CTs.cons (CT.int IntKind.u8)
 (CTs.cons (CT.int IntKind.u8)
 (CTs.cons
 (CT.ro (CTs.cons CT.str (CTs.cons (CT.int IntKind.u8) (CTs.cons CT.str CTs.nil))))
 (CTs.cons (CT.int IntKind.u64)
 (CTs.cons (CT.int IntKind.u64) (CTs.cons CT.bool CTs.nil))))))))))))))),
 PT.int IntKind.i64, PT.int IntKind.i64, PT.int IntKind.i64, PT.int IntKind.i64,
 PT.opt
 (OTs.cons
 (OT.map (VT.one (CT.int IntKind.i64))
 (VT.agg
 (CTs.cons (CT.ro (CTs.cons CT.str (CTs.cons (CT.int IntKind.u8) (CTs.cons CT.str CTs.nil))))
 (CTs.cons (CT.int IntKind.u64) (CTs.cons (CT.int IntKind.u64) CTs.nil)))))
 (OTs.cons (OT.c (CT.int IntKind.i64)) OTs.nil)),
 PT.list
 (CTs.cons (CT.int IntKind.i64)
 (CTs.cons (CT.ro (CTs.cons CT.str (CTs.cons (CT.int IntKind.u8) (CTs.cons CT.str CTs.nil))))
 (CTs.cons (CT.int IntKind.u64) (CTs.cons (CT.int IntKind.u64) CTs.nil)))),
 PT.list
 (CTs.cons (CT.int IntKind.i64)
 (CTs.cons (CT.ro (CTs.cons CT.str (CTs.cons (CT.int IntKind.u8) (CTs.cons CT.str CTs.nil))))
 (CTs.cons (CT.int IntKind.u64) (CTs.cons (CT.int IntKind.u64) CTs.nil))))]
 (Option (Bool × Unit)))
 (last_2 : Int64) (now_1 : UInt64) (k : Int64)
 (t_4 :
 List
 (UInt8 ×
 List (UInt8 × UInt8 × UInt8) ×
 UInt8 ×
 UInt8 ×
 Int64 ×
 UInt8 ×
 UInt8 ×
 UInt8 × UInt8 × UInt8 × UInt8 × List (List UInt8 × UInt8 × List UInt8) × UInt64 × UInt64 × Bool))
 (t_1_2 t_2_2 t_3_1 t_4_1 : Int64)
 (l_2 : Option (List (Int64 × List (List UInt8 × UInt8 × List UInt8) × UInt64 × UInt64) × Int64))
 (m_2 left : List (Int64 × List (List UInt8 × UInt8 × List UInt8) × UInt64 × UInt64)) =>
 oite (decide (t_4_1 < t_3_1))
 (oite (decide ((0 : Int) ≤ Int64.toInt t_4_1) && Nat.blt (Int.toNat (Int64.toInt t_4_1)) (List.length m_2))
 (obind m_2[Int.toNat (Int64.toInt t_4_1)]?
 fun (x_5 : Int64 × List (List UInt8 × UInt8 × List UInt8) × UInt64 × UInt64) =>
 oite (decide (now_1 < Prod.snd (Prod.snd (Prod.snd x_5))))
 (oite
 (Nat.ble
 (List.length left +
 List.length
 [(Prod.fst x_5, Prod.fst (Prod.snd x_5), Prod.fst (Prod.snd (Prod.snd x_5)),
 Prod.snd (Prod.snd (Prod.snd x_5)))])
 (4294967296 : Nat))
 (rec_1 last_2 now_1 k t_4 t_1_2 t_2_2 t_3_1 (t_4_1 + (1 : Int64)) l_2 m_2
 (left ++
 [(Prod.fst x_5, Prod.fst (Prod.snd x_5), Prod.fst (Prod.snd (Prod.snd x_5)),
 Prod.snd (Prod.snd (Prod.snd x_5)))]))
 none)
 (rec_1 last_2 now_1 k t_4 t_1_2 t_2_2 t_3_1 (t_4_1 + (1 : Int64)) l_2 m_2 left))
 none)
 (oite (!decide (k = Int64.ofInt ↑(List.length m_2) - Int64.ofInt ↑(List.length left))) (some (false, ()))
 (J last_2 t_4 t_1_2 t_2_2 l_2 left))
noncomputable def F5_R132873709 : Arr
 [PT.int IntKind.i64,
 PT.list
 (CTs.cons (CT.int IntKind.u8)
 (CTs.cons
 (CT.ro (CTs.cons (CT.int IntKind.u8) (CTs.cons (CT.int IntKind.u8) (CTs.cons (CT.int IntKind.u8) CTs.nil))))
 (CTs.cons (CT.int IntKind.u8)
 (CTs.cons (CT.int IntKind.u8)
 (CTs.cons (CT.int IntKind.i64)
 (CTs.cons (CT.int IntKind.u8)
 (CTs.cons (CT.int IntKind.u8)
 (CTs.cons (CT.int IntKind.u8)
 (CTs.cons (CT.int IntKind.u8)
 (CTs.cons (CT.int IntKind.u8)
 (CTs.cons (CT.int IntKind.u8)
 (CTs.cons
 (CT.ro (CTs.cons CT.str (CTs.cons (CT.int IntKind.u8) (CTs.cons CT.str CTs.nil))))
 (CTs.cons (CT.int IntKind.u64)
 (CTs.cons (CT.int IntKind.u64) (CTs.cons CT.bool CTs.nil))))))))))))))),
 PT.int IntKind.i64, PT.int IntKind.i64,
 PT.opt
 (OTs.cons
 (OT.map (VT.one (CT.int IntKind.i64))
 (VT.agg
 (CTs.cons (CT.ro (CTs.cons CT.str (CTs.cons (CT.int IntKind.u8) (CTs.cons CT.str CTs.nil))))
 (CTs.cons (CT.int IntKind.u64) (CTs.cons (CT.int IntKind.u64) CTs.nil)))))
 (OTs.cons (OT.c (CT.int IntKind.i64)) OTs.nil)),
 PT.list
 (CTs.cons (CT.int IntKind.i64)
 (CTs.cons (CT.ro (CTs.cons CT.str (CTs.cons (CT.int IntKind.u8) (CTs.cons CT.str CTs.nil))))
 (CTs.cons (CT.int IntKind.u64) (CTs.cons (CT.int IntKind.u64) CTs.nil))))]
 (Option (Bool × Unit)) →
 Nat →
 PT.T (PT.int IntKind.i64) →
 UInt64 →
 Int64 →
 List
 (UInt8 ×
 List (UInt8 × UInt8 × UInt8) ×
 UInt8 ×
 UInt8 ×
 Int64 ×
 UInt8 ×
 UInt8 ×
 UInt8 ×
 UInt8 × UInt8 × UInt8 × List (List UInt8 × UInt8 × List UInt8) × UInt64 × UInt64 × Bool) →
 Int64 →
 Int64 →
 Int64 →
 Int64 →
 Option (List (Int64 × List (List UInt8 × UInt8 × List UInt8) × UInt64 × UInt64) × Int64) →
 List (Int64 × List (List UInt8 × UInt8 × List UInt8) × UInt64 × UInt64) →
 List (Int64 × List (List UInt8 × UInt8 × List UInt8) × UInt64 × UInt64) → Option (Bool × Unit) := fun
 (J :
 Arr
 [PT.int IntKind.i64,
 PT.list
 (CTs.cons (CT.int IntKind.u8)
 (CTs.cons
 (CT.ro
 (CTs.cons (CT.int IntKind.u8) (CTs.cons (CT.int IntKind.u8) (CTs.cons (CT.int IntKind.u8) CTs.nil))))
 (CTs.cons (CT.int IntKind.u8)
 (CTs.cons (CT.int IntKind.u8)
 (CTs.cons (CT.int IntKind.i64)
 (CTs.cons (CT.int IntKind.u8)
 (CTs.cons (CT.int IntKind.u8)
 (CTs.cons (CT.int IntKind.u8)
 (CTs.cons (CT.int IntKind.u8)
 (CTs.cons (CT.int IntKind.u8)
 (CTs.cons (CT.int IntKind.u8)
 (CTs.cons
 (CT.ro (CTs.cons CT.str (CTs.cons (CT.int IntKind.u8) (CTs.cons CT.str CTs.nil))))
 (CTs.cons (CT.int IntKind.u64)
 (CTs.cons (CT.int IntKind.u64) (CTs.cons CT.bool CTs.nil))))))))))))))),
 PT.int IntKind.i64, PT.int IntKind.i64,
 PT.opt
 (OTs.cons
 (OT.map (VT.one (CT.int IntKind.i64))
 (VT.agg
 (CTs.cons (CT.ro (CTs.cons CT.str (CTs.cons (CT.int IntKind.u8) (CTs.cons CT.str CTs.nil))))
 (CTs.cons (CT.int IntKind.u64) (CTs.cons (CT.int IntKind.u64) CTs.nil)))))
 (OTs.cons (OT.c (CT.int IntKind.i64)) OTs.nil)),
 PT.list
 (CTs.cons (CT.int IntKind.i64)
 (CTs.cons (CT.ro (CTs.cons CT.str (CTs.cons (CT.int IntKind.u8) (CTs.cons CT.str CTs.nil))))
 (CTs.cons (CT.int IntKind.u64) (CTs.cons (CT.int IntKind.u64) CTs.nil))))]
 (Option (Bool × Unit))) =>
 ofixA (132873709 : Nat)
 [PT.int IntKind.i64, PT.int IntKind.u64, PT.int IntKind.i64,
 PT.list
 (CTs.cons (CT.int IntKind.u8)
 (CTs.cons
 (CT.ro (CTs.cons (CT.int IntKind.u8) (CTs.cons (CT.int IntKind.u8) (CTs.cons (CT.int IntKind.u8) CTs.nil))))
 (CTs.cons (CT.int IntKind.u8)
 (CTs.cons (CT.int IntKind.u8)
 (CTs.cons (CT.int IntKind.i64)
 (CTs.cons (CT.int IntKind.u8)
 (CTs.cons (CT.int IntKind.u8)
 (CTs.cons (CT.int IntKind.u8)
 (CTs.cons (CT.int IntKind.u8)
 (CTs.cons (CT.int IntKind.u8)
 (CTs.cons (CT.int IntKind.u8)
 (CTs.cons
 (CT.ro (CTs.cons CT.str (CTs.cons (CT.int IntKind.u8) (CTs.cons CT.str CTs.nil))))
 (CTs.cons (CT.int IntKind.u64)
 (CTs.cons (CT.int IntKind.u64) (CTs.cons CT.bool CTs.nil))))))))))))))),
 PT.int IntKind.i64, PT.int IntKind.i64, PT.int IntKind.i64, PT.int IntKind.i64,
 PT.opt
 (OTs.cons
 (OT.map (VT.one (CT.int IntKind.i64))
 (VT.agg
 (CTs.cons (CT.ro (CTs.cons CT.str (CTs.cons (CT.int IntKind.u8) (CTs.cons CT.str CTs.nil))))
 (CTs.cons (CT.int IntKind.u64) (CTs.cons (CT.int IntKind.u64) CTs.nil)))))
 (OTs.cons (OT.c (CT.int IntKind.i64)) OTs.nil)),
 PT.list
 (CTs.cons (CT.int IntKind.i64)
 (CTs.cons (CT.ro (CTs.cons CT.str (CTs.cons (CT.int IntKind.u8) (CTs.cons CT.str CTs.nil))))
 (CTs.cons (CT.int IntKind.u64) (CTs.cons (CT.int IntKind.u64) CTs.nil)))),
 PT.list
 (CTs.cons (CT.int IntKind.i64)
 (CTs.cons (CT.ro (CTs.cons CT.str (CTs.cons (CT.int IntKind.u8) (CTs.cons CT.str CTs.nil))))
 (CTs.cons (CT.int IntKind.u64) (CTs.cons (CT.int IntKind.u64) CTs.nil))))]
 (F5_L132873709 J)
noncomputable def F5_L531494893 : Nat →
 Arr
 [PT.int IntKind.i64,
 PT.list
 (CTs.cons (CT.int IntKind.u8)
 (CTs.cons
 (CT.ro
 (CTs.cons (CT.int IntKind.u8) (CTs.cons (CT.int IntKind.u8) (CTs.cons (CT.int IntKind.u8) CTs.nil))))
 (CTs.cons (CT.int IntKind.u8)
 (CTs.cons (CT.int IntKind.u8)
 (CTs.cons (CT.int IntKind.i64)
 (CTs.cons (CT.int IntKind.u8)
 (CTs.cons (CT.int IntKind.u8)
 (CTs.cons (CT.int IntKind.u8)
 (CTs.cons (CT.int IntKind.u8)
 (CTs.cons (CT.int IntKind.u8)
 (CTs.cons (CT.int IntKind.u8)
 (CTs.cons
 (CT.ro (CTs.cons CT.str (CTs.cons (CT.int IntKind.u8) (CTs.cons CT.str CTs.nil))))
 (CTs.cons (CT.int IntKind.u64)
 (CTs.cons (CT.int IntKind.u64) (CTs.cons CT.bool CTs.nil))))))))))))))),
 PT.int IntKind.i64, PT.int IntKind.i64,
 PT.opt
 (OTs.cons
 (OT.map (VT.one (CT.int IntKind.i64))
 (VT.agg
 (CTs.cons (CT.ro (CTs.cons CT.str (CTs.cons (CT.int IntKind.u8) (CTs.cons CT.str CTs.nil))))
 (CTs.cons (CT.int IntKind.u64) (CTs.cons (CT.int IntKind.u64) CTs.nil)))))
 (OTs.cons (OT.c (CT.int IntKind.i64)) OTs.nil)),
 PT.list
 (CTs.cons (CT.int IntKind.i64)
 (CTs.cons (CT.ro (CTs.cons CT.str (CTs.cons (CT.int IntKind.u8) (CTs.cons CT.str CTs.nil))))
 (CTs.cons (CT.int IntKind.u64) (CTs.cons (CT.int IntKind.u64) CTs.nil))))]
 (Option (Bool × Unit)) →
 Arr
 [PT.int IntKind.i64, PT.int IntKind.u64, PT.int IntKind.i64,
 PT.list
 (CTs.cons (CT.int IntKind.u8)
 (CTs.cons
 (CT.ro
 (CTs.cons (CT.int IntKind.u8) (CTs.cons (CT.int IntKind.u8) (CTs.cons (CT.int IntKind.u8) CTs.nil))))
 (CTs.cons (CT.int IntKind.u8)
 (CTs.cons (CT.int IntKind.u8)
 (CTs.cons (CT.int IntKind.i64)
 (CTs.cons (CT.int IntKind.u8)
 (CTs.cons (CT.int IntKind.u8)
 (CTs.cons (CT.int IntKind.u8)
 (CTs.cons (CT.int IntKind.u8)
 (CTs.cons (CT.int IntKind.u8)
 (CTs.cons (CT.int IntKind.u8)
 (CTs.cons
 (CT.ro (CTs.cons CT.str (CTs.cons (CT.int IntKind.u8) (CTs.cons CT.str CTs.nil))))
 (CTs.cons (CT.int IntKind.u64)
 (CTs.cons (CT.int IntKind.u64) (CTs.cons CT.bool CTs.nil))))))))))))))),
 PT.int IntKind.i64, PT.int IntKind.i64, PT.int IntKind.i64, PT.int IntKind.i64,
 PT.opt
 (OTs.cons
 (OT.map (VT.one (CT.int IntKind.i64))
 (VT.agg
 (CTs.cons (CT.ro (CTs.cons CT.str (CTs.cons (CT.int IntKind.u8) (CTs.cons CT.str CTs.nil))))
 (CTs.cons (CT.int IntKind.u64) (CTs.cons (CT.int IntKind.u64) CTs.nil)))))
 (OTs.cons (OT.c (CT.int IntKind.i64)) OTs.nil)),
 PT.list
 (CTs.cons (CT.int IntKind.i64)
 (CTs.cons (CT.ro (CTs.cons CT.str (CTs.cons (CT.int IntKind.u8) (CTs.cons CT.str CTs.nil))))
 (CTs.cons (CT.int IntKind.u64) (CTs.cons (CT.int IntKind.u64) CTs.nil)))),
 PT.int IntKind.u8, PT.bytes, PT.list (CTs.cons CT.str (CTs.cons CT.str CTs.nil)), PT.int IntKind.u8,
 PT.int IntKind.u64, PT.int IntKind.u8, PT.int IntKind.i64]
 (Option (Bool × Unit)) →
 Int64 →
 UInt64 →
 Int64 →
 List
 (UInt8 ×
 List (UInt8 × UInt8 × UInt8) ×
 UInt8 ×
 UInt8 ×
 Int64 ×
 UInt8 ×
 UInt8 ×
 UInt8 ×
 UInt8 ×
 UInt8 × UInt8 × List (List UInt8 × UInt8 × List UInt8) × UInt64 × UInt64 × Bool) →
 Int64 →
 Int64 →
 Int64 →
 Int64 →
 Option (List (Int64 × List (List UInt8 × UInt8 × List UInt8) × UInt64 × UInt64) × Int64) →
 List (Int64 × List (List UInt8 × UInt8 × List UInt8) × UInt64 × UInt64) →
 UInt8 →
 List UInt8 →
 List (List UInt8 × List UInt8) → UInt8 → UInt64 → UInt8 → Int64 → Option (Bool × Unit) := fun (n : Nat)
 (J :
 Arr
 [PT.int IntKind.i64,
 PT.list
 (CTs.cons (CT.int IntKind.u8)
 (CTs.cons
 (CT.ro
 (CTs.cons (CT.int IntKind.u8) (CTs.cons (CT.int IntKind.u8) (CTs.cons (CT.int IntKind.u8) CTs.nil))))
 (CTs.cons (CT.int IntKind.u8)
 (CTs.cons (CT.int IntKind.u8)
 (CTs.cons (CT.int IntKind.i64)
 (CTs.cons (CT.int IntKind.u8)
 (CTs.cons (CT.int IntKind.u8)
 (CTs.cons (CT.int IntKind.u8)
 (CTs.cons (CT.int IntKind.u8)
 (CTs.cons (CT.int IntKind.u8)
 (CTs.cons (CT.int IntKind.u8)
 (CTs.cons
 (CT.ro (CTs.cons CT.str (CTs.cons (CT.int IntKind.u8) (CTs.cons CT.str CTs.nil))))
 (CTs.cons (CT.int IntKind.u64)
 (CTs.cons (CT.int IntKind.u64) (CTs.cons CT.bool CTs.nil))))))))))))))),
 PT.int IntKind.i64, PT.int IntKind.i64,
 PT.opt
 (OTs.cons
 (OT.map (VT.one (CT.int IntKind.i64))
 (VT.agg
 (CTs.cons (CT.ro (CTs.cons CT.str (CTs.cons (CT.int IntKind.u8) (CTs.cons CT.str CTs.nil))))
 (CTs.cons (CT.int IntKind.u64) (CTs.cons (CT.int IntKind.u64) CTs.nil)))))
 (OTs.cons (OT.c (CT.int IntKind.i64)) OTs.nil)),
 PT.list
 (CTs.cons (CT.int IntKind.i64)
 (CTs.cons (CT.ro (CTs.cons CT.str (CTs.cons (CT.int IntKind.u8) (CTs.cons CT.str CTs.nil))))
 (CTs.cons (CT.int IntKind.u64) (CTs.cons (CT.int IntKind.u64) CTs.nil))))]
 (Option (Bool × Unit)))
 (rec_1 :
 Arr
 [PT.int IntKind.i64, PT.int IntKind.u64, PT.int IntKind.i64,
 PT.list
 (CTs.cons (CT.int IntKind.u8)
 (CTs.cons
 (CT.ro
 (CTs.cons (CT.int IntKind.u8) (CTs.cons (CT.int IntKind.u8) (CTs.cons (CT.int IntKind.u8) CTs.nil))))
 (CTs.cons (CT.int IntKind.u8)
 (CTs.cons (CT.int IntKind.u8)
 (CTs.cons (CT.int IntKind.i64)
 (CTs.cons (CT.int IntKind.u8)
 (CTs.cons (CT.int IntKind.u8)
 (CTs.cons (CT.int IntKind.u8)
 (CTs.cons (CT.int IntKind.u8)
 (CTs.cons (CT.int IntKind.u8)
 (CTs.cons (CT.int IntKind.u8)
 (CTs.cons
 (CT.ro (CTs.cons CT.str (CTs.cons (CT.int IntKind.u8) (CTs.cons CT.str CTs.nil))))
 (CTs.cons (CT.int IntKind.u64)
 (CTs.cons (CT.int IntKind.u64) (CTs.cons CT.bool CTs.nil))))))))))))))),
 PT.int IntKind.i64, PT.int IntKind.i64, PT.int IntKind.i64, PT.int IntKind.i64,
 PT.opt
 (OTs.cons
 (OT.map (VT.one (CT.int IntKind.i64))
 (VT.agg
 (CTs.cons (CT.ro (CTs.cons CT.str (CTs.cons (CT.int IntKind.u8) (CTs.cons CT.str CTs.nil))))
 (CTs.cons (CT.int IntKind.u64) (CTs.cons (CT.int IntKind.u64) CTs.nil)))))
 (OTs.cons (OT.c (CT.int IntKind.i64)) OTs.nil)),
 PT.list
 (CTs.cons (CT.int IntKind.i64)
 (CTs.cons (CT.ro (CTs.cons CT.str (CTs.cons (CT.int IntKind.u8) (CTs.cons CT.str CTs.nil))))
 (CTs.cons (CT.int IntKind.u64) (CTs.cons (CT.int IntKind.u64) CTs.nil)))),
 PT.int IntKind.u8, PT.bytes, PT.list (CTs.cons CT.str (CTs.cons CT.str CTs.nil)), PT.int IntKind.u8,
 PT.int IntKind.u64, PT.int IntKind.u8, PT.int IntKind.i64]
 (Option (Bool × Unit)))
 (last_3 : Int64) (now_2 : UInt64) (want : Int64)
 (t_5 :
 List
 (UInt8 ×
 List (UInt8 × UInt8 × UInt8) ×
 UInt8 ×
 UInt8 ×
 Int64 ×
 UInt8 ×
 UInt8 ×
 UInt8 × UInt8 × UInt8 × UInt8 × List (List UInt8 × UInt8 × List UInt8) × UInt64 × UInt64 × Bool))
 (t_1_3 t_2_3 t_3_2 t_4_1 : Int64)
 (l_3 : Option (List (Int64 × List (List UInt8 × UInt8 × List UInt8) × UInt64 × UInt64) × Int64))
 (m_3 : List (Int64 × List (List UInt8 × UInt8 × List UInt8) × UInt64 × UInt64)) (x0 : UInt8) (x1 : List UInt8)
 (x2 : List (List UInt8 × List UInt8)) (x3 : UInt8) (x4 : UInt64) (x5 : UInt8) (x6 : Int64) =>
 oite (decide (t_4_1 < t_3_2))
 (oite (decide ((0 : Int) ≤ Int64.toInt t_4_1) && Nat.blt (Int.toNat (Int64.toInt t_4_1)) (List.length m_3))
 (obind m_3[Int.toNat (Int64.toInt t_4_1)]?
 fun (x_5 : Int64 × List (List UInt8 × UInt8 × List UInt8) × UInt64 × UInt64) =>
 oite (decide (want = (0 : Int64)))
 (oite (decide (Prod.fst (Prod.snd (Prod.snd x_5)) ≤ now_2))
 (oite (decide (now_2 < Prod.snd (Prod.snd (Prod.snd x_5))))
 (obind (F11 n (Prod.fst (Prod.snd x_5))) fun (x_6 : List (List UInt8 × Int64 × List UInt8) × Unit) =>
 obind (F12 n (x0, x1, x2, x3, x4, x5, x6)) fun (x_7 : List (List UInt8 × List UInt8) × Unit) =>
 obind (F10 n (Prod.fst x_6, Prod.fst x_7)) fun (x_8 : Bool × Unit) =>
 oite (Prod.fst x_8)
 (rec_1 last_3 now_2 (Prod.fst x_5) t_5 t_1_3 t_2_3 t_3_2 (t_4_1 + (1 : Int64)) l_3 m_3 x0 x1 x2 x3
 x4 x5 x6)
 (rec_1 last_3 now_2 want t_5 t_1_3 t_2_3 t_3_2 (t_4_1 + (1 : Int64)) l_3 m_3 x0 x1 x2 x3 x4 x5
 x6))
 (rec_1 last_3 now_2 want t_5 t_1_3 t_2_3 t_3_2 (t_4_1 + (1 : Int64)) l_3 m_3 x0 x1 x2 x3 x4 x5 x6))
 (rec_1 last_3 now_2 want t_5 t_1_3 t_2_3 t_3_2 (t_4_1 + (1 : Int64)) l_3 m_3 x0 x1 x2 x3 x4 x5 x6))
 (rec_1 last_3 now_2 want t_5 t_1_3 t_2_3 t_3_2 (t_4_1 + (1 : Int64)) l_3 m_3 x0 x1 x2 x3 x4 x5 x6))
 none)
 (obind (F18 n (l_3, (x0, x1, x2, x3, x4, x5, x6), now_2))
 fun (x_5 : Int64 × Option (List (Int64 × List (List UInt8 × UInt8 × List UInt8) × UInt64 × UInt64) × Int64)) =>
 oite (!decide (Prod.fst x_5 = want)) (some (false, ())) (J last_3 t_5 t_1_3 t_2_3 (Prod.snd x_5) m_3))
noncomputable def F5_R531494893 : Nat →
 Arr
 [PT.int IntKind.i64,
 PT.list
 (CTs.cons (CT.int IntKind.u8)
 (CTs.cons
 (CT.ro
 (CTs.cons (CT.int IntKind.u8) (CTs.cons (CT.int IntKind.u8) (CTs.cons (CT.int IntKind.u8) CTs.nil))))
 (CTs.cons (CT.int IntKind.u8)
 (CTs.cons (CT.int IntKind.u8)
 (CTs.cons (CT.int IntKind.i64)
 (CTs.cons (CT.int IntKind.u8)
 (CTs.cons (CT.int IntKind.u8)
 (CTs.cons (CT.int IntKind.u8)
 (CTs.cons (CT.int IntKind.u8)
 (CTs.cons (CT.int IntKind.u8)
 (CTs.cons (CT.int IntKind.u8)
 (CTs.cons
 (CT.ro (CTs.cons CT.str (CTs.cons (CT.int IntKind.u8) (CTs.cons CT.str CTs.nil))))
 (CTs.cons (CT.int IntKind.u64)
 (CTs.cons (CT.int IntKind.u64) (CTs.cons CT.bool CTs.nil))))))))))))))),
 PT.int IntKind.i64, PT.int IntKind.i64,
 PT.opt
 (OTs.cons
 (OT.map (VT.one (CT.int IntKind.i64))
 (VT.agg
 (CTs.cons (CT.ro (CTs.cons CT.str (CTs.cons (CT.int IntKind.u8) (CTs.cons CT.str CTs.nil))))
 (CTs.cons (CT.int IntKind.u64) (CTs.cons (CT.int IntKind.u64) CTs.nil)))))
 (OTs.cons (OT.c (CT.int IntKind.i64)) OTs.nil)),
 PT.list
 (CTs.cons (CT.int IntKind.i64)
 (CTs.cons (CT.ro (CTs.cons CT.str (CTs.cons (CT.int IntKind.u8) (CTs.cons CT.str CTs.nil))))
 (CTs.cons (CT.int IntKind.u64) (CTs.cons (CT.int IntKind.u64) CTs.nil))))]
 (Option (Bool × Unit)) →
 Nat →
 PT.T (PT.int IntKind.i64) →
 UInt64 →
 Int64 →
 List
 (UInt8 ×
 List (UInt8 × UInt8 × UInt8) ×
 UInt8 ×
 UInt8 ×
 Int64 ×
 UInt8 ×
 UInt8 ×
 UInt8 ×
 UInt8 ×
 UInt8 × UInt8 × List (List UInt8 × UInt8 × List UInt8) × UInt64 × UInt64 × Bool) →
 Int64 →
 Int64 →
 Int64 →
 Int64 →
 Option (List (Int64 × List (List UInt8 × UInt8 × List UInt8) × UInt64 × UInt64) × Int64) →
 List (Int64 × List (List UInt8 × UInt8 × List UInt8) × UInt64 × UInt64) →
 UInt8 →
 List UInt8 →
 List (List UInt8 × List UInt8) → UInt8 → UInt64 → UInt8 → Int64 → Option (Bool × Unit) := fun (n : Nat)
 (J :
 Arr
 [PT.int IntKind.i64,
 PT.list
 (CTs.cons (CT.int IntKind.u8)
 (CTs.cons
 (CT.ro
 (CTs.cons (CT.int IntKind.u8) (CTs.cons (CT.int IntKind.u8) (CTs.cons (CT.int IntKind.u8) CTs.nil))))
 (CTs.cons (CT.int IntKind.u8)
 (CTs.cons (CT.int IntKind.u8)
 (CTs.cons (CT.int IntKind.i64)
 (CTs.cons (CT.int IntKind.u8)
 (CTs.cons (CT.int IntKind.u8)
 (CTs.cons (CT.int IntKind.u8)
 (CTs.cons (CT.int IntKind.u8)
 (CTs.cons (CT.int IntKind.u8)
 (CTs.cons (CT.int IntKind.u8)
 (CTs.cons
 (CT.ro (CTs.cons CT.str (CTs.cons (CT.int IntKind.u8) (CTs.cons CT.str CTs.nil))))
 (CTs.cons (CT.int IntKind.u64)
 (CTs.cons (CT.int IntKind.u64) (CTs.cons CT.bool CTs.nil))))))))))))))),
 PT.int IntKind.i64, PT.int IntKind.i64,
 PT.opt
 (OTs.cons
 (OT.map (VT.one (CT.int IntKind.i64))
 (VT.agg
 (CTs.cons (CT.ro (CTs.cons CT.str (CTs.cons (CT.int IntKind.u8) (CTs.cons CT.str CTs.nil))))
 (CTs.cons (CT.int IntKind.u64) (CTs.cons (CT.int IntKind.u64) CTs.nil)))))
 (OTs.cons (OT.c (CT.int IntKind.i64)) OTs.nil)),
 PT.list
 (CTs.cons (CT.int IntKind.i64)
 (CTs.cons (CT.ro (CTs.cons CT.str (CTs.cons (CT.int IntKind.u8) (CTs.cons CT.str CTs.nil))))
 (CTs.cons (CT.int IntKind.u64) (CTs.cons (CT.int IntKind.u64) CTs.nil))))]
 (Option (Bool × Unit))) =>
 ofixA (531494893 : Nat)
 [PT.int IntKind.i64, PT.int IntKind.u64, PT.int IntKind.i64,
 PT.list
 (CTs.cons (CT.int IntKind.u8)
 (CTs.cons
 (CT.ro (CTs.cons (CT.int IntKind.u8) (CTs.cons (CT.int IntKind.u8) (CTs.cons (CT.int IntKind.u8) CTs.nil))))
 (CTs.cons (CT.int IntKind.u8)
 (CTs.cons (CT.int IntKind.u8)
 (CTs.cons (CT.int IntKind.i64)
 (CTs.cons (CT.int IntKind.u8)
 (CTs.cons (CT.int IntKind.u8)
 (CTs.cons (CT.int IntKind.u8)
 (CTs.cons (CT.int IntKind.u8)
 (CTs.cons (CT.int IntKind.u8)
 (CTs.cons (CT.int IntKind.u8)
 (CTs.cons
 (CT.ro (CTs.cons CT.str (CTs.cons (CT.int IntKind.u8) (CTs.cons CT.str CTs.nil))))
 (CTs.cons (CT.int IntKind.u64)
 (CTs.cons (CT.int IntKind.u64) (CTs.cons CT.bool CTs.nil))))))))))))))),
 PT.int IntKind.i64, PT.int IntKind.i64, PT.int IntKind.i64, PT.int IntKind.i64,
 PT.opt
 (OTs.cons
 (OT.map (VT.one (CT.int IntKind.i64))
 (VT.agg
 (CTs.cons (CT.ro (CTs.cons CT.str (CTs.cons (CT.int IntKind.u8) (CTs.cons CT.str CTs.nil))))
 (CTs.cons (CT.int IntKind.u64) (CTs.cons (CT.int IntKind.u64) CTs.nil)))))
 (OTs.cons (OT.c (CT.int IntKind.i64)) OTs.nil)),
 PT.list
 (CTs.cons (CT.int IntKind.i64)
 (CTs.cons (CT.ro (CTs.cons CT.str (CTs.cons (CT.int IntKind.u8) (CTs.cons CT.str CTs.nil))))
 (CTs.cons (CT.int IntKind.u64) (CTs.cons (CT.int IntKind.u64) CTs.nil)))),
 PT.int IntKind.u8, PT.bytes, PT.list (CTs.cons CT.str (CTs.cons CT.str CTs.nil)), PT.int IntKind.u8,
 PT.int IntKind.u64, PT.int IntKind.u8, PT.int IntKind.i64]
 (F5_L531494893 n J)
noncomputable def F5_J2125979647 : Arr
 [PT.int IntKind.i64,
 PT.list
 (CTs.cons (CT.int IntKind.u8)
 (CTs.cons
 (CT.ro (CTs.cons (CT.int IntKind.u8) (CTs.cons (CT.int IntKind.u8) (CTs.cons (CT.int IntKind.u8) CTs.nil))))
 (CTs.cons (CT.int IntKind.u8)
 (CTs.cons (CT.int IntKind.u8)
 (CTs.cons (CT.int IntKind.i64)
 (CTs.cons (CT.int IntKind.u8)
 (CTs.cons (CT.int IntKind.u8)
 (CTs.cons (CT.int IntKind.u8)
 (CTs.cons (CT.int IntKind.u8)
 (CTs.cons (CT.int IntKind.u8)
 (CTs.cons (CT.int IntKind.u8)
 (CTs.cons
 (CT.ro (CTs.cons CT.str (CTs.cons (CT.int IntKind.u8) (CTs.cons CT.str CTs.nil))))
 (CTs.cons (CT.int IntKind.u64)
 (CTs.cons (CT.int IntKind.u64) (CTs.cons CT.bool CTs.nil))))))))))))))),
 PT.int IntKind.i64, PT.int IntKind.i64,
 PT.opt
 (OTs.cons
 (OT.map (VT.one (CT.int IntKind.i64))
 (VT.agg
 (CTs.cons (CT.ro (CTs.cons CT.str (CTs.cons (CT.int IntKind.u8) (CTs.cons CT.str CTs.nil))))
 (CTs.cons (CT.int IntKind.u64) (CTs.cons (CT.int IntKind.u64) CTs.nil)))))
 (OTs.cons (OT.c (CT.int IntKind.i64)) OTs.nil)),
 PT.list
 (CTs.cons (CT.int IntKind.i64)
 (CTs.cons (CT.ro (CTs.cons CT.str (CTs.cons (CT.int IntKind.u8) (CTs.cons CT.str CTs.nil))))
 (CTs.cons (CT.int IntKind.u64) (CTs.cons (CT.int IntKind.u64) CTs.nil))))]
 (Option (Bool × Unit)) →
 Int64 →
 Int64 →
 Int64 →
 List
 (UInt8 ×
 List (UInt8 × UInt8 × UInt8) ×
 UInt8 ×
 UInt8 ×
 Int64 ×
 UInt8 ×
 UInt8 ×
 UInt8 ×
 UInt8 × UInt8 × UInt8 × List (List UInt8 × UInt8 × List UInt8) × UInt64 × UInt64 × Bool) →
 Int64 →
 Int64 →
 Option (List (Int64 × List (List UInt8 × UInt8 × List UInt8) × UInt64 × UInt64) × Int64) →
 List (Int64 × List (List UInt8 × UInt8 × List UInt8) × UInt64 × UInt64) → Option (Bool × Unit) := fun
 (J :
 Arr
 [PT.int IntKind.i64,
 PT.list
 (CTs.cons (CT.int IntKind.u8)
 (CTs.cons
 (CT.ro
 (CTs.cons (CT.int IntKind.u8) (CTs.cons (CT.int IntKind.u8) (CTs.cons (CT.int IntKind.u8) CTs.nil))))
 (CTs.cons (CT.int IntKind.u8)
 (CTs.cons (CT.int IntKind.u8)
 (CTs.cons (CT.int IntKind.i64)
 (CTs.cons (CT.int IntKind.u8)
 (CTs.cons (CT.int IntKind.u8)
 (CTs.cons (CT.int IntKind.u8)
 (CTs.cons (CT.int IntKind.u8)
 (CTs.cons (CT.int IntKind.u8)
 (CTs.cons (CT.int IntKind.u8)
 (CTs.cons
 (CT.ro (CTs.cons CT.str (CTs.cons (CT.int IntKind.u8) (CTs.cons CT.str CTs.nil))))
 (CTs.cons (CT.int IntKind.u64)
 (CTs.cons (CT.int IntKind.u64) (CTs.cons CT.bool CTs.nil))))))))))))))),
 PT.int IntKind.i64, PT.int IntKind.i64,
 PT.opt
 (OTs.cons
 (OT.map (VT.one (CT.int IntKind.i64))
 (VT.agg
 (CTs.cons (CT.ro (CTs.cons CT.str (CTs.cons (CT.int IntKind.u8) (CTs.cons CT.str CTs.nil))))
 (CTs.cons (CT.int IntKind.u64) (CTs.cons (CT.int IntKind.u64) CTs.nil)))))
 (OTs.cons (OT.c (CT.int IntKind.i64)) OTs.nil)),
 PT.list
 (CTs.cons (CT.int IntKind.i64)
 (CTs.cons (CT.ro (CTs.cons CT.str (CTs.cons (CT.int IntKind.u8) (CTs.cons CT.str CTs.nil))))
 (CTs.cons (CT.int IntKind.u64) (CTs.cons (CT.int IntKind.u64) CTs.nil))))]
 (Option (Bool × Unit)))
 (last_5 code_1 k : Int64)
 (t_7 :
 List
 (UInt8 ×
 List (UInt8 × UInt8 × UInt8) ×
 UInt8 ×
 UInt8 ×
 Int64 ×
 UInt8 ×
 UInt8 ×
 UInt8 × UInt8 × UInt8 × UInt8 × List (List UInt8 × UInt8 × List UInt8) × UInt64 × UInt64 × Bool))
 (t_1_5 t_2_5 : Int64)
 (l_5 : Option (List (Int64 × List (List UInt8 × UInt8 × List UInt8) × UInt64 × UInt64) × Int64))
 (m_5 : List (Int64 × List (List UInt8 × UInt8 × List UInt8) × UInt64 × UInt64)) =>
 oite (decide (code_1 = (0 : Int64)))
 (oite (!decide (k = last_5)) (some (false, ()))
 (oite (!decide (code_1 = (0 : Int64)))
 (oite (!decide (k = (0 : Int64))) (some (false, ())) (J last_5 t_7 t_1_5 t_2_5 l_5 m_5))
 (J last_5 t_7 t_1_5 t_2_5 l_5 m_5)))
 (oite (!decide (code_1 = (0 : Int64)))
 (oite (!decide (k = (0 : Int64))) (some (false, ())) (J last_5 t_7 t_1_5 t_2_5 l_5 m_5))
 (J last_5 t_7 t_1_5 t_2_5 l_5 m_5))
noncomputable def F5_J265747455 : Nat →
 Arr
 [PT.int IntKind.i64,
 PT.list
 (CTs.cons (CT.int IntKind.u8)
 (CTs.cons
 (CT.ro
 (CTs.cons (CT.int IntKind.u8) (CTs.cons (CT.int IntKind.u8) (CTs.cons (CT.int IntKind.u8) CTs.nil))))
 (CTs.cons (CT.int IntKind.u8)
 (CTs.cons (CT.int IntKind.u8)
 (CTs.cons (CT.int IntKind.i64)
 (CTs.cons (CT.int IntKind.u8)
 (CTs.cons (CT.int IntKind.u8)
 (CTs.cons (CT.int IntKind.u8)
 (CTs.cons (CT.int IntKind.u8)
 (CTs.cons (CT.int IntKind.u8)
 (CTs.cons (CT.int IntKind.u8)
 (CTs.cons
 (CT.ro (CTs.cons CT.str (CTs.cons (CT.int IntKind.u8) (CTs.cons CT.str CTs.nil))))
 (CTs.cons (CT.int IntKind.u64)
 (CTs.cons (CT.int IntKind.u64) (CTs.cons CT.bool CTs.nil))))))))))))))),
 PT.int IntKind.i64, PT.int IntKind.i64,
 PT.opt
 (OTs.cons
 (OT.map (VT.one (CT.int IntKind.i64))
 (VT.agg
 (CTs.cons (CT.ro (CTs.cons CT.str (CTs.cons (CT.int IntKind.u8) (CTs.cons CT.str CTs.nil))))
 (CTs.cons (CT.int IntKind.u64) (CTs.cons (CT.int IntKind.u64) CTs.nil)))))
 (OTs.cons (OT.c (CT.int IntKind.i64)) OTs.nil)),
 PT.list
 (CTs.cons (CT.int IntKind.i64)
 (CTs.cons (CT.ro (CTs.cons CT.str (CTs.cons (CT.int IntKind.u8) (CTs.cons CT.str CTs.nil))))
 (CTs.cons (CT.int IntKind.u64) (CTs.cons (CT.int IntKind.u64) CTs.nil))))]
 (Option (Bool × Unit)) →
 Int64 →
 Int64 →
 List
 (UInt8 ×
 List (UInt8 × UInt8 × UInt8) ×
 UInt8 ×
 UInt8 ×
 Int64 ×
 UInt8 ×
 UInt8 ×
 UInt8 ×
 UInt8 × UInt8 × UInt8 × List (List UInt8 × UInt8 × List UInt8) × UInt64 × UInt64 × Bool) →
 Int64 →
 Int64 →
 Option (List (Int64 × List (List UInt8 × UInt8 × List UInt8) × UInt64 × UInt64) × Int64) →
 List (Int64 × List (List UInt8 × UInt8 × List UInt8) × UInt64 × UInt64) →
 List (List UInt8 × UInt8 × List UInt8) → UInt64 → UInt64 → Option (Bool × Unit) := fun (n : Nat)
 (J :
 Arr
 [PT.int IntKind.i64,
 PT.list
 (CTs.cons (CT.int IntKind.u8)
 (CTs.cons
 (CT.ro
 (CTs.cons (CT.int IntKind.u8) (CTs.cons (CT.int IntKind.u8) (CTs.cons (CT.int IntKind.u8) CTs.nil))))
 (CTs.cons (CT.int IntKind.u8)
 (CTs.cons (CT.int IntKind.u8)
 (CTs.cons (CT.int IntKind.i64)
 (CTs.cons (CT.int IntKind.u8)
 (CTs.cons (CT.int IntKind.u8)
 (CTs.cons (CT.int IntKind.u8)
 (CTs.cons (CT.int IntKind.u8)
 (CTs.cons (CT.int IntKind.u8)
 (CTs.cons (CT.int IntKind.u8)
 (CTs.cons
 (CT.ro (CTs.cons CT.str (CTs.cons (CT.int IntKind.u8) (CTs.cons CT.str CTs.nil))))
 (CTs.cons (CT.int IntKind.u64)
 (CTs.cons (CT.int IntKind.u64) (CTs.cons CT.bool CTs.nil))))))))))))))),
 PT.int IntKind.i64, PT.int IntKind.i64,
 PT.opt
 (OTs.cons
 (OT.map (VT.one (CT.int IntKind.i64))
 (VT.agg
 (CTs.cons (CT.ro (CTs.cons CT.str (CTs.cons (CT.int IntKind.u8) (CTs.cons CT.str CTs.nil))))
 (CTs.cons (CT.int IntKind.u64) (CTs.cons (CT.int IntKind.u64) CTs.nil)))))
 (OTs.cons (OT.c (CT.int IntKind.i64)) OTs.nil)),
 PT.list
 (CTs.cons (CT.int IntKind.i64)
 (CTs.cons (CT.ro (CTs.cons CT.str (CTs.cons (CT.int IntKind.u8) (CTs.cons CT.str CTs.nil))))
 (CTs.cons (CT.int IntKind.u64) (CTs.cons (CT.int IntKind.u64) CTs.nil))))]
 (Option (Bool × Unit)))
 (last_4 code : Int64)
 (t_6 :
 List
 (UInt8 ×
 List (UInt8 × UInt8 × UInt8) ×
 UInt8 ×
 UInt8 ×
 Int64 ×
 UInt8 ×
 UInt8 ×
 UInt8 × UInt8 × UInt8 × UInt8 × List (List UInt8 × UInt8 × List UInt8) × UInt64 × UInt64 × Bool))
 (t_1_4 t_2_4 : Int64)
 (l_4 : Option (List (Int64 × List (List UInt8 × UInt8 × List UInt8) × UInt64 × UInt64) × Int64))
 (m_4 : List (Int64 × List (List UInt8 × UInt8 × List UInt8) × UInt64 × UInt64))
 (q0_1 : List (List UInt8 × UInt8 × List UInt8)) (q1_1 q2_1 : UInt64) =>
 obind (F15 n (l_4, q0_1, q1_1, q2_1))
 fun
 (x_7 :
 (Int64 × Int64) × Option (List (Int64 × List (List UInt8 × UInt8 × List UInt8) × UInt64 × UInt64) × Int64)) =>
 oite (!decide (Prod.snd (Prod.fst x_7) = code)) (some (false, ()))
 (ojoinA (2125979647 : Nat)
 [PT.int IntKind.i64, PT.int IntKind.i64, PT.int IntKind.i64,
 PT.list
 (CTs.cons (CT.int IntKind.u8)
 (CTs.cons
 (CT.ro
 (CTs.cons (CT.int IntKind.u8) (CTs.cons (CT.int IntKind.u8) (CTs.cons (CT.int IntKind.u8) CTs.nil))))
 (CTs.cons (CT.int IntKind.u8)
 (CTs.cons (CT.int IntKind.u8)
 (CTs.cons (CT.int IntKind.i64)
 (CTs.cons (CT.int IntKind.u8)
 (CTs.cons (CT.int IntKind.u8)
 (CTs.cons (CT.int IntKind.u8)
 (CTs.cons (CT.int IntKind.u8)
 (CTs.cons (CT.int IntKind.u8)
 (CTs.cons (CT.int IntKind.u8)
 (CTs.cons
 (CT.ro (CTs.cons CT.str (CTs.cons (CT.int IntKind.u8) (CTs.cons CT.str CTs.nil))))
 (CTs.cons (CT.int IntKind.u64)
 (CTs.cons (CT.int IntKind.u64) (CTs.cons CT.bool CTs.nil))))))))))))))),
 PT.int IntKind.i64, PT.int IntKind.i64,
 PT.opt
 (OTs.cons
 (OT.map (VT.one (CT.int IntKind.i64))
 (VT.agg
 (CTs.cons (CT.ro (CTs.cons CT.str (CTs.cons (CT.int IntKind.u8) (CTs.cons CT.str CTs.nil))))
 (CTs.cons (CT.int IntKind.u64) (CTs.cons (CT.int IntKind.u64) CTs.nil)))))
 (OTs.cons (OT.c (CT.int IntKind.i64)) OTs.nil)),
 PT.list
 (CTs.cons (CT.int IntKind.i64)
 (CTs.cons (CT.ro (CTs.cons CT.str (CTs.cons (CT.int IntKind.u8) (CTs.cons CT.str CTs.nil))))
 (CTs.cons (CT.int IntKind.u64) (CTs.cons (CT.int IntKind.u64) CTs.nil))))]
 (fun
 (J_1 :
 Arr
 [PT.int IntKind.i64, PT.int IntKind.i64, PT.int IntKind.i64,
 PT.list
 (CTs.cons (CT.int IntKind.u8)
 (CTs.cons
 (CT.ro
 (CTs.cons (CT.int IntKind.u8)
 (CTs.cons (CT.int IntKind.u8) (CTs.cons (CT.int IntKind.u8) CTs.nil))))
 (CTs.cons (CT.int IntKind.u8)
 (CTs.cons (CT.int IntKind.u8)
 (CTs.cons (CT.int IntKind.i64)
 (CTs.cons (CT.int IntKind.u8)
 (CTs.cons (CT.int IntKind.u8)
 (CTs.cons (CT.int IntKind.u8)
 (CTs.cons (CT.int IntKind.u8)
 (CTs.cons (CT.int IntKind.u8)
 (CTs.cons (CT.int IntKind.u8)
 (CTs.cons
 (CT.ro
 (CTs.cons CT.str
 (CTs.cons (CT.int IntKind.u8) (CTs.cons CT.str CTs.nil))))
 (CTs.cons (CT.int IntKind.u64)
 (CTs.cons (CT.int IntKind.u64) (CTs.cons CT.bool CTs.nil))))))))))))))),
 PT.int IntKind.i64, PT.int IntKind.i64,
 PT.opt
 (OTs.cons
 (OT.map (VT.one (CT.int IntKind.i64))
 (VT.agg
 (CTs.cons (CT.ro (CTs.cons CT.str (CTs.cons (CT.int IntKind.u8) (CTs.cons CT.str CTs.nil))))
 (CTs.cons (CT.int IntKind.u64) (CTs.cons (CT.int IntKind.u64) CTs.nil)))))
 (OTs.cons (OT.c (CT.int IntKind.i64)) OTs.nil)),
 PT.list
 (CTs.cons (CT.int IntKind.i64)
 (CTs.cons (CT.ro (CTs.cons CT.str (CTs.cons (CT.int IntKind.u8) (CTs.cons CT.str CTs.nil))))
 (CTs.cons (CT.int IntKind.u64) (CTs.cons (CT.int IntKind.u64) CTs.nil))))]
 (Option (Bool × Unit))) =>
 oite (decide (code = (0 : Int64)))
 (oite
 (Nat.ble (List.length m_4 + List.length [(last_4 + (1 : Int64), q0_1, q1_1, q2_1)]) (4294967296 : Nat))
 (J_1 (last_4 + (1 : Int64)) code (Prod.fst (Prod.fst x_7)) t_6 t_1_4 t_2_4 (Prod.snd x_7)
 (m_4 ++ [(last_4 + (1 : Int64), q0_1, q1_1, q2_1)]))
 none)
 (J_1 last_4 code (Prod.fst (Prod.fst x_7)) t_6 t_1_4 t_2_4 (Prod.snd x_7) m_4))
 (F5_J2125979647 J))
noncomputable def F5_J66436863 : Nat →
 Arr
 [PT.int IntKind.i64,
 PT.list
 (CTs.cons (CT.int IntKind.u8)
 (CTs.cons
 (CT.ro
 (CTs.cons (CT.int IntKind.u8) (CTs.cons (CT.int IntKind.u8) (CTs.cons (CT.int IntKind.u8) CTs.nil))))
 (CTs.cons (CT.int IntKind.u8)
 (CTs.cons (CT.int IntKind.u8)
 (CTs.cons (CT.int IntKind.i64)
 (CTs.cons (CT.int IntKind.u8)
 (CTs.cons (CT.int IntKind.u8)
 (CTs.cons (CT.int IntKind.u8)
 (CTs.cons (CT.int IntKind.u8)
 (CTs.cons (CT.int IntKind.u8)
 (CTs.cons (CT.int IntKind.u8)
 (CTs.cons
 (CT.ro (CTs.cons CT.str (CTs.cons (CT.int IntKind.u8) (CTs.cons CT.str CTs.nil))))
 (CTs.cons (CT.int IntKind.u64)
 (CTs.cons (CT.int IntKind.u64) (CTs.cons CT.bool CTs.nil))))))))))))))),
 PT.int IntKind.i64, PT.int IntKind.i64,
 PT.opt
 (OTs.cons
 (OT.map (VT.one (CT.int IntKind.i64))
 (VT.agg
 (CTs.cons (CT.ro (CTs.cons CT.str (CTs.cons (CT.int IntKind.u8) (CTs.cons CT.str CTs.nil))))
 (CTs.cons (CT.int IntKind.u64) (CTs.cons (CT.int IntKind.u64) CTs.nil)))))
 (OTs.cons (OT.c (CT.int IntKind.i64)) OTs.nil)),
 PT.list
 (CTs.cons (CT.int IntKind.i64)
 (CTs.cons (CT.ro (CTs.cons CT.str (CTs.cons (CT.int IntKind.u8) (CTs.cons CT.str CTs.nil))))
 (CTs.cons (CT.int IntKind.u64) (CTs.cons (CT.int IntKind.u64) CTs.nil))))]
 (Option (Bool × Unit)) →
 Int64 →
 List
 (UInt8 ×
 List (UInt8 × UInt8 × UInt8) ×
 UInt8 ×
 UInt8 ×
 Int64 ×
 UInt8 ×
 UInt8 ×
 UInt8 ×
 UInt8 × UInt8 × UInt8 × List (List UInt8 × UInt8 × List UInt8) × UInt64 × UInt64 × Bool) →
 Int64 →
 Int64 →
 Option (List (Int64 × List (List UInt8 × UInt8 × List UInt8) × UInt64 × UInt64) × Int64) →
 List (Int64 × List (List UInt8 × UInt8 × List UInt8) × UInt64 × UInt64) →
 List (List UInt8 × UInt8 × List UInt8) → UInt64 → UInt64 → Option (Bool × Unit) := fun (n : Nat)
 (J :
 Arr
 [PT.int IntKind.i64,
 PT.list
 (CTs.cons (CT.int IntKind.u8)
 (CTs.cons
 (CT.ro
 (CTs.cons (CT.int IntKind.u8) (CTs.cons (CT.int IntKind.u8) (CTs.cons (CT.int IntKind.u8) CTs.nil))))
 (CTs.cons (CT.int IntKind.u8)
 (CTs.cons (CT.int IntKind.u8)
 (CTs.cons (CT.int IntKind.i64)
 (CTs.cons (CT.int IntKind.u8)
 (CTs.cons (CT.int IntKind.u8)
 (CTs.cons (CT.int IntKind.u8)
 (CTs.cons (CT.int IntKind.u8)
 (CTs.cons (CT.int IntKind.u8)
 (CTs.cons (CT.int IntKind.u8)
 (CTs.cons
 (CT.ro (CTs.cons CT.str (CTs.cons (CT.int IntKind.u8) (CTs.cons CT.str CTs.nil))))
 (CTs.cons (CT.int IntKind.u64)
 (CTs.cons (CT.int IntKind.u64) (CTs.cons CT.bool CTs.nil))))))))))))))),
 PT.int IntKind.i64, PT.int IntKind.i64,
 PT.opt
 (OTs.cons
 (OT.map (VT.one (CT.int IntKind.i64))
 (VT.agg
 (CTs.cons (CT.ro (CTs.cons CT.str (CTs.cons (CT.int IntKind.u8) (CTs.cons CT.str CTs.nil))))
 (CTs.cons (CT.int IntKind.u64) (CTs.cons (CT.int IntKind.u64) CTs.nil)))))
 (OTs.cons (OT.c (CT.int IntKind.i64)) OTs.nil)),
 PT.list
 (CTs.cons (CT.int IntKind.i64)
 (CTs.cons (CT.ro (CTs.cons CT.str (CTs.cons (CT.int IntKind.u8) (CTs.cons CT.str CTs.nil))))
 (CTs.cons (CT.int IntKind.u64) (CTs.cons (CT.int IntKind.u64) CTs.nil))))]
 (Option (Bool × Unit)))
 (last_3 : Int64)
 (t_5 :
 List
 (UInt8 ×
 List (UInt8 × UInt8 × UInt8) ×
 UInt8 ×
 UInt8 ×
 Int64 ×
 UInt8 ×
 UInt8 ×
 UInt8 × UInt8 × UInt8 × UInt8 × List (List UInt8 × UInt8 × List UInt8) × UInt64 × UInt64 × Bool))
 (t_1_3 t_2_3 : Int64)
 (l_3 : Option (List (Int64 × List (List UInt8 × UInt8 × List UInt8) × UInt64 × UInt64) × Int64))
 (m_3 : List (Int64 × List (List UInt8 × UInt8 × List UInt8) × UInt64 × UInt64))
 (q0 : List (List UInt8 × UInt8 × List UInt8)) (q1 q2 : UInt64) =>
 obind (F11 n q0) fun (x_5 : List (List UInt8 × Int64 × List UInt8) × Unit) =>
 obind (F19 n (Prod.fst x_5)) fun (x_6 : Int64 × Unit) =>
 ojoinA (265747455 : Nat)
 [PT.int IntKind.i64, PT.int IntKind.i64,
 PT.list
 (CTs.cons (CT.int IntKind.u8)
 (CTs.cons
 (CT.ro
 (CTs.cons (CT.int IntKind.u8) (CTs.cons (CT.int IntKind.u8) (CTs.cons (CT.int IntKind.u8) CTs.nil))))
 (CTs.cons (CT.int IntKind.u8)
 (CTs.cons (CT.int IntKind.u8)
 (CTs.cons (CT.int IntKind.i64)
 (CTs.cons (CT.int IntKind.u8)
 (CTs.cons (CT.int IntKind.u8)
 (CTs.cons (CT.int IntKind.u8)
 (CTs.cons (CT.int IntKind.u8)
 (CTs.cons (CT.int IntKind.u8)
 (CTs.cons (CT.int IntKind.u8)
 (CTs.cons
 (CT.ro (CTs.cons CT.str (CTs.cons (CT.int IntKind.u8) (CTs.cons CT.str CTs.nil))))
 (CTs.cons (CT.int IntKind.u64)
 (CTs.cons (CT.int IntKind.u64) (CTs.cons CT.bool CTs.nil))))))))))))))),
 PT.int IntKind.i64, PT.int IntKind.i64,
 PT.opt
 (OTs.cons
 (OT.map (VT.one (CT.int IntKind.i64))
 (VT.agg
 (CTs.cons (CT.ro (CTs.cons CT.str (CTs.cons (CT.int IntKind.u8) (CTs.cons CT.str CTs.nil))))
 (CTs.cons (CT.int IntKind.u64) (CTs.cons (CT.int IntKind.u64) CTs.nil)))))
 (OTs.cons (OT.c (CT.int IntKind.i64)) OTs.nil)),
 PT.list
 (CTs.cons (CT.int IntKind.i64)
 (CTs.cons (CT.ro (CTs.cons CT.str (CTs.cons (CT.int IntKind.u8) (CTs.cons CT.str CTs.nil))))
 (CTs.cons (CT.int IntKind.u64) (CTs.cons (CT.int IntKind.u64) CTs.nil)))),
 PT.list (CTs.cons CT.str (CTs.cons (CT.int IntKind.u8) (CTs.cons CT.str CTs.nil))), PT.int IntKind.u64,
 PT.int IntKind.u64]
 (fun
 (J_1 :
 Arr
 [PT.int IntKind.i64, PT.int IntKind.i64,
 PT.list
 (CTs.cons (CT.int IntKind.u8)
 (CTs.cons
 (CT.ro
 (CTs.cons (CT.int IntKind.u8)
 (CTs.cons (CT.int IntKind.u8) (CTs.cons (CT.int IntKind.u8) CTs.nil))))
 (CTs.cons (CT.int IntKind.u8)
 (CTs.cons (CT.int IntKind.u8)
 (CTs.cons (CT.int IntKind.i64)
 (CTs.cons (CT.int IntKind.u8)
 (CTs.cons (CT.int IntKind.u8)
 (CTs.cons (CT.int IntKind.u8)
 (CTs.cons (CT.int IntKind.u8)
 (CTs.cons (CT.int IntKind.u8)
 (CTs.cons (CT.int IntKind.u8)
 (CTs.cons
 (CT.ro
 (CTs.cons CT.str
 (CTs.cons (CT.int IntKind.u8) (CTs.cons CT.str CTs.nil))))
 (CTs.cons (CT.int IntKind.u64)
 (CTs.cons (CT.int IntKind.u64) (CTs.cons CT.bool CTs.nil))))))))))))))),
 PT.int IntKind.i64, PT.int IntKind.i64,
 PT.opt
 (OTs.cons
 (OT.map (VT.one (CT.int IntKind.i64))
 (VT.agg
 (CTs.cons (CT.ro (CTs.cons CT.str (CTs.cons (CT.int IntKind.u8) (CTs.cons CT.str CTs.nil))))
 (CTs.cons (CT.int IntKind.u64) (CTs.cons (CT.int IntKind.u64) CTs.nil)))))
 (OTs.cons (OT.c (CT.int IntKind.i64)) OTs.nil)),
 PT.list
 (CTs.cons (CT.int IntKind.i64)
 (CTs.cons (CT.ro (CTs.cons CT.str (CTs.cons (CT.int IntKind.u8) (CTs.cons CT.str CTs.nil))))
 (CTs.cons (CT.int IntKind.u64) (CTs.cons (CT.int IntKind.u64) CTs.nil)))),
 PT.list (CTs.cons CT.str (CTs.cons (CT.int IntKind.u8) (CTs.cons CT.str CTs.nil))),
 PT.int IntKind.u64, PT.int IntKind.u64]
 (Option (Bool × Unit))) =>
 oite (decide (Int64.ofInt ↑(List.length q0) = (0 : Int64)))
 (J_1 last_3 (2 : Int64) t_5 t_1_3 t_2_3 l_3 m_3 q0 q1 q2)
 (oite (decide (q2 ≤ q1)) (J_1 last_3 (6 : Int64) t_5 t_1_3 t_2_3 l_3 m_3 q0 q1 q2)
 (oite (decide ((1099511627776 : UInt64) < q2)) (J_1 last_3 (6 : Int64) t_5 t_1_3 t_2_3 l_3 m_3 q0 q1 q2)
 (oite (decide (Prod.fst x_6 = (0 : Int64)))
 (oite (decide (Int64.ofInt ↑(List.length m_3) = (32 : Int64)))
 (J_1 last_3 (5 : Int64) t_5 t_1_3 t_2_3 l_3 m_3 q0 q1 q2)
 (J_1 last_3 (Prod.fst x_6) t_5 t_1_3 t_2_3 l_3 m_3 q0 q1 q2))
 (J_1 last_3 (Prod.fst x_6) t_5 t_1_3 t_2_3 l_3 m_3 q0 q1 q2)))))
 (F5_J265747455 n J)
noncomputable def F5_J8304607 : Nat →
 Arr
 [PT.int IntKind.i64,
 PT.list
 (CTs.cons (CT.int IntKind.u8)
 (CTs.cons
 (CT.ro
 (CTs.cons (CT.int IntKind.u8) (CTs.cons (CT.int IntKind.u8) (CTs.cons (CT.int IntKind.u8) CTs.nil))))
 (CTs.cons (CT.int IntKind.u8)
 (CTs.cons (CT.int IntKind.u8)
 (CTs.cons (CT.int IntKind.i64)
 (CTs.cons (CT.int IntKind.u8)
 (CTs.cons (CT.int IntKind.u8)
 (CTs.cons (CT.int IntKind.u8)
 (CTs.cons (CT.int IntKind.u8)
 (CTs.cons (CT.int IntKind.u8)
 (CTs.cons (CT.int IntKind.u8)
 (CTs.cons
 (CT.ro (CTs.cons CT.str (CTs.cons (CT.int IntKind.u8) (CTs.cons CT.str CTs.nil))))
 (CTs.cons (CT.int IntKind.u64)
 (CTs.cons (CT.int IntKind.u64) (CTs.cons CT.bool CTs.nil))))))))))))))),
 PT.int IntKind.i64, PT.int IntKind.i64,
 PT.opt
 (OTs.cons
 (OT.map (VT.one (CT.int IntKind.i64))
 (VT.agg
 (CTs.cons (CT.ro (CTs.cons CT.str (CTs.cons (CT.int IntKind.u8) (CTs.cons CT.str CTs.nil))))
 (CTs.cons (CT.int IntKind.u64) (CTs.cons (CT.int IntKind.u64) CTs.nil)))))
 (OTs.cons (OT.c (CT.int IntKind.i64)) OTs.nil)),
 PT.list
 (CTs.cons (CT.int IntKind.i64)
 (CTs.cons (CT.ro (CTs.cons CT.str (CTs.cons (CT.int IntKind.u8) (CTs.cons CT.str CTs.nil))))
 (CTs.cons (CT.int IntKind.u64) (CTs.cons (CT.int IntKind.u64) CTs.nil))))]
 (Option (Bool × Unit)) →
 Int64 →
 UInt64 →
 List
 (UInt8 ×
 List (UInt8 × UInt8 × UInt8) ×
 UInt8 ×
 UInt8 ×
 Int64 ×
 UInt8 ×
 UInt8 ×
 UInt8 ×
 UInt8 × UInt8 × UInt8 × List (List UInt8 × UInt8 × List UInt8) × UInt64 × UInt64 × Bool) →
 Int64 →
 Int64 →
 Bool →
 Option (List (Int64 × List (List UInt8 × UInt8 × List UInt8) × UInt64 × UInt64) × Int64) →
 List (Int64 × List (List UInt8 × UInt8 × List UInt8) × UInt64 × UInt64) →
 UInt8 →
 List (UInt8 × UInt8 × UInt8) →
 UInt8 →
 UInt8 →
 Int64 →
 UInt8 →
 UInt8 →
 UInt8 →
 UInt8 →
 UInt8 →
 UInt8 →
 List (List UInt8 × UInt8 × List UInt8) →
 UInt64 → UInt64 → Bool → Option (Bool × Unit) := fun (n : Nat)
 (J :
 Arr
 [PT.int IntKind.i64,
 PT.list
 (CTs.cons (CT.int IntKind.u8)
 (CTs.cons
 (CT.ro
 (CTs.cons (CT.int IntKind.u8) (CTs.cons (CT.int IntKind.u8) (CTs.cons (CT.int IntKind.u8) CTs.nil))))
 (CTs.cons (CT.int IntKind.u8)
 (CTs.cons (CT.int IntKind.u8)
 (CTs.cons (CT.int IntKind.i64)
 (CTs.cons (CT.int IntKind.u8)
 (CTs.cons (CT.int IntKind.u8)
 (CTs.cons (CT.int IntKind.u8)
 (CTs.cons (CT.int IntKind.u8)
 (CTs.cons (CT.int IntKind.u8)
 (CTs.cons (CT.int IntKind.u8)
 (CTs.cons
 (CT.ro (CTs.cons CT.str (CTs.cons (CT.int IntKind.u8) (CTs.cons CT.str CTs.nil))))
 (CTs.cons (CT.int IntKind.u64)
 (CTs.cons (CT.int IntKind.u64) (CTs.cons CT.bool CTs.nil))))))))))))))),
 PT.int IntKind.i64, PT.int IntKind.i64,
 PT.opt
 (OTs.cons
 (OT.map (VT.one (CT.int IntKind.i64))
 (VT.agg
 (CTs.cons (CT.ro (CTs.cons CT.str (CTs.cons (CT.int IntKind.u8) (CTs.cons CT.str CTs.nil))))
 (CTs.cons (CT.int IntKind.u64) (CTs.cons (CT.int IntKind.u64) CTs.nil)))))
 (OTs.cons (OT.c (CT.int IntKind.i64)) OTs.nil)),
 PT.list
 (CTs.cons (CT.int IntKind.i64)
 (CTs.cons (CT.ro (CTs.cons CT.str (CTs.cons (CT.int IntKind.u8) (CTs.cons CT.str CTs.nil))))
 (CTs.cons (CT.int IntKind.u64) (CTs.cons (CT.int IntKind.u64) CTs.nil))))]
 (Option (Bool × Unit)))
 (last_2 : Int64) (now_1 : UInt64)
 (t_4 :
 List
 (UInt8 ×
 List (UInt8 × UInt8 × UInt8) ×
 UInt8 ×
 UInt8 ×
 Int64 ×
 UInt8 ×
 UInt8 ×
 UInt8 × UInt8 × UInt8 × UInt8 × List (List UInt8 × UInt8 × List UInt8) × UInt64 × UInt64 × Bool))
 (t_1_2 t_2_2 : Int64) (t_3_1 : Bool)
 (l_2 : Option (List (Int64 × List (List UInt8 × UInt8 × List UInt8) × UInt64 × UInt64) × Int64))
 (m_2 : List (Int64 × List (List UInt8 × UInt8 × List UInt8) × UInt64 × UInt64)) (a0_1 : UInt8)
 (a1_1 : List (UInt8 × UInt8 × UInt8)) (a2_1 a3_1 : UInt8) (a4_1 : Int64) (a5_1 a6_1 a7_1 a8_1 a9_1 a10_1 : UInt8)
 (a11_1 : List (List UInt8 × UInt8 × List UInt8)) (a12_1 a13_1 : UInt64) (a14_1 : Bool) =>
 oite t_3_1
 (obind (F8 n (a5_1, a6_1, a7_1, a8_1, a9_1, a10_1))
 fun (x_4 : (UInt8 × List UInt8 × List (List UInt8 × List UInt8) × UInt8 × UInt64 × UInt8 × Int64) × Unit) =>
 F5_R531494893 n J n last_2 now_1 (0 : Int64) t_4 t_1_2 t_2_2 (Int64.ofInt ↑(List.length m_2)) (0 : Int64) l_2 m_2
 (Prod.fst (Prod.fst x_4)) (Prod.fst (Prod.snd (Prod.fst x_4))) (Prod.fst (Prod.snd (Prod.snd (Prod.fst x_4))))
 (Prod.fst (Prod.snd (Prod.snd (Prod.snd (Prod.fst x_4)))))
 (Prod.fst (Prod.snd (Prod.snd (Prod.snd (Prod.snd (Prod.fst x_4))))))
 (Prod.fst (Prod.snd (Prod.snd (Prod.snd (Prod.snd (Prod.snd (Prod.fst x_4)))))))
 (Prod.snd (Prod.snd (Prod.snd (Prod.snd (Prod.snd (Prod.snd (Prod.fst x_4))))))))
 (obind (F9 n (a1_1, (3 : Int64))) fun (x_4 : List (List UInt8 × UInt8 × List UInt8) × Unit) =>
 ojoinA (66436863 : Nat)
 [PT.int IntKind.i64,
 PT.list
 (CTs.cons (CT.int IntKind.u8)
 (CTs.cons
 (CT.ro
 (CTs.cons (CT.int IntKind.u8) (CTs.cons (CT.int IntKind.u8) (CTs.cons (CT.int IntKind.u8) CTs.nil))))
 (CTs.cons (CT.int IntKind.u8)
 (CTs.cons (CT.int IntKind.u8)
 (CTs.cons (CT.int IntKind.i64)
 (CTs.cons (CT.int IntKind.u8)
 (CTs.cons (CT.int IntKind.u8)
 (CTs.cons (CT.int IntKind.u8)
 (CTs.cons (CT.int IntKind.u8)
 (CTs.cons (CT.int IntKind.u8)
 (CTs.cons (CT.int IntKind.u8)
 (CTs.cons
 (CT.ro (CTs.cons CT.str (CTs.cons (CT.int IntKind.u8) (CTs.cons CT.str CTs.nil))))
 (CTs.cons (CT.int IntKind.u64)
 (CTs.cons (CT.int IntKind.u64) (CTs.cons CT.bool CTs.nil))))))))))))))),
 PT.int IntKind.i64, PT.int IntKind.i64,
 PT.opt
 (OTs.cons
 (OT.map (VT.one (CT.int IntKind.i64))
 (VT.agg
 (CTs.cons (CT.ro (CTs.cons CT.str (CTs.cons (CT.int IntKind.u8) (CTs.cons CT.str CTs.nil))))
 (CTs.cons (CT.int IntKind.u64) (CTs.cons (CT.int IntKind.u64) CTs.nil)))))
 (OTs.cons (OT.c (CT.int IntKind.i64)) OTs.nil)),
 PT.list
 (CTs.cons (CT.int IntKind.i64)
 (CTs.cons (CT.ro (CTs.cons CT.str (CTs.cons (CT.int IntKind.u8) (CTs.cons CT.str CTs.nil))))
 (CTs.cons (CT.int IntKind.u64) (CTs.cons (CT.int IntKind.u64) CTs.nil)))),
 PT.list (CTs.cons CT.str (CTs.cons (CT.int IntKind.u8) (CTs.cons CT.str CTs.nil))), PT.int IntKind.u64,
 PT.int IntKind.u64]
 (fun
 (J_1 :
 Arr
 [PT.int IntKind.i64,
 PT.list
 (CTs.cons (CT.int IntKind.u8)
 (CTs.cons
 (CT.ro
 (CTs.cons (CT.int IntKind.u8)
 (CTs.cons (CT.int IntKind.u8) (CTs.cons (CT.int IntKind.u8) CTs.nil))))
 (CTs.cons (CT.int IntKind.u8)
 (CTs.cons (CT.int IntKind.u8)
 (CTs.cons (CT.int IntKind.i64)
 (CTs.cons (CT.int IntKind.u8)
 (CTs.cons (CT.int IntKind.u8)
 (CTs.cons (CT.int IntKind.u8)
 (CTs.cons (CT.int IntKind.u8)
 (CTs.cons (CT.int IntKind.u8)
 (CTs.cons (CT.int IntKind.u8)
 (CTs.cons
 (CT.ro
 (CTs.cons CT.str
 (CTs.cons (CT.int IntKind.u8) (CTs.cons CT.str CTs.nil))))
 (CTs.cons (CT.int IntKind.u64)
 (CTs.cons (CT.int IntKind.u64) (CTs.cons CT.bool CTs.nil))))))))))))))),
 PT.int IntKind.i64, PT.int IntKind.i64,
 PT.opt
 (OTs.cons
 (OT.map (VT.one (CT.int IntKind.i64))
 (VT.agg
 (CTs.cons (CT.ro (CTs.cons CT.str (CTs.cons (CT.int IntKind.u8) (CTs.cons CT.str CTs.nil))))
 (CTs.cons (CT.int IntKind.u64) (CTs.cons (CT.int IntKind.u64) CTs.nil)))))
 (OTs.cons (OT.c (CT.int IntKind.i64)) OTs.nil)),
 PT.list
 (CTs.cons (CT.int IntKind.i64)
 (CTs.cons (CT.ro (CTs.cons CT.str (CTs.cons (CT.int IntKind.u8) (CTs.cons CT.str CTs.nil))))
 (CTs.cons (CT.int IntKind.u64) (CTs.cons (CT.int IntKind.u64) CTs.nil)))),
 PT.list (CTs.cons CT.str (CTs.cons (CT.int IntKind.u8) (CTs.cons CT.str CTs.nil))),
 PT.int IntKind.u64, PT.int IntKind.u64]
 (Option (Bool × Unit))) =>
 oite a14_1 (J_1 last_2 t_4 t_1_2 t_2_2 l_2 m_2 a11_1 a12_1 a13_1)
 (J_1 last_2 t_4 t_1_2 t_2_2 l_2 m_2 (Prod.fst x_4) (UInt64.ofInt ↑(UInt8.toNat (a2_1 % (30 : UInt8))))
 (UInt64.ofInt ↑(UInt8.toNat (a3_1 % (40 : UInt8))))))
 (F5_J66436863 n J))
noncomputable def F5_J64879 : Nat →
 Arr
 [PT.int IntKind.i64,
 PT.list
 (CTs.cons (CT.int IntKind.u8)
 (CTs.cons
 (CT.ro
 (CTs.cons (CT.int IntKind.u8) (CTs.cons (CT.int IntKind.u8) (CTs.cons (CT.int IntKind.u8) CTs.nil))))
 (CTs.cons (CT.int IntKind.u8)
 (CTs.cons (CT.int IntKind.u8)
 (CTs.cons (CT.int IntKind.i64)
 (CTs.cons (CT.int IntKind.u8)
 (CTs.cons (CT.int IntKind.u8)
 (CTs.cons (CT.int IntKind.u8)
 (CTs.cons (CT.int IntKind.u8)
 (CTs.cons (CT.int IntKind.u8)
 (CTs.cons (CT.int IntKind.u8)
 (CTs.cons
 (CT.ro (CTs.cons CT.str (CTs.cons (CT.int IntKind.u8) (CTs.cons CT.str CTs.nil))))
 (CTs.cons (CT.int IntKind.u64)
 (CTs.cons (CT.int IntKind.u64) (CTs.cons CT.bool CTs.nil))))))))))))))),
 PT.int IntKind.i64, PT.int IntKind.i64,
 PT.opt
 (OTs.cons
 (OT.map (VT.one (CT.int IntKind.i64))
 (VT.agg
 (CTs.cons (CT.ro (CTs.cons CT.str (CTs.cons (CT.int IntKind.u8) (CTs.cons CT.str CTs.nil))))
 (CTs.cons (CT.int IntKind.u64) (CTs.cons (CT.int IntKind.u64) CTs.nil)))))
 (OTs.cons (OT.c (CT.int IntKind.i64)) OTs.nil)),
 PT.list
 (CTs.cons (CT.int IntKind.i64)
 (CTs.cons (CT.ro (CTs.cons CT.str (CTs.cons (CT.int IntKind.u8) (CTs.cons CT.str CTs.nil))))
 (CTs.cons (CT.int IntKind.u64) (CTs.cons (CT.int IntKind.u64) CTs.nil))))]
 (Option (Bool × Unit)) →
 Int64 →
 UInt64 →
 Int64 →
 List
 (UInt8 ×
 List (UInt8 × UInt8 × UInt8) ×
 UInt8 ×
 UInt8 ×
 Int64 ×
 UInt8 ×
 UInt8 ×
 UInt8 ×
 UInt8 × UInt8 × UInt8 × List (List UInt8 × UInt8 × List UInt8) × UInt64 × UInt64 × Bool) →
 Int64 →
 Int64 →
 Option (List (Int64 × List (List UInt8 × UInt8 × List UInt8) × UInt64 × UInt64) × Int64) →
 List (Int64 × List (List UInt8 × UInt8 × List UInt8) × UInt64 × UInt64) →
 UInt8 →
 List (UInt8 × UInt8 × UInt8) →
 UInt8 →
 UInt8 →
 Int64 →
 UInt8 →
 UInt8 →
 UInt8 →
 UInt8 →
 UInt8 →
 UInt8 →
 List (List UInt8 × UInt8 × List UInt8) →
 UInt64 → UInt64 → Bool → Option (Bool × Unit) := fun (n : Nat)
 (rec :
 Arr
 [PT.int IntKind.i64,
 PT.list
 (CTs.cons (CT.int IntKind.u8)
 (CTs.cons
 (CT.ro
 (CTs.cons (CT.int IntKind.u8) (CTs.cons (CT.int IntKind.u8) (CTs.cons (CT.int IntKind.u8) CTs.nil))))
 (CTs.cons (CT.int IntKind.u8)
 (CTs.cons (CT.int IntKind.u8)
 (CTs.cons (CT.int IntKind.i64)
 (CTs.cons (CT.int IntKind.u8)
 (CTs.cons (CT.int IntKind.u8)
 (CTs.cons (CT.int IntKind.u8)
 (CTs.cons (CT.int IntKind.u8)
 (CTs.cons (CT.int IntKind.u8)
 (CTs.cons (CT.int IntKind.u8)
 (CTs.cons
 (CT.ro (CTs.cons CT.str (CTs.cons (CT.int IntKind.u8) (CTs.cons CT.str CTs.nil))))
 (CTs.cons (CT.int IntKind.u64)
 (CTs.cons (CT.int IntKind.u64) (CTs.cons CT.bool CTs.nil))))))))))))))),
 PT.int IntKind.i64, PT.int IntKind.i64,
 PT.opt
 (OTs.cons
 (OT.map (VT.one (CT.int IntKind.i64))
 (VT.agg
 (CTs.cons (CT.ro (CTs.cons CT.str (CTs.cons (CT.int IntKind.u8) (CTs.cons CT.str CTs.nil))))
 (CTs.cons (CT.int IntKind.u64) (CTs.cons (CT.int IntKind.u64) CTs.nil)))))
 (OTs.cons (OT.c (CT.int IntKind.i64)) OTs.nil)),
 PT.list
 (CTs.cons (CT.int IntKind.i64)
 (CTs.cons (CT.ro (CTs.cons CT.str (CTs.cons (CT.int IntKind.u8) (CTs.cons CT.str CTs.nil))))
 (CTs.cons (CT.int IntKind.u64) (CTs.cons (CT.int IntKind.u64) CTs.nil))))]
 (Option (Bool × Unit)))
 (last_1 : Int64) (now : UInt64) (n_ : Int64)
 (t_3 :
 List
 (UInt8 ×
 List (UInt8 × UInt8 × UInt8) ×
 UInt8 ×
 UInt8 ×
 Int64 ×
 UInt8 ×
 UInt8 ×
 UInt8 × UInt8 × UInt8 × UInt8 × List (List UInt8 × UInt8 × List UInt8) × UInt64 × UInt64 × Bool))
 (t_1_1 t_2_1 : Int64)
 (l_1 : Option (List (Int64 × List (List UInt8 × UInt8 × List UInt8) × UInt64 × UInt64) × Int64))
 (m_1 : List (Int64 × List (List UInt8 × UInt8 × List UInt8) × UInt64 × UInt64)) (a0 : UInt8)
 (a1 : List (UInt8 × UInt8 × UInt8)) (a2 a3 : UInt8) (a4 : Int64) (a5 a6 a7 a8 a9 a10 : UInt8)
 (a11 : List (List UInt8 × UInt8 × List UInt8)) (a12 a13 : UInt64) (a14 : Bool) =>
 ojoinA (129759 : Nat)
 [PT.int IntKind.i64,
 PT.list
 (CTs.cons (CT.int IntKind.u8)
 (CTs.cons
 (CT.ro (CTs.cons (CT.int IntKind.u8) (CTs.cons (CT.int IntKind.u8) (CTs.cons (CT.int IntKind.u8) CTs.nil))))
 (CTs.cons (CT.int IntKind.u8)
 (CTs.cons (CT.int IntKind.u8)
 (CTs.cons (CT.int IntKind.i64)
 (CTs.cons (CT.int IntKind.u8)
 (CTs.cons (CT.int IntKind.u8)
 (CTs.cons (CT.int IntKind.u8)
 (CTs.cons (CT.int IntKind.u8)
 (CTs.cons (CT.int IntKind.u8)
 (CTs.cons (CT.int IntKind.u8)
 (CTs.cons
 (CT.ro (CTs.cons CT.str (CTs.cons (CT.int IntKind.u8) (CTs.cons CT.str CTs.nil))))
 (CTs.cons (CT.int IntKind.u64)
 (CTs.cons (CT.int IntKind.u64) (CTs.cons CT.bool CTs.nil))))))))))))))),
 PT.int IntKind.i64, PT.int IntKind.i64,
 PT.opt
 (OTs.cons
 (OT.map (VT.one (CT.int IntKind.i64))
 (VT.agg
 (CTs.cons (CT.ro (CTs.cons CT.str (CTs.cons (CT.int IntKind.u8) (CTs.cons CT.str CTs.nil))))
 (CTs.cons (CT.int IntKind.u64) (CTs.cons (CT.int IntKind.u64) CTs.nil)))))
 (OTs.cons (OT.c (CT.int IntKind.i64)) OTs.nil)),
 PT.list
 (CTs.cons (CT.int IntKind.i64)
 (CTs.cons (CT.ro (CTs.cons CT.str (CTs.cons (CT.int IntKind.u8) (CTs.cons CT.str CTs.nil))))
 (CTs.cons (CT.int IntKind.u64) (CTs.cons (CT.int IntKind.u64) CTs.nil))))]
 (fun
 (J :
 Arr
 [PT.int IntKind.i64,
 PT.list
 (CTs.cons (CT.int IntKind.u8)
 (CTs.cons
 (CT.ro
 (CTs.cons (CT.int IntKind.u8)
 (CTs.cons (CT.int IntKind.u8) (CTs.cons (CT.int IntKind.u8) CTs.nil))))
 (CTs.cons (CT.int IntKind.u8)
 (CTs.cons (CT.int IntKind.u8)
 (CTs.cons (CT.int IntKind.i64)
 (CTs.cons (CT.int IntKind.u8)
 (CTs.cons (CT.int IntKind.u8)
 (CTs.cons (CT.int IntKind.u8)
 (CTs.cons (CT.int IntKind.u8)
 (CTs.cons (CT.int IntKind.u8)
 (CTs.cons (CT.int IntKind.u8)
 (CTs.cons
 (CT.ro
 (CTs.cons CT.str (CTs.cons (CT.int IntKind.u8) (CTs.cons CT.str CTs.nil))))
 (CTs.cons (CT.int IntKind.u64)
 (CTs.cons (CT.int IntKind.u64) (CTs.cons CT.bool CTs.nil))))))))))))))),
 PT.int IntKind.i64, PT.int IntKind.i64,
 PT.opt
 (OTs.cons
 (OT.map (VT.one (CT.int IntKind.i64))
 (VT.agg
 (CTs.cons (CT.ro (CTs.cons CT.str (CTs.cons (CT.int IntKind.u8) (CTs.cons CT.str CTs.nil))))
 (CTs.cons (CT.int IntKind.u64) (CTs.cons (CT.int IntKind.u64) CTs.nil)))))
 (OTs.cons (OT.c (CT.int IntKind.i64)) OTs.nil)),
 PT.list
 (CTs.cons (CT.int IntKind.i64)
 (CTs.cons (CT.ro (CTs.cons CT.str (CTs.cons (CT.int IntKind.u8) (CTs.cons CT.str CTs.nil))))
 (CTs.cons (CT.int IntKind.u64) (CTs.cons (CT.int IntKind.u64) CTs.nil))))]
 (Option (Bool × Unit))) =>
 oite (decide (a0 % (7 : UInt8) = (3 : UInt8)))
 (obind (F16 n (l_1, n_, now))
 fun
 (x_4 : Int64 × Option (List (Int64 × List (List UInt8 × UInt8 × List UInt8) × UInt64 × UInt64) × Int64)) =>
 ojoinA (8304603 : Nat)
 [PT.int IntKind.i64, PT.int IntKind.i64, PT.int IntKind.i64,
 PT.list
 (CTs.cons (CT.int IntKind.u8)
 (CTs.cons
 (CT.ro
 (CTs.cons (CT.int IntKind.u8)
 (CTs.cons (CT.int IntKind.u8) (CTs.cons (CT.int IntKind.u8) CTs.nil))))
 (CTs.cons (CT.int IntKind.u8)
 (CTs.cons (CT.int IntKind.u8)
 (CTs.cons (CT.int IntKind.i64)
 (CTs.cons (CT.int IntKind.u8)
 (CTs.cons (CT.int IntKind.u8)
 (CTs.cons (CT.int IntKind.u8)
 (CTs.cons (CT.int IntKind.u8)
 (CTs.cons (CT.int IntKind.u8)
 (CTs.cons (CT.int IntKind.u8)
 (CTs.cons
 (CT.ro
 (CTs.cons CT.str (CTs.cons (CT.int IntKind.u8) (CTs.cons CT.str CTs.nil))))
 (CTs.cons (CT.int IntKind.u64)
 (CTs.cons (CT.int IntKind.u64) (CTs.cons CT.bool CTs.nil))))))))))))))),
 PT.int IntKind.i64, PT.int IntKind.i64,
 PT.opt
 (OTs.cons
 (OT.map (VT.one (CT.int IntKind.i64))
 (VT.agg
 (CTs.cons (CT.ro (CTs.cons CT.str (CTs.cons (CT.int IntKind.u8) (CTs.cons CT.str CTs.nil))))
 (CTs.cons (CT.int IntKind.u64) (CTs.cons (CT.int IntKind.u64) CTs.nil)))))
 (OTs.cons (OT.c (CT.int IntKind.i64)) OTs.nil)),
 PT.list
 (CTs.cons (CT.int IntKind.i64)
 (CTs.cons (CT.ro (CTs.cons CT.str (CTs.cons (CT.int IntKind.u8) (CTs.cons CT.str CTs.nil))))
 (CTs.cons (CT.int IntKind.u64) (CTs.cons (CT.int IntKind.u64) CTs.nil))))]
 (fun
 (J_1 :
 Arr
 [PT.int IntKind.i64, PT.int IntKind.i64, PT.int IntKind.i64,
 PT.list
 (CTs.cons (CT.int IntKind.u8)
 (CTs.cons
 (CT.ro
 (CTs.cons (CT.int IntKind.u8)
 (CTs.cons (CT.int IntKind.u8) (CTs.cons (CT.int IntKind.u8) CTs.nil))))
 (CTs.cons (CT.int IntKind.u8)
 (CTs.cons (CT.int IntKind.u8)
 (CTs.cons (CT.int IntKind.i64)
 (CTs.cons (CT.int IntKind.u8)
 (CTs.cons (CT.int IntKind.u8)
 (CTs.cons (CT.int IntKind.u8)
 (CTs.cons (CT.int IntKind.u8)
 (CTs.cons (CT.int IntKind.u8)
 (CTs.cons (CT.int IntKind.u8)
 (CTs.cons
 (CT.ro
 (CTs.cons CT.str
 (CTs.cons (CT.int IntKind.u8) (CTs.cons CT.str CTs.nil))))
 (CTs.cons (CT.int IntKind.u64)
 (CTs.cons (CT.int IntKind.u64)
 (CTs.cons CT.bool CTs.nil))))))))))))))),
 PT.int IntKind.i64, PT.int IntKind.i64,
 PT.opt
 (OTs.cons
 (OT.map (VT.one (CT.int IntKind.i64))
 (VT.agg
 (CTs.cons
 (CT.ro (CTs.cons CT.str (CTs.cons (CT.int IntKind.u8) (CTs.cons CT.str CTs.nil))))
 (CTs.cons (CT.int IntKind.u64) (CTs.cons (CT.int IntKind.u64) CTs.nil)))))
 (OTs.cons (OT.c (CT.int IntKind.i64)) OTs.nil)),
 PT.list
 (CTs.cons (CT.int IntKind.i64)
 (CTs.cons (CT.ro (CTs.cons CT.str (CTs.cons (CT.int IntKind.u8) (CTs.cons CT.str CTs.nil))))
 (CTs.cons (CT.int IntKind.u64) (CTs.cons (CT.int IntKind.u64) CTs.nil))))]
 (Option (Bool × Unit))) =>
 F5_R33218413 J_1 n last_1 now n_ (Prod.fst x_4) (14 : Int64) (0 : Int64) t_3 t_1_1 t_2_1 (Prod.snd x_4)
 m_1)
 (F5_J8304603 J))
 (oite (decide (a0 % (7 : UInt8) = (4 : UInt8)))
 (obind (F17 n (l_1, now))
 fun
 (x_4 :
 Int64 × Option (List (Int64 × List (List UInt8 × UInt8 × List UInt8) × UInt64 × UInt64) × Int64)) =>
 F5_R132873709 J n last_1 now (Prod.fst x_4) t_3 t_1_1 t_2_1 (Int64.ofInt ↑(List.length m_1)) (0 : Int64)
 (Prod.snd x_4) m_1 [])
 (ojoinA (8304607 : Nat)
 [PT.int IntKind.i64, PT.int IntKind.u64,
 PT.list
 (CTs.cons (CT.int IntKind.u8)
 (CTs.cons
 (CT.ro
 (CTs.cons (CT.int IntKind.u8)
 (CTs.cons (CT.int IntKind.u8) (CTs.cons (CT.int IntKind.u8) CTs.nil))))
 (CTs.cons (CT.int IntKind.u8)
 (CTs.cons (CT.int IntKind.u8)
 (CTs.cons (CT.int IntKind.i64)
 (CTs.cons (CT.int IntKind.u8)
 (CTs.cons (CT.int IntKind.u8)
 (CTs.cons (CT.int IntKind.u8)
 (CTs.cons (CT.int IntKind.u8)
 (CTs.cons (CT.int IntKind.u8)
 (CTs.cons (CT.int IntKind.u8)
 (CTs.cons
 (CT.ro
 (CTs.cons CT.str (CTs.cons (CT.int IntKind.u8) (CTs.cons CT.str CTs.nil))))
 (CTs.cons (CT.int IntKind.u64)
 (CTs.cons (CT.int IntKind.u64) (CTs.cons CT.bool CTs.nil))))))))))))))),
 PT.int IntKind.i64, PT.int IntKind.i64, PT.bool,
 PT.opt
 (OTs.cons
 (OT.map (VT.one (CT.int IntKind.i64))
 (VT.agg
 (CTs.cons (CT.ro (CTs.cons CT.str (CTs.cons (CT.int IntKind.u8) (CTs.cons CT.str CTs.nil))))
 (CTs.cons (CT.int IntKind.u64) (CTs.cons (CT.int IntKind.u64) CTs.nil)))))
 (OTs.cons (OT.c (CT.int IntKind.i64)) OTs.nil)),
 PT.list
 (CTs.cons (CT.int IntKind.i64)
 (CTs.cons (CT.ro (CTs.cons CT.str (CTs.cons (CT.int IntKind.u8) (CTs.cons CT.str CTs.nil))))
 (CTs.cons (CT.int IntKind.u64) (CTs.cons (CT.int IntKind.u64) CTs.nil)))),
 PT.int IntKind.u8,
 PT.list
 (CTs.cons (CT.int IntKind.u8) (CTs.cons (CT.int IntKind.u8) (CTs.cons (CT.int IntKind.u8) CTs.nil))),
 PT.int IntKind.u8, PT.int IntKind.u8, PT.int IntKind.i64, PT.int IntKind.u8, PT.int IntKind.u8,
 PT.int IntKind.u8, PT.int IntKind.u8, PT.int IntKind.u8, PT.int IntKind.u8,
 PT.list (CTs.cons CT.str (CTs.cons (CT.int IntKind.u8) (CTs.cons CT.str CTs.nil))), PT.int IntKind.u64,
 PT.int IntKind.u64, PT.bool]
 (fun
 (J_1 :
 Arr
 [PT.int IntKind.i64, PT.int IntKind.u64,
 PT.list
 (CTs.cons (CT.int IntKind.u8)
 (CTs.cons
 (CT.ro
 (CTs.cons (CT.int IntKind.u8)
 (CTs.cons (CT.int IntKind.u8) (CTs.cons (CT.int IntKind.u8) CTs.nil))))
 (CTs.cons (CT.int IntKind.u8)
 (CTs.cons (CT.int IntKind.u8)
 (CTs.cons (CT.int IntKind.i64)
 (CTs.cons (CT.int IntKind.u8)
 (CTs.cons (CT.int IntKind.u8)
 (CTs.cons (CT.int IntKind.u8)
 (CTs.cons (CT.int IntKind.u8)
 (CTs.cons (CT.int IntKind.u8)
 (CTs.cons (CT.int IntKind.u8)
 (CTs.cons
 (CT.ro
 (CTs.cons CT.str
 (CTs.cons (CT.int IntKind.u8) (CTs.cons CT.str CTs.nil))))
 (CTs.cons (CT.int IntKind.u64)
 (CTs.cons (CT.int IntKind.u64)
 (CTs.cons CT.bool CTs.nil))))))))))))))),
 PT.int IntKind.i64, PT.int IntKind.i64, PT.bool,
 PT.opt
 (OTs.cons
 (OT.map (VT.one (CT.int IntKind.i64))
 (VT.agg
 (CTs.cons
 (CT.ro (CTs.cons CT.str (CTs.cons (CT.int IntKind.u8) (CTs.cons CT.str CTs.nil))))
 (CTs.cons (CT.int IntKind.u64) (CTs.cons (CT.int IntKind.u64) CTs.nil)))))
 (OTs.cons (OT.c (CT.int IntKind.i64)) OTs.nil)),
 PT.list
 (CTs.cons (CT.int IntKind.i64)
 (CTs.cons (CT.ro (CTs.cons CT.str (CTs.cons (CT.int IntKind.u8) (CTs.cons CT.str CTs.nil))))
 (CTs.cons (CT.int IntKind.u64) (CTs.cons (CT.int IntKind.u64) CTs.nil)))),
 PT.int IntKind.u8,
 PT.list
 (CTs.cons (CT.int IntKind.u8)
 (CTs.cons (CT.int IntKind.u8) (CTs.cons (CT.int IntKind.u8) CTs.nil))),
 PT.int IntKind.u8, PT.int IntKind.u8, PT.int IntKind.i64, PT.int IntKind.u8, PT.int IntKind.u8,
 PT.int IntKind.u8, PT.int IntKind.u8, PT.int IntKind.u8, PT.int IntKind.u8,
 PT.list (CTs.cons CT.str (CTs.cons (CT.int IntKind.u8) (CTs.cons CT.str CTs.nil))),
 PT.int IntKind.u64, PT.int IntKind.u64, PT.bool]
 (Option (Bool × Unit))) =>
 oite (decide (a0 % (7 : UInt8) = (5 : UInt8)))
 (J_1 last_1 now t_3 t_1_1 t_2_1 (decide (a0 % (7 : UInt8) = (5 : UInt8))) l_1 m_1 a0 a1 a2 a3 a4 a5 a6
 a7 a8 a9 a10 a11 a12 a13 a14)
 (J_1 last_1 now t_3 t_1_1 t_2_1 (decide (a0 % (7 : UInt8) = (6 : UInt8))) l_1 m_1 a0 a1 a2 a3 a4 a5 a6
 a7 a8 a9 a10 a11 a12 a13 a14))
 (F5_J8304607 n J))))
 (F5_J129759 n rec)
noncomputable def F5_L253 : Nat →
 Arr
 [PT.int IntKind.i64,
 PT.list
 (CTs.cons (CT.int IntKind.u8)
 (CTs.cons
 (CT.ro
 (CTs.cons (CT.int IntKind.u8) (CTs.cons (CT.int IntKind.u8) (CTs.cons (CT.int IntKind.u8) CTs.nil))))
 (CTs.cons (CT.int IntKind.u8)
 (CTs.cons (CT.int IntKind.u8)
 (CTs.cons (CT.int IntKind.i64)
 (CTs.cons (CT.int IntKind.u8)
 (CTs.cons (CT.int IntKind.u8)
 (CTs.cons (CT.int IntKind.u8)
 (CTs.cons (CT.int IntKind.u8)
 (CTs.cons (CT.int IntKind.u8)
 (CTs.cons (CT.int IntKind.u8)
 (CTs.cons
 (CT.ro (CTs.cons CT.str (CTs.cons (CT.int IntKind.u8) (CTs.cons CT.str CTs.nil))))
 (CTs.cons (CT.int IntKind.u64)
 (CTs.cons (CT.int IntKind.u64) (CTs.cons CT.bool CTs.nil))))))))))))))),
 PT.int IntKind.i64, PT.int IntKind.i64,
 PT.opt
 (OTs.cons
 (OT.map (VT.one (CT.int IntKind.i64))
 (VT.agg
 (CTs.cons (CT.ro (CTs.cons CT.str (CTs.cons (CT.int IntKind.u8) (CTs.cons CT.str CTs.nil))))
 (CTs.cons (CT.int IntKind.u64) (CTs.cons (CT.int IntKind.u64) CTs.nil)))))
 (OTs.cons (OT.c (CT.int IntKind.i64)) OTs.nil)),
 PT.list
 (CTs.cons (CT.int IntKind.i64)
 (CTs.cons (CT.ro (CTs.cons CT.str (CTs.cons (CT.int IntKind.u8) (CTs.cons CT.str CTs.nil))))
 (CTs.cons (CT.int IntKind.u64) (CTs.cons (CT.int IntKind.u64) CTs.nil))))]
 (Option (Bool × Unit)) →
 Int64 →
 List
 (UInt8 ×
 List (UInt8 × UInt8 × UInt8) ×
 UInt8 ×
 UInt8 ×
 Int64 ×
 UInt8 ×
 UInt8 ×
 UInt8 ×
 UInt8 × UInt8 × UInt8 × List (List UInt8 × UInt8 × List UInt8) × UInt64 × UInt64 × Bool) →
 Int64 →
 Int64 →
 Option (List (Int64 × List (List UInt8 × UInt8 × List UInt8) × UInt64 × UInt64) × Int64) →
 List (Int64 × List (List UInt8 × UInt8 × List UInt8) × UInt64 × UInt64) → Option (Bool × Unit) := fun (n : Nat)
 (rec :
 Arr
 [PT.int IntKind.i64,
 PT.list
 (CTs.cons (CT.int IntKind.u8)
 (CTs.cons
 (CT.ro
 (CTs.cons (CT.int IntKind.u8) (CTs.cons (CT.int IntKind.u8) (CTs.cons (CT.int IntKind.u8) CTs.nil))))
 (CTs.cons (CT.int IntKind.u8)
 (CTs.cons (CT.int IntKind.u8)
 (CTs.cons (CT.int IntKind.i64)
 (CTs.cons (CT.int IntKind.u8)
 (CTs.cons (CT.int IntKind.u8)
 (CTs.cons (CT.int IntKind.u8)
 (CTs.cons (CT.int IntKind.u8)
 (CTs.cons (CT.int IntKind.u8)
 (CTs.cons (CT.int IntKind.u8)
 (CTs.cons
 (CT.ro (CTs.cons CT.str (CTs.cons (CT.int IntKind.u8) (CTs.cons CT.str CTs.nil))))
 (CTs.cons (CT.int IntKind.u64)
 (CTs.cons (CT.int IntKind.u64) (CTs.cons CT.bool CTs.nil))))))))))))))),
 PT.int IntKind.i64, PT.int IntKind.i64,
 PT.opt
 (OTs.cons
 (OT.map (VT.one (CT.int IntKind.i64))
 (VT.agg
 (CTs.cons (CT.ro (CTs.cons CT.str (CTs.cons (CT.int IntKind.u8) (CTs.cons CT.str CTs.nil))))
 (CTs.cons (CT.int IntKind.u64) (CTs.cons (CT.int IntKind.u64) CTs.nil)))))
 (OTs.cons (OT.c (CT.int IntKind.i64)) OTs.nil)),
 PT.list
 (CTs.cons (CT.int IntKind.i64)
 (CTs.cons (CT.ro (CTs.cons CT.str (CTs.cons (CT.int IntKind.u8) (CTs.cons CT.str CTs.nil))))
 (CTs.cons (CT.int IntKind.u64) (CTs.cons (CT.int IntKind.u64) CTs.nil))))]
 (Option (Bool × Unit)))
 (last : Int64)
 (t :
 List
 (UInt8 ×
 List (UInt8 × UInt8 × UInt8) ×
 UInt8 ×
 UInt8 ×
 Int64 ×
 UInt8 ×
 UInt8 ×
 UInt8 × UInt8 × UInt8 × UInt8 × List (List UInt8 × UInt8 × List UInt8) × UInt64 × UInt64 × Bool))
 (t_1 t_2 : Int64) (l : Option (List (Int64 × List (List UInt8 × UInt8 × List UInt8) × UInt64 × UInt64) × Int64))
 (m : List (Int64 × List (List UInt8 × UInt8 × List UInt8) × UInt64 × UInt64)) =>
 oite (decide (t_2 < t_1))
 (obind (at? t (Int64.toInt t_2))
 fun
 (x_3 :
 UInt8 ×
 List (UInt8 × UInt8 × UInt8) ×
 UInt8 ×
 UInt8 ×
 Int64 ×
 UInt8 ×
 UInt8 ×
 UInt8 ×
 UInt8 × UInt8 × UInt8 × List (List UInt8 × UInt8 × List UInt8) × UInt64 × UInt64 × Bool) =>
 oite (decide ((60 : Int64) < t_2)) (some (true, ()))
 (oite
 (decide
 ((12 : Int64) <
 Int64.ofInt
 ↑(List.length
 (Prod.fst
 (Prod.snd
 (Prod.snd
 (Prod.snd
 (Prod.snd
 (Prod.snd (Prod.snd (Prod.snd (Prod.snd (Prod.snd (Prod.snd (Prod.snd x_3)))))))))))))))
 (some (true, ()))
 (oite (decide ((12 : Int64) < Int64.ofInt ↑(List.length (Prod.fst (Prod.snd x_3))))) (some (true, ()))
 (ojoinA (64879 : Nat)
 [PT.int IntKind.i64, PT.int IntKind.u64, PT.int IntKind.i64,
 PT.list
 (CTs.cons (CT.int IntKind.u8)
 (CTs.cons
 (CT.ro
 (CTs.cons (CT.int IntKind.u8)
 (CTs.cons (CT.int IntKind.u8) (CTs.cons (CT.int IntKind.u8) CTs.nil))))
 (CTs.cons (CT.int IntKind.u8)
 (CTs.cons (CT.int IntKind.u8)
 (CTs.cons (CT.int IntKind.i64)
 (CTs.cons (CT.int IntKind.u8)
 (CTs.cons (CT.int IntKind.u8)
 (CTs.cons (CT.int IntKind.u8)
 (CTs.cons (CT.int IntKind.u8)
 (CTs.cons (CT.int IntKind.u8)
 (CTs.cons (CT.int IntKind.u8)
 (CTs.cons
 (CT.ro
 (CTs.cons CT.str (CTs.cons (CT.int IntKind.u8) (CTs.cons CT.str CTs.nil))))
 (CTs.cons (CT.int IntKind.u64)
 (CTs.cons (CT.int IntKind.u64) (CTs.cons CT.bool CTs.nil))))))))))))))),
 PT.int IntKind.i64, PT.int IntKind.i64,
 PT.opt
 (OTs.cons
 (OT.map (VT.one (CT.int IntKind.i64))
 (VT.agg
 (CTs.cons (CT.ro (CTs.cons CT.str (CTs.cons (CT.int IntKind.u8) (CTs.cons CT.str CTs.nil))))
 (CTs.cons (CT.int IntKind.u64) (CTs.cons (CT.int IntKind.u64) CTs.nil)))))
 (OTs.cons (OT.c (CT.int IntKind.i64)) OTs.nil)),
 PT.list
 (CTs.cons (CT.int IntKind.i64)
 (CTs.cons (CT.ro (CTs.cons CT.str (CTs.cons (CT.int IntKind.u8) (CTs.cons CT.str CTs.nil))))
 (CTs.cons (CT.int IntKind.u64) (CTs.cons (CT.int IntKind.u64) CTs.nil)))),
 PT.int IntKind.u8,
 PT.list
 (CTs.cons (CT.int IntKind.u8) (CTs.cons (CT.int IntKind.u8) (CTs.cons (CT.int IntKind.u8) CTs.nil))),
 PT.int IntKind.u8, PT.int IntKind.u8, PT.int IntKind.i64, PT.int IntKind.u8, PT.int IntKind.u8,
 PT.int IntKind.u8, PT.int IntKind.u8, PT.int IntKind.u8, PT.int IntKind.u8,
 PT.list (CTs.cons CT.str (CTs.cons (CT.int IntKind.u8) (CTs.cons CT.str CTs.nil))), PT.int IntKind.u64,
 PT.int IntKind.u64, PT.bool]
 (fun
 (J :
 Arr
 [PT.int IntKind.i64, PT.int IntKind.u64, PT.int IntKind.i64,
 PT.list
 (CTs.cons (CT.int IntKind.u8)
 (CTs.cons
 (CT.ro
 (CTs.cons (CT.int IntKind.u8)
 (CTs.cons (CT.int IntKind.u8) (CTs.cons (CT.int IntKind.u8) CTs.nil))))
 (CTs.cons (CT.int IntKind.u8)
 (CTs.cons (CT.int IntKind.u8)
 (CTs.cons (CT.int IntKind.i64)
 (CTs.cons (CT.int IntKind.u8)
 (CTs.cons (CT.int IntKind.u8)
 (CTs.cons (CT.int IntKind.u8)
 (CTs.cons (CT.int IntKind.u8)
 (CTs.cons (CT.int IntKind.u8)
 (CTs.cons (CT.int IntKind.u8)
 (CTs.cons
 (CT.ro
 (CTs.cons CT.str
 (CTs.cons (CT.int IntKind.u8) (CTs.cons CT.str CTs.nil))))
 (CTs.cons (CT.int IntKind.u64)
 (CTs.cons (CT.int IntKind.u64)
 (CTs.cons CT.bool CTs.nil))))))))))))))),
 PT.int IntKind.i64, PT.int IntKind.i64,
 PT.opt
 (OTs.cons
 (OT.map (VT.one (CT.int IntKind.i64))
 (VT.agg
 (CTs.cons
 (CT.ro (CTs.cons CT.str (CTs.cons (CT.int IntKind.u8) (CTs.cons CT.str CTs.nil))))
 (CTs.cons (CT.int IntKind.u64) (CTs.cons (CT.int IntKind.u64) CTs.nil)))))
 (OTs.cons (OT.c (CT.int IntKind.i64)) OTs.nil)),
 PT.list
 (CTs.cons (CT.int IntKind.i64)
 (CTs.cons (CT.ro (CTs.cons CT.str (CTs.cons (CT.int IntKind.u8) (CTs.cons CT.str CTs.nil))))
 (CTs.cons (CT.int IntKind.u64) (CTs.cons (CT.int IntKind.u64) CTs.nil)))),
 PT.int IntKind.u8,
 PT.list
 (CTs.cons (CT.int IntKind.u8)
 (CTs.cons (CT.int IntKind.u8) (CTs.cons (CT.int IntKind.u8) CTs.nil))),
 PT.int IntKind.u8, PT.int IntKind.u8, PT.int IntKind.i64, PT.int IntKind.u8, PT.int IntKind.u8,
 PT.int IntKind.u8, PT.int IntKind.u8, PT.int IntKind.u8, PT.int IntKind.u8,
 PT.list (CTs.cons CT.str (CTs.cons (CT.int IntKind.u8) (CTs.cons CT.str CTs.nil))),
 PT.int IntKind.u64, PT.int IntKind.u64, PT.bool]
 (Option (Bool × Unit))) =>
 oite
 (!Prod.snd
 (Prod.snd
 (Prod.snd
 (Prod.snd
 (Prod.snd
 (Prod.snd
 (Prod.snd
 (Prod.snd
 (Prod.snd (Prod.snd (Prod.snd (Prod.snd (Prod.snd (Prod.snd x_3))))))))))))))
 (J last (UInt64.ofInt ↑(UInt8.toNat (Prod.fst (Prod.snd (Prod.snd (Prod.snd x_3))) % (30 : UInt8))))
 (Int64.ofInt
 ↑(UInt64.toNat
 (UInt64.ofInt (Int64.toInt (Prod.fst (Prod.snd (Prod.snd (Prod.snd (Prod.snd x_3)))))) %
 (8 : UInt64))))
 t t_1 t_2 l m (Prod.fst x_3) (Prod.fst (Prod.snd x_3)) (Prod.fst (Prod.snd (Prod.snd x_3)))
 (Prod.fst (Prod.snd (Prod.snd (Prod.snd x_3))))
 (Prod.fst (Prod.snd (Prod.snd (Prod.snd (Prod.snd x_3)))))
 (Prod.fst (Prod.snd (Prod.snd (Prod.snd (Prod.snd (Prod.snd x_3))))))
 (Prod.fst (Prod.snd (Prod.snd (Prod.snd (Prod.snd (Prod.snd (Prod.snd x_3)))))))
 (Prod.fst (Prod.snd (Prod.snd (Prod.snd (Prod.snd (Prod.snd (Prod.snd (Prod.snd x_3))))))))
 (Prod.fst
 (Prod.snd (Prod.snd (Prod.snd (Prod.snd (Prod.snd (Prod.snd (Prod.snd (Prod.snd x_3)))))))))
 (Prod.fst
 (Prod.snd
 (Prod.snd (Prod.snd (Prod.snd (Prod.snd (Prod.snd (Prod.snd (Prod.snd (Prod.snd x_3))))))))))
 (Prod.fst
 (Prod.snd
 (Prod.snd
 (Prod.snd (Prod.snd (Prod.snd (Prod.snd (Prod.snd (Prod.snd (Prod.snd (Prod.snd x_3)))))))))))
 (Prod.fst
 (Prod.snd
 (Prod.snd
 (Prod.snd
 (Prod.snd
 (Prod.snd (Prod.snd (Prod.snd (Prod.snd (Prod.snd (Prod.snd (Prod.snd x_3))))))))))))
 (Prod.fst
 (Prod.snd
 (Prod.snd
 (Prod.snd
 (Prod.snd
 (Prod.snd
 (Prod.snd (Prod.snd (Prod.snd (Prod.snd (Prod.snd (Prod.snd (Prod.snd x_3)))))))))))))
 (Prod.fst
 (Prod.snd
 (Prod.snd
 (Prod.snd
 (Prod.snd
 (Prod.snd
 (Prod.snd
 (Prod.snd
 (Prod.snd (Prod.snd (Prod.snd (Prod.snd (Prod.snd (Prod.snd x_3))))))))))))))
 (Prod.snd
 (Prod.snd
 (Prod.snd
 (Prod.snd
 (Prod.snd
 (Prod.snd
 (Prod.snd
 (Prod.snd
 (Prod.snd (Prod.snd (Prod.snd (Prod.snd (Prod.snd (Prod.snd x_3)))))))))))))))
 (J last (UInt64.ofInt ↑(UInt8.toNat (Prod.fst (Prod.snd (Prod.snd (Prod.snd x_3))) % (30 : UInt8))))
 (Prod.fst (Prod.snd (Prod.snd (Prod.snd (Prod.snd x_3))))) t t_1 t_2 l m (Prod.fst x_3)
 (Prod.fst (Prod.snd x_3)) (Prod.fst (Prod.snd (Prod.snd x_3)))
 (Prod.fst (Prod.snd (Prod.snd (Prod.snd x_3))))
 (Prod.fst (Prod.snd (Prod.snd (Prod.snd (Prod.snd x_3)))))
 (Prod.fst (Prod.snd (Prod.snd (Prod.snd (Prod.snd (Prod.snd x_3))))))
 (Prod.fst (Prod.snd (Prod.snd (Prod.snd (Prod.snd (Prod.snd (Prod.snd x_3)))))))
 (Prod.fst (Prod.snd (Prod.snd (Prod.snd (Prod.snd (Prod.snd (Prod.snd (Prod.snd x_3))))))))
 (Prod.fst
 (Prod.snd (Prod.snd (Prod.snd (Prod.snd (Prod.snd (Prod.snd (Prod.snd (Prod.snd x_3)))))))))
 (Prod.fst
 (Prod.snd
 (Prod.snd (Prod.snd (Prod.snd (Prod.snd (Prod.snd (Prod.snd (Prod.snd (Prod.snd x_3))))))))))
 (Prod.fst
 (Prod.snd
 (Prod.snd
 (Prod.snd (Prod.snd (Prod.snd (Prod.snd (Prod.snd (Prod.snd (Prod.snd (Prod.snd x_3)))))))))))
 (Prod.fst
 (Prod.snd
 (Prod.snd
 (Prod.snd
 (Prod.snd
 (Prod.snd (Prod.snd (Prod.snd (Prod.snd (Prod.snd (Prod.snd (Prod.snd x_3))))))))))))
 (Prod.fst
 (Prod.snd
 (Prod.snd
 (Prod.snd
 (Prod.snd
 (Prod.snd
 (Prod.snd (Prod.snd (Prod.snd (Prod.snd (Prod.snd (Prod.snd (Prod.snd x_3)))))))))))))
 (Prod.fst
 (Prod.snd
 (Prod.snd
 (Prod.snd
 (Prod.snd
 (Prod.snd
 (Prod.snd
 (Prod.snd
 (Prod.snd (Prod.snd (Prod.snd (Prod.snd (Prod.snd (Prod.snd x_3))))))))))))))
 (Prod.snd
 (Prod.snd
 (Prod.snd
 (Prod.snd
 (Prod.snd
 (Prod.snd
 (Prod.snd
 (Prod.snd
 (Prod.snd (Prod.snd (Prod.snd (Prod.snd (Prod.snd (Prod.snd x_3))))))))))))))))
 (F5_J64879 n rec)))))
 (some (true, ()))
noncomputable def F5_R253 : Nat →
 Nat →
 PT.T (PT.int IntKind.i64) →
 List
 (UInt8 ×
 List (UInt8 × UInt8 × UInt8) ×
 UInt8 ×
 UInt8 ×
 Int64 ×
 UInt8 ×
 UInt8 ×
 UInt8 ×
 UInt8 × UInt8 × UInt8 × List (List UInt8 × UInt8 × List UInt8) × UInt64 × UInt64 × Bool) →
 Int64 →
 Int64 →
 Option (List (Int64 × List (List UInt8 × UInt8 × List UInt8) × UInt64 × UInt64) × Int64) →
 List (Int64 × List (List UInt8 × UInt8 × List UInt8) × UInt64 × UInt64) → Option (Bool × Unit) := fun (n : Nat) =>
 ofixA (253 : Nat)
 [PT.int IntKind.i64,
 PT.list
 (CTs.cons (CT.int IntKind.u8)
 (CTs.cons
 (CT.ro (CTs.cons (CT.int IntKind.u8) (CTs.cons (CT.int IntKind.u8) (CTs.cons (CT.int IntKind.u8) CTs.nil))))
 (CTs.cons (CT.int IntKind.u8)
 (CTs.cons (CT.int IntKind.u8)
 (CTs.cons (CT.int IntKind.i64)
 (CTs.cons (CT.int IntKind.u8)
 (CTs.cons (CT.int IntKind.u8)
 (CTs.cons (CT.int IntKind.u8)
 (CTs.cons (CT.int IntKind.u8)
 (CTs.cons (CT.int IntKind.u8)
 (CTs.cons (CT.int IntKind.u8)
 (CTs.cons
 (CT.ro (CTs.cons CT.str (CTs.cons (CT.int IntKind.u8) (CTs.cons CT.str CTs.nil))))
 (CTs.cons (CT.int IntKind.u64)
 (CTs.cons (CT.int IntKind.u64) (CTs.cons CT.bool CTs.nil))))))))))))))),
 PT.int IntKind.i64, PT.int IntKind.i64,
 PT.opt
 (OTs.cons
 (OT.map (VT.one (CT.int IntKind.i64))
 (VT.agg
 (CTs.cons (CT.ro (CTs.cons CT.str (CTs.cons (CT.int IntKind.u8) (CTs.cons CT.str CTs.nil))))
 (CTs.cons (CT.int IntKind.u64) (CTs.cons (CT.int IntKind.u64) CTs.nil)))))
 (OTs.cons (OT.c (CT.int IntKind.i64)) OTs.nil)),
 PT.list
 (CTs.cons (CT.int IntKind.i64)
 (CTs.cons (CT.ro (CTs.cons CT.str (CTs.cons (CT.int IntKind.u8) (CTs.cons CT.str CTs.nil))))
 (CTs.cons (CT.int IntKind.u64) (CTs.cons (CT.int IntKind.u64) CTs.nil))))]
 (F5_L253 n)
noncomputable def F5 : Nat →
 List
 (UInt8 ×
 List (UInt8 × UInt8 × UInt8) ×
 UInt8 ×
 UInt8 ×
 Int64 ×
 UInt8 ×
 UInt8 ×
 UInt8 × UInt8 × UInt8 × UInt8 × List (List UInt8 × UInt8 × List UInt8) × UInt64 × UInt64 × Bool) →
 Option (Bool × Unit) := fun (n : Nat)
 (x :
 List
 (UInt8 ×
 List (UInt8 × UInt8 × UInt8) ×
 UInt8 ×
 UInt8 ×
 Int64 ×
 UInt8 ×
 UInt8 ×
 UInt8 ×
 UInt8 × UInt8 × UInt8 × List (List UInt8 × UInt8 × List UInt8) × UInt64 × UInt64 × Bool)) =>
 obind (F7 n ()) fun (x_1 : Bool × Unit) =>
 oite (!Prod.fst x_1) (some (false, ()))
 (obind (F14 n ())
 fun (x_2 : Option (List (Int64 × List (List UInt8 × UInt8 × List UInt8) × UInt64 × UInt64) × Int64) × Unit) =>
 F5_R253 n n (0 : Int64) x (Int64.ofInt ↑(List.length x)) (0 : Int64) (Prod.fst x_2) [])
theorem F5_R2076159_s (n : Nat) (rec : Arr [PT.int IntKind.i64, PT.list (CTs.cons (CT.int IntKind.u8) (CTs.cons (CT.ro (CTs.cons (CT.int IntKind.u8) (CTs.cons (CT.int IntKind.u8) (CTs.cons (CT.int IntKind.u8) CTs.nil)))) (CTs.cons (CT.int IntKind.u8) (CTs.cons (CT.int IntKind.u8) (CTs.cons (CT.int IntKind.i64) (CTs.cons (CT.int IntKind.u8) (CTs.cons (CT.int IntKind.u8) (CTs.cons (CT.int IntKind.u8) (CTs.cons (CT.int IntKind.u8) (CTs.cons (CT.int IntKind.u8) (CTs.cons (CT.int IntKind.u8) (CTs.cons (CT.ro (CTs.cons CT.str (CTs.cons (CT.int IntKind.u8) (CTs.cons CT.str CTs.nil)))) (CTs.cons (CT.int IntKind.u64) (CTs.cons (CT.int IntKind.u64) (CTs.cons CT.bool CTs.nil))))))))))))))), PT.int IntKind.i64, PT.int IntKind.i64, PT.opt (OTs.cons (OT.map (VT.one (CT.int IntKind.i64)) (VT.agg (CTs.cons (CT.ro (CTs.cons CT.str (CTs.cons (CT.int IntKind.u8) (CTs.cons CT.str CTs.nil)))) (CTs.cons (CT.int IntKind.u64) (CTs.cons (CT.int IntKind.u64) CTs.nil))))) (OTs.cons (OT.c (CT.int IntKind.i64)) OTs.nil)), PT.list (CTs.cons (CT.int IntKind.i64) (CTs.cons (CT.ro (CTs.cons CT.str (CTs.cons (CT.int IntKind.u8) (CTs.cons CT.str CTs.nil)))) (CTs.cons (CT.int IntKind.u64) (CTs.cons (CT.int IntKind.u64) CTs.nil))))] (Option (Bool × Unit))) (m_ : Nat) : F5_R2076159 n rec (m_ + 1) = F5_L2076159 n rec (F5_R2076159 n rec m_) := rfl
theorem F5_R33218413_s (J_1 : Arr [PT.int IntKind.i64, PT.int IntKind.i64, PT.int IntKind.i64, PT.list (CTs.cons (CT.int IntKind.u8) (CTs.cons (CT.ro (CTs.cons (CT.int IntKind.u8) (CTs.cons (CT.int IntKind.u8) (CTs.cons (CT.int IntKind.u8) CTs.nil)))) (CTs.cons (CT.int IntKind.u8) (CTs.cons (CT.int IntKind.u8) (CTs.cons (CT.int IntKind.i64) (CTs.cons (CT.int IntKind.u8) (CTs.cons (CT.int IntKind.u8) (CTs.cons (CT.int IntKind.u8) (CTs.cons (CT.int IntKind.u8) (CTs.cons (CT.int IntKind.u8) (CTs.cons (CT.int IntKind.u8) (CTs.cons (CT.ro (CTs.cons CT.str (CTs.cons (CT.int IntKind.u8) (CTs.cons CT.str CTs.nil)))) (CTs.cons (CT.int IntKind.u64) (CTs.cons (CT.int IntKind.u64) (CTs.cons CT.bool CTs.nil))))))))))))))), PT.int IntKind.i64, PT.int IntKind.i64, PT.opt (OTs.cons (OT.map (VT.one (CT.int IntKind.i64)) (VT.agg (CTs.cons (CT.ro (CTs.cons CT.str (CTs.cons (CT.int IntKind.u8) (CTs.cons CT.str CTs.nil)))) (CTs.cons (CT.int IntKind.u64) (CTs.cons (CT.int IntKind.u64) CTs.nil))))) (OTs.cons (OT.c (CT.int IntKind.i64)) OTs.nil)), PT.list (CTs.cons (CT.int IntKind.i64) (CTs.cons (CT.ro (CTs.cons CT.str (CTs.cons (CT.int IntKind.u8) (CTs.cons CT.str CTs.nil)))) (CTs.cons (CT.int IntKind.u64) (CTs.cons (CT.int IntKind.u64) CTs.nil))))] (Option (Bool × Unit))) (m_ : Nat) : F5_R33218413 J_1 (m_ + 1) = F5_L33218413 J_1 (F5_R33218413 J_1 m_) := rfl
theorem F5_R132873709_s (J : Arr [PT.int IntKind.i64, PT.list (CTs.cons (CT.int IntKind.u8) (CTs.cons (CT.ro (CTs.cons (CT.int IntKind.u8) (CTs.cons (CT.int IntKind.u8) (CTs.cons (CT.int IntKind.u8) CTs.nil)))) (CTs.cons (CT.int IntKind.u8) (CTs.cons (CT.int IntKind.u8) (CTs.cons (CT.int IntKind.i64) (CTs.cons (CT.int IntKind.u8) (CTs.cons (CT.int IntKind.u8) (CTs.cons (CT.int IntKind.u8) (CTs.cons (CT.int IntKind.u8) (CTs.cons (CT.int IntKind.u8) (CTs.cons (CT.int IntKind.u8) (CTs.cons (CT.ro (CTs.cons CT.str (CTs.cons (CT.int IntKind.u8) (CTs.cons CT.str CTs.nil)))) (CTs.cons (CT.int IntKind.u64) (CTs.cons (CT.int IntKind.u64) (CTs.cons CT.bool CTs.nil))))))))))))))), PT.int IntKind.i64, PT.int IntKind.i64, PT.opt (OTs.cons (OT.map (VT.one (CT.int IntKind.i64)) (VT.agg (CTs.cons (CT.ro (CTs.cons CT.str (CTs.cons (CT.int IntKind.u8) (CTs.cons CT.str CTs.nil)))) (CTs.cons (CT.int IntKind.u64) (CTs.cons (CT.int IntKind.u64) CTs.nil))))) (OTs.cons (OT.c (CT.int IntKind.i64)) OTs.nil)), PT.list (CTs.cons (CT.int IntKind.i64) (CTs.cons (CT.ro (CTs.cons CT.str (CTs.cons (CT.int IntKind.u8) (CTs.cons CT.str CTs.nil)))) (CTs.cons (CT.int IntKind.u64) (CTs.cons (CT.int IntKind.u64) CTs.nil))))] (Option (Bool × Unit))) (m_ : Nat) : F5_R132873709 J (m_ + 1) = F5_L132873709 J (F5_R132873709 J m_) := rfl
theorem F5_R531494893_s (n : Nat) (J : Arr [PT.int IntKind.i64, PT.list (CTs.cons (CT.int IntKind.u8) (CTs.cons (CT.ro (CTs.cons (CT.int IntKind.u8) (CTs.cons (CT.int IntKind.u8) (CTs.cons (CT.int IntKind.u8) CTs.nil)))) (CTs.cons (CT.int IntKind.u8) (CTs.cons (CT.int IntKind.u8) (CTs.cons (CT.int IntKind.i64) (CTs.cons (CT.int IntKind.u8) (CTs.cons (CT.int IntKind.u8) (CTs.cons (CT.int IntKind.u8) (CTs.cons (CT.int IntKind.u8) (CTs.cons (CT.int IntKind.u8) (CTs.cons (CT.int IntKind.u8) (CTs.cons (CT.ro (CTs.cons CT.str (CTs.cons (CT.int IntKind.u8) (CTs.cons CT.str CTs.nil)))) (CTs.cons (CT.int IntKind.u64) (CTs.cons (CT.int IntKind.u64) (CTs.cons CT.bool CTs.nil))))))))))))))), PT.int IntKind.i64, PT.int IntKind.i64, PT.opt (OTs.cons (OT.map (VT.one (CT.int IntKind.i64)) (VT.agg (CTs.cons (CT.ro (CTs.cons CT.str (CTs.cons (CT.int IntKind.u8) (CTs.cons CT.str CTs.nil)))) (CTs.cons (CT.int IntKind.u64) (CTs.cons (CT.int IntKind.u64) CTs.nil))))) (OTs.cons (OT.c (CT.int IntKind.i64)) OTs.nil)), PT.list (CTs.cons (CT.int IntKind.i64) (CTs.cons (CT.ro (CTs.cons CT.str (CTs.cons (CT.int IntKind.u8) (CTs.cons CT.str CTs.nil)))) (CTs.cons (CT.int IntKind.u64) (CTs.cons (CT.int IntKind.u64) CTs.nil))))] (Option (Bool × Unit))) (m_ : Nat) : F5_R531494893 n J (m_ + 1) = F5_L531494893 n J (F5_R531494893 n J m_) := rfl
theorem F5_R253_s (n : Nat) (m_ : Nat) : F5_R253 n (m_ + 1) = F5_L253 n (F5_R253 n m_) := rfl
theorem ok5 (n : Nat) : FunOK Try.prog ⟨5, sig5, F5 n⟩ :=
 fun_ok (hints := ⟨[(64879, ⟨[(3, .one (.own 1)), (4, .one (.own 2)), (5, .one (.int .i64)), (7, .one (.own 3)), (8, .one (.int .u64)), (9, .one (.int .i64)), (33, .one (.ro (.cons (.int .u8) (.cons (.ro (.cons (.int .u8) (.cons (.int .u8) (.cons (.int .u8) .nil)))) (.cons (.int .u8) (.cons (.int .u8) (.cons (.int .i64) (.cons (.int .u8) (.cons (.int .u8) (.cons (.int .u8) (.cons (.int .u8) (.cons (.int .u8) (.cons (.int .u8) (.cons (.ro (.cons .str (.cons (.int .u8) (.cons .str .nil)))) (.cons (.int .u64) (.cons (.int .u64) (.cons .bool .nil))))))))))))))))), (34, .one (.int .i64)), (35, .one (.int .i64))], [(1, .fold (.cons (.map (.one (.int .i64)) (.agg (.cons (.ro (.cons .str (.cons (.int .u8) (.cons .str .nil)))) (.cons (.int .u64) (.cons (.int .u64) .nil))))) (.cons (.c (.int .i64)) .nil))), (2, .row (.cons (.int .i64) (.cons (.ro (.cons .str (.cons (.int .u8) (.cons .str .nil)))) (.cons (.int .u64) (.cons (.int .u64) .nil))))), (3, .cells [.int .u8, .ro (.cons (.int .u8) (.cons (.int .u8) (.cons (.int .u8) .nil))), .int .u8, .int .u8, .int .i64, .int .u8, .int .u8, .int .u8, .int .u8, .int .u8, .int .u8, .ro (.cons .str (.cons (.int .u8) (.cons .str .nil))), .int .u64, .int .u64, .bool])], 4⟩), (129759, ⟨[(3, .one (.own 1)), (4, .one (.own 2)), (5, .one (.int .i64)), (33, .one (.ro (.cons (.int .u8) (.cons (.ro (.cons (.int .u8) (.cons (.int .u8) (.cons (.int .u8) .nil)))) (.cons (.int .u8) (.cons (.int .u8) (.cons (.int .i64) (.cons (.int .u8) (.cons (.int .u8) (.cons (.int .u8) (.cons (.int .u8) (.cons (.int .u8) (.cons (.int .u8) (.cons (.ro (.cons .str (.cons (.int .u8) (.cons .str .nil)))) (.cons (.int .u64) (.cons (.int .u64) (.cons .bool .nil))))))))))))))))), (34, .one (.int .i64)), (35, .one (.int .i64))], [(1, .fold (.cons (.map (.one (.int .i64)) (.agg (.cons (.ro (.cons .str (.cons (.int .u8) (.cons .str .nil)))) (.cons (.int .u64) (.cons (.int .u64) .nil))))) (.cons (.c (.int .i64)) .nil))), (2, .row (.cons (.int .i64) (.cons (.ro (.cons .str (.cons (.int .u8) (.cons .str .nil)))) (.cons (.int .u64) (.cons (.int .u64) .nil)))))], 3⟩), (8304603, ⟨[(3, .one (.own 1)), (4, .one (.own 2)), (5, .one (.int .i64)), (10, .one (.int .i64)), (11, .one (.int .i64)), (33, .one (.ro (.cons (.int .u8) (.cons (.ro (.cons (.int .u8) (.cons (.int .u8) (.cons (.int .u8) .nil)))) (.cons (.int .u8) (.cons (.int .u8) (.cons (.int .i64) (.cons (.int .u8) (.cons (.int .u8) (.cons (.int .u8) (.cons (.int .u8) (.cons (.int .u8) (.cons (.int .u8) (.cons (.ro (.cons .str (.cons (.int .u8) (.cons .str .nil)))) (.cons (.int .u64) (.cons (.int .u64) (.cons .bool .nil))))))))))))))))), (34, .one (.int .i64)), (35, .one (.int .i64))], [(1, .fold (.cons (.map (.one (.int .i64)) (.agg (.cons (.ro (.cons .str (.cons (.int .u8) (.cons .str .nil)))) (.cons (.int .u64) (.cons (.int .u64) .nil))))) (.cons (.c (.int .i64)) .nil))), (2, .row (.cons (.int .i64) (.cons (.ro (.cons .str (.cons (.int .u8) (.cons .str .nil)))) (.cons (.int .u64) (.cons (.int .u64) .nil)))))], 3⟩), (8304607, ⟨[(3, .one (.own 1)), (4, .one (.own 2)), (5, .one (.int .i64)), (7, .one (.own 3)), (8, .one (.int .u64)), (33, .one (.ro (.cons (.int .u8) (.cons (.ro (.cons (.int .u8) (.cons (.int .u8) (.cons (.int .u8) .nil)))) (.cons (.int .u8) (.cons (.int .u8) (.cons (.int .i64) (.cons (.int .u8) (.cons (.int .u8) (.cons (.int .u8) (.cons (.int .u8) (.cons (.int .u8) (.cons (.int .u8) (.cons (.ro (.cons .str (.cons (.int .u8) (.cons .str .nil)))) (.cons (.int .u64) (.cons (.int .u64) (.cons .bool .nil))))))))))))))))), (34, .one (.int .i64)), (35, .one (.int .i64)), (230, .one (.bool))], [(1, .fold (.cons (.map (.one (.int .i64)) (.agg (.cons (.ro (.cons .str (.cons (.int .u8) (.cons .str .nil)))) (.cons (.int .u64) (.cons (.int .u64) .nil))))) (.cons (.c (.int .i64)) .nil))), (2, .row (.cons (.int .i64) (.cons (.ro (.cons .str (.cons (.int .u8) (.cons .str .nil)))) (.cons (.int .u64) (.cons (.int .u64) .nil))))), (3, .cells [.int .u8, .ro (.cons (.int .u8) (.cons (.int .u8) (.cons (.int .u8) .nil))), .int .u8, .int .u8, .int .i64, .int .u8, .int .u8, .int .u8, .int .u8, .int .u8, .int .u8, .ro (.cons .str (.cons (.int .u8) (.cons .str .nil))), .int .u64, .int .u64, .bool])], 4⟩), (66436863, ⟨[(3, .one (.own 1)), (4, .one (.own 2)), (5, .one (.int .i64)), (21, .one (.own 3)), (33, .one (.ro (.cons (.int .u8) (.cons (.ro (.cons (.int .u8) (.cons (.int .u8) (.cons (.int .u8) .nil)))) (.cons (.int .u8) (.cons (.int .u8) (.cons (.int .i64) (.cons (.int .u8) (.cons (.int .u8) (.cons (.int .u8) (.cons (.int .u8) (.cons (.int .u8) (.cons (.int .u8) (.cons (.ro (.cons .str (.cons (.int .u8) (.cons .str .nil)))) (.cons (.int .u64) (.cons (.int .u64) (.cons .bool .nil))))))))))))))))), (34, .one (.int .i64)), (35, .one (.int .i64))], [(1, .fold (.cons (.map (.one (.int .i64)) (.agg (.cons (.ro (.cons .str (.cons (.int .u8) (.cons .str .nil)))) (.cons (.int .u64) (.cons (.int .u64) .nil))))) (.cons (.c (.int .i64)) .nil))), (2, .row (.cons (.int .i64) (.cons (.ro (.cons .str (.cons (.int .u8) (.cons .str .nil)))) (.cons (.int .u64) (.cons (.int .u64) .nil))))), (3, .cells [.ro (.cons .str (.cons (.int .u8) (.cons .str .nil))), .int .u64, .int .u64])], 4⟩), (265747455, ⟨[(3, .one (.own 1)), (4, .one (.own 2)), (5, .one (.int .i64)), (21, .one (.own 3)), (22, .one (.int .i64)), (33, .one (.ro (.cons (.int .u8) (.cons (.ro (.cons (.int .u8) (.cons (.int .u8) (.cons (.int .u8) .nil)))) (.cons (.int .u8) (.cons (.int .u8) (.cons (.int .i64) (.cons (.int .u8) (.cons (.int .u8) (.cons (.int .u8) (.cons (.int .u8) (.cons (.int .u8) (.cons (.int .u8) (.cons (.ro (.cons .str (.cons (.int .u8) (.cons .str .nil)))) (.cons (.int .u64) (.cons (.int .u64) (.cons .bool .nil))))))))))))))))), (34, .one (.int .i64)), (35, .one (.int .i64))], [(1, .fold (.cons (.map (.one (.int .i64)) (.agg (.cons (.ro (.cons .str (.cons (.int .u8) (.cons .str .nil)))) (.cons (.int .u64) (.cons (.int .u64) .nil))))) (.cons (.c (.int .i64)) .nil))), (2, .row (.cons (.int .i64) (.cons (.ro (.cons .str (.cons (.int .u8) (.cons .str .nil)))) (.cons (.int .u64) (.cons (.int .u64) .nil))))), (3, .cells [.ro (.cons .str (.cons (.int .u8) (.cons .str .nil))), .int .u64, .int .u64])], 4⟩), (2125979647, ⟨[(3, .one (.own 1)), (4, .one (.own 2)), (5, .one (.int .i64)), (22, .one (.int .i64)), (23, .one (.int .i64)), (33, .one (.ro (.cons (.int .u8) (.cons (.ro (.cons (.int .u8) (.cons (.int .u8) (.cons (.int .u8) .nil)))) (.cons (.int .u8) (.cons (.int .u8) (.cons (.int .i64) (.cons (.int .u8) (.cons (.int .u8) (.cons (.int .u8) (.cons (.int .u8) (.cons (.int .u8) (.cons (.int .u8) (.cons (.ro (.cons .str (.cons (.int .u8) (.cons .str .nil)))) (.cons (.int .u64) (.cons (.int .u64) (.cons .bool .nil))))))))))))))))), (34, .one (.int .i64)), (35, .one (.int .i64))], [(1, .fold (.cons (.map (.one (.int .i64)) (.agg (.cons (.ro (.cons .str (.cons (.int .u8) (.cons .str .nil)))) (.cons (.int .u64) (.cons (.int .u64) .nil))))) (.cons (.c (.int .i64)) .nil))), (2, .row (.cons (.int .i64) (.cons (.ro (.cons .str (.cons (.int .u8) (.cons .str .nil)))) (.cons (.int .u64) (.cons (.int .u64) .nil)))))], 3⟩)], [(253, ⟨[(3, .one (.own 1)), (4, .one (.own 2)), (5, .one (.int .i64)), (33, .one (.ro (.cons (.int .u8) (.cons (.ro (.cons (.int .u8) (.cons (.int .u8) (.cons (.int .u8) .nil)))) (.cons (.int .u8) (.cons (.int .u8) (.cons (.int .i64) (.cons (.int .u8) (.cons (.int .u8) (.cons (.int .u8) (.cons (.int .u8) (.cons (.int .u8) (.cons (.int .u8) (.cons (.ro (.cons .str (.cons (.int .u8) (.cons .str .nil)))) (.cons (.int .u64) (.cons (.int .u64) (.cons .bool .nil))))))))))))))))), (34, .one (.int .i64)), (35, .one (.int .i64))], [(1, .fold (.cons (.map (.one (.int .i64)) (.agg (.cons (.ro (.cons .str (.cons (.int .u8) (.cons .str .nil)))) (.cons (.int .u64) (.cons (.int .u64) .nil))))) (.cons (.c (.int .i64)) .nil))), (2, .row (.cons (.int .i64) (.cons (.ro (.cons .str (.cons (.int .u8) (.cons .str .nil)))) (.cons (.int .u64) (.cons (.int .u64) .nil)))))], 3⟩), (2076159, ⟨[(3, .one (.own 1)), (4, .one (.own 2)), (5, .one (.int .i64)), (25, .one (.ro (.cons (.int .i64) .nil))), (33, .one (.ro (.cons (.int .u8) (.cons (.ro (.cons (.int .u8) (.cons (.int .u8) (.cons (.int .u8) .nil)))) (.cons (.int .u8) (.cons (.int .u8) (.cons (.int .i64) (.cons (.int .u8) (.cons (.int .u8) (.cons (.int .u8) (.cons (.int .u8) (.cons (.int .u8) (.cons (.int .u8) (.cons (.ro (.cons .str (.cons (.int .u8) (.cons .str .nil)))) (.cons (.int .u64) (.cons (.int .u64) (.cons .bool .nil))))))))))))))))), (34, .one (.int .i64)), (35, .one (.int .i64)), (283, .one (.own 2)), (284, .one (.int .i64)), (285, .one (.int .i64))], [(1, .fold (.cons (.map (.one (.int .i64)) (.agg (.cons (.ro (.cons .str (.cons (.int .u8) (.cons .str .nil)))) (.cons (.int .u64) (.cons (.int .u64) .nil))))) (.cons (.c (.int .i64)) .nil))), (2, .row (.cons (.int .i64) (.cons (.ro (.cons .str (.cons (.int .u8) (.cons .str .nil)))) (.cons (.int .u64) (.cons (.int .u64) .nil)))))], 3⟩), (33218413, ⟨[(3, .one (.own 1)), (4, .one (.own 2)), (5, .one (.int .i64)), (8, .one (.int .u64)), (9, .one (.int .i64)), (10, .one (.int .i64)), (11, .one (.int .i64)), (12, .one (.int .i64)), (33, .one (.ro (.cons (.int .u8) (.cons (.ro (.cons (.int .u8) (.cons (.int .u8) (.cons (.int .u8) .nil)))) (.cons (.int .u8) (.cons (.int .u8) (.cons (.int .i64) (.cons (.int .u8) (.cons (.int .u8) (.cons (.int .u8) (.cons (.int .u8) (.cons (.int .u8) (.cons (.int .u8) (.cons (.ro (.cons .str (.cons (.int .u8) (.cons .str .nil)))) (.cons (.int .u64) (.cons (.int .u64) (.cons .bool .nil))))))))))))))))), (34, .one (.int .i64)), (35, .one (.int .i64))], [(1, .fold (.cons (.map (.one (.int .i64)) (.agg (.cons (.ro (.cons .str (.cons (.int .u8) (.cons .str .nil)))) (.cons (.int .u64) (.cons (.int .u64) .nil))))) (.cons (.c (.int .i64)) .nil))), (2, .row (.cons (.int .i64) (.cons (.ro (.cons .str (.cons (.int .u8) (.cons .str .nil)))) (.cons (.int .u64) (.cons (.int .u64) .nil)))))], 3⟩), (132873709, ⟨[(3, .one (.own 1)), (4, .one (.own 2)), (5, .one (.int .i64)), (8, .one (.int .u64)), (13, .one (.int .i64)), (14, .one (.own 3)), (33, .one (.ro (.cons (.int .u8) (.cons (.ro (.cons (.int .u8) (.cons (.int .u8) (.cons (.int .u8) .nil)))) (.cons (.int .u8) (.cons (.int .u8) (.cons (.int .i64) (.cons (.int .u8) (.cons (.int .u8) (.cons (.int .u8) (.cons (.int .u8) (.cons (.int .u8) (.cons (.int .u8) (.cons (.ro (.cons .str (.cons (.int .u8) (.cons .str .nil)))) (.cons (.int .u64) (.cons (.int .u64) (.cons .bool .nil))))))))))))))))), (34, .one (.int .i64)), (35, .one (.int .i64)), (206, .one (.own 2)), (207, .one (.int .i64)), (208, .one (.int .i64))], [(1, .fold (.cons (.map (.one (.int .i64)) (.agg (.cons (.ro (.cons .str (.cons (.int .u8) (.cons .str .nil)))) (.cons (.int .u64) (.cons (.int .u64) .nil))))) (.cons (.c (.int .i64)) .nil))), (2, .row (.cons (.int .i64) (.cons (.ro (.cons .str (.cons (.int .u8) (.cons .str .nil)))) (.cons (.int .u64) (.cons (.int .u64) .nil))))), (3, .row (.cons (.int .i64) (.cons (.ro (.cons .str (.cons (.int .u8) (.cons .str .nil)))) (.cons (.int .u64) (.cons (.int .u64) .nil)))))], 4⟩), (531494893, ⟨[(3, .one (.own 1)), (4, .one (.own 2)), (5, .one (.int .i64)), (8, .one (.int .u64)), (17, .one (.own 3)), (18, .one (.int .i64)), (33, .one (.ro (.cons (.int .u8) (.cons (.ro (.cons (.int .u8) (.cons (.int .u8) (.cons (.int .u8) .nil)))) (.cons (.int .u8) (.cons (.int .u8) (.cons (.int .i64) (.cons (.int .u8) (.cons (.int .u8) (.cons (.int .u8) (.cons (.int .u8) (.cons (.int .u8) (.cons (.int .u8) (.cons (.ro (.cons .str (.cons (.int .u8) (.cons .str .nil)))) (.cons (.int .u64) (.cons (.int .u64) (.cons .bool .nil))))))))))))))))), (34, .one (.int .i64)), (35, .one (.int .i64)), (236, .one (.own 2)), (237, .one (.int .i64)), (238, .one (.int .i64))], [(1, .fold (.cons (.map (.one (.int .i64)) (.agg (.cons (.ro (.cons .str (.cons (.int .u8) (.cons .str .nil)))) (.cons (.int .u64) (.cons (.int .u64) .nil))))) (.cons (.c (.int .i64)) .nil))), (2, .row (.cons (.int .i64) (.cons (.ro (.cons .str (.cons (.int .u8) (.cons .str .nil)))) (.cons (.int .u64) (.cons (.int .u64) .nil))))), (3, .cells [.int .u8, .str, .ro (.cons .str (.cons .str .nil)), .int .u8, .int .u64, .int .u8, .int .i64])], 4⟩)]⟩) (fuel := n) (c := Try.f5.body.getD .skip) (rs := Try.f5.results.toList) tt_ok mix (FsOK.cons (ok7 n) (FsOK.cons (ok14 n) (FsOK.cons (ok16 n) (FsOK.cons (ok17 n) (FsOK.cons (ok8 n) (FsOK.cons (ok11 n) (FsOK.cons (ok12 n) (FsOK.cons (ok10 n) (FsOK.cons (ok18 n) (FsOK.cons (ok9 n) (FsOK.cons (ok19 n) (FsOK.cons (ok15 n) (FsOK.cons (ok20 n) (FsOK.cons (ok21 n) (FsOK.nil))))))))))))))) Try.func5 (by kernel_rfl) (by kernel_rfl) rfl (by kernel_rfl) rfl rfl (by kernel_rfl)
end Go.Proofs.Ytehpdcdpkdhcgaa
