/- What the functions of this seat compute, found by walking their code symbolically: each F is what the walk finds, each ok says that the Go function keeps it as a contract. Printed by a program of this repo's. -/
import Derived.Test.YtkpolfffcdocnaaNpFns1
open Go Go.Sx
namespace Go.Proofs.Ytkpolfffcdocnaa
set_option maxRecDepth 100000
set_option linter.unusedVariables false
-- watchfire/watchfirelaw25.NetPlays
def sig5 : Sig := ⟨(.cons (.one (.c (.ro (.cons (.int .u8) (.cons (.int .u8) (.cons (.int .u8) (.cons (.ro (.cons (.int .u8) .nil)) (.cons (.int .i64) (.cons (.int .i64) (.cons .bool .nil)))))))))) .nil), (.cons (.one (.c .bool)) .nil)⟩
def F5_L4026367 : Nat →
 Arr
 [PT.list
 (CTs.cons (CT.int IntKind.u8)
 (CTs.cons (CT.int IntKind.u8)
 (CTs.cons (CT.int IntKind.u8)
 (CTs.cons (CT.ro (CTs.cons (CT.int IntKind.u8) CTs.nil))
 (CTs.cons (CT.int IntKind.i64) (CTs.cons (CT.int IntKind.i64) (CTs.cons CT.bool CTs.nil))))))),
 PT.int IntKind.i64, PT.int IntKind.i64,
 PT.opt
 (OTs.cons
 (OT.row
 (CTs.cons (CT.int IntKind.u8)
 (CTs.cons (CT.int IntKind.u8)
 (CTs.cons (CT.ro (CTs.cons (CT.int IntKind.u8) CTs.nil)) (CTs.cons CT.bool CTs.nil)))))
 (OTs.cons
 (OT.map (VT.agg (CTs.cons (CT.int IntKind.u8) (CTs.cons (CT.int IntKind.u8) CTs.nil))) (VT.one CT.bool))
 (OTs.cons (OT.c (CT.int IntKind.i64))
 (OTs.cons (OT.c (CT.int IntKind.i64)) (OTs.cons (OT.c (CT.int IntKind.i64)) OTs.nil))))),
 PT.list1 CT.bool, PT.int IntKind.i64, PT.int IntKind.i64, PT.int IntKind.i64,
 PT.list
 (CTs.cons (CT.int IntKind.u8) (CTs.cons (CT.int IntKind.u8) (CTs.cons CT.str (CTs.cons CT.bool CTs.nil))))]
 (Option (Bool × Unit)) →
 Arr
 [PT.list
 (CTs.cons (CT.int IntKind.u8)
 (CTs.cons (CT.int IntKind.u8)
 (CTs.cons (CT.int IntKind.u8)
 (CTs.cons (CT.ro (CTs.cons (CT.int IntKind.u8) CTs.nil))
 (CTs.cons (CT.int IntKind.i64) (CTs.cons (CT.int IntKind.i64) (CTs.cons CT.bool CTs.nil))))))),
 PT.int IntKind.i64, PT.int IntKind.i64, PT.int IntKind.i64, PT.int IntKind.i64,
 PT.opt
 (OTs.cons
 (OT.row
 (CTs.cons (CT.int IntKind.u8)
 (CTs.cons (CT.int IntKind.u8)
 (CTs.cons (CT.ro (CTs.cons (CT.int IntKind.u8) CTs.nil)) (CTs.cons CT.bool CTs.nil)))))
 (OTs.cons
 (OT.map (VT.agg (CTs.cons (CT.int IntKind.u8) (CTs.cons (CT.int IntKind.u8) CTs.nil))) (VT.one CT.bool))
 (OTs.cons (OT.c (CT.int IntKind.i64))
 (OTs.cons (OT.c (CT.int IntKind.i64)) (OTs.cons (OT.c (CT.int IntKind.i64)) OTs.nil))))),
 PT.list1 CT.bool, PT.int IntKind.i64, PT.int IntKind.i64, PT.int IntKind.i64,
 PT.list
 (CTs.cons (CT.int IntKind.u8) (CTs.cons (CT.int IntKind.u8) (CTs.cons CT.str (CTs.cons CT.bool CTs.nil))))]
 (Option (Bool × Unit)) →
 List (UInt8 × UInt8 × UInt8 × List UInt8 × Int64 × Int64 × Bool) →
 Int64 →
 Int64 →
 Int64 →
 Int64 →
 Option
 (List (UInt8 × UInt8 × List UInt8 × Bool) × List ((UInt8 × UInt8) × Bool) × Int64 × Int64 × Int64) →
 List Bool → Int64 → Int64 → Int64 → List (UInt8 × UInt8 × List UInt8 × Bool) → Option (Bool × Unit) := fun (n : Nat)
 (rec :
 Arr
 [PT.list
 (CTs.cons (CT.int IntKind.u8)
 (CTs.cons (CT.int IntKind.u8)
 (CTs.cons (CT.int IntKind.u8)
 (CTs.cons (CT.ro (CTs.cons (CT.int IntKind.u8) CTs.nil))
 (CTs.cons (CT.int IntKind.i64) (CTs.cons (CT.int IntKind.i64) (CTs.cons CT.bool CTs.nil))))))),
 PT.int IntKind.i64, PT.int IntKind.i64,
 PT.opt
 (OTs.cons
 (OT.row
 (CTs.cons (CT.int IntKind.u8)
 (CTs.cons (CT.int IntKind.u8)
 (CTs.cons (CT.ro (CTs.cons (CT.int IntKind.u8) CTs.nil)) (CTs.cons CT.bool CTs.nil)))))
 (OTs.cons
 (OT.map (VT.agg (CTs.cons (CT.int IntKind.u8) (CTs.cons (CT.int IntKind.u8) CTs.nil))) (VT.one CT.bool))
 (OTs.cons (OT.c (CT.int IntKind.i64))
 (OTs.cons (OT.c (CT.int IntKind.i64)) (OTs.cons (OT.c (CT.int IntKind.i64)) OTs.nil))))),
 PT.list1 CT.bool, PT.int IntKind.i64, PT.int IntKind.i64, PT.int IntKind.i64,
 PT.list
 (CTs.cons (CT.int IntKind.u8) (CTs.cons (CT.int IntKind.u8) (CTs.cons CT.str (CTs.cons CT.bool CTs.nil))))]
 (Option (Bool × Unit)))
 (rec_1 :
 Arr
 [PT.list
 (CTs.cons (CT.int IntKind.u8)
 (CTs.cons (CT.int IntKind.u8)
 (CTs.cons (CT.int IntKind.u8)
 (CTs.cons (CT.ro (CTs.cons (CT.int IntKind.u8) CTs.nil))
 (CTs.cons (CT.int IntKind.i64) (CTs.cons (CT.int IntKind.i64) (CTs.cons CT.bool CTs.nil))))))),
 PT.int IntKind.i64, PT.int IntKind.i64, PT.int IntKind.i64, PT.int IntKind.i64,
 PT.opt
 (OTs.cons
 (OT.row
 (CTs.cons (CT.int IntKind.u8)
 (CTs.cons (CT.int IntKind.u8)
 (CTs.cons (CT.ro (CTs.cons (CT.int IntKind.u8) CTs.nil)) (CTs.cons CT.bool CTs.nil)))))
 (OTs.cons
 (OT.map (VT.agg (CTs.cons (CT.int IntKind.u8) (CTs.cons (CT.int IntKind.u8) CTs.nil))) (VT.one CT.bool))
 (OTs.cons (OT.c (CT.int IntKind.i64))
 (OTs.cons (OT.c (CT.int IntKind.i64)) (OTs.cons (OT.c (CT.int IntKind.i64)) OTs.nil))))),
 PT.list1 CT.bool, PT.int IntKind.i64, PT.int IntKind.i64, PT.int IntKind.i64,
 PT.list
 (CTs.cons (CT.int IntKind.u8) (CTs.cons (CT.int IntKind.u8) (CTs.cons CT.str (CTs.cons CT.bool CTs.nil))))]
 (Option (Bool × Unit)))
 (t_9 : List (UInt8 × UInt8 × UInt8 × List UInt8 × Int64 × Int64 × Bool)) (t_1_7 t_2_7 t_3_1 t_4_1 : Int64)
 (n__7 : Option (List (UInt8 × UInt8 × List UInt8 × Bool) × List ((UInt8 × UInt8) × Bool) × Int64 × Int64 × Int64))
 (ma_7 : List Bool) (m1_7 m2_7 m3_7 : Int64) (t_5_1 : List (UInt8 × UInt8 × List UInt8 × Bool)) =>
 oite (decide (t_4_1 < t_3_1))
 (oite (decide ((0 : Int) ≤ Int64.toInt t_4_1) && Nat.blt (Int.toNat (Int64.toInt t_4_1)) (List.length t_5_1))
 (obind t_5_1[Int.toNat (Int64.toInt t_4_1)]? fun (x_6 : UInt8 × UInt8 × List UInt8 × Bool) =>
 obind (F12 n (n__7, t_4_1))
 fun
 (x_7 :
 ((UInt8 × UInt8 × List UInt8) × Bool) ×
 Option
 (List (UInt8 × UInt8 × List UInt8 × Bool) × List ((UInt8 × UInt8) × Bool) × Int64 × Int64 × Int64)) =>
 oite (!Prod.snd (Prod.fst x_7)) (some (false, ()))
 (oite (!decide (Prod.fst (Prod.fst (Prod.fst x_7)) = Prod.fst x_6)) (some (false, ()))
 (oite (!decide (Prod.fst (Prod.snd (Prod.fst (Prod.fst x_7))) = Prod.fst (Prod.snd x_6)))
 (some (false, ()))
 (oite (!Prod.snd (Prod.snd (Prod.fst (Prod.fst x_7))) == Prod.fst (Prod.snd (Prod.snd x_6)))
 (some (false, ()))
 (rec_1 t_9 t_1_7 t_2_7 t_3_1 (t_4_1 + (1 : Int64)) (Prod.snd x_7) ma_7 m1_7 m2_7 m3_7 t_5_1)))))
 none)
 (rec t_9 t_1_7 (t_2_7 + (1 : Int64)) n__7 ma_7 m1_7 m2_7 m3_7 t_5_1)
def F5_R4026367 : Nat →
 Arr
 [PT.list
 (CTs.cons (CT.int IntKind.u8)
 (CTs.cons (CT.int IntKind.u8)
 (CTs.cons (CT.int IntKind.u8)
 (CTs.cons (CT.ro (CTs.cons (CT.int IntKind.u8) CTs.nil))
 (CTs.cons (CT.int IntKind.i64) (CTs.cons (CT.int IntKind.i64) (CTs.cons CT.bool CTs.nil))))))),
 PT.int IntKind.i64, PT.int IntKind.i64,
 PT.opt
 (OTs.cons
 (OT.row
 (CTs.cons (CT.int IntKind.u8)
 (CTs.cons (CT.int IntKind.u8)
 (CTs.cons (CT.ro (CTs.cons (CT.int IntKind.u8) CTs.nil)) (CTs.cons CT.bool CTs.nil)))))
 (OTs.cons
 (OT.map (VT.agg (CTs.cons (CT.int IntKind.u8) (CTs.cons (CT.int IntKind.u8) CTs.nil))) (VT.one CT.bool))
 (OTs.cons (OT.c (CT.int IntKind.i64))
 (OTs.cons (OT.c (CT.int IntKind.i64)) (OTs.cons (OT.c (CT.int IntKind.i64)) OTs.nil))))),
 PT.list1 CT.bool, PT.int IntKind.i64, PT.int IntKind.i64, PT.int IntKind.i64,
 PT.list
 (CTs.cons (CT.int IntKind.u8) (CTs.cons (CT.int IntKind.u8) (CTs.cons CT.str (CTs.cons CT.bool CTs.nil))))]
 (Option (Bool × Unit)) →
 Nat →
 PT.T
 (PT.list
 (CTs.cons (CT.int IntKind.u8)
 (CTs.cons (CT.int IntKind.u8)
 (CTs.cons (CT.int IntKind.u8)
 (CTs.cons (CT.ro (CTs.cons (CT.int IntKind.u8) CTs.nil))
 (CTs.cons (CT.int IntKind.i64) (CTs.cons (CT.int IntKind.i64) (CTs.cons CT.bool CTs.nil)))))))) →
 Int64 →
 Int64 →
 Int64 →
 Int64 →
 Option
 (List (UInt8 × UInt8 × List UInt8 × Bool) × List ((UInt8 × UInt8) × Bool) × Int64 × Int64 × Int64) →
 List Bool → Int64 → Int64 → Int64 → List (UInt8 × UInt8 × List UInt8 × Bool) → Option (Bool × Unit) := fun (n : Nat)
 (rec :
 Arr
 [PT.list
 (CTs.cons (CT.int IntKind.u8)
 (CTs.cons (CT.int IntKind.u8)
 (CTs.cons (CT.int IntKind.u8)
 (CTs.cons (CT.ro (CTs.cons (CT.int IntKind.u8) CTs.nil))
 (CTs.cons (CT.int IntKind.i64) (CTs.cons (CT.int IntKind.i64) (CTs.cons CT.bool CTs.nil))))))),
 PT.int IntKind.i64, PT.int IntKind.i64,
 PT.opt
 (OTs.cons
 (OT.row
 (CTs.cons (CT.int IntKind.u8)
 (CTs.cons (CT.int IntKind.u8)
 (CTs.cons (CT.ro (CTs.cons (CT.int IntKind.u8) CTs.nil)) (CTs.cons CT.bool CTs.nil)))))
 (OTs.cons
 (OT.map (VT.agg (CTs.cons (CT.int IntKind.u8) (CTs.cons (CT.int IntKind.u8) CTs.nil))) (VT.one CT.bool))
 (OTs.cons (OT.c (CT.int IntKind.i64))
 (OTs.cons (OT.c (CT.int IntKind.i64)) (OTs.cons (OT.c (CT.int IntKind.i64)) OTs.nil))))),
 PT.list1 CT.bool, PT.int IntKind.i64, PT.int IntKind.i64, PT.int IntKind.i64,
 PT.list
 (CTs.cons (CT.int IntKind.u8) (CTs.cons (CT.int IntKind.u8) (CTs.cons CT.str (CTs.cons CT.bool CTs.nil))))]
 (Option (Bool × Unit))) =>
 ofixA (4026367 : Nat)
 [PT.list
 (CTs.cons (CT.int IntKind.u8)
 (CTs.cons (CT.int IntKind.u8)
 (CTs.cons (CT.int IntKind.u8)
 (CTs.cons (CT.ro (CTs.cons (CT.int IntKind.u8) CTs.nil))
 (CTs.cons (CT.int IntKind.i64) (CTs.cons (CT.int IntKind.i64) (CTs.cons CT.bool CTs.nil))))))),
 PT.int IntKind.i64, PT.int IntKind.i64, PT.int IntKind.i64, PT.int IntKind.i64,
 PT.opt
 (OTs.cons
 (OT.row
 (CTs.cons (CT.int IntKind.u8)
 (CTs.cons (CT.int IntKind.u8)
 (CTs.cons (CT.ro (CTs.cons (CT.int IntKind.u8) CTs.nil)) (CTs.cons CT.bool CTs.nil)))))
 (OTs.cons
 (OT.map (VT.agg (CTs.cons (CT.int IntKind.u8) (CTs.cons (CT.int IntKind.u8) CTs.nil))) (VT.one CT.bool))
 (OTs.cons (OT.c (CT.int IntKind.i64))
 (OTs.cons (OT.c (CT.int IntKind.i64)) (OTs.cons (OT.c (CT.int IntKind.i64)) OTs.nil))))),
 PT.list1 CT.bool, PT.int IntKind.i64, PT.int IntKind.i64, PT.int IntKind.i64,
 PT.list
 (CTs.cons (CT.int IntKind.u8) (CTs.cons (CT.int IntKind.u8) (CTs.cons CT.str (CTs.cons CT.bool CTs.nil))))]
 (F5_L4026367 n rec)
def F5_J251647 : Nat →
 Arr
 [PT.list
 (CTs.cons (CT.int IntKind.u8)
 (CTs.cons (CT.int IntKind.u8)
 (CTs.cons (CT.int IntKind.u8)
 (CTs.cons (CT.ro (CTs.cons (CT.int IntKind.u8) CTs.nil))
 (CTs.cons (CT.int IntKind.i64) (CTs.cons (CT.int IntKind.i64) (CTs.cons CT.bool CTs.nil))))))),
 PT.int IntKind.i64, PT.int IntKind.i64,
 PT.opt
 (OTs.cons
 (OT.row
 (CTs.cons (CT.int IntKind.u8)
 (CTs.cons (CT.int IntKind.u8)
 (CTs.cons (CT.ro (CTs.cons (CT.int IntKind.u8) CTs.nil)) (CTs.cons CT.bool CTs.nil)))))
 (OTs.cons
 (OT.map (VT.agg (CTs.cons (CT.int IntKind.u8) (CTs.cons (CT.int IntKind.u8) CTs.nil))) (VT.one CT.bool))
 (OTs.cons (OT.c (CT.int IntKind.i64))
 (OTs.cons (OT.c (CT.int IntKind.i64)) (OTs.cons (OT.c (CT.int IntKind.i64)) OTs.nil))))),
 PT.list1 CT.bool, PT.int IntKind.i64, PT.int IntKind.i64, PT.int IntKind.i64,
 PT.list
 (CTs.cons (CT.int IntKind.u8) (CTs.cons (CT.int IntKind.u8) (CTs.cons CT.str (CTs.cons CT.bool CTs.nil))))]
 (Option (Bool × Unit)) →
 List (UInt8 × UInt8 × UInt8 × List UInt8 × Int64 × Int64 × Bool) →
 Int64 →
 Int64 →
 Option (List (UInt8 × UInt8 × List UInt8 × Bool) × List ((UInt8 × UInt8) × Bool) × Int64 × Int64 × Int64) →
 List Bool → Int64 → Int64 → Int64 → List (UInt8 × UInt8 × List UInt8 × Bool) → Option (Bool × Unit) := fun (n : Nat)
 (rec :
 Arr
 [PT.list
 (CTs.cons (CT.int IntKind.u8)
 (CTs.cons (CT.int IntKind.u8)
 (CTs.cons (CT.int IntKind.u8)
 (CTs.cons (CT.ro (CTs.cons (CT.int IntKind.u8) CTs.nil))
 (CTs.cons (CT.int IntKind.i64) (CTs.cons (CT.int IntKind.i64) (CTs.cons CT.bool CTs.nil))))))),
 PT.int IntKind.i64, PT.int IntKind.i64,
 PT.opt
 (OTs.cons
 (OT.row
 (CTs.cons (CT.int IntKind.u8)
 (CTs.cons (CT.int IntKind.u8)
 (CTs.cons (CT.ro (CTs.cons (CT.int IntKind.u8) CTs.nil)) (CTs.cons CT.bool CTs.nil)))))
 (OTs.cons
 (OT.map (VT.agg (CTs.cons (CT.int IntKind.u8) (CTs.cons (CT.int IntKind.u8) CTs.nil))) (VT.one CT.bool))
 (OTs.cons (OT.c (CT.int IntKind.i64))
 (OTs.cons (OT.c (CT.int IntKind.i64)) (OTs.cons (OT.c (CT.int IntKind.i64)) OTs.nil))))),
 PT.list1 CT.bool, PT.int IntKind.i64, PT.int IntKind.i64, PT.int IntKind.i64,
 PT.list
 (CTs.cons (CT.int IntKind.u8) (CTs.cons (CT.int IntKind.u8) (CTs.cons CT.str (CTs.cons CT.bool CTs.nil))))]
 (Option (Bool × Unit)))
 (t_8 : List (UInt8 × UInt8 × UInt8 × List UInt8 × Int64 × Int64 × Bool)) (t_1_6 t_2_6 : Int64)
 (n__6 : Option (List (UInt8 × UInt8 × List UInt8 × Bool) × List ((UInt8 × UInt8) × Bool) × Int64 × Int64 × Int64))
 (ma_6 : List Bool) (m1_6 m2_6 m3_6 : Int64) (ml_6 : List (UInt8 × UInt8 × List UInt8 × Bool)) =>
 obind (F20 n n__6)
 fun
 (x_4 :
 (Int64 × Int64 × Int64) ×
 Option (List (UInt8 × UInt8 × List UInt8 × Bool) × List ((UInt8 × UInt8) × Bool) × Int64 × Int64 × Int64)) =>
 obind (F11 n (Prod.snd x_4))
 fun
 (x_5 :
 Int64 ×
 Option
 (List (UInt8 × UInt8 × List UInt8 × Bool) × List ((UInt8 × UInt8) × Bool) × Int64 × Int64 × Int64)) =>
 oite (!decide (Prod.fst x_5 = Int64.ofInt ↑(List.length ml_6))) (some (false, ()))
 (oite (!decide (Prod.fst (Prod.fst x_4) = m1_6)) (some (false, ()))
 (oite (!decide (Prod.fst (Prod.snd (Prod.fst x_4)) = m2_6)) (some (false, ()))
 (oite (!decide (Prod.snd (Prod.snd (Prod.fst x_4)) = m3_6)) (some (false, ()))
 (F5_R4026367 n rec n t_8 t_1_6 t_2_6 (Int64.ofInt ↑(List.length ml_6)) (0 : Int64) (Prod.snd x_5) ma_6
 m1_6 m2_6 m3_6 ml_6))))
def F5_J64421743 : Arr
 [PT.list
 (CTs.cons (CT.int IntKind.u8)
 (CTs.cons (CT.int IntKind.u8)
 (CTs.cons (CT.int IntKind.u8)
 (CTs.cons (CT.ro (CTs.cons (CT.int IntKind.u8) CTs.nil))
 (CTs.cons (CT.int IntKind.i64) (CTs.cons (CT.int IntKind.i64) (CTs.cons CT.bool CTs.nil))))))),
 PT.int IntKind.i64, PT.int IntKind.i64,
 PT.opt
 (OTs.cons
 (OT.row
 (CTs.cons (CT.int IntKind.u8)
 (CTs.cons (CT.int IntKind.u8)
 (CTs.cons (CT.ro (CTs.cons (CT.int IntKind.u8) CTs.nil)) (CTs.cons CT.bool CTs.nil)))))
 (OTs.cons
 (OT.map (VT.agg (CTs.cons (CT.int IntKind.u8) (CTs.cons (CT.int IntKind.u8) CTs.nil))) (VT.one CT.bool))
 (OTs.cons (OT.c (CT.int IntKind.i64))
 (OTs.cons (OT.c (CT.int IntKind.i64)) (OTs.cons (OT.c (CT.int IntKind.i64)) OTs.nil))))),
 PT.list1 CT.bool, PT.int IntKind.i64, PT.int IntKind.i64, PT.int IntKind.i64,
 PT.list
 (CTs.cons (CT.int IntKind.u8) (CTs.cons (CT.int IntKind.u8) (CTs.cons CT.str (CTs.cons CT.bool CTs.nil))))]
 (Option (Bool × Unit)) →
 Bool →
 List (UInt8 × UInt8 × UInt8 × List UInt8 × Int64 × Int64 × Bool) →
 Int64 →
 Int64 →
 Option (List (UInt8 × UInt8 × List UInt8 × Bool) × List ((UInt8 × UInt8) × Bool) × Int64 × Int64 × Int64) →
 List Bool → Int64 → Int64 → Int64 → List (UInt8 × UInt8 × List UInt8 × Bool) → Option (Bool × Unit) := fun
 (J :
 Arr
 [PT.list
 (CTs.cons (CT.int IntKind.u8)
 (CTs.cons (CT.int IntKind.u8)
 (CTs.cons (CT.int IntKind.u8)
 (CTs.cons (CT.ro (CTs.cons (CT.int IntKind.u8) CTs.nil))
 (CTs.cons (CT.int IntKind.i64) (CTs.cons (CT.int IntKind.i64) (CTs.cons CT.bool CTs.nil))))))),
 PT.int IntKind.i64, PT.int IntKind.i64,
 PT.opt
 (OTs.cons
 (OT.row
 (CTs.cons (CT.int IntKind.u8)
 (CTs.cons (CT.int IntKind.u8)
 (CTs.cons (CT.ro (CTs.cons (CT.int IntKind.u8) CTs.nil)) (CTs.cons CT.bool CTs.nil)))))
 (OTs.cons
 (OT.map (VT.agg (CTs.cons (CT.int IntKind.u8) (CTs.cons (CT.int IntKind.u8) CTs.nil))) (VT.one CT.bool))
 (OTs.cons (OT.c (CT.int IntKind.i64))
 (OTs.cons (OT.c (CT.int IntKind.i64)) (OTs.cons (OT.c (CT.int IntKind.i64)) OTs.nil))))),
 PT.list1 CT.bool, PT.int IntKind.i64, PT.int IntKind.i64, PT.int IntKind.i64,
 PT.list
 (CTs.cons (CT.int IntKind.u8) (CTs.cons (CT.int IntKind.u8) (CTs.cons CT.str (CTs.cons CT.bool CTs.nil))))]
 (Option (Bool × Unit)))
 (is_ : Bool) (t_9 : List (UInt8 × UInt8 × UInt8 × List UInt8 × Int64 × Int64 × Bool)) (t_1_7 t_2_7 : Int64)
 (n__7 : Option (List (UInt8 × UInt8 × List UInt8 × Bool) × List ((UInt8 × UInt8) × Bool) × Int64 × Int64 × Int64))
 (ma_7 : List Bool) (m1_7 m2_7 m3_7 : Int64) (ml_7 : List (UInt8 × UInt8 × List UInt8 × Bool)) =>
 oite is_ (J t_9 t_1_7 t_2_7 n__7 ma_7 m1_7 (m2_7 + (1 : Int64)) m3_7 ml_7)
 (J t_9 t_1_7 t_2_7 n__7 ma_7 m1_7 m2_7 (m3_7 + (1 : Int64)) ml_7)
def F5_J257687038 : Nat →
 Arr
 [PT.list
 (CTs.cons (CT.int IntKind.u8)
 (CTs.cons (CT.int IntKind.u8)
 (CTs.cons (CT.int IntKind.u8)
 (CTs.cons (CT.ro (CTs.cons (CT.int IntKind.u8) CTs.nil))
 (CTs.cons (CT.int IntKind.i64) (CTs.cons (CT.int IntKind.i64) (CTs.cons CT.bool CTs.nil))))))),
 PT.int IntKind.i64, PT.int IntKind.i64,
 PT.opt
 (OTs.cons
 (OT.row
 (CTs.cons (CT.int IntKind.u8)
 (CTs.cons (CT.int IntKind.u8)
 (CTs.cons (CT.ro (CTs.cons (CT.int IntKind.u8) CTs.nil)) (CTs.cons CT.bool CTs.nil)))))
 (OTs.cons
 (OT.map (VT.agg (CTs.cons (CT.int IntKind.u8) (CTs.cons (CT.int IntKind.u8) CTs.nil))) (VT.one CT.bool))
 (OTs.cons (OT.c (CT.int IntKind.i64))
 (OTs.cons (OT.c (CT.int IntKind.i64)) (OTs.cons (OT.c (CT.int IntKind.i64)) OTs.nil))))),
 PT.list1 CT.bool, PT.int IntKind.i64, PT.int IntKind.i64, PT.int IntKind.i64,
 PT.list
 (CTs.cons (CT.int IntKind.u8) (CTs.cons (CT.int IntKind.u8) (CTs.cons CT.str (CTs.cons CT.bool CTs.nil))))]
 (Option (Bool × Unit)) →
 Int64 →
 Int64 →
 Bool →
 List (UInt8 × UInt8 × UInt8 × List UInt8 × Int64 × Int64 × Bool) →
 Int64 →
 Int64 →
 Option
 (List (UInt8 × UInt8 × List UInt8 × Bool) × List ((UInt8 × UInt8) × Bool) × Int64 × Int64 × Int64) →
 List Bool → Int64 → Int64 → Int64 → List (UInt8 × UInt8 × List UInt8 × Bool) → Option (Bool × Unit) := fun (n : Nat)
 (J :
 Arr
 [PT.list
 (CTs.cons (CT.int IntKind.u8)
 (CTs.cons (CT.int IntKind.u8)
 (CTs.cons (CT.int IntKind.u8)
 (CTs.cons (CT.ro (CTs.cons (CT.int IntKind.u8) CTs.nil))
 (CTs.cons (CT.int IntKind.i64) (CTs.cons (CT.int IntKind.i64) (CTs.cons CT.bool CTs.nil))))))),
 PT.int IntKind.i64, PT.int IntKind.i64,
 PT.opt
 (OTs.cons
 (OT.row
 (CTs.cons (CT.int IntKind.u8)
 (CTs.cons (CT.int IntKind.u8)
 (CTs.cons (CT.ro (CTs.cons (CT.int IntKind.u8) CTs.nil)) (CTs.cons CT.bool CTs.nil)))))
 (OTs.cons
 (OT.map (VT.agg (CTs.cons (CT.int IntKind.u8) (CTs.cons (CT.int IntKind.u8) CTs.nil))) (VT.one CT.bool))
 (OTs.cons (OT.c (CT.int IntKind.i64))
 (OTs.cons (OT.c (CT.int IntKind.i64)) (OTs.cons (OT.c (CT.int IntKind.i64)) OTs.nil))))),
 PT.list1 CT.bool, PT.int IntKind.i64, PT.int IntKind.i64, PT.int IntKind.i64,
 PT.list
 (CTs.cons (CT.int IntKind.u8) (CTs.cons (CT.int IntKind.u8) (CTs.cons CT.str (CTs.cons CT.bool CTs.nil))))]
 (Option (Bool × Unit)))
 (k_6 bit_6 : Int64) (ok : Bool) (t_9 : List (UInt8 × UInt8 × UInt8 × List UInt8 × Int64 × Int64 × Bool))
 (t_1_7 t_2_7 : Int64)
 (n__7 : Option (List (UInt8 × UInt8 × List UInt8 × Bool) × List ((UInt8 × UInt8) × Bool) × Int64 × Int64 × Int64))
 (ma_7 : List Bool) (m1_7 m2_7 m3_7 : Int64) (ml_7 : List (UInt8 × UInt8 × List UInt8 × Bool)) =>
 obind (F13 n (n__7, k_6, bit_6))
 fun
 (x_4 :
 Bool ×
 Option (List (UInt8 × UInt8 × List UInt8 × Bool) × List ((UInt8 × UInt8) × Bool) × Int64 × Int64 × Int64)) =>
 oite (!Prod.fst x_4 == ok) (some (false, ()))
 (oite ok
 (oite (decide ((0 : Int) ≤ Int64.toInt k_6) && Nat.blt (Int.toNat (Int64.toInt k_6)) (List.length ml_7))
 (obind ml_7[Int.toNat (Int64.toInt k_6)]? fun (x_5 : UInt8 × UInt8 × List UInt8 × Bool) =>
 oite
 (decide ((0 : Int) ≤ Int64.toInt (bit_6 / (8 : Int64))) &&
 Nat.blt (Int.toNat (Int64.toInt (bit_6 / (8 : Int64))))
 (List.length (Prod.fst (Prod.snd (Prod.snd x_5)))))
 (obind (Prod.fst (Prod.snd (Prod.snd x_5)))[Int.toNat (Int64.toInt (bit_6 / (8 : Int64)))]?
 fun (x_6 : UInt8) =>
 oite (decide ((0 : Int) ≤ Int64.toInt (bit_6 % (8 : Int64))))
 (oite
 (decide ((0 : Int) ≤ Int64.toInt (bit_6 / (8 : Int64))) &&
 Nat.blt (Int.toNat (Int64.toInt (bit_6 / (8 : Int64))))
 (List.length (Prod.fst (Prod.snd (Prod.snd x_5)))))
 (obind (Prod.fst (Prod.snd (Prod.snd x_5)))[Int.toNat (Int64.toInt (bit_6 / (8 : Int64)))]?
 fun (x_7 : UInt8) =>
 oite
 (decide ((0 : Int) ≤ Int64.toInt k_6) &&
 Nat.blt (Int.toNat (Int64.toInt k_6)) (List.length ml_7))
 (obind ml_7[Int.toNat (Int64.toInt k_6)]? fun (x_8 : UInt8 × UInt8 × List UInt8 × Bool) =>
 oite
 (decide ((0 : Int) ≤ Int64.toInt k_6) &&
 Nat.blt (Int.toNat (Int64.toInt k_6))
 (List.length
 (List.set ml_7 (Int.toNat (Int64.toInt k_6))
 (Prod.fst x_8, Prod.fst (Prod.snd x_8),
 List.set (Prod.fst (Prod.snd (Prod.snd x_5)))
 (Int.toNat (Int64.toInt (bit_6 / (8 : Int64))))
 (x_6 ^^^ IK.shl IntKind.u8 (1 : UInt8) (Int64.toInt (bit_6 % (8 : Int64)))),
 Prod.snd (Prod.snd (Prod.snd x_8))))))
 (obind
 (List.set ml_7 (Int.toNat (Int64.toInt k_6))
 (Prod.fst x_8, Prod.fst (Prod.snd x_8),
 List.set (Prod.fst (Prod.snd (Prod.snd x_5)))
 (Int.toNat (Int64.toInt (bit_6 / (8 : Int64))))
 (x_6 ^^^ IK.shl IntKind.u8 (1 : UInt8) (Int64.toInt (bit_6 % (8 : Int64)))),
 Prod.snd (Prod.snd (Prod.snd x_8))))[Int.toNat (Int64.toInt k_6)]?
 fun (x_9 : UInt8 × UInt8 × List UInt8 × Bool) =>
 J t_9 t_1_7 t_2_7 (Prod.snd x_4) ma_7 m1_7 m2_7 m3_7
 (List.set
 (List.set ml_7 (Int.toNat (Int64.toInt k_6))
 (Prod.fst x_8, Prod.fst (Prod.snd x_8),
 List.set (Prod.fst (Prod.snd (Prod.snd x_5)))
 (Int.toNat (Int64.toInt (bit_6 / (8 : Int64))))
 (x_6 ^^^ IK.shl IntKind.u8 (1 : UInt8) (Int64.toInt (bit_6 % (8 : Int64)))),
 Prod.snd (Prod.snd (Prod.snd x_8))))
 (Int.toNat (Int64.toInt k_6))
 (Prod.fst x_9, Prod.fst (Prod.snd x_9), Prod.fst (Prod.snd (Prod.snd x_9)), true)))
 none)
 none)
 none)
 none)
 none)
 none)
 (J t_9 t_1_7 t_2_7 (Prod.snd x_4) ma_7 m1_7 m2_7 m3_7 ml_7))
def F5_J2061496317 : Nat →
 Arr
 [PT.list
 (CTs.cons (CT.int IntKind.u8)
 (CTs.cons (CT.int IntKind.u8)
 (CTs.cons (CT.int IntKind.u8)
 (CTs.cons (CT.ro (CTs.cons (CT.int IntKind.u8) CTs.nil))
 (CTs.cons (CT.int IntKind.i64) (CTs.cons (CT.int IntKind.i64) (CTs.cons CT.bool CTs.nil))))))),
 PT.int IntKind.i64, PT.int IntKind.i64,
 PT.opt
 (OTs.cons
 (OT.row
 (CTs.cons (CT.int IntKind.u8)
 (CTs.cons (CT.int IntKind.u8)
 (CTs.cons (CT.ro (CTs.cons (CT.int IntKind.u8) CTs.nil)) (CTs.cons CT.bool CTs.nil)))))
 (OTs.cons
 (OT.map (VT.agg (CTs.cons (CT.int IntKind.u8) (CTs.cons (CT.int IntKind.u8) CTs.nil))) (VT.one CT.bool))
 (OTs.cons (OT.c (CT.int IntKind.i64))
 (OTs.cons (OT.c (CT.int IntKind.i64)) (OTs.cons (OT.c (CT.int IntKind.i64)) OTs.nil))))),
 PT.list1 CT.bool, PT.int IntKind.i64, PT.int IntKind.i64, PT.int IntKind.i64,
 PT.list
 (CTs.cons (CT.int IntKind.u8) (CTs.cons (CT.int IntKind.u8) (CTs.cons CT.str (CTs.cons CT.bool CTs.nil))))]
 (Option (Bool × Unit)) →
 UInt8 →
 UInt8 →
 Bool →
 List (UInt8 × UInt8 × UInt8 × List UInt8 × Int64 × Int64 × Bool) →
 Int64 →
 Int64 →
 Option
 (List (UInt8 × UInt8 × List UInt8 × Bool) × List ((UInt8 × UInt8) × Bool) × Int64 × Int64 × Int64) →
 List Bool →
 Int64 →
 Int64 →
 Int64 →
 UInt8 →
 UInt8 →
 UInt8 →
 List UInt8 →
 Int64 →
 Int64 → Bool → List (UInt8 × UInt8 × List UInt8 × Bool) → Option (Bool × Unit) := fun (n : Nat)
 (J :
 Arr
 [PT.list
 (CTs.cons (CT.int IntKind.u8)
 (CTs.cons (CT.int IntKind.u8)
 (CTs.cons (CT.int IntKind.u8)
 (CTs.cons (CT.ro (CTs.cons (CT.int IntKind.u8) CTs.nil))
 (CTs.cons (CT.int IntKind.i64) (CTs.cons (CT.int IntKind.i64) (CTs.cons CT.bool CTs.nil))))))),
 PT.int IntKind.i64, PT.int IntKind.i64,
 PT.opt
 (OTs.cons
 (OT.row
 (CTs.cons (CT.int IntKind.u8)
 (CTs.cons (CT.int IntKind.u8)
 (CTs.cons (CT.ro (CTs.cons (CT.int IntKind.u8) CTs.nil)) (CTs.cons CT.bool CTs.nil)))))
 (OTs.cons
 (OT.map (VT.agg (CTs.cons (CT.int IntKind.u8) (CTs.cons (CT.int IntKind.u8) CTs.nil))) (VT.one CT.bool))
 (OTs.cons (OT.c (CT.int IntKind.i64))
 (OTs.cons (OT.c (CT.int IntKind.i64)) (OTs.cons (OT.c (CT.int IntKind.i64)) OTs.nil))))),
 PT.list1 CT.bool, PT.int IntKind.i64, PT.int IntKind.i64, PT.int IntKind.i64,
 PT.list
 (CTs.cons (CT.int IntKind.u8) (CTs.cons (CT.int IntKind.u8) (CTs.cons CT.str (CTs.cons CT.bool CTs.nil))))]
 (Option (Bool × Unit)))
 (x__6 y_6 : UInt8) (right_2 : Bool) (t_9 : List (UInt8 × UInt8 × UInt8 × List UInt8 × Int64 × Int64 × Bool))
 (t_1_7 t_2_7 : Int64)
 (n__7 : Option (List (UInt8 × UInt8 × List UInt8 × Bool) × List ((UInt8 × UInt8) × Bool) × Int64 × Int64 × Int64))
 (ma_7 : List Bool) (m1_7 m2_7 m3_7 : Int64) (a0_6 a1_6 a2_6 : UInt8) (a3_6 : List UInt8) (a4_6 a5_6 : Int64)
 (a6_6 : Bool) (ml_7 : List (UInt8 × UInt8 × List UInt8 × Bool)) =>
 oite right_2
 (oite (decide ((0 : Int) ≤ ↑(UInt8.toNat x__6)))
 (oite (Nat.blt (Int.toNat ↑(UInt8.toNat x__6)) (32 : Nat))
 (oite (decide ((0 : Int) ≤ ↑(UInt8.toNat y_6)) && Nat.blt (Int.toNat ↑(UInt8.toNat y_6)) (32 : Nat))
 (oite (Nat.blt (Int.toNat ↑(UInt8.toNat x__6) * (32 : Nat) + Int.toNat ↑(UInt8.toNat y_6)) (List.length ma_7))
 (oite (decide ((0 : Int) ≤ ↑(UInt8.toNat y_6)))
 (oite (Nat.blt (Int.toNat ↑(UInt8.toNat y_6)) (32 : Nat))
 (oite (decide ((0 : Int) ≤ ↑(UInt8.toNat x__6)) && Nat.blt (Int.toNat ↑(UInt8.toNat x__6)) (32 : Nat))
 (oite
 (Nat.blt (Int.toNat ↑(UInt8.toNat y_6) * (32 : Nat) + Int.toNat ↑(UInt8.toNat x__6))
 (List.length
 (List.set ma_7 (Int.toNat ↑(UInt8.toNat x__6) * (32 : Nat) + Int.toNat ↑(UInt8.toNat y_6))
 (decide (a5_6 % (2 : Int64) = (0 : Int64))))))
 (obind (F18 n (n__7, x__6, y_6))
 fun
 (x_5 :
 Bool ×
 Option
 (List (UInt8 × UInt8 × List UInt8 × Bool) ×
 List ((UInt8 × UInt8) × Bool) × Int64 × Int64 × Int64)) =>
 oite (decide ((0 : Int) ≤ ↑(UInt8.toNat x__6)))
 (oite (Nat.blt (Int.toNat ↑(UInt8.toNat x__6)) (32 : Nat))
 (oite
 (decide ((0 : Int) ≤ ↑(UInt8.toNat y_6)) &&
 Nat.blt (Int.toNat ↑(UInt8.toNat y_6)) (32 : Nat))
 (obind
 (List.set
 (List.set ma_7
 (Int.toNat ↑(UInt8.toNat x__6) * (32 : Nat) + Int.toNat ↑(UInt8.toNat y_6))
 (decide (a5_6 % (2 : Int64) = (0 : Int64))))
 (Int.toNat ↑(UInt8.toNat y_6) * (32 : Nat) + Int.toNat ↑(UInt8.toNat x__6))
 (decide
 (a5_6 % (2 : Int64) =
 (0 :
 Int64))))[Int.toNat ↑(UInt8.toNat x__6) * (32 : Nat) +
 Int.toNat ↑(UInt8.toNat y_6)]?
 fun (x_6 : Bool) =>
 oite (!Prod.fst x_5 == x_6) (some (false, ()))
 (obind (F18 n (Prod.snd x_5, y_6, x__6))
 fun
 (x_7 :
 Bool ×
 Option
 (List (UInt8 × UInt8 × List UInt8 × Bool) ×
 List ((UInt8 × UInt8) × Bool) × Int64 × Int64 × Int64)) =>
 oite (decide ((0 : Int) ≤ ↑(UInt8.toNat x__6)))
 (oite (Nat.blt (Int.toNat ↑(UInt8.toNat x__6)) (32 : Nat))
 (oite
 (decide ((0 : Int) ≤ ↑(UInt8.toNat y_6)) &&
 Nat.blt (Int.toNat ↑(UInt8.toNat y_6)) (32 : Nat))
 (obind
 (List.set
 (List.set ma_7
 (Int.toNat ↑(UInt8.toNat x__6) * (32 : Nat) +
 Int.toNat ↑(UInt8.toNat y_6))
 (decide (a5_6 % (2 : Int64) = (0 : Int64))))
 (Int.toNat ↑(UInt8.toNat y_6) * (32 : Nat) +
 Int.toNat ↑(UInt8.toNat x__6))
 (decide
 (a5_6 % (2 : Int64) =
 (0 :
 Int64))))[Int.toNat ↑(UInt8.toNat x__6) * (32 : Nat) +
 Int.toNat ↑(UInt8.toNat y_6)]?
 fun (x_8 : Bool) =>
 oite (!Prod.fst x_7 == x_8) (some (false, ()))
 (J t_9 t_1_7 t_2_7 (Prod.snd x_7)
 (List.set
 (List.set ma_7
 (Int.toNat ↑(UInt8.toNat x__6) * (32 : Nat) +
 Int.toNat ↑(UInt8.toNat y_6))
 (decide (a5_6 % (2 : Int64) = (0 : Int64))))
 (Int.toNat ↑(UInt8.toNat y_6) * (32 : Nat) +
 Int.toNat ↑(UInt8.toNat x__6))
 (decide (a5_6 % (2 : Int64) = (0 : Int64))))
 m1_7 m2_7 m3_7 ml_7))
 none)
 none)
 none))
 none)
 none)
 none)
 none)
 none)
 none)
 none)
 none)
 none)
 none)
 none)
 (J t_9 t_1_7 t_2_7 n__7 ma_7 m1_7 m2_7 m3_7 ml_7)
def F5_J1006589 : Nat →
 Arr
 [PT.list
 (CTs.cons (CT.int IntKind.u8)
 (CTs.cons (CT.int IntKind.u8)
 (CTs.cons (CT.int IntKind.u8)
 (CTs.cons (CT.ro (CTs.cons (CT.int IntKind.u8) CTs.nil))
 (CTs.cons (CT.int IntKind.i64) (CTs.cons (CT.int IntKind.i64) (CTs.cons CT.bool CTs.nil))))))),
 PT.int IntKind.i64, PT.int IntKind.i64,
 PT.opt
 (OTs.cons
 (OT.row
 (CTs.cons (CT.int IntKind.u8)
 (CTs.cons (CT.int IntKind.u8)
 (CTs.cons (CT.ro (CTs.cons (CT.int IntKind.u8) CTs.nil)) (CTs.cons CT.bool CTs.nil)))))
 (OTs.cons
 (OT.map (VT.agg (CTs.cons (CT.int IntKind.u8) (CTs.cons (CT.int IntKind.u8) CTs.nil))) (VT.one CT.bool))
 (OTs.cons (OT.c (CT.int IntKind.i64))
 (OTs.cons (OT.c (CT.int IntKind.i64)) (OTs.cons (OT.c (CT.int IntKind.i64)) OTs.nil))))),
 PT.list1 CT.bool, PT.int IntKind.i64, PT.int IntKind.i64, PT.int IntKind.i64,
 PT.list
 (CTs.cons (CT.int IntKind.u8) (CTs.cons (CT.int IntKind.u8) (CTs.cons CT.str (CTs.cons CT.bool CTs.nil))))]
 (Option (Bool × Unit)) →
 UInt8 →
 UInt8 →
 Int64 →
 Int64 →
 Bool →
 Bool →
 List (UInt8 × UInt8 × UInt8 × List UInt8 × Int64 × Int64 × Bool) →
 Int64 →
 Int64 →
 UInt8 →
 Bool →
 Option
 (List (UInt8 × UInt8 × List UInt8 × Bool) ×
 List ((UInt8 × UInt8) × Bool) × Int64 × Int64 × Int64) →
 List Bool →
 Int64 →
 Int64 →
 Int64 →
 UInt8 →
 UInt8 →
 UInt8 →
 List UInt8 →
 Int64 →
 Int64 →
 Bool → List (UInt8 × UInt8 × List UInt8 × Bool) → Option (Bool × Unit) := fun (n : Nat)
 (J :
 Arr
 [PT.list
 (CTs.cons (CT.int IntKind.u8)
 (CTs.cons (CT.int IntKind.u8)
 (CTs.cons (CT.int IntKind.u8)
 (CTs.cons (CT.ro (CTs.cons (CT.int IntKind.u8) CTs.nil))
 (CTs.cons (CT.int IntKind.i64) (CTs.cons (CT.int IntKind.i64) (CTs.cons CT.bool CTs.nil))))))),
 PT.int IntKind.i64, PT.int IntKind.i64,
 PT.opt
 (OTs.cons
 (OT.row
 (CTs.cons (CT.int IntKind.u8)
 (CTs.cons (CT.int IntKind.u8)
 (CTs.cons (CT.ro (CTs.cons (CT.int IntKind.u8) CTs.nil)) (CTs.cons CT.bool CTs.nil)))))
 (OTs.cons
 (OT.map (VT.agg (CTs.cons (CT.int IntKind.u8) (CTs.cons (CT.int IntKind.u8) CTs.nil))) (VT.one CT.bool))
 (OTs.cons (OT.c (CT.int IntKind.i64))
 (OTs.cons (OT.c (CT.int IntKind.i64)) (OTs.cons (OT.c (CT.int IntKind.i64)) OTs.nil))))),
 PT.list1 CT.bool, PT.int IntKind.i64, PT.int IntKind.i64, PT.int IntKind.i64,
 PT.list
 (CTs.cons (CT.int IntKind.u8) (CTs.cons (CT.int IntKind.u8) (CTs.cons CT.str (CTs.cons CT.bool CTs.nil))))]
 (Option (Bool × Unit)))
 (x__5 y_5 : UInt8) (k_5 bit_5 : Int64) (in__3 right_1 : Bool)
 (t_8 : List (UInt8 × UInt8 × UInt8 × List UInt8 × Int64 × Int64 × Bool)) (t_1_6 t_2_6 : Int64) (t_3_1 : UInt8)
 (t_4_1 : Bool)
 (n__6 : Option (List (UInt8 × UInt8 × List UInt8 × Bool) × List ((UInt8 × UInt8) × Bool) × Int64 × Int64 × Int64))
 (ma_6 : List Bool) (m1_6 m2_6 m3_6 : Int64) (a0_5 a1_5 a2_5 : UInt8) (a3_5 : List UInt8) (a4_5 a5_5 : Int64)
 (a6_5 : Bool) (ml_6 : List (UInt8 × UInt8 × List UInt8 × Bool)) =>
 oite t_4_1
 (obind (F14 n (n__6, k_5))
 fun
 (x_4 :
 ((UInt8 × UInt8 × List UInt8) × Bool) ×
 Option
 (List (UInt8 × UInt8 × List UInt8 × Bool) × List ((UInt8 × UInt8) × Bool) × Int64 × Int64 × Int64)) =>
 oite (!in__3)
 (oite (Prod.snd (Prod.fst x_4)) (some (false, ()))
 (J t_8 t_1_6 t_2_6 (Prod.snd x_4) ma_6 m1_6 m2_6 m3_6 ml_6))
 (obind (F15 n (some (ml_6, ma_6, m1_6, m2_6, m3_6), k_5))
 fun
 (x_5 :
 (UInt8 × UInt8 × List UInt8 × Bool) ×
 Option (List (UInt8 × UInt8 × List UInt8 × Bool) × List Bool × Int64 × Int64 × Int64)) =>
 obind (Prod.snd x_5)
 fun (x_6 : List (UInt8 × UInt8 × List UInt8 × Bool) × List Bool × Int64 × Int64 × Int64) =>
 oite (decide ((0 : Int) ≤ ↑(UInt8.toNat (Prod.fst (Prod.fst x_5)))))
 (oite (Nat.blt (Int.toNat ↑(UInt8.toNat (Prod.fst (Prod.fst x_5)))) (32 : Nat))
 (oite
 (decide ((0 : Int) ≤ ↑(UInt8.toNat (Prod.fst (Prod.snd (Prod.fst x_5))))) &&
 Nat.blt (Int.toNat ↑(UInt8.toNat (Prod.fst (Prod.snd (Prod.fst x_5))))) (32 : Nat))
 (obind
 (Prod.fst
 (Prod.snd
 x_6))[Int.toNat ↑(UInt8.toNat (Prod.fst (Prod.fst x_5))) * (32 : Nat) +
 Int.toNat ↑(UInt8.toNat (Prod.fst (Prod.snd (Prod.fst x_5))))]?
 fun (x_7 : Bool) =>
 ojoinA (64421743 : Nat)
 [PT.bool,
 PT.list
 (CTs.cons (CT.int IntKind.u8)
 (CTs.cons (CT.int IntKind.u8)
 (CTs.cons (CT.int IntKind.u8)
 (CTs.cons (CT.ro (CTs.cons (CT.int IntKind.u8) CTs.nil))
 (CTs.cons (CT.int IntKind.i64)
 (CTs.cons (CT.int IntKind.i64) (CTs.cons CT.bool CTs.nil))))))),
 PT.int IntKind.i64, PT.int IntKind.i64,
 PT.opt
 (OTs.cons
 (OT.row
 (CTs.cons (CT.int IntKind.u8)
 (CTs.cons (CT.int IntKind.u8)
 (CTs.cons (CT.ro (CTs.cons (CT.int IntKind.u8) CTs.nil))
 (CTs.cons CT.bool CTs.nil)))))
 (OTs.cons
 (OT.map (VT.agg (CTs.cons (CT.int IntKind.u8) (CTs.cons (CT.int IntKind.u8) CTs.nil)))
 (VT.one CT.bool))
 (OTs.cons (OT.c (CT.int IntKind.i64))
 (OTs.cons (OT.c (CT.int IntKind.i64))
 (OTs.cons (OT.c (CT.int IntKind.i64)) OTs.nil))))),
 PT.list1 CT.bool, PT.int IntKind.i64, PT.int IntKind.i64, PT.int IntKind.i64,
 PT.list
 (CTs.cons (CT.int IntKind.u8)
 (CTs.cons (CT.int IntKind.u8) (CTs.cons CT.str (CTs.cons CT.bool CTs.nil))))]
 (fun
 (J_1 :
 Arr
 [PT.bool,
 PT.list
 (CTs.cons (CT.int IntKind.u8)
 (CTs.cons (CT.int IntKind.u8)
 (CTs.cons (CT.int IntKind.u8)
 (CTs.cons (CT.ro (CTs.cons (CT.int IntKind.u8) CTs.nil))
 (CTs.cons (CT.int IntKind.i64)
 (CTs.cons (CT.int IntKind.i64) (CTs.cons CT.bool CTs.nil))))))),
 PT.int IntKind.i64, PT.int IntKind.i64,
 PT.opt
 (OTs.cons
 (OT.row
 (CTs.cons (CT.int IntKind.u8)
 (CTs.cons (CT.int IntKind.u8)
 (CTs.cons (CT.ro (CTs.cons (CT.int IntKind.u8) CTs.nil))
 (CTs.cons CT.bool CTs.nil)))))
 (OTs.cons
 (OT.map
 (VT.agg (CTs.cons (CT.int IntKind.u8) (CTs.cons (CT.int IntKind.u8) CTs.nil)))
 (VT.one CT.bool))
 (OTs.cons (OT.c (CT.int IntKind.i64))
 (OTs.cons (OT.c (CT.int IntKind.i64))
 (OTs.cons (OT.c (CT.int IntKind.i64)) OTs.nil))))),
 PT.list1 CT.bool, PT.int IntKind.i64, PT.int IntKind.i64, PT.int IntKind.i64,
 PT.list
 (CTs.cons (CT.int IntKind.u8)
 (CTs.cons (CT.int IntKind.u8) (CTs.cons CT.str (CTs.cons CT.bool CTs.nil))))]
 (Option (Bool × Unit))) =>
 oite (!Prod.snd (Prod.fst x_4) == !x_7) (some (false, ()))
 (oite (Prod.snd (Prod.fst x_4))
 (oite (!decide (Prod.fst (Prod.fst (Prod.fst x_4)) = Prod.fst (Prod.fst x_5)))
 (some (false, ()))
 (oite
 (!decide
 (Prod.fst (Prod.snd (Prod.fst (Prod.fst x_4))) =
 Prod.fst (Prod.snd (Prod.fst x_5))))
 (some (false, ()))
 (oite
 (!Prod.snd (Prod.snd (Prod.fst (Prod.fst x_4))) ==
 Prod.fst (Prod.snd (Prod.snd (Prod.fst x_5))))
 (some (false, ()))
 (J_1 (!x_7) t_8 t_1_6 t_2_6 (Prod.snd x_4) (Prod.fst (Prod.snd x_6))
 (Prod.fst (Prod.snd (Prod.snd x_6))) (Prod.fst (Prod.snd (Prod.snd (Prod.snd x_6))))
 (Prod.snd (Prod.snd (Prod.snd (Prod.snd x_6)))) (Prod.fst x_6)))))
 (J_1 (!x_7) t_8 t_1_6 t_2_6 (Prod.snd x_4) (Prod.fst (Prod.snd x_6))
 (Prod.fst (Prod.snd (Prod.snd x_6))) (Prod.fst (Prod.snd (Prod.snd (Prod.snd x_6))))
 (Prod.snd (Prod.snd (Prod.snd (Prod.snd x_6)))) (Prod.fst x_6))))
 (F5_J64421743 J))
 none)
 none)
 none))
 (oite (decide (t_3_1 = (6 : UInt8)))
 (obind (F16 n (n__6, k_5))
 fun
 (x_4 :
 Bool ×
 Option
 (List (UInt8 × UInt8 × List UInt8 × Bool) × List ((UInt8 × UInt8) × Bool) × Int64 × Int64 × Int64)) =>
 oite (!Prod.fst x_4 == in__3) (some (false, ()))
 (oite in__3
 (obind (F15 n (some (ml_6, ma_6, m1_6, m2_6, m3_6), k_5))
 fun
 (x_5 :
 (UInt8 × UInt8 × List UInt8 × Bool) ×
 Option (List (UInt8 × UInt8 × List UInt8 × Bool) × List Bool × Int64 × Int64 × Int64)) =>
 obind (Prod.snd x_5)
 fun (x_6 : List (UInt8 × UInt8 × List UInt8 × Bool) × List Bool × Int64 × Int64 × Int64) =>
 J t_8 t_1_6 t_2_6 (Prod.snd x_4) (Prod.fst (Prod.snd x_6)) (Prod.fst (Prod.snd (Prod.snd x_6)))
 (Prod.fst (Prod.snd (Prod.snd (Prod.snd x_6))))
 (Prod.snd (Prod.snd (Prod.snd (Prod.snd x_6))) + (1 : Int64)) (Prod.fst x_6))
 (J t_8 t_1_6 t_2_6 (Prod.snd x_4) ma_6 m1_6 m2_6 m3_6 ml_6)))
 (oite (decide (t_3_1 = (7 : UInt8)))
 (obind (F10 n (n__6, k_5))
 fun
 (x_4 :
 Bool ×
 Option
 (List (UInt8 × UInt8 × List UInt8 × Bool) × List ((UInt8 × UInt8) × Bool) × Int64 × Int64 × Int64)) =>
 oite (!Prod.fst x_4 == in__3) (some (false, ()))
 (oite in__3
 (oite (decide ((0 : Int) ≤ Int64.toInt k_5) && Nat.blt (Int.toNat (Int64.toInt k_5)) (List.length ml_6))
 (obind ml_6[Int.toNat (Int64.toInt k_5)]? fun (x_5 : UInt8 × UInt8 × List UInt8 × Bool) =>
 oite
 (Nat.ble
 (List.length ml_6 +
 List.length
 [(Prod.fst x_5, Prod.fst (Prod.snd x_5), Prod.fst (Prod.snd (Prod.snd x_5)),
 Prod.snd (Prod.snd (Prod.snd x_5)))])
 (4294967296 : Nat))
 (J t_8 t_1_6 t_2_6 (Prod.snd x_4) ma_6 m1_6 m2_6 m3_6
 (ml_6 ++
 [(Prod.fst x_5, Prod.fst (Prod.snd x_5), Prod.fst (Prod.snd (Prod.snd x_5)),
 Prod.snd (Prod.snd (Prod.snd x_5)))]))
 none)
 none)
 (J t_8 t_1_6 t_2_6 (Prod.snd x_4) ma_6 m1_6 m2_6 m3_6 ml_6)))
 (oite (decide (t_3_1 = (8 : UInt8)))
 (ojoinA (257687038 : Nat)
 [PT.int IntKind.i64, PT.int IntKind.i64, PT.bool,
 PT.list
 (CTs.cons (CT.int IntKind.u8)
 (CTs.cons (CT.int IntKind.u8)
 (CTs.cons (CT.int IntKind.u8)
 (CTs.cons (CT.ro (CTs.cons (CT.int IntKind.u8) CTs.nil))
 (CTs.cons (CT.int IntKind.i64) (CTs.cons (CT.int IntKind.i64) (CTs.cons CT.bool CTs.nil))))))),
 PT.int IntKind.i64, PT.int IntKind.i64,
 PT.opt
 (OTs.cons
 (OT.row
 (CTs.cons (CT.int IntKind.u8)
 (CTs.cons (CT.int IntKind.u8)
 (CTs.cons (CT.ro (CTs.cons (CT.int IntKind.u8) CTs.nil)) (CTs.cons CT.bool CTs.nil)))))
 (OTs.cons
 (OT.map (VT.agg (CTs.cons (CT.int IntKind.u8) (CTs.cons (CT.int IntKind.u8) CTs.nil)))
 (VT.one CT.bool))
 (OTs.cons (OT.c (CT.int IntKind.i64))
 (OTs.cons (OT.c (CT.int IntKind.i64)) (OTs.cons (OT.c (CT.int IntKind.i64)) OTs.nil))))),
 PT.list1 CT.bool, PT.int IntKind.i64, PT.int IntKind.i64, PT.int IntKind.i64,
 PT.list
 (CTs.cons (CT.int IntKind.u8)
 (CTs.cons (CT.int IntKind.u8) (CTs.cons CT.str (CTs.cons CT.bool CTs.nil))))]
 (fun
 (J_1 :
 Arr
 [PT.int IntKind.i64, PT.int IntKind.i64, PT.bool,
 PT.list
 (CTs.cons (CT.int IntKind.u8)
 (CTs.cons (CT.int IntKind.u8)
 (CTs.cons (CT.int IntKind.u8)
 (CTs.cons (CT.ro (CTs.cons (CT.int IntKind.u8) CTs.nil))
 (CTs.cons (CT.int IntKind.i64)
 (CTs.cons (CT.int IntKind.i64) (CTs.cons CT.bool CTs.nil))))))),
 PT.int IntKind.i64, PT.int IntKind.i64,
 PT.opt
 (OTs.cons
 (OT.row
 (CTs.cons (CT.int IntKind.u8)
 (CTs.cons (CT.int IntKind.u8)
 (CTs.cons (CT.ro (CTs.cons (CT.int IntKind.u8) CTs.nil)) (CTs.cons CT.bool CTs.nil)))))
 (OTs.cons
 (OT.map (VT.agg (CTs.cons (CT.int IntKind.u8) (CTs.cons (CT.int IntKind.u8) CTs.nil)))
 (VT.one CT.bool))
 (OTs.cons (OT.c (CT.int IntKind.i64))
 (OTs.cons (OT.c (CT.int IntKind.i64)) (OTs.cons (OT.c (CT.int IntKind.i64)) OTs.nil))))),
 PT.list1 CT.bool, PT.int IntKind.i64, PT.int IntKind.i64, PT.int IntKind.i64,
 PT.list
 (CTs.cons (CT.int IntKind.u8)
 (CTs.cons (CT.int IntKind.u8) (CTs.cons CT.str (CTs.cons CT.bool CTs.nil))))]
 (Option (Bool × Unit))) =>
 oite in__3
 (oite (decide ((0 : Int) ≤ Int64.toInt k_5) && Nat.blt (Int.toNat (Int64.toInt k_5)) (List.length ml_6))
 (obind ml_6[Int.toNat (Int64.toInt k_5)]? fun (x_4 : UInt8 × UInt8 × List UInt8 × Bool) =>
 oite (!Prod.snd (Prod.snd (Prod.snd x_4)))
 (oite (decide ((0 : Int64) ≤ bit_5))
 (oite
 (decide ((0 : Int) ≤ Int64.toInt k_5) &&
 Nat.blt (Int.toNat (Int64.toInt k_5)) (List.length ml_6))
 (obind ml_6[Int.toNat (Int64.toInt k_5)]? fun (x_5 : UInt8 × UInt8 × List UInt8 × Bool) =>
 J_1 k_5 bit_5
 (decide
 (bit_5 < (8 : Int64) * Int64.ofInt ↑(List.length (Prod.fst (Prod.snd (Prod.snd x_5))))))
 t_8 t_1_6 t_2_6 n__6 ma_6 m1_6 m2_6 m3_6 ml_6)
 none)
 (J_1 k_5 bit_5 false t_8 t_1_6 t_2_6 n__6 ma_6 m1_6 m2_6 m3_6 ml_6))
 (J_1 k_5 bit_5 false t_8 t_1_6 t_2_6 n__6 ma_6 m1_6 m2_6 m3_6 ml_6))
 none)
 (J_1 k_5 bit_5 false t_8 t_1_6 t_2_6 n__6 ma_6 m1_6 m2_6 m3_6 ml_6))
 (F5_J257687038 n J))
 (oite (decide (t_3_1 = (9 : UInt8)))
 (obind (F17 n (n__6, x__5, y_5, decide (a5_5 % (2 : Int64) = (0 : Int64))))
 fun
 (x_4 :
 Int64 ×
 Option
 (List (UInt8 × UInt8 × List UInt8 × Bool) ×
 List ((UInt8 × UInt8) × Bool) × Int64 × Int64 × Int64)) =>
 ojoinA (2061496317 : Nat)
 [PT.int IntKind.u8, PT.int IntKind.u8, PT.bool,
 PT.list
 (CTs.cons (CT.int IntKind.u8)
 (CTs.cons (CT.int IntKind.u8)
 (CTs.cons (CT.int IntKind.u8)
 (CTs.cons (CT.ro (CTs.cons (CT.int IntKind.u8) CTs.nil))
 (CTs.cons (CT.int IntKind.i64)
 (CTs.cons (CT.int IntKind.i64) (CTs.cons CT.bool CTs.nil))))))),
 PT.int IntKind.i64, PT.int IntKind.i64,
 PT.opt
 (OTs.cons
 (OT.row
 (CTs.cons (CT.int IntKind.u8)
 (CTs.cons (CT.int IntKind.u8)
 (CTs.cons (CT.ro (CTs.cons (CT.int IntKind.u8) CTs.nil)) (CTs.cons CT.bool CTs.nil)))))
 (OTs.cons
 (OT.map (VT.agg (CTs.cons (CT.int IntKind.u8) (CTs.cons (CT.int IntKind.u8) CTs.nil)))
 (VT.one CT.bool))
 (OTs.cons (OT.c (CT.int IntKind.i64))
 (OTs.cons (OT.c (CT.int IntKind.i64)) (OTs.cons (OT.c (CT.int IntKind.i64)) OTs.nil))))),
 PT.list1 CT.bool, PT.int IntKind.i64, PT.int IntKind.i64, PT.int IntKind.i64, PT.int IntKind.u8,
 PT.int IntKind.u8, PT.int IntKind.u8, PT.list (CTs.cons (CT.int IntKind.u8) CTs.nil),
 PT.int IntKind.i64, PT.int IntKind.i64, PT.bool,
 PT.list
 (CTs.cons (CT.int IntKind.u8)
 (CTs.cons (CT.int IntKind.u8) (CTs.cons CT.str (CTs.cons CT.bool CTs.nil))))]
 (fun
 (J_1 :
 Arr
 [PT.int IntKind.u8, PT.int IntKind.u8, PT.bool,
 PT.list
 (CTs.cons (CT.int IntKind.u8)
 (CTs.cons (CT.int IntKind.u8)
 (CTs.cons (CT.int IntKind.u8)
 (CTs.cons (CT.ro (CTs.cons (CT.int IntKind.u8) CTs.nil))
 (CTs.cons (CT.int IntKind.i64)
 (CTs.cons (CT.int IntKind.i64) (CTs.cons CT.bool CTs.nil))))))),
 PT.int IntKind.i64, PT.int IntKind.i64,
 PT.opt
 (OTs.cons
 (OT.row
 (CTs.cons (CT.int IntKind.u8)
 (CTs.cons (CT.int IntKind.u8)
 (CTs.cons (CT.ro (CTs.cons (CT.int IntKind.u8) CTs.nil))
 (CTs.cons CT.bool CTs.nil)))))
 (OTs.cons
 (OT.map (VT.agg (CTs.cons (CT.int IntKind.u8) (CTs.cons (CT.int IntKind.u8) CTs.nil)))
 (VT.one CT.bool))
 (OTs.cons (OT.c (CT.int IntKind.i64))
 (OTs.cons (OT.c (CT.int IntKind.i64))
 (OTs.cons (OT.c (CT.int IntKind.i64)) OTs.nil))))),
 PT.list1 CT.bool, PT.int IntKind.i64, PT.int IntKind.i64, PT.int IntKind.i64,
 PT.int IntKind.u8, PT.int IntKind.u8, PT.int IntKind.u8,
 PT.list (CTs.cons (CT.int IntKind.u8) CTs.nil), PT.int IntKind.i64, PT.int IntKind.i64,
 PT.bool,
 PT.list
 (CTs.cons (CT.int IntKind.u8)
 (CTs.cons (CT.int IntKind.u8) (CTs.cons CT.str (CTs.cons CT.bool CTs.nil))))]
 (Option (Bool × Unit))) =>
 oite (!decide (Prod.fst x_4 = (0 : Int64)) == right_1) (some (false, ()))
 (oite (!right_1)
 (oite (!decide (Prod.fst x_4 = (20 : Int64))) (some (false, ()))
 (J_1 x__5 y_5 right_1 t_8 t_1_6 t_2_6 (Prod.snd x_4) ma_6 m1_6 m2_6 m3_6 a0_5 a1_5 a2_5 a3_5
 a4_5 a5_5 a6_5 ml_6))
 (J_1 x__5 y_5 right_1 t_8 t_1_6 t_2_6 (Prod.snd x_4) ma_6 m1_6 m2_6 m3_6 a0_5 a1_5 a2_5 a3_5 a4_5
 a5_5 a6_5 ml_6)))
 (F5_J2061496317 n J))
 (oite (decide (t_3_1 = (10 : UInt8)))
 (obind (F19 n n__6)
 fun
 (x_4 :
 Unit ×
 Option
 (List (UInt8 × UInt8 × List UInt8 × Bool) ×
 List ((UInt8 × UInt8) × Bool) × Int64 × Int64 × Int64)) =>
 J t_8 t_1_6 t_2_6 (Prod.snd x_4) (List.replicate (1024 : Nat) false) m1_6 m2_6 m3_6 ml_6)
 (obind (F9 n (n__6, x__5, y_5, a3_5))
 fun
 (x_4 :
 Int64 ×
 Option
 (List (UInt8 × UInt8 × List UInt8 × Bool) ×
 List ((UInt8 × UInt8) × Bool) × Int64 × Int64 × Int64)) =>
 oite (!right_1)
 (oite (!decide (Prod.fst x_4 = (20 : Int64))) (some (false, ()))
 (J t_8 t_1_6 t_2_6 (Prod.snd x_4) ma_6 m1_6 m2_6 m3_6 ml_6))
 (oite (decide ((0 : Int) ≤ ↑(UInt8.toNat x__5)))
 (oite (Nat.blt (Int.toNat ↑(UInt8.toNat x__5)) (32 : Nat))
 (oite
 (decide ((0 : Int) ≤ ↑(UInt8.toNat y_5)) && Nat.blt (Int.toNat ↑(UInt8.toNat y_5)) (32 : Nat))
 (obind ma_6[Int.toNat ↑(UInt8.toNat x__5) * (32 : Nat) + Int.toNat ↑(UInt8.toNat y_5)]?
 fun (x_5 : Bool) =>
 oite x_5
 (oite (!decide (Prod.fst x_4 = (21 : Int64))) (some (false, ()))
 (J t_8 t_1_6 t_2_6 (Prod.snd x_4) ma_6 (m1_6 + (1 : Int64)) m2_6 (m3_6 + (1 : Int64))
 ml_6))
 (oite
 (Nat.ble (List.length ml_6 + List.length [(x__5, y_5, a3_5, false)]) (4294967296 : Nat))
 (oite (!decide (Prod.fst x_4 = (0 : Int64))) (some (false, ()))
 (J t_8 t_1_6 t_2_6 (Prod.snd x_4) ma_6 (m1_6 + (1 : Int64)) m2_6 m3_6
 (ml_6 ++ [(x__5, y_5, a3_5, false)])))
 none))
 none)
 none)
 none)))))))
def F5_J125823 : Nat →
 Arr
 [PT.list
 (CTs.cons (CT.int IntKind.u8)
 (CTs.cons (CT.int IntKind.u8)
 (CTs.cons (CT.int IntKind.u8)
 (CTs.cons (CT.ro (CTs.cons (CT.int IntKind.u8) CTs.nil))
 (CTs.cons (CT.int IntKind.i64) (CTs.cons (CT.int IntKind.i64) (CTs.cons CT.bool CTs.nil))))))),
 PT.int IntKind.i64, PT.int IntKind.i64,
 PT.opt
 (OTs.cons
 (OT.row
 (CTs.cons (CT.int IntKind.u8)
 (CTs.cons (CT.int IntKind.u8)
 (CTs.cons (CT.ro (CTs.cons (CT.int IntKind.u8) CTs.nil)) (CTs.cons CT.bool CTs.nil)))))
 (OTs.cons
 (OT.map (VT.agg (CTs.cons (CT.int IntKind.u8) (CTs.cons (CT.int IntKind.u8) CTs.nil))) (VT.one CT.bool))
 (OTs.cons (OT.c (CT.int IntKind.i64))
 (OTs.cons (OT.c (CT.int IntKind.i64)) (OTs.cons (OT.c (CT.int IntKind.i64)) OTs.nil))))),
 PT.list1 CT.bool, PT.int IntKind.i64, PT.int IntKind.i64, PT.int IntKind.i64,
 PT.list
 (CTs.cons (CT.int IntKind.u8) (CTs.cons (CT.int IntKind.u8) (CTs.cons CT.str (CTs.cons CT.bool CTs.nil))))]
 (Option (Bool × Unit)) →
 UInt8 →
 UInt8 →
 Int64 →
 Int64 →
 Bool →
 Bool →
 List (UInt8 × UInt8 × UInt8 × List UInt8 × Int64 × Int64 × Bool) →
 Int64 →
 Int64 →
 Option
 (List (UInt8 × UInt8 × List UInt8 × Bool) ×
 List ((UInt8 × UInt8) × Bool) × Int64 × Int64 × Int64) →
 List Bool →
 Int64 →
 Int64 →
 Int64 →
 UInt8 →
 UInt8 →
 UInt8 →
 List UInt8 →
 Int64 →
 Int64 →
 Bool → List (UInt8 × UInt8 × List UInt8 × Bool) → Option (Bool × Unit) := fun (n : Nat)
 (rec :
 Arr
 [PT.list
 (CTs.cons (CT.int IntKind.u8)
 (CTs.cons (CT.int IntKind.u8)
 (CTs.cons (CT.int IntKind.u8)
 (CTs.cons (CT.ro (CTs.cons (CT.int IntKind.u8) CTs.nil))
 (CTs.cons (CT.int IntKind.i64) (CTs.cons (CT.int IntKind.i64) (CTs.cons CT.bool CTs.nil))))))),
 PT.int IntKind.i64, PT.int IntKind.i64,
 PT.opt
 (OTs.cons
 (OT.row
 (CTs.cons (CT.int IntKind.u8)
 (CTs.cons (CT.int IntKind.u8)
 (CTs.cons (CT.ro (CTs.cons (CT.int IntKind.u8) CTs.nil)) (CTs.cons CT.bool CTs.nil)))))
 (OTs.cons
 (OT.map (VT.agg (CTs.cons (CT.int IntKind.u8) (CTs.cons (CT.int IntKind.u8) CTs.nil))) (VT.one CT.bool))
 (OTs.cons (OT.c (CT.int IntKind.i64))
 (OTs.cons (OT.c (CT.int IntKind.i64)) (OTs.cons (OT.c (CT.int IntKind.i64)) OTs.nil))))),
 PT.list1 CT.bool, PT.int IntKind.i64, PT.int IntKind.i64, PT.int IntKind.i64,
 PT.list
 (CTs.cons (CT.int IntKind.u8) (CTs.cons (CT.int IntKind.u8) (CTs.cons CT.str (CTs.cons CT.bool CTs.nil))))]
 (Option (Bool × Unit)))
 (x__4 y_4 : UInt8) (k_4 bit_4 : Int64) (in__2 right : Bool)
 (t_7 : List (UInt8 × UInt8 × UInt8 × List UInt8 × Int64 × Int64 × Bool)) (t_1_5 t_2_5 : Int64)
 (n__5 : Option (List (UInt8 × UInt8 × List UInt8 × Bool) × List ((UInt8 × UInt8) × Bool) × Int64 × Int64 × Int64))
 (ma_5 : List Bool) (m1_5 m2_5 m3_5 : Int64) (a0_4 a1_4 a2_4 : UInt8) (a3_4 : List UInt8) (a4_4 a5_4 : Int64)
 (a6_4 : Bool) (ml_5 : List (UInt8 × UInt8 × List UInt8 × Bool)) =>
 ojoinA (251647 : Nat)
 [PT.list
 (CTs.cons (CT.int IntKind.u8)
 (CTs.cons (CT.int IntKind.u8)
 (CTs.cons (CT.int IntKind.u8)
 (CTs.cons (CT.ro (CTs.cons (CT.int IntKind.u8) CTs.nil))
 (CTs.cons (CT.int IntKind.i64) (CTs.cons (CT.int IntKind.i64) (CTs.cons CT.bool CTs.nil))))))),
 PT.int IntKind.i64, PT.int IntKind.i64,
 PT.opt
 (OTs.cons
 (OT.row
 (CTs.cons (CT.int IntKind.u8)
 (CTs.cons (CT.int IntKind.u8)
 (CTs.cons (CT.ro (CTs.cons (CT.int IntKind.u8) CTs.nil)) (CTs.cons CT.bool CTs.nil)))))
 (OTs.cons
 (OT.map (VT.agg (CTs.cons (CT.int IntKind.u8) (CTs.cons (CT.int IntKind.u8) CTs.nil))) (VT.one CT.bool))
 (OTs.cons (OT.c (CT.int IntKind.i64))
 (OTs.cons (OT.c (CT.int IntKind.i64)) (OTs.cons (OT.c (CT.int IntKind.i64)) OTs.nil))))),
 PT.list1 CT.bool, PT.int IntKind.i64, PT.int IntKind.i64, PT.int IntKind.i64,
 PT.list
 (CTs.cons (CT.int IntKind.u8) (CTs.cons (CT.int IntKind.u8) (CTs.cons CT.str (CTs.cons CT.bool CTs.nil))))]
 (fun
 (J :
 Arr
 [PT.list
 (CTs.cons (CT.int IntKind.u8)
 (CTs.cons (CT.int IntKind.u8)
 (CTs.cons (CT.int IntKind.u8)
 (CTs.cons (CT.ro (CTs.cons (CT.int IntKind.u8) CTs.nil))
 (CTs.cons (CT.int IntKind.i64) (CTs.cons (CT.int IntKind.i64) (CTs.cons CT.bool CTs.nil))))))),
 PT.int IntKind.i64, PT.int IntKind.i64,
 PT.opt
 (OTs.cons
 (OT.row
 (CTs.cons (CT.int IntKind.u8)
 (CTs.cons (CT.int IntKind.u8)
 (CTs.cons (CT.ro (CTs.cons (CT.int IntKind.u8) CTs.nil)) (CTs.cons CT.bool CTs.nil)))))
 (OTs.cons
 (OT.map (VT.agg (CTs.cons (CT.int IntKind.u8) (CTs.cons (CT.int IntKind.u8) CTs.nil)))
 (VT.one CT.bool))
 (OTs.cons (OT.c (CT.int IntKind.i64))
 (OTs.cons (OT.c (CT.int IntKind.i64)) (OTs.cons (OT.c (CT.int IntKind.i64)) OTs.nil))))),
 PT.list1 CT.bool, PT.int IntKind.i64, PT.int IntKind.i64, PT.int IntKind.i64,
 PT.list
 (CTs.cons (CT.int IntKind.u8)
 (CTs.cons (CT.int IntKind.u8) (CTs.cons CT.str (CTs.cons CT.bool CTs.nil))))]
 (Option (Bool × Unit))) =>
 ojoinA (1006589 : Nat)
 [PT.int IntKind.u8, PT.int IntKind.u8, PT.int IntKind.i64, PT.int IntKind.i64, PT.bool, PT.bool,
 PT.list
 (CTs.cons (CT.int IntKind.u8)
 (CTs.cons (CT.int IntKind.u8)
 (CTs.cons (CT.int IntKind.u8)
 (CTs.cons (CT.ro (CTs.cons (CT.int IntKind.u8) CTs.nil))
 (CTs.cons (CT.int IntKind.i64) (CTs.cons (CT.int IntKind.i64) (CTs.cons CT.bool CTs.nil))))))),
 PT.int IntKind.i64, PT.int IntKind.i64, PT.int IntKind.u8, PT.bool,
 PT.opt
 (OTs.cons
 (OT.row
 (CTs.cons (CT.int IntKind.u8)
 (CTs.cons (CT.int IntKind.u8)
 (CTs.cons (CT.ro (CTs.cons (CT.int IntKind.u8) CTs.nil)) (CTs.cons CT.bool CTs.nil)))))
 (OTs.cons
 (OT.map (VT.agg (CTs.cons (CT.int IntKind.u8) (CTs.cons (CT.int IntKind.u8) CTs.nil))) (VT.one CT.bool))
 (OTs.cons (OT.c (CT.int IntKind.i64))
 (OTs.cons (OT.c (CT.int IntKind.i64)) (OTs.cons (OT.c (CT.int IntKind.i64)) OTs.nil))))),
 PT.list1 CT.bool, PT.int IntKind.i64, PT.int IntKind.i64, PT.int IntKind.i64, PT.int IntKind.u8,
 PT.int IntKind.u8, PT.int IntKind.u8, PT.list (CTs.cons (CT.int IntKind.u8) CTs.nil), PT.int IntKind.i64,
 PT.int IntKind.i64, PT.bool,
 PT.list
 (CTs.cons (CT.int IntKind.u8) (CTs.cons (CT.int IntKind.u8) (CTs.cons CT.str (CTs.cons CT.bool CTs.nil))))]
 (fun
 (J_1 :
 Arr
 [PT.int IntKind.u8, PT.int IntKind.u8, PT.int IntKind.i64, PT.int IntKind.i64, PT.bool, PT.bool,
 PT.list
 (CTs.cons (CT.int IntKind.u8)
 (CTs.cons (CT.int IntKind.u8)
 (CTs.cons (CT.int IntKind.u8)
 (CTs.cons (CT.ro (CTs.cons (CT.int IntKind.u8) CTs.nil))
 (CTs.cons (CT.int IntKind.i64)
 (CTs.cons (CT.int IntKind.i64) (CTs.cons CT.bool CTs.nil))))))),
 PT.int IntKind.i64, PT.int IntKind.i64, PT.int IntKind.u8, PT.bool,
 PT.opt
 (OTs.cons
 (OT.row
 (CTs.cons (CT.int IntKind.u8)
 (CTs.cons (CT.int IntKind.u8)
 (CTs.cons (CT.ro (CTs.cons (CT.int IntKind.u8) CTs.nil)) (CTs.cons CT.bool CTs.nil)))))
 (OTs.cons
 (OT.map (VT.agg (CTs.cons (CT.int IntKind.u8) (CTs.cons (CT.int IntKind.u8) CTs.nil)))
 (VT.one CT.bool))
 (OTs.cons (OT.c (CT.int IntKind.i64))
 (OTs.cons (OT.c (CT.int IntKind.i64)) (OTs.cons (OT.c (CT.int IntKind.i64)) OTs.nil))))),
 PT.list1 CT.bool, PT.int IntKind.i64, PT.int IntKind.i64, PT.int IntKind.i64, PT.int IntKind.u8,
 PT.int IntKind.u8, PT.int IntKind.u8, PT.list (CTs.cons (CT.int IntKind.u8) CTs.nil),
 PT.int IntKind.i64, PT.int IntKind.i64, PT.bool,
 PT.list
 (CTs.cons (CT.int IntKind.u8)
 (CTs.cons (CT.int IntKind.u8) (CTs.cons CT.str (CTs.cons CT.bool CTs.nil))))]
 (Option (Bool × Unit))) =>
 oite (decide (a0_4 % (11 : UInt8) = (4 : UInt8)))
 (J_1 x__4 y_4 k_4 bit_4 in__2 right t_7 t_1_5 t_2_5 (a0_4 % (11 : UInt8))
 (decide (a0_4 % (11 : UInt8) = (4 : UInt8))) n__5 ma_5 m1_5 m2_5 m3_5 a0_4 a1_4 a2_4 a3_4 a4_4 a5_4 a6_4
 ml_5)
 (J_1 x__4 y_4 k_4 bit_4 in__2 right t_7 t_1_5 t_2_5 (a0_4 % (11 : UInt8))
 (decide (a0_4 % (11 : UInt8) = (5 : UInt8))) n__5 ma_5 m1_5 m2_5 m3_5 a0_4 a1_4 a2_4 a3_4 a4_4 a5_4 a6_4
 ml_5))
 (F5_J1006589 n J))
 (F5_J251647 n rec)
def F5_J62911 : Nat →
 Arr
 [PT.list
 (CTs.cons (CT.int IntKind.u8)
 (CTs.cons (CT.int IntKind.u8)
 (CTs.cons (CT.int IntKind.u8)
 (CTs.cons (CT.ro (CTs.cons (CT.int IntKind.u8) CTs.nil))
 (CTs.cons (CT.int IntKind.i64) (CTs.cons (CT.int IntKind.i64) (CTs.cons CT.bool CTs.nil))))))),
 PT.int IntKind.i64, PT.int IntKind.i64,
 PT.opt
 (OTs.cons
 (OT.row
 (CTs.cons (CT.int IntKind.u8)
 (CTs.cons (CT.int IntKind.u8)
 (CTs.cons (CT.ro (CTs.cons (CT.int IntKind.u8) CTs.nil)) (CTs.cons CT.bool CTs.nil)))))
 (OTs.cons
 (OT.map (VT.agg (CTs.cons (CT.int IntKind.u8) (CTs.cons (CT.int IntKind.u8) CTs.nil))) (VT.one CT.bool))
 (OTs.cons (OT.c (CT.int IntKind.i64))
 (OTs.cons (OT.c (CT.int IntKind.i64)) (OTs.cons (OT.c (CT.int IntKind.i64)) OTs.nil))))),
 PT.list1 CT.bool, PT.int IntKind.i64, PT.int IntKind.i64, PT.int IntKind.i64,
 PT.list
 (CTs.cons (CT.int IntKind.u8) (CTs.cons (CT.int IntKind.u8) (CTs.cons CT.str (CTs.cons CT.bool CTs.nil))))]
 (Option (Bool × Unit)) →
 UInt8 →
 UInt8 →
 Int64 →
 Int64 →
 Bool →
 List (UInt8 × UInt8 × UInt8 × List UInt8 × Int64 × Int64 × Bool) →
 Int64 →
 Int64 →
 Option
 (List (UInt8 × UInt8 × List UInt8 × Bool) ×
 List ((UInt8 × UInt8) × Bool) × Int64 × Int64 × Int64) →
 List Bool →
 Int64 →
 Int64 →
 Int64 →
 UInt8 →
 UInt8 →
 UInt8 →
 List UInt8 →
 Int64 →
 Int64 → Bool → List (UInt8 × UInt8 × List UInt8 × Bool) → Option (Bool × Unit) := fun (n : Nat)
 (rec :
 Arr
 [PT.list
 (CTs.cons (CT.int IntKind.u8)
 (CTs.cons (CT.int IntKind.u8)
 (CTs.cons (CT.int IntKind.u8)
 (CTs.cons (CT.ro (CTs.cons (CT.int IntKind.u8) CTs.nil))
 (CTs.cons (CT.int IntKind.i64) (CTs.cons (CT.int IntKind.i64) (CTs.cons CT.bool CTs.nil))))))),
 PT.int IntKind.i64, PT.int IntKind.i64,
 PT.opt
 (OTs.cons
 (OT.row
 (CTs.cons (CT.int IntKind.u8)
 (CTs.cons (CT.int IntKind.u8)
 (CTs.cons (CT.ro (CTs.cons (CT.int IntKind.u8) CTs.nil)) (CTs.cons CT.bool CTs.nil)))))
 (OTs.cons
 (OT.map (VT.agg (CTs.cons (CT.int IntKind.u8) (CTs.cons (CT.int IntKind.u8) CTs.nil))) (VT.one CT.bool))
 (OTs.cons (OT.c (CT.int IntKind.i64))
 (OTs.cons (OT.c (CT.int IntKind.i64)) (OTs.cons (OT.c (CT.int IntKind.i64)) OTs.nil))))),
 PT.list1 CT.bool, PT.int IntKind.i64, PT.int IntKind.i64, PT.int IntKind.i64,
 PT.list
 (CTs.cons (CT.int IntKind.u8) (CTs.cons (CT.int IntKind.u8) (CTs.cons CT.str (CTs.cons CT.bool CTs.nil))))]
 (Option (Bool × Unit)))
 (x__3 y_3 : UInt8) (k_3 bit_3 : Int64) (in__1 : Bool)
 (t_6 : List (UInt8 × UInt8 × UInt8 × List UInt8 × Int64 × Int64 × Bool)) (t_1_4 t_2_4 : Int64)
 (n__4 : Option (List (UInt8 × UInt8 × List UInt8 × Bool) × List ((UInt8 × UInt8) × Bool) × Int64 × Int64 × Int64))
 (ma_4 : List Bool) (m1_4 m2_4 m3_4 : Int64) (a0_3 a1_3 a2_3 : UInt8) (a3_3 : List UInt8) (a4_3 a5_3 : Int64)
 (a6_3 : Bool) (ml_4 : List (UInt8 × UInt8 × List UInt8 × Bool)) =>
 ojoinA (125823 : Nat)
 [PT.int IntKind.u8, PT.int IntKind.u8, PT.int IntKind.i64, PT.int IntKind.i64, PT.bool, PT.bool,
 PT.list
 (CTs.cons (CT.int IntKind.u8)
 (CTs.cons (CT.int IntKind.u8)
 (CTs.cons (CT.int IntKind.u8)
 (CTs.cons (CT.ro (CTs.cons (CT.int IntKind.u8) CTs.nil))
 (CTs.cons (CT.int IntKind.i64) (CTs.cons (CT.int IntKind.i64) (CTs.cons CT.bool CTs.nil))))))),
 PT.int IntKind.i64, PT.int IntKind.i64,
 PT.opt
 (OTs.cons
 (OT.row
 (CTs.cons (CT.int IntKind.u8)
 (CTs.cons (CT.int IntKind.u8)
 (CTs.cons (CT.ro (CTs.cons (CT.int IntKind.u8) CTs.nil)) (CTs.cons CT.bool CTs.nil)))))
 (OTs.cons
 (OT.map (VT.agg (CTs.cons (CT.int IntKind.u8) (CTs.cons (CT.int IntKind.u8) CTs.nil))) (VT.one CT.bool))
 (OTs.cons (OT.c (CT.int IntKind.i64))
 (OTs.cons (OT.c (CT.int IntKind.i64)) (OTs.cons (OT.c (CT.int IntKind.i64)) OTs.nil))))),
 PT.list1 CT.bool, PT.int IntKind.i64, PT.int IntKind.i64, PT.int IntKind.i64, PT.int IntKind.u8,
 PT.int IntKind.u8, PT.int IntKind.u8, PT.list (CTs.cons (CT.int IntKind.u8) CTs.nil), PT.int IntKind.i64,
 PT.int IntKind.i64, PT.bool,
 PT.list
 (CTs.cons (CT.int IntKind.u8) (CTs.cons (CT.int IntKind.u8) (CTs.cons CT.str (CTs.cons CT.bool CTs.nil))))]
 (fun
 (J :
 Arr
 [PT.int IntKind.u8, PT.int IntKind.u8, PT.int IntKind.i64, PT.int IntKind.i64, PT.bool, PT.bool,
 PT.list
 (CTs.cons (CT.int IntKind.u8)
 (CTs.cons (CT.int IntKind.u8)
 (CTs.cons (CT.int IntKind.u8)
 (CTs.cons (CT.ro (CTs.cons (CT.int IntKind.u8) CTs.nil))
 (CTs.cons (CT.int IntKind.i64) (CTs.cons (CT.int IntKind.i64) (CTs.cons CT.bool CTs.nil))))))),
 PT.int IntKind.i64, PT.int IntKind.i64,
 PT.opt
 (OTs.cons
 (OT.row
 (CTs.cons (CT.int IntKind.u8)
 (CTs.cons (CT.int IntKind.u8)
 (CTs.cons (CT.ro (CTs.cons (CT.int IntKind.u8) CTs.nil)) (CTs.cons CT.bool CTs.nil)))))
 (OTs.cons
 (OT.map (VT.agg (CTs.cons (CT.int IntKind.u8) (CTs.cons (CT.int IntKind.u8) CTs.nil)))
 (VT.one CT.bool))
 (OTs.cons (OT.c (CT.int IntKind.i64))
 (OTs.cons (OT.c (CT.int IntKind.i64)) (OTs.cons (OT.c (CT.int IntKind.i64)) OTs.nil))))),
 PT.list1 CT.bool, PT.int IntKind.i64, PT.int IntKind.i64, PT.int IntKind.i64, PT.int IntKind.u8,
 PT.int IntKind.u8, PT.int IntKind.u8, PT.list (CTs.cons (CT.int IntKind.u8) CTs.nil), PT.int IntKind.i64,
 PT.int IntKind.i64, PT.bool,
 PT.list
 (CTs.cons (CT.int IntKind.u8)
 (CTs.cons (CT.int IntKind.u8) (CTs.cons CT.str (CTs.cons CT.bool CTs.nil))))]
 (Option (Bool × Unit))) =>
 oite (decide (x__3 < (32 : UInt8)))
 (oite (decide (y_3 < (32 : UInt8)))
 (J x__3 y_3 k_3 bit_3 in__1 (!decide (x__3 = y_3)) t_6 t_1_4 t_2_4 n__4 ma_4 m1_4 m2_4 m3_4 a0_3 a1_3 a2_3
 a3_3 a4_3 a5_3 a6_3 ml_4)
 (J x__3 y_3 k_3 bit_3 in__1 false t_6 t_1_4 t_2_4 n__4 ma_4 m1_4 m2_4 m3_4 a0_3 a1_3 a2_3 a3_3 a4_3 a5_3 a6_3
 ml_4))
 (J x__3 y_3 k_3 bit_3 in__1 false t_6 t_1_4 t_2_4 n__4 ma_4 m1_4 m2_4 m3_4 a0_3 a1_3 a2_3 a3_3 a4_3 a5_3 a6_3
 ml_4))
 (F5_J125823 n rec)
def F5_J31455 : Nat →
 Arr
 [PT.list
 (CTs.cons (CT.int IntKind.u8)
 (CTs.cons (CT.int IntKind.u8)
 (CTs.cons (CT.int IntKind.u8)
 (CTs.cons (CT.ro (CTs.cons (CT.int IntKind.u8) CTs.nil))
 (CTs.cons (CT.int IntKind.i64) (CTs.cons (CT.int IntKind.i64) (CTs.cons CT.bool CTs.nil))))))),
 PT.int IntKind.i64, PT.int IntKind.i64,
 PT.opt
 (OTs.cons
 (OT.row
 (CTs.cons (CT.int IntKind.u8)
 (CTs.cons (CT.int IntKind.u8)
 (CTs.cons (CT.ro (CTs.cons (CT.int IntKind.u8) CTs.nil)) (CTs.cons CT.bool CTs.nil)))))
 (OTs.cons
 (OT.map (VT.agg (CTs.cons (CT.int IntKind.u8) (CTs.cons (CT.int IntKind.u8) CTs.nil))) (VT.one CT.bool))
 (OTs.cons (OT.c (CT.int IntKind.i64))
 (OTs.cons (OT.c (CT.int IntKind.i64)) (OTs.cons (OT.c (CT.int IntKind.i64)) OTs.nil))))),
 PT.list1 CT.bool, PT.int IntKind.i64, PT.int IntKind.i64, PT.int IntKind.i64,
 PT.list
 (CTs.cons (CT.int IntKind.u8) (CTs.cons (CT.int IntKind.u8) (CTs.cons CT.str (CTs.cons CT.bool CTs.nil))))]
 (Option (Bool × Unit)) →
 UInt8 →
 UInt8 →
 Int64 →
 Int64 →
 Bool →
 List (UInt8 × UInt8 × UInt8 × List UInt8 × Int64 × Int64 × Bool) →
 Int64 →
 Int64 →
 Option
 (List (UInt8 × UInt8 × List UInt8 × Bool) ×
 List ((UInt8 × UInt8) × Bool) × Int64 × Int64 × Int64) →
 List Bool →
 Int64 →
 Int64 →
 Int64 →
 UInt8 →
 UInt8 →
 UInt8 →
 List UInt8 →
 Int64 →
 Int64 → Bool → List (UInt8 × UInt8 × List UInt8 × Bool) → Option (Bool × Unit) := fun (n : Nat)
 (rec :
 Arr
 [PT.list
 (CTs.cons (CT.int IntKind.u8)
 (CTs.cons (CT.int IntKind.u8)
 (CTs.cons (CT.int IntKind.u8)
 (CTs.cons (CT.ro (CTs.cons (CT.int IntKind.u8) CTs.nil))
 (CTs.cons (CT.int IntKind.i64) (CTs.cons (CT.int IntKind.i64) (CTs.cons CT.bool CTs.nil))))))),
 PT.int IntKind.i64, PT.int IntKind.i64,
 PT.opt
 (OTs.cons
 (OT.row
 (CTs.cons (CT.int IntKind.u8)
 (CTs.cons (CT.int IntKind.u8)
 (CTs.cons (CT.ro (CTs.cons (CT.int IntKind.u8) CTs.nil)) (CTs.cons CT.bool CTs.nil)))))
 (OTs.cons
 (OT.map (VT.agg (CTs.cons (CT.int IntKind.u8) (CTs.cons (CT.int IntKind.u8) CTs.nil))) (VT.one CT.bool))
 (OTs.cons (OT.c (CT.int IntKind.i64))
 (OTs.cons (OT.c (CT.int IntKind.i64)) (OTs.cons (OT.c (CT.int IntKind.i64)) OTs.nil))))),
 PT.list1 CT.bool, PT.int IntKind.i64, PT.int IntKind.i64, PT.int IntKind.i64,
 PT.list
 (CTs.cons (CT.int IntKind.u8) (CTs.cons (CT.int IntKind.u8) (CTs.cons CT.str (CTs.cons CT.bool CTs.nil))))]
 (Option (Bool × Unit)))
 (x__2 y_2 : UInt8) (k_2 bit_2 : Int64) (in_ : Bool)
 (t_5 : List (UInt8 × UInt8 × UInt8 × List UInt8 × Int64 × Int64 × Bool)) (t_1_3 t_2_3 : Int64)
 (n__3 : Option (List (UInt8 × UInt8 × List UInt8 × Bool) × List ((UInt8 × UInt8) × Bool) × Int64 × Int64 × Int64))
 (ma_3 : List Bool) (m1_3 m2_3 m3_3 : Int64) (a0_2 a1_2 a2_2 : UInt8) (a3_2 : List UInt8) (a4_2 a5_2 : Int64)
 (a6_2 : Bool) (ml_3 : List (UInt8 × UInt8 × List UInt8 × Bool)) =>
 ojoinA (62911 : Nat)
 [PT.int IntKind.u8, PT.int IntKind.u8, PT.int IntKind.i64, PT.int IntKind.i64, PT.bool,
 PT.list
 (CTs.cons (CT.int IntKind.u8)
 (CTs.cons (CT.int IntKind.u8)
 (CTs.cons (CT.int IntKind.u8)
 (CTs.cons (CT.ro (CTs.cons (CT.int IntKind.u8) CTs.nil))
 (CTs.cons (CT.int IntKind.i64) (CTs.cons (CT.int IntKind.i64) (CTs.cons CT.bool CTs.nil))))))),
 PT.int IntKind.i64, PT.int IntKind.i64,
 PT.opt
 (OTs.cons
 (OT.row
 (CTs.cons (CT.int IntKind.u8)
 (CTs.cons (CT.int IntKind.u8)
 (CTs.cons (CT.ro (CTs.cons (CT.int IntKind.u8) CTs.nil)) (CTs.cons CT.bool CTs.nil)))))
 (OTs.cons
 (OT.map (VT.agg (CTs.cons (CT.int IntKind.u8) (CTs.cons (CT.int IntKind.u8) CTs.nil))) (VT.one CT.bool))
 (OTs.cons (OT.c (CT.int IntKind.i64))
 (OTs.cons (OT.c (CT.int IntKind.i64)) (OTs.cons (OT.c (CT.int IntKind.i64)) OTs.nil))))),
 PT.list1 CT.bool, PT.int IntKind.i64, PT.int IntKind.i64, PT.int IntKind.i64, PT.int IntKind.u8,
 PT.int IntKind.u8, PT.int IntKind.u8, PT.list (CTs.cons (CT.int IntKind.u8) CTs.nil), PT.int IntKind.i64,
 PT.int IntKind.i64, PT.bool,
 PT.list
 (CTs.cons (CT.int IntKind.u8) (CTs.cons (CT.int IntKind.u8) (CTs.cons CT.str (CTs.cons CT.bool CTs.nil))))]
 (fun
 (J :
 Arr
 [PT.int IntKind.u8, PT.int IntKind.u8, PT.int IntKind.i64, PT.int IntKind.i64, PT.bool,
 PT.list
 (CTs.cons (CT.int IntKind.u8)
 (CTs.cons (CT.int IntKind.u8)
 (CTs.cons (CT.int IntKind.u8)
 (CTs.cons (CT.ro (CTs.cons (CT.int IntKind.u8) CTs.nil))
 (CTs.cons (CT.int IntKind.i64) (CTs.cons (CT.int IntKind.i64) (CTs.cons CT.bool CTs.nil))))))),
 PT.int IntKind.i64, PT.int IntKind.i64,
 PT.opt
 (OTs.cons
 (OT.row
 (CTs.cons (CT.int IntKind.u8)
 (CTs.cons (CT.int IntKind.u8)
 (CTs.cons (CT.ro (CTs.cons (CT.int IntKind.u8) CTs.nil)) (CTs.cons CT.bool CTs.nil)))))
 (OTs.cons
 (OT.map (VT.agg (CTs.cons (CT.int IntKind.u8) (CTs.cons (CT.int IntKind.u8) CTs.nil)))
 (VT.one CT.bool))
 (OTs.cons (OT.c (CT.int IntKind.i64))
 (OTs.cons (OT.c (CT.int IntKind.i64)) (OTs.cons (OT.c (CT.int IntKind.i64)) OTs.nil))))),
 PT.list1 CT.bool, PT.int IntKind.i64, PT.int IntKind.i64, PT.int IntKind.i64, PT.int IntKind.u8,
 PT.int IntKind.u8, PT.int IntKind.u8, PT.list (CTs.cons (CT.int IntKind.u8) CTs.nil), PT.int IntKind.i64,
 PT.int IntKind.i64, PT.bool,
 PT.list
 (CTs.cons (CT.int IntKind.u8)
 (CTs.cons (CT.int IntKind.u8) (CTs.cons CT.str (CTs.cons CT.bool CTs.nil))))]
 (Option (Bool × Unit))) =>
 oite in_
 (oite (!a6_2)
 (oite (decide ((0 : Int) ≤ Int64.toInt k_2) && Nat.blt (Int.toNat (Int64.toInt k_2)) (List.length ml_3))
 (obind ml_3[Int.toNat (Int64.toInt k_2)]? fun (x_4 : UInt8 × UInt8 × List UInt8 × Bool) =>
 oite (decide ((0 : Int64) < Int64.ofInt ↑(List.length (Prod.fst (Prod.snd (Prod.snd x_4))))))
 (oite (decide ((0 : Int) ≤ Int64.toInt k_2) && Nat.blt (Int.toNat (Int64.toInt k_2)) (List.length ml_3))
 (obind ml_3[Int.toNat (Int64.toInt k_2)]? fun (x_5 : UInt8 × UInt8 × List UInt8 × Bool) =>
 oite
 (decide
 (UInt64.ofInt
 (Int64.toInt
 ((8 : Int64) * Int64.ofInt ↑(List.length (Prod.fst (Prod.snd (Prod.snd x_5)))))) =
 (0 : UInt64)))
 none
 (J x__2 y_2 k_2
 (Int64.ofInt
 ↑(UInt64.toNat
 (UInt64.ofInt (Int64.toInt bit_2) %
 UInt64.ofInt
 (Int64.toInt
 ((8 : Int64) * Int64.ofInt ↑(List.length (Prod.fst (Prod.snd (Prod.snd x_5)))))))))
 in_ t_5 t_1_3 t_2_3 n__3 ma_3 m1_3 m2_3 m3_3 a0_2 a1_2 a2_2 a3_2 a4_2 a5_2 a6_2 ml_3))
 none)
 (J x__2 y_2 k_2 bit_2 in_ t_5 t_1_3 t_2_3 n__3 ma_3 m1_3 m2_3 m3_3 a0_2 a1_2 a2_2 a3_2 a4_2 a5_2 a6_2
 ml_3))
 none)
 (J x__2 y_2 k_2 bit_2 in_ t_5 t_1_3 t_2_3 n__3 ma_3 m1_3 m2_3 m3_3 a0_2 a1_2 a2_2 a3_2 a4_2 a5_2 a6_2 ml_3))
 (J x__2 y_2 k_2 bit_2 in_ t_5 t_1_3 t_2_3 n__3 ma_3 m1_3 m2_3 m3_3 a0_2 a1_2 a2_2 a3_2 a4_2 a5_2 a6_2 ml_3))
 (F5_J62911 n rec)
def F5_J15727 : Nat →
 Arr
 [PT.list
 (CTs.cons (CT.int IntKind.u8)
 (CTs.cons (CT.int IntKind.u8)
 (CTs.cons (CT.int IntKind.u8)
 (CTs.cons (CT.ro (CTs.cons (CT.int IntKind.u8) CTs.nil))
 (CTs.cons (CT.int IntKind.i64) (CTs.cons (CT.int IntKind.i64) (CTs.cons CT.bool CTs.nil))))))),
 PT.int IntKind.i64, PT.int IntKind.i64,
 PT.opt
 (OTs.cons
 (OT.row
 (CTs.cons (CT.int IntKind.u8)
 (CTs.cons (CT.int IntKind.u8)
 (CTs.cons (CT.ro (CTs.cons (CT.int IntKind.u8) CTs.nil)) (CTs.cons CT.bool CTs.nil)))))
 (OTs.cons
 (OT.map (VT.agg (CTs.cons (CT.int IntKind.u8) (CTs.cons (CT.int IntKind.u8) CTs.nil))) (VT.one CT.bool))
 (OTs.cons (OT.c (CT.int IntKind.i64))
 (OTs.cons (OT.c (CT.int IntKind.i64)) (OTs.cons (OT.c (CT.int IntKind.i64)) OTs.nil))))),
 PT.list1 CT.bool, PT.int IntKind.i64, PT.int IntKind.i64, PT.int IntKind.i64,
 PT.list
 (CTs.cons (CT.int IntKind.u8) (CTs.cons (CT.int IntKind.u8) (CTs.cons CT.str (CTs.cons CT.bool CTs.nil))))]
 (Option (Bool × Unit)) →
 UInt8 →
 UInt8 →
 Int64 →
 Int64 →
 List (UInt8 × UInt8 × UInt8 × List UInt8 × Int64 × Int64 × Bool) →
 Int64 →
 Int64 →
 Option
 (List (UInt8 × UInt8 × List UInt8 × Bool) ×
 List ((UInt8 × UInt8) × Bool) × Int64 × Int64 × Int64) →
 List Bool →
 Int64 →
 Int64 →
 Int64 →
 UInt8 →
 UInt8 →
 UInt8 →
 List UInt8 →
 Int64 →
 Int64 → Bool → List (UInt8 × UInt8 × List UInt8 × Bool) → Option (Bool × Unit) := fun (n : Nat)
 (rec :
 Arr
 [PT.list
 (CTs.cons (CT.int IntKind.u8)
 (CTs.cons (CT.int IntKind.u8)
 (CTs.cons (CT.int IntKind.u8)
 (CTs.cons (CT.ro (CTs.cons (CT.int IntKind.u8) CTs.nil))
 (CTs.cons (CT.int IntKind.i64) (CTs.cons (CT.int IntKind.i64) (CTs.cons CT.bool CTs.nil))))))),
 PT.int IntKind.i64, PT.int IntKind.i64,
 PT.opt
 (OTs.cons
 (OT.row
 (CTs.cons (CT.int IntKind.u8)
 (CTs.cons (CT.int IntKind.u8)
 (CTs.cons (CT.ro (CTs.cons (CT.int IntKind.u8) CTs.nil)) (CTs.cons CT.bool CTs.nil)))))
 (OTs.cons
 (OT.map (VT.agg (CTs.cons (CT.int IntKind.u8) (CTs.cons (CT.int IntKind.u8) CTs.nil))) (VT.one CT.bool))
 (OTs.cons (OT.c (CT.int IntKind.i64))
 (OTs.cons (OT.c (CT.int IntKind.i64)) (OTs.cons (OT.c (CT.int IntKind.i64)) OTs.nil))))),
 PT.list1 CT.bool, PT.int IntKind.i64, PT.int IntKind.i64, PT.int IntKind.i64,
 PT.list
 (CTs.cons (CT.int IntKind.u8) (CTs.cons (CT.int IntKind.u8) (CTs.cons CT.str (CTs.cons CT.bool CTs.nil))))]
 (Option (Bool × Unit)))
 (x__1 y_1 : UInt8) (k_1 bit_1 : Int64) (t_4 : List (UInt8 × UInt8 × UInt8 × List UInt8 × Int64 × Int64 × Bool))
 (t_1_2 t_2_2 : Int64)
 (n__2 : Option (List (UInt8 × UInt8 × List UInt8 × Bool) × List ((UInt8 × UInt8) × Bool) × Int64 × Int64 × Int64))
 (ma_2 : List Bool) (m1_2 m2_2 m3_2 : Int64) (a0_1 a1_1 a2_1 : UInt8) (a3_1 : List UInt8) (a4_1 a5_1 : Int64)
 (a6_1 : Bool) (ml_2 : List (UInt8 × UInt8 × List UInt8 × Bool)) =>
 ojoinA (31455 : Nat)
 [PT.int IntKind.u8, PT.int IntKind.u8, PT.int IntKind.i64, PT.int IntKind.i64, PT.bool,
 PT.list
 (CTs.cons (CT.int IntKind.u8)
 (CTs.cons (CT.int IntKind.u8)
 (CTs.cons (CT.int IntKind.u8)
 (CTs.cons (CT.ro (CTs.cons (CT.int IntKind.u8) CTs.nil))
 (CTs.cons (CT.int IntKind.i64) (CTs.cons (CT.int IntKind.i64) (CTs.cons CT.bool CTs.nil))))))),
 PT.int IntKind.i64, PT.int IntKind.i64,
 PT.opt
 (OTs.cons
 (OT.row
 (CTs.cons (CT.int IntKind.u8)
 (CTs.cons (CT.int IntKind.u8)
 (CTs.cons (CT.ro (CTs.cons (CT.int IntKind.u8) CTs.nil)) (CTs.cons CT.bool CTs.nil)))))
 (OTs.cons
 (OT.map (VT.agg (CTs.cons (CT.int IntKind.u8) (CTs.cons (CT.int IntKind.u8) CTs.nil))) (VT.one CT.bool))
 (OTs.cons (OT.c (CT.int IntKind.i64))
 (OTs.cons (OT.c (CT.int IntKind.i64)) (OTs.cons (OT.c (CT.int IntKind.i64)) OTs.nil))))),
 PT.list1 CT.bool, PT.int IntKind.i64, PT.int IntKind.i64, PT.int IntKind.i64, PT.int IntKind.u8,
 PT.int IntKind.u8, PT.int IntKind.u8, PT.list (CTs.cons (CT.int IntKind.u8) CTs.nil), PT.int IntKind.i64,
 PT.int IntKind.i64, PT.bool,
 PT.list
 (CTs.cons (CT.int IntKind.u8) (CTs.cons (CT.int IntKind.u8) (CTs.cons CT.str (CTs.cons CT.bool CTs.nil))))]
 (fun
 (J :
 Arr
 [PT.int IntKind.u8, PT.int IntKind.u8, PT.int IntKind.i64, PT.int IntKind.i64, PT.bool,
 PT.list
 (CTs.cons (CT.int IntKind.u8)
 (CTs.cons (CT.int IntKind.u8)
 (CTs.cons (CT.int IntKind.u8)
 (CTs.cons (CT.ro (CTs.cons (CT.int IntKind.u8) CTs.nil))
 (CTs.cons (CT.int IntKind.i64) (CTs.cons (CT.int IntKind.i64) (CTs.cons CT.bool CTs.nil))))))),
 PT.int IntKind.i64, PT.int IntKind.i64,
 PT.opt
 (OTs.cons
 (OT.row
 (CTs.cons (CT.int IntKind.u8)
 (CTs.cons (CT.int IntKind.u8)
 (CTs.cons (CT.ro (CTs.cons (CT.int IntKind.u8) CTs.nil)) (CTs.cons CT.bool CTs.nil)))))
 (OTs.cons
 (OT.map (VT.agg (CTs.cons (CT.int IntKind.u8) (CTs.cons (CT.int IntKind.u8) CTs.nil)))
 (VT.one CT.bool))
 (OTs.cons (OT.c (CT.int IntKind.i64))
 (OTs.cons (OT.c (CT.int IntKind.i64)) (OTs.cons (OT.c (CT.int IntKind.i64)) OTs.nil))))),
 PT.list1 CT.bool, PT.int IntKind.i64, PT.int IntKind.i64, PT.int IntKind.i64, PT.int IntKind.u8,
 PT.int IntKind.u8, PT.int IntKind.u8, PT.list (CTs.cons (CT.int IntKind.u8) CTs.nil), PT.int IntKind.i64,
 PT.int IntKind.i64, PT.bool,
 PT.list
 (CTs.cons (CT.int IntKind.u8)
 (CTs.cons (CT.int IntKind.u8) (CTs.cons CT.str (CTs.cons CT.bool CTs.nil))))]
 (Option (Bool × Unit))) =>
 oite (decide ((0 : Int64) ≤ k_1))
 (J x__1 y_1 k_1 bit_1 (decide (k_1 < Int64.ofInt ↑(List.length ml_2))) t_4 t_1_2 t_2_2 n__2 ma_2 m1_2 m2_2 m3_2
 a0_1 a1_1 a2_1 a3_1 a4_1 a5_1 a6_1 ml_2)
 (J x__1 y_1 k_1 bit_1 false t_4 t_1_2 t_2_2 n__2 ma_2 m1_2 m2_2 m3_2 a0_1 a1_1 a2_1 a3_1 a4_1 a5_1 a6_1 ml_2))
 (F5_J31455 n rec)
def F5_J7863 : Nat →
 Arr
 [PT.list
 (CTs.cons (CT.int IntKind.u8)
 (CTs.cons (CT.int IntKind.u8)
 (CTs.cons (CT.int IntKind.u8)
 (CTs.cons (CT.ro (CTs.cons (CT.int IntKind.u8) CTs.nil))
 (CTs.cons (CT.int IntKind.i64) (CTs.cons (CT.int IntKind.i64) (CTs.cons CT.bool CTs.nil))))))),
 PT.int IntKind.i64, PT.int IntKind.i64,
 PT.opt
 (OTs.cons
 (OT.row
 (CTs.cons (CT.int IntKind.u8)
 (CTs.cons (CT.int IntKind.u8)
 (CTs.cons (CT.ro (CTs.cons (CT.int IntKind.u8) CTs.nil)) (CTs.cons CT.bool CTs.nil)))))
 (OTs.cons
 (OT.map (VT.agg (CTs.cons (CT.int IntKind.u8) (CTs.cons (CT.int IntKind.u8) CTs.nil))) (VT.one CT.bool))
 (OTs.cons (OT.c (CT.int IntKind.i64))
 (OTs.cons (OT.c (CT.int IntKind.i64)) (OTs.cons (OT.c (CT.int IntKind.i64)) OTs.nil))))),
 PT.list1 CT.bool, PT.int IntKind.i64, PT.int IntKind.i64, PT.int IntKind.i64,
 PT.list
 (CTs.cons (CT.int IntKind.u8) (CTs.cons (CT.int IntKind.u8) (CTs.cons CT.str (CTs.cons CT.bool CTs.nil))))]
 (Option (Bool × Unit)) →
 UInt8 →
 UInt8 →
 Int64 →
 Int64 →
 List (UInt8 × UInt8 × UInt8 × List UInt8 × Int64 × Int64 × Bool) →
 Int64 →
 Int64 →
 Option
 (List (UInt8 × UInt8 × List UInt8 × Bool) ×
 List ((UInt8 × UInt8) × Bool) × Int64 × Int64 × Int64) →
 List Bool →
 Int64 →
 Int64 →
 Int64 →
 UInt8 →
 UInt8 →
 UInt8 →
 List UInt8 →
 Int64 →
 Int64 → Bool → List (UInt8 × UInt8 × List UInt8 × Bool) → Option (Bool × Unit) := fun (n : Nat)
 (rec :
 Arr
 [PT.list
 (CTs.cons (CT.int IntKind.u8)
 (CTs.cons (CT.int IntKind.u8)
 (CTs.cons (CT.int IntKind.u8)
 (CTs.cons (CT.ro (CTs.cons (CT.int IntKind.u8) CTs.nil))
 (CTs.cons (CT.int IntKind.i64) (CTs.cons (CT.int IntKind.i64) (CTs.cons CT.bool CTs.nil))))))),
 PT.int IntKind.i64, PT.int IntKind.i64,
 PT.opt
 (OTs.cons
 (OT.row
 (CTs.cons (CT.int IntKind.u8)
 (CTs.cons (CT.int IntKind.u8)
 (CTs.cons (CT.ro (CTs.cons (CT.int IntKind.u8) CTs.nil)) (CTs.cons CT.bool CTs.nil)))))
 (OTs.cons
 (OT.map (VT.agg (CTs.cons (CT.int IntKind.u8) (CTs.cons (CT.int IntKind.u8) CTs.nil))) (VT.one CT.bool))
 (OTs.cons (OT.c (CT.int IntKind.i64))
 (OTs.cons (OT.c (CT.int IntKind.i64)) (OTs.cons (OT.c (CT.int IntKind.i64)) OTs.nil))))),
 PT.list1 CT.bool, PT.int IntKind.i64, PT.int IntKind.i64, PT.int IntKind.i64,
 PT.list
 (CTs.cons (CT.int IntKind.u8) (CTs.cons (CT.int IntKind.u8) (CTs.cons CT.str (CTs.cons CT.bool CTs.nil))))]
 (Option (Bool × Unit)))
 (x_ y : UInt8) (k bit : Int64) (t_3 : List (UInt8 × UInt8 × UInt8 × List UInt8 × Int64 × Int64 × Bool))
 (t_1_1 t_2_1 : Int64)
 (n__1 : Option (List (UInt8 × UInt8 × List UInt8 × Bool) × List ((UInt8 × UInt8) × Bool) × Int64 × Int64 × Int64))
 (ma_1 : List Bool) (m1_1 m2_1 m3_1 : Int64) (a0 a1 a2 : UInt8) (a3 : List UInt8) (a4 a5 : Int64) (a6 : Bool)
 (ml_1 : List (UInt8 × UInt8 × List UInt8 × Bool)) =>
 ojoinA (15727 : Nat)
 [PT.int IntKind.u8, PT.int IntKind.u8, PT.int IntKind.i64, PT.int IntKind.i64,
 PT.list
 (CTs.cons (CT.int IntKind.u8)
 (CTs.cons (CT.int IntKind.u8)
 (CTs.cons (CT.int IntKind.u8)
 (CTs.cons (CT.ro (CTs.cons (CT.int IntKind.u8) CTs.nil))
 (CTs.cons (CT.int IntKind.i64) (CTs.cons (CT.int IntKind.i64) (CTs.cons CT.bool CTs.nil))))))),
 PT.int IntKind.i64, PT.int IntKind.i64,
 PT.opt
 (OTs.cons
 (OT.row
 (CTs.cons (CT.int IntKind.u8)
 (CTs.cons (CT.int IntKind.u8)
 (CTs.cons (CT.ro (CTs.cons (CT.int IntKind.u8) CTs.nil)) (CTs.cons CT.bool CTs.nil)))))
 (OTs.cons
 (OT.map (VT.agg (CTs.cons (CT.int IntKind.u8) (CTs.cons (CT.int IntKind.u8) CTs.nil))) (VT.one CT.bool))
 (OTs.cons (OT.c (CT.int IntKind.i64))
 (OTs.cons (OT.c (CT.int IntKind.i64)) (OTs.cons (OT.c (CT.int IntKind.i64)) OTs.nil))))),
 PT.list1 CT.bool, PT.int IntKind.i64, PT.int IntKind.i64, PT.int IntKind.i64, PT.int IntKind.u8,
 PT.int IntKind.u8, PT.int IntKind.u8, PT.list (CTs.cons (CT.int IntKind.u8) CTs.nil), PT.int IntKind.i64,
 PT.int IntKind.i64, PT.bool,
 PT.list
 (CTs.cons (CT.int IntKind.u8) (CTs.cons (CT.int IntKind.u8) (CTs.cons CT.str (CTs.cons CT.bool CTs.nil))))]
 (fun
 (J :
 Arr
 [PT.int IntKind.u8, PT.int IntKind.u8, PT.int IntKind.i64, PT.int IntKind.i64,
 PT.list
 (CTs.cons (CT.int IntKind.u8)
 (CTs.cons (CT.int IntKind.u8)
 (CTs.cons (CT.int IntKind.u8)
 (CTs.cons (CT.ro (CTs.cons (CT.int IntKind.u8) CTs.nil))
 (CTs.cons (CT.int IntKind.i64) (CTs.cons (CT.int IntKind.i64) (CTs.cons CT.bool CTs.nil))))))),
 PT.int IntKind.i64, PT.int IntKind.i64,
 PT.opt
 (OTs.cons
 (OT.row
 (CTs.cons (CT.int IntKind.u8)
 (CTs.cons (CT.int IntKind.u8)
 (CTs.cons (CT.ro (CTs.cons (CT.int IntKind.u8) CTs.nil)) (CTs.cons CT.bool CTs.nil)))))
 (OTs.cons
 (OT.map (VT.agg (CTs.cons (CT.int IntKind.u8) (CTs.cons (CT.int IntKind.u8) CTs.nil)))
 (VT.one CT.bool))
 (OTs.cons (OT.c (CT.int IntKind.i64))
 (OTs.cons (OT.c (CT.int IntKind.i64)) (OTs.cons (OT.c (CT.int IntKind.i64)) OTs.nil))))),
 PT.list1 CT.bool, PT.int IntKind.i64, PT.int IntKind.i64, PT.int IntKind.i64, PT.int IntKind.u8,
 PT.int IntKind.u8, PT.int IntKind.u8, PT.list (CTs.cons (CT.int IntKind.u8) CTs.nil), PT.int IntKind.i64,
 PT.int IntKind.i64, PT.bool,
 PT.list
 (CTs.cons (CT.int IntKind.u8)
 (CTs.cons (CT.int IntKind.u8) (CTs.cons CT.str (CTs.cons CT.bool CTs.nil))))]
 (Option (Bool × Unit))) =>
 oite a6 (J a1 a2 a4 bit t_3 t_1_1 t_2_1 n__1 ma_1 m1_1 m2_1 m3_1 a0 a1 a2 a3 a4 a5 a6 ml_1)
 (J x_ y k bit t_3 t_1_1 t_2_1 n__1 ma_1 m1_1 m2_1 m3_1 a0 a1 a2 a3 a4 a5 a6 ml_1))
 (F5_J15727 n rec)
def F5_L61 : Nat →
 Arr
 [PT.list
 (CTs.cons (CT.int IntKind.u8)
 (CTs.cons (CT.int IntKind.u8)
 (CTs.cons (CT.int IntKind.u8)
 (CTs.cons (CT.ro (CTs.cons (CT.int IntKind.u8) CTs.nil))
 (CTs.cons (CT.int IntKind.i64) (CTs.cons (CT.int IntKind.i64) (CTs.cons CT.bool CTs.nil))))))),
 PT.int IntKind.i64, PT.int IntKind.i64,
 PT.opt
 (OTs.cons
 (OT.row
 (CTs.cons (CT.int IntKind.u8)
 (CTs.cons (CT.int IntKind.u8)
 (CTs.cons (CT.ro (CTs.cons (CT.int IntKind.u8) CTs.nil)) (CTs.cons CT.bool CTs.nil)))))
 (OTs.cons
 (OT.map (VT.agg (CTs.cons (CT.int IntKind.u8) (CTs.cons (CT.int IntKind.u8) CTs.nil))) (VT.one CT.bool))
 (OTs.cons (OT.c (CT.int IntKind.i64))
 (OTs.cons (OT.c (CT.int IntKind.i64)) (OTs.cons (OT.c (CT.int IntKind.i64)) OTs.nil))))),
 PT.list1 CT.bool, PT.int IntKind.i64, PT.int IntKind.i64, PT.int IntKind.i64,
 PT.list
 (CTs.cons (CT.int IntKind.u8) (CTs.cons (CT.int IntKind.u8) (CTs.cons CT.str (CTs.cons CT.bool CTs.nil))))]
 (Option (Bool × Unit)) →
 List (UInt8 × UInt8 × UInt8 × List UInt8 × Int64 × Int64 × Bool) →
 Int64 →
 Int64 →
 Option (List (UInt8 × UInt8 × List UInt8 × Bool) × List ((UInt8 × UInt8) × Bool) × Int64 × Int64 × Int64) →
 List Bool → Int64 → Int64 → Int64 → List (UInt8 × UInt8 × List UInt8 × Bool) → Option (Bool × Unit) := fun (n : Nat)
 (rec :
 Arr
 [PT.list
 (CTs.cons (CT.int IntKind.u8)
 (CTs.cons (CT.int IntKind.u8)
 (CTs.cons (CT.int IntKind.u8)
 (CTs.cons (CT.ro (CTs.cons (CT.int IntKind.u8) CTs.nil))
 (CTs.cons (CT.int IntKind.i64) (CTs.cons (CT.int IntKind.i64) (CTs.cons CT.bool CTs.nil))))))),
 PT.int IntKind.i64, PT.int IntKind.i64,
 PT.opt
 (OTs.cons
 (OT.row
 (CTs.cons (CT.int IntKind.u8)
 (CTs.cons (CT.int IntKind.u8)
 (CTs.cons (CT.ro (CTs.cons (CT.int IntKind.u8) CTs.nil)) (CTs.cons CT.bool CTs.nil)))))
 (OTs.cons
 (OT.map (VT.agg (CTs.cons (CT.int IntKind.u8) (CTs.cons (CT.int IntKind.u8) CTs.nil))) (VT.one CT.bool))
 (OTs.cons (OT.c (CT.int IntKind.i64))
 (OTs.cons (OT.c (CT.int IntKind.i64)) (OTs.cons (OT.c (CT.int IntKind.i64)) OTs.nil))))),
 PT.list1 CT.bool, PT.int IntKind.i64, PT.int IntKind.i64, PT.int IntKind.i64,
 PT.list
 (CTs.cons (CT.int IntKind.u8) (CTs.cons (CT.int IntKind.u8) (CTs.cons CT.str (CTs.cons CT.bool CTs.nil))))]
 (Option (Bool × Unit)))
 (t : List (UInt8 × UInt8 × UInt8 × List UInt8 × Int64 × Int64 × Bool)) (t_1 t_2 : Int64)
 (n_ : Option (List (UInt8 × UInt8 × List UInt8 × Bool) × List ((UInt8 × UInt8) × Bool) × Int64 × Int64 × Int64))
 (ma : List Bool) (m1 m2 m3 : Int64) (ml : List (UInt8 × UInt8 × List UInt8 × Bool)) =>
 oite (decide (t_2 < t_1))
 (obind (at? t (Int64.toInt t_2)) fun (x_3 : UInt8 × UInt8 × UInt8 × List UInt8 × Int64 × Int64 × Bool) =>
 oite (decide ((80 : Int64) < t_2)) (some (true, ()))
 (oite (decide ((100 : Int64) < Int64.ofInt ↑(List.length (Prod.fst (Prod.snd (Prod.snd (Prod.snd x_3)))))))
 (some (true, ()))
 (ojoinA (7863 : Nat)
 [PT.int IntKind.u8, PT.int IntKind.u8, PT.int IntKind.i64, PT.int IntKind.i64,
 PT.list
 (CTs.cons (CT.int IntKind.u8)
 (CTs.cons (CT.int IntKind.u8)
 (CTs.cons (CT.int IntKind.u8)
 (CTs.cons (CT.ro (CTs.cons (CT.int IntKind.u8) CTs.nil))
 (CTs.cons (CT.int IntKind.i64) (CTs.cons (CT.int IntKind.i64) (CTs.cons CT.bool CTs.nil))))))),
 PT.int IntKind.i64, PT.int IntKind.i64,
 PT.opt
 (OTs.cons
 (OT.row
 (CTs.cons (CT.int IntKind.u8)
 (CTs.cons (CT.int IntKind.u8)
 (CTs.cons (CT.ro (CTs.cons (CT.int IntKind.u8) CTs.nil)) (CTs.cons CT.bool CTs.nil)))))
 (OTs.cons
 (OT.map (VT.agg (CTs.cons (CT.int IntKind.u8) (CTs.cons (CT.int IntKind.u8) CTs.nil)))
 (VT.one CT.bool))
 (OTs.cons (OT.c (CT.int IntKind.i64))
 (OTs.cons (OT.c (CT.int IntKind.i64)) (OTs.cons (OT.c (CT.int IntKind.i64)) OTs.nil))))),
 PT.list1 CT.bool, PT.int IntKind.i64, PT.int IntKind.i64, PT.int IntKind.i64, PT.int IntKind.u8,
 PT.int IntKind.u8, PT.int IntKind.u8, PT.list (CTs.cons (CT.int IntKind.u8) CTs.nil), PT.int IntKind.i64,
 PT.int IntKind.i64, PT.bool,
 PT.list
 (CTs.cons (CT.int IntKind.u8)
 (CTs.cons (CT.int IntKind.u8) (CTs.cons CT.str (CTs.cons CT.bool CTs.nil))))]
 (fun
 (J :
 Arr
 [PT.int IntKind.u8, PT.int IntKind.u8, PT.int IntKind.i64, PT.int IntKind.i64,
 PT.list
 (CTs.cons (CT.int IntKind.u8)
 (CTs.cons (CT.int IntKind.u8)
 (CTs.cons (CT.int IntKind.u8)
 (CTs.cons (CT.ro (CTs.cons (CT.int IntKind.u8) CTs.nil))
 (CTs.cons (CT.int IntKind.i64)
 (CTs.cons (CT.int IntKind.i64) (CTs.cons CT.bool CTs.nil))))))),
 PT.int IntKind.i64, PT.int IntKind.i64,
 PT.opt
 (OTs.cons
 (OT.row
 (CTs.cons (CT.int IntKind.u8)
 (CTs.cons (CT.int IntKind.u8)
 (CTs.cons (CT.ro (CTs.cons (CT.int IntKind.u8) CTs.nil)) (CTs.cons CT.bool CTs.nil)))))
 (OTs.cons
 (OT.map (VT.agg (CTs.cons (CT.int IntKind.u8) (CTs.cons (CT.int IntKind.u8) CTs.nil)))
 (VT.one CT.bool))
 (OTs.cons (OT.c (CT.int IntKind.i64))
 (OTs.cons (OT.c (CT.int IntKind.i64)) (OTs.cons (OT.c (CT.int IntKind.i64)) OTs.nil))))),
 PT.list1 CT.bool, PT.int IntKind.i64, PT.int IntKind.i64, PT.int IntKind.i64, PT.int IntKind.u8,
 PT.int IntKind.u8, PT.int IntKind.u8, PT.list (CTs.cons (CT.int IntKind.u8) CTs.nil),
 PT.int IntKind.i64, PT.int IntKind.i64, PT.bool,
 PT.list
 (CTs.cons (CT.int IntKind.u8)
 (CTs.cons (CT.int IntKind.u8) (CTs.cons CT.str (CTs.cons CT.bool CTs.nil))))]
 (Option (Bool × Unit))) =>
 oite (decide ((0 : Int64) < Int64.ofInt ↑(List.length ml)))
 (oite (decide (UInt64.ofInt (Int64.toInt (Int64.ofInt ↑(List.length ml))) = (0 : UInt64))) none
 (J (Prod.fst (Prod.snd x_3) % (4 : UInt8)) (Prod.fst (Prod.snd (Prod.snd x_3)) % (4 : UInt8))
 (Int64.ofInt
 ↑(UInt64.toNat
 (UInt64.ofInt (Int64.toInt (Prod.fst (Prod.snd (Prod.snd (Prod.snd (Prod.snd x_3)))))) %
 UInt64.ofInt (Int64.toInt (Int64.ofInt ↑(List.length ml))))))
 (Prod.fst (Prod.snd (Prod.snd (Prod.snd (Prod.snd (Prod.snd x_3)))))) t t_1 t_2 n_ ma m1 m2 m3
 (Prod.fst x_3) (Prod.fst (Prod.snd x_3)) (Prod.fst (Prod.snd (Prod.snd x_3)))
 (Prod.fst (Prod.snd (Prod.snd (Prod.snd x_3))))
 (Prod.fst (Prod.snd (Prod.snd (Prod.snd (Prod.snd x_3)))))
 (Prod.fst (Prod.snd (Prod.snd (Prod.snd (Prod.snd (Prod.snd x_3))))))
 (Prod.snd (Prod.snd (Prod.snd (Prod.snd (Prod.snd (Prod.snd x_3)))))) ml))
 (J (Prod.fst (Prod.snd x_3) % (4 : UInt8)) (Prod.fst (Prod.snd (Prod.snd x_3)) % (4 : UInt8))
 (0 : Int64) (Prod.fst (Prod.snd (Prod.snd (Prod.snd (Prod.snd (Prod.snd x_3)))))) t t_1 t_2 n_ ma m1
 m2 m3 (Prod.fst x_3) (Prod.fst (Prod.snd x_3)) (Prod.fst (Prod.snd (Prod.snd x_3)))
 (Prod.fst (Prod.snd (Prod.snd (Prod.snd x_3))))
 (Prod.fst (Prod.snd (Prod.snd (Prod.snd (Prod.snd x_3)))))
 (Prod.fst (Prod.snd (Prod.snd (Prod.snd (Prod.snd (Prod.snd x_3))))))
 (Prod.snd (Prod.snd (Prod.snd (Prod.snd (Prod.snd (Prod.snd x_3)))))) ml))
 (F5_J7863 n rec))))
 (some (true, ()))
def F5_R61 : Nat →
 Nat →
 PT.T
 (PT.list
 (CTs.cons (CT.int IntKind.u8)
 (CTs.cons (CT.int IntKind.u8)
 (CTs.cons (CT.int IntKind.u8)
 (CTs.cons (CT.ro (CTs.cons (CT.int IntKind.u8) CTs.nil))
 (CTs.cons (CT.int IntKind.i64) (CTs.cons (CT.int IntKind.i64) (CTs.cons CT.bool CTs.nil)))))))) →
 Int64 →
 Int64 →
 Option (List (UInt8 × UInt8 × List UInt8 × Bool) × List ((UInt8 × UInt8) × Bool) × Int64 × Int64 × Int64) →
 List Bool → Int64 → Int64 → Int64 → List (UInt8 × UInt8 × List UInt8 × Bool) → Option (Bool × Unit) := fun (n : Nat) =>
 ofixA (61 : Nat)
 [PT.list
 (CTs.cons (CT.int IntKind.u8)
 (CTs.cons (CT.int IntKind.u8)
 (CTs.cons (CT.int IntKind.u8)
 (CTs.cons (CT.ro (CTs.cons (CT.int IntKind.u8) CTs.nil))
 (CTs.cons (CT.int IntKind.i64) (CTs.cons (CT.int IntKind.i64) (CTs.cons CT.bool CTs.nil))))))),
 PT.int IntKind.i64, PT.int IntKind.i64,
 PT.opt
 (OTs.cons
 (OT.row
 (CTs.cons (CT.int IntKind.u8)
 (CTs.cons (CT.int IntKind.u8)
 (CTs.cons (CT.ro (CTs.cons (CT.int IntKind.u8) CTs.nil)) (CTs.cons CT.bool CTs.nil)))))
 (OTs.cons
 (OT.map (VT.agg (CTs.cons (CT.int IntKind.u8) (CTs.cons (CT.int IntKind.u8) CTs.nil))) (VT.one CT.bool))
 (OTs.cons (OT.c (CT.int IntKind.i64))
 (OTs.cons (OT.c (CT.int IntKind.i64)) (OTs.cons (OT.c (CT.int IntKind.i64)) OTs.nil))))),
 PT.list1 CT.bool, PT.int IntKind.i64, PT.int IntKind.i64, PT.int IntKind.i64,
 PT.list
 (CTs.cons (CT.int IntKind.u8) (CTs.cons (CT.int IntKind.u8) (CTs.cons CT.str (CTs.cons CT.bool CTs.nil))))]
 (F5_L61 n)
def F5 : Nat → List (UInt8 × UInt8 × UInt8 × List UInt8 × Int64 × Int64 × Bool) → Option (Bool × Unit) := fun (n : Nat) (x : List (UInt8 × UInt8 × UInt8 × List UInt8 × Int64 × Int64 × Bool)) =>
 obind (F7 n ()) fun (x_1 : Bool × Unit) =>
 oite (!Prod.fst x_1) (some (false, ()))
 (obind (F8 n ())
 fun
 (x_2 :
 Option (List (UInt8 × UInt8 × List UInt8 × Bool) × List ((UInt8 × UInt8) × Bool) × Int64 × Int64 × Int64) ×
 Unit) =>
 F5_R61 n n x (Int64.ofInt ↑(List.length x)) (0 : Int64) (Prod.fst x_2) (List.replicate (1024 : Nat) false)
 (0 : Int64) (0 : Int64) (0 : Int64) [])
theorem F5_R4026367_s (n : Nat) (rec : Arr [PT.list (CTs.cons (CT.int IntKind.u8) (CTs.cons (CT.int IntKind.u8) (CTs.cons (CT.int IntKind.u8) (CTs.cons (CT.ro (CTs.cons (CT.int IntKind.u8) CTs.nil)) (CTs.cons (CT.int IntKind.i64) (CTs.cons (CT.int IntKind.i64) (CTs.cons CT.bool CTs.nil))))))), PT.int IntKind.i64, PT.int IntKind.i64, PT.opt (OTs.cons (OT.row (CTs.cons (CT.int IntKind.u8) (CTs.cons (CT.int IntKind.u8) (CTs.cons (CT.ro (CTs.cons (CT.int IntKind.u8) CTs.nil)) (CTs.cons CT.bool CTs.nil))))) (OTs.cons (OT.map (VT.agg (CTs.cons (CT.int IntKind.u8) (CTs.cons (CT.int IntKind.u8) CTs.nil))) (VT.one CT.bool)) (OTs.cons (OT.c (CT.int IntKind.i64)) (OTs.cons (OT.c (CT.int IntKind.i64)) (OTs.cons (OT.c (CT.int IntKind.i64)) OTs.nil))))), PT.list1 CT.bool, PT.int IntKind.i64, PT.int IntKind.i64, PT.int IntKind.i64, PT.list (CTs.cons (CT.int IntKind.u8) (CTs.cons (CT.int IntKind.u8) (CTs.cons CT.str (CTs.cons CT.bool CTs.nil))))] (Option (Bool × Unit))) (m_ : Nat) : F5_R4026367 n rec (m_ + 1) = F5_L4026367 n rec (F5_R4026367 n rec m_) := rfl
theorem F5_R61_s (n : Nat) (m_ : Nat) : F5_R61 n (m_ + 1) = F5_L61 n (F5_R61 n m_) := rfl
theorem ok5 (n : Nat) : FunOK Try.prog ⟨5, sig5, F5 n⟩ :=
 fun_ok (hints := ⟨[(7863, ⟨[(3, .one (.own 1)), (4, .one (.own 2)), (6, .one (.own 3)), (7, .one (.int .u8)), (8, .one (.int .u8)), (9, .one (.int .i64)), (10, .one (.int .i64)), (33, .one (.ro (.cons (.int .u8) (.cons (.int .u8) (.cons (.int .u8) (.cons (.ro (.cons (.int .u8) .nil)) (.cons (.int .i64) (.cons (.int .i64) (.cons .bool .nil))))))))), (34, .one (.int .i64)), (35, .one (.int .i64))], [(1, .fold (.cons (.row (.cons (.int .u8) (.cons (.int .u8) (.cons (.ro (.cons (.int .u8) .nil)) (.cons .bool .nil))))) (.cons (.map (.agg (.cons (.int .u8) (.cons (.int .u8) .nil))) (.one .bool)) (.cons (.c (.int .i64)) (.cons (.c (.int .i64)) (.cons (.c (.int .i64)) .nil)))))), (2, .cellsA [.own 4] .bool 1024 [.int .i64, .int .i64, .int .i64]), (3, .cells [.int .u8, .int .u8, .int .u8, .ro (.cons (.int .u8) .nil), .int .i64, .int .i64, .bool]), (4, .row (.cons (.int .u8) (.cons (.int .u8) (.cons .str (.cons .bool .nil)))))], 5⟩), (15727, ⟨[(3, .one (.own 1)), (4, .one (.own 2)), (6, .one (.own 3)), (7, .one (.int .u8)), (8, .one (.int .u8)), (9, .one (.int .i64)), (10, .one (.int .i64)), (33, .one (.ro (.cons (.int .u8) (.cons (.int .u8) (.cons (.int .u8) (.cons (.ro (.cons (.int .u8) .nil)) (.cons (.int .i64) (.cons (.int .i64) (.cons .bool .nil))))))))), (34, .one (.int .i64)), (35, .one (.int .i64))], [(1, .fold (.cons (.row (.cons (.int .u8) (.cons (.int .u8) (.cons (.ro (.cons (.int .u8) .nil)) (.cons .bool .nil))))) (.cons (.map (.agg (.cons (.int .u8) (.cons (.int .u8) .nil))) (.one .bool)) (.cons (.c (.int .i64)) (.cons (.c (.int .i64)) (.cons (.c (.int .i64)) .nil)))))), (2, .cellsA [.own 4] .bool 1024 [.int .i64, .int .i64, .int .i64]), (3, .cells [.int .u8, .int .u8, .int .u8, .ro (.cons (.int .u8) .nil), .int .i64, .int .i64, .bool]), (4, .row (.cons (.int .u8) (.cons (.int .u8) (.cons .str (.cons .bool .nil)))))], 5⟩), (31455, ⟨[(3, .one (.own 1)), (4, .one (.own 2)), (6, .one (.own 3)), (7, .one (.int .u8)), (8, .one (.int .u8)), (9, .one (.int .i64)), (10, .one (.int .i64)), (11, .one (.bool)), (33, .one (.ro (.cons (.int .u8) (.cons (.int .u8) (.cons (.int .u8) (.cons (.ro (.cons (.int .u8) .nil)) (.cons (.int .i64) (.cons (.int .i64) (.cons .bool .nil))))))))), (34, .one (.int .i64)), (35, .one (.int .i64))], [(1, .fold (.cons (.row (.cons (.int .u8) (.cons (.int .u8) (.cons (.ro (.cons (.int .u8) .nil)) (.cons .bool .nil))))) (.cons (.map (.agg (.cons (.int .u8) (.cons (.int .u8) .nil))) (.one .bool)) (.cons (.c (.int .i64)) (.cons (.c (.int .i64)) (.cons (.c (.int .i64)) .nil)))))), (2, .cellsA [.own 4] .bool 1024 [.int .i64, .int .i64, .int .i64]), (3, .cells [.int .u8, .int .u8, .int .u8, .ro (.cons (.int .u8) .nil), .int .i64, .int .i64, .bool]), (4, .row (.cons (.int .u8) (.cons (.int .u8) (.cons .str (.cons .bool .nil)))))], 5⟩), (62911, ⟨[(3, .one (.own 1)), (4, .one (.own 2)), (6, .one (.own 3)), (7, .one (.int .u8)), (8, .one (.int .u8)), (9, .one (.int .i64)), (10, .one (.int .i64)), (11, .one (.bool)), (33, .one (.ro (.cons (.int .u8) (.cons (.int .u8) (.cons (.int .u8) (.cons (.ro (.cons (.int .u8) .nil)) (.cons (.int .i64) (.cons (.int .i64) (.cons .bool .nil))))))))), (34, .one (.int .i64)), (35, .one (.int .i64))], [(1, .fold (.cons (.row (.cons (.int .u8) (.cons (.int .u8) (.cons (.ro (.cons (.int .u8) .nil)) (.cons .bool .nil))))) (.cons (.map (.agg (.cons (.int .u8) (.cons (.int .u8) .nil))) (.one .bool)) (.cons (.c (.int .i64)) (.cons (.c (.int .i64)) (.cons (.c (.int .i64)) .nil)))))), (2, .cellsA [.own 4] .bool 1024 [.int .i64, .int .i64, .int .i64]), (3, .cells [.int .u8, .int .u8, .int .u8, .ro (.cons (.int .u8) .nil), .int .i64, .int .i64, .bool]), (4, .row (.cons (.int .u8) (.cons (.int .u8) (.cons .str (.cons .bool .nil)))))], 5⟩), (125823, ⟨[(3, .one (.own 1)), (4, .one (.own 2)), (6, .one (.own 3)), (7, .one (.int .u8)), (8, .one (.int .u8)), (9, .one (.int .i64)), (10, .one (.int .i64)), (11, .one (.bool)), (12, .one (.bool)), (33, .one (.ro (.cons (.int .u8) (.cons (.int .u8) (.cons (.int .u8) (.cons (.ro (.cons (.int .u8) .nil)) (.cons (.int .i64) (.cons (.int .i64) (.cons .bool .nil))))))))), (34, .one (.int .i64)), (35, .one (.int .i64))], [(1, .fold (.cons (.row (.cons (.int .u8) (.cons (.int .u8) (.cons (.ro (.cons (.int .u8) .nil)) (.cons .bool .nil))))) (.cons (.map (.agg (.cons (.int .u8) (.cons (.int .u8) .nil))) (.one .bool)) (.cons (.c (.int .i64)) (.cons (.c (.int .i64)) (.cons (.c (.int .i64)) .nil)))))), (2, .cellsA [.own 4] .bool 1024 [.int .i64, .int .i64, .int .i64]), (3, .cells [.int .u8, .int .u8, .int .u8, .ro (.cons (.int .u8) .nil), .int .i64, .int .i64, .bool]), (4, .row (.cons (.int .u8) (.cons (.int .u8) (.cons .str (.cons .bool .nil)))))], 5⟩), (251647, ⟨[(3, .one (.own 1)), (4, .one (.own 2)), (33, .one (.ro (.cons (.int .u8) (.cons (.int .u8) (.cons (.int .u8) (.cons (.ro (.cons (.int .u8) .nil)) (.cons (.int .i64) (.cons (.int .i64) (.cons .bool .nil))))))))), (34, .one (.int .i64)), (35, .one (.int .i64))], [(1, .fold (.cons (.row (.cons (.int .u8) (.cons (.int .u8) (.cons (.ro (.cons (.int .u8) .nil)) (.cons .bool .nil))))) (.cons (.map (.agg (.cons (.int .u8) (.cons (.int .u8) .nil))) (.one .bool)) (.cons (.c (.int .i64)) (.cons (.c (.int .i64)) (.cons (.c (.int .i64)) .nil)))))), (2, .cellsA [.own 3] .bool 1024 [.int .i64, .int .i64, .int .i64]), (3, .row (.cons (.int .u8) (.cons (.int .u8) (.cons .str (.cons .bool .nil)))))], 4⟩), (1006589, ⟨[(3, .one (.own 1)), (4, .one (.own 2)), (6, .one (.own 3)), (7, .one (.int .u8)), (8, .one (.int .u8)), (9, .one (.int .i64)), (10, .one (.int .i64)), (11, .one (.bool)), (12, .one (.bool)), (33, .one (.ro (.cons (.int .u8) (.cons (.int .u8) (.cons (.int .u8) (.cons (.ro (.cons (.int .u8) .nil)) (.cons (.int .i64) (.cons (.int .i64) (.cons .bool .nil))))))))), (34, .one (.int .i64)), (35, .one (.int .i64)), (138, .one (.int .u8)), (200, .one (.bool))], [(1, .fold (.cons (.row (.cons (.int .u8) (.cons (.int .u8) (.cons (.ro (.cons (.int .u8) .nil)) (.cons .bool .nil))))) (.cons (.map (.agg (.cons (.int .u8) (.cons (.int .u8) .nil))) (.one .bool)) (.cons (.c (.int .i64)) (.cons (.c (.int .i64)) (.cons (.c (.int .i64)) .nil)))))), (2, .cellsA [.own 4] .bool 1024 [.int .i64, .int .i64, .int .i64]), (3, .cells [.int .u8, .int .u8, .int .u8, .ro (.cons (.int .u8) .nil), .int .i64, .int .i64, .bool]), (4, .row (.cons (.int .u8) (.cons (.int .u8) (.cons .str (.cons .bool .nil)))))], 5⟩), (64421743, ⟨[(3, .one (.own 1)), (4, .one (.own 2)), (16, .one (.bool)), (33, .one (.ro (.cons (.int .u8) (.cons (.int .u8) (.cons (.int .u8) (.cons (.ro (.cons (.int .u8) .nil)) (.cons (.int .i64) (.cons (.int .i64) (.cons .bool .nil))))))))), (34, .one (.int .i64)), (35, .one (.int .i64))], [(1, .fold (.cons (.row (.cons (.int .u8) (.cons (.int .u8) (.cons (.ro (.cons (.int .u8) .nil)) (.cons .bool .nil))))) (.cons (.map (.agg (.cons (.int .u8) (.cons (.int .u8) .nil))) (.one .bool)) (.cons (.c (.int .i64)) (.cons (.c (.int .i64)) (.cons (.c (.int .i64)) .nil)))))), (2, .cellsA [.own 3] .bool 1024 [.int .i64, .int .i64, .int .i64]), (3, .row (.cons (.int .u8) (.cons (.int .u8) (.cons .str (.cons .bool .nil)))))], 4⟩), (257687038, ⟨[(3, .one (.own 1)), (4, .one (.own 2)), (9, .one (.int .i64)), (10, .one (.int .i64)), (17, .one (.bool)), (33, .one (.ro (.cons (.int .u8) (.cons (.int .u8) (.cons (.int .u8) (.cons (.ro (.cons (.int .u8) .nil)) (.cons (.int .i64) (.cons (.int .i64) (.cons .bool .nil))))))))), (34, .one (.int .i64)), (35, .one (.int .i64))], [(1, .fold (.cons (.row (.cons (.int .u8) (.cons (.int .u8) (.cons (.ro (.cons (.int .u8) .nil)) (.cons .bool .nil))))) (.cons (.map (.agg (.cons (.int .u8) (.cons (.int .u8) .nil))) (.one .bool)) (.cons (.c (.int .i64)) (.cons (.c (.int .i64)) (.cons (.c (.int .i64)) .nil)))))), (2, .cellsA [.own 3] .bool 1024 [.int .i64, .int .i64, .int .i64]), (3, .row (.cons (.int .u8) (.cons (.int .u8) (.cons .str (.cons .bool .nil)))))], 4⟩), (2061496317, ⟨[(3, .one (.own 1)), (4, .one (.own 2)), (6, .one (.own 3)), (7, .one (.int .u8)), (8, .one (.int .u8)), (12, .one (.bool)), (33, .one (.ro (.cons (.int .u8) (.cons (.int .u8) (.cons (.int .u8) (.cons (.ro (.cons (.int .u8) .nil)) (.cons (.int .i64) (.cons (.int .i64) (.cons .bool .nil))))))))), (34, .one (.int .i64)), (35, .one (.int .i64))], [(1, .fold (.cons (.row (.cons (.int .u8) (.cons (.int .u8) (.cons (.ro (.cons (.int .u8) .nil)) (.cons .bool .nil))))) (.cons (.map (.agg (.cons (.int .u8) (.cons (.int .u8) .nil))) (.one .bool)) (.cons (.c (.int .i64)) (.cons (.c (.int .i64)) (.cons (.c (.int .i64)) .nil)))))), (2, .cellsA [.own 4] .bool 1024 [.int .i64, .int .i64, .int .i64]), (3, .cells [.int .u8, .int .u8, .int .u8, .ro (.cons (.int .u8) .nil), .int .i64, .int .i64, .bool]), (4, .row (.cons (.int .u8) (.cons (.int .u8) (.cons .str (.cons .bool .nil)))))], 5⟩)], [(61, ⟨[(3, .one (.own 1)), (4, .one (.own 2)), (33, .one (.ro (.cons (.int .u8) (.cons (.int .u8) (.cons (.int .u8) (.cons (.ro (.cons (.int .u8) .nil)) (.cons (.int .i64) (.cons (.int .i64) (.cons .bool .nil))))))))), (34, .one (.int .i64)), (35, .one (.int .i64))], [(1, .fold (.cons (.row (.cons (.int .u8) (.cons (.int .u8) (.cons (.ro (.cons (.int .u8) .nil)) (.cons .bool .nil))))) (.cons (.map (.agg (.cons (.int .u8) (.cons (.int .u8) .nil))) (.one .bool)) (.cons (.c (.int .i64)) (.cons (.c (.int .i64)) (.cons (.c (.int .i64)) .nil)))))), (2, .cellsA [.own 3] .bool 1024 [.int .i64, .int .i64, .int .i64]), (3, .row (.cons (.int .u8) (.cons (.int .u8) (.cons .str (.cons .bool .nil)))))], 4⟩), (4026367, ⟨[(3, .one (.own 1)), (4, .one (.own 2)), (33, .one (.ro (.cons (.int .u8) (.cons (.int .u8) (.cons (.int .u8) (.cons (.ro (.cons (.int .u8) .nil)) (.cons (.int .i64) (.cons (.int .i64) (.cons .bool .nil))))))))), (34, .one (.int .i64)), (35, .one (.int .i64)), (507, .one (.own 3)), (508, .one (.int .i64)), (509, .one (.int .i64))], [(1, .fold (.cons (.row (.cons (.int .u8) (.cons (.int .u8) (.cons (.ro (.cons (.int .u8) .nil)) (.cons .bool .nil))))) (.cons (.map (.agg (.cons (.int .u8) (.cons (.int .u8) .nil))) (.one .bool)) (.cons (.c (.int .i64)) (.cons (.c (.int .i64)) (.cons (.c (.int .i64)) .nil)))))), (2, .cellsA [.own 3] .bool 1024 [.int .i64, .int .i64, .int .i64]), (3, .row (.cons (.int .u8) (.cons (.int .u8) (.cons .str (.cons .bool .nil)))))], 4⟩)]⟩) (fuel := n) (c := Try.f5.body.getD .skip) (rs := Try.f5.results.toList) tt_ok mix (FsOK.cons (ok7 n) (FsOK.cons (ok8 n) (FsOK.cons (ok14 n) (FsOK.cons (ok15 n) (FsOK.cons (ok16 n) (FsOK.cons (ok10 n) (FsOK.cons (ok13 n) (FsOK.cons (ok17 n) (FsOK.cons (ok18 n) (FsOK.cons (ok19 n) (FsOK.cons (ok9 n) (FsOK.cons (ok20 n) (FsOK.cons (ok11 n) (FsOK.cons (ok12 n) (FsOK.nil))))))))))))))) Try.func5 (by kernel_rfl) (by kernel_rfl) rfl (by kernel_rfl) rfl rfl (by kernel_rfl)
end Go.Proofs.Ytkpolfffcdocnaa
