/- What the functions of this seat compute, found by walking their code symbolically: each F is what the walk finds, each ok says that the Go function keeps it as a contract. Printed by a program of this repo's. -/
import Derived.Test.YtgknjddbbehboaaGreatFnsB
open Go Go.Sx
namespace Go.Proofs.YtgknjddbbehboaaGreat
set_option maxRecDepth 100000
set_option linter.unusedVariables false
-- watchfire/frame.Same
def sig11 : Sig := ⟨(.cons (.agg (.cons (.int .u8) (.cons (.int .u8) (.cons (.int .u8) (.cons (.int .u64) (.cons (.int .u64) (.cons .bool (.cons (.int .u8) (.cons (.int .u64) (.cons (.int .u64) (.cons .str (.cons (.ro (.cons .str (.cons .str .nil))) (.cons (.int .u8) (.cons (.int .u8) (.cons (.int .i64) (.cons (.int .u8) (.cons (.int .u8) (.cons (.int .u64) (.cons (.int .u64) (.cons (.int .u64) (.cons (.int .u64) (.cons (.int .u64) .nil)))))))))))))))))))))) (.cons (.agg (.cons (.int .u8) (.cons (.int .u8) (.cons (.int .u8) (.cons (.int .u64) (.cons (.int .u64) (.cons .bool (.cons (.int .u8) (.cons (.int .u64) (.cons (.int .u64) (.cons .str (.cons (.ro (.cons .str (.cons .str .nil))) (.cons (.int .u8) (.cons (.int .u8) (.cons (.int .i64) (.cons (.int .u8) (.cons (.int .u8) (.cons (.int .u64) (.cons (.int .u64) (.cons (.int .u64) (.cons (.int .u64) (.cons (.int .u64) .nil)))))))))))))))))))))) .nil)), (.cons (.one (.c .bool)) .nil)⟩
def F11 : Nat →
 (UInt8 ×
 UInt8 ×
 UInt8 ×
 UInt64 ×
 UInt64 ×
 Bool ×
 UInt8 ×
 UInt64 ×
 UInt64 ×
 List UInt8 ×
 List (List UInt8 × List UInt8) ×
 UInt8 × UInt8 × Int64 × UInt8 × UInt8 × UInt64 × UInt64 × UInt64 × UInt64 × UInt64) ×
 UInt8 ×
 UInt8 ×
 UInt8 ×
 UInt64 ×
 UInt64 ×
 Bool ×
 UInt8 ×
 UInt64 ×
 UInt64 ×
 List UInt8 ×
 List (List UInt8 × List UInt8) ×
 UInt8 × UInt8 × Int64 × UInt8 × UInt8 × UInt64 × UInt64 × UInt64 × UInt64 × UInt64 →
 Option (Bool × Unit) := fun (n : Nat)
 (x :
 (UInt8 ×
 UInt8 ×
 UInt8 ×
 UInt64 ×
 UInt64 ×
 Bool ×
 UInt8 ×
 UInt64 ×
 UInt64 ×
 List UInt8 ×
 List (List UInt8 × List UInt8) ×
 UInt8 × UInt8 × Int64 × UInt8 × UInt8 × UInt64 × UInt64 × UInt64 × UInt64 × UInt64) ×
 UInt8 ×
 UInt8 ×
 UInt8 ×
 UInt64 ×
 UInt64 ×
 Bool ×
 UInt8 ×
 UInt64 ×
 UInt64 ×
 List UInt8 ×
 List (List UInt8 × List UInt8) ×
 UInt8 × UInt8 × Int64 × UInt8 × UInt8 × UInt64 × UInt64 × UInt64 × UInt64 × UInt64) =>
 obind
 (F29 n
 ((Prod.fst (Prod.snd (Prod.snd (Prod.snd (Prod.snd (Prod.snd (Prod.fst x)))))),
 Prod.fst (Prod.snd (Prod.snd (Prod.snd (Prod.snd (Prod.snd (Prod.snd (Prod.fst x))))))),
 Prod.fst (Prod.snd (Prod.snd (Prod.snd (Prod.snd (Prod.snd (Prod.snd (Prod.snd (Prod.fst x)))))))),
 Prod.fst (Prod.snd (Prod.snd (Prod.snd (Prod.snd (Prod.snd (Prod.snd (Prod.snd (Prod.snd (Prod.fst x))))))))),
 Prod.fst
 (Prod.snd
 (Prod.snd (Prod.snd (Prod.snd (Prod.snd (Prod.snd (Prod.snd (Prod.snd (Prod.snd (Prod.fst x)))))))))),
 Prod.fst
 (Prod.snd
 (Prod.snd
 (Prod.snd (Prod.snd (Prod.snd (Prod.snd (Prod.snd (Prod.snd (Prod.snd (Prod.snd (Prod.fst x))))))))))),
 Prod.fst
 (Prod.snd
 (Prod.snd
 (Prod.snd
 (Prod.snd
 (Prod.snd (Prod.snd (Prod.snd (Prod.snd (Prod.snd (Prod.snd (Prod.snd (Prod.fst x)))))))))))),
 Prod.fst
 (Prod.snd
 (Prod.snd
 (Prod.snd
 (Prod.snd
 (Prod.snd
 (Prod.snd (Prod.snd (Prod.snd (Prod.snd (Prod.snd (Prod.snd (Prod.snd (Prod.fst x))))))))))))),
 Prod.fst
 (Prod.snd
 (Prod.snd
 (Prod.snd
 (Prod.snd
 (Prod.snd
 (Prod.snd
 (Prod.snd (Prod.snd (Prod.snd (Prod.snd (Prod.snd (Prod.snd (Prod.snd (Prod.fst x)))))))))))))),
 Prod.fst
 (Prod.snd
 (Prod.snd
 (Prod.snd
 (Prod.snd
 (Prod.snd
 (Prod.snd
 (Prod.snd
 (Prod.snd
 (Prod.snd (Prod.snd (Prod.snd (Prod.snd (Prod.snd (Prod.snd (Prod.fst x))))))))))))))),
 Prod.fst
 (Prod.snd
 (Prod.snd
 (Prod.snd
 (Prod.snd
 (Prod.snd
 (Prod.snd
 (Prod.snd
 (Prod.snd
 (Prod.snd
 (Prod.snd (Prod.snd (Prod.snd (Prod.snd (Prod.snd (Prod.snd (Prod.fst x)))))))))))))))),
 Prod.fst
 (Prod.snd
 (Prod.snd
 (Prod.snd
 (Prod.snd
 (Prod.snd
 (Prod.snd
 (Prod.snd
 (Prod.snd
 (Prod.snd
 (Prod.snd
 (Prod.snd
 (Prod.snd (Prod.snd (Prod.snd (Prod.snd (Prod.snd (Prod.fst x))))))))))))))))),
 Prod.fst
 (Prod.snd
 (Prod.snd
 (Prod.snd
 (Prod.snd
 (Prod.snd
 (Prod.snd
 (Prod.snd
 (Prod.snd
 (Prod.snd
 (Prod.snd
 (Prod.snd
 (Prod.snd
 (Prod.snd (Prod.snd (Prod.snd (Prod.snd (Prod.snd (Prod.fst x))))))))))))))))))),
 Prod.fst (Prod.snd (Prod.snd (Prod.snd (Prod.snd (Prod.snd (Prod.snd x)))))),
 Prod.fst (Prod.snd (Prod.snd (Prod.snd (Prod.snd (Prod.snd (Prod.snd (Prod.snd x))))))),
 Prod.fst (Prod.snd (Prod.snd (Prod.snd (Prod.snd (Prod.snd (Prod.snd (Prod.snd (Prod.snd x)))))))),
 Prod.fst (Prod.snd (Prod.snd (Prod.snd (Prod.snd (Prod.snd (Prod.snd (Prod.snd (Prod.snd (Prod.snd x))))))))),
 Prod.fst
 (Prod.snd
 (Prod.snd (Prod.snd (Prod.snd (Prod.snd (Prod.snd (Prod.snd (Prod.snd (Prod.snd (Prod.snd x)))))))))),
 Prod.fst
 (Prod.snd
 (Prod.snd
 (Prod.snd (Prod.snd (Prod.snd (Prod.snd (Prod.snd (Prod.snd (Prod.snd (Prod.snd (Prod.snd x))))))))))),
 Prod.fst
 (Prod.snd
 (Prod.snd
 (Prod.snd
 (Prod.snd (Prod.snd (Prod.snd (Prod.snd (Prod.snd (Prod.snd (Prod.snd (Prod.snd (Prod.snd x)))))))))))),
 Prod.fst
 (Prod.snd
 (Prod.snd
 (Prod.snd
 (Prod.snd
 (Prod.snd
 (Prod.snd (Prod.snd (Prod.snd (Prod.snd (Prod.snd (Prod.snd (Prod.snd (Prod.snd x))))))))))))),
 Prod.fst
 (Prod.snd
 (Prod.snd
 (Prod.snd
 (Prod.snd
 (Prod.snd
 (Prod.snd
 (Prod.snd (Prod.snd (Prod.snd (Prod.snd (Prod.snd (Prod.snd (Prod.snd (Prod.snd x)))))))))))))),
 Prod.fst
 (Prod.snd
 (Prod.snd
 (Prod.snd
 (Prod.snd
 (Prod.snd
 (Prod.snd
 (Prod.snd
 (Prod.snd
 (Prod.snd (Prod.snd (Prod.snd (Prod.snd (Prod.snd (Prod.snd (Prod.snd x))))))))))))))),
 Prod.fst
 (Prod.snd
 (Prod.snd
 (Prod.snd
 (Prod.snd
 (Prod.snd
 (Prod.snd
 (Prod.snd
 (Prod.snd
 (Prod.snd
 (Prod.snd (Prod.snd (Prod.snd (Prod.snd (Prod.snd (Prod.snd (Prod.snd x)))))))))))))))),
 Prod.fst
 (Prod.snd
 (Prod.snd
 (Prod.snd
 (Prod.snd
 (Prod.snd
 (Prod.snd
 (Prod.snd
 (Prod.snd
 (Prod.snd
 (Prod.snd
 (Prod.snd (Prod.snd (Prod.snd (Prod.snd (Prod.snd (Prod.snd (Prod.snd x))))))))))))))))),
 Prod.fst
 (Prod.snd
 (Prod.snd
 (Prod.snd
 (Prod.snd
 (Prod.snd
 (Prod.snd
 (Prod.snd
 (Prod.snd
 (Prod.snd
 (Prod.snd
 (Prod.snd
 (Prod.snd
 (Prod.snd (Prod.snd (Prod.snd (Prod.snd (Prod.snd (Prod.snd x))))))))))))))))))))
 fun (x_1 : Bool × Unit) =>
 oite (Prod.fst x_1)
 (oite (decide (Prod.fst (Prod.fst x) = Prod.fst (Prod.snd x)))
 (oite (decide (Prod.fst (Prod.snd (Prod.fst x)) = Prod.fst (Prod.snd (Prod.snd x))))
 (oite (decide (Prod.fst (Prod.snd (Prod.snd (Prod.fst x))) = Prod.fst (Prod.snd (Prod.snd (Prod.snd x)))))
 (oite
 (decide
 (Prod.fst (Prod.snd (Prod.snd (Prod.snd (Prod.fst x)))) =
 Prod.fst (Prod.snd (Prod.snd (Prod.snd (Prod.snd x))))))
 (oite
 (decide
 (Prod.fst (Prod.snd (Prod.snd (Prod.snd (Prod.snd (Prod.fst x))))) =
 Prod.fst (Prod.snd (Prod.snd (Prod.snd (Prod.snd (Prod.snd x)))))))
 (oite
 (decide
 (Prod.fst
 (Prod.snd
 (Prod.snd
 (Prod.snd
 (Prod.snd
 (Prod.snd
 (Prod.snd
 (Prod.snd
 (Prod.snd
 (Prod.snd
 (Prod.snd
 (Prod.snd
 (Prod.snd
 (Prod.snd
 (Prod.snd
 (Prod.snd
 (Prod.snd (Prod.snd (Prod.snd (Prod.fst x))))))))))))))))))) =
 Prod.fst
 (Prod.snd
 (Prod.snd
 (Prod.snd
 (Prod.snd
 (Prod.snd
 (Prod.snd
 (Prod.snd
 (Prod.snd
 (Prod.snd
 (Prod.snd
 (Prod.snd
 (Prod.snd
 (Prod.snd
 (Prod.snd
 (Prod.snd
 (Prod.snd (Prod.snd (Prod.snd (Prod.snd x)))))))))))))))))))))
 (oite
 (decide
 (Prod.fst
 (Prod.snd
 (Prod.snd
 (Prod.snd
 (Prod.snd
 (Prod.snd
 (Prod.snd
 (Prod.snd
 (Prod.snd
 (Prod.snd
 (Prod.snd
 (Prod.snd
 (Prod.snd
 (Prod.snd
 (Prod.snd
 (Prod.snd
 (Prod.snd
 (Prod.snd
 (Prod.snd (Prod.snd (Prod.fst x)))))))))))))))))))) =
 Prod.fst
 (Prod.snd
 (Prod.snd
 (Prod.snd
 (Prod.snd
 (Prod.snd
 (Prod.snd
 (Prod.snd
 (Prod.snd
 (Prod.snd
 (Prod.snd
 (Prod.snd
 (Prod.snd
 (Prod.snd
 (Prod.snd
 (Prod.snd
 (Prod.snd
 (Prod.snd
 (Prod.snd (Prod.snd (Prod.snd x))))))))))))))))))))))
 (some
 (decide
 (Prod.snd
 (Prod.snd
 (Prod.snd
 (Prod.snd
 (Prod.snd
 (Prod.snd
 (Prod.snd
 (Prod.snd
 (Prod.snd
 (Prod.snd
 (Prod.snd
 (Prod.snd
 (Prod.snd
 (Prod.snd
 (Prod.snd
 (Prod.snd
 (Prod.snd
 (Prod.snd
 (Prod.snd (Prod.snd (Prod.fst x)))))))))))))))))))) =
 Prod.snd
 (Prod.snd
 (Prod.snd
 (Prod.snd
 (Prod.snd
 (Prod.snd
 (Prod.snd
 (Prod.snd
 (Prod.snd
 (Prod.snd
 (Prod.snd
 (Prod.snd
 (Prod.snd
 (Prod.snd
 (Prod.snd
 (Prod.snd
 (Prod.snd
 (Prod.snd
 (Prod.snd (Prod.snd (Prod.snd x))))))))))))))))))))),
 ()))
 (some (false, ())))
 (some (false, ())))
 (some (false, ())))
 (some (false, ())))
 (some (false, ())))
 (some (false, ())))
 (some (false, ())))
 (some (false, ()))
theorem ok11 (n : Nat) : FunOK Tryz.prog ⟨11, sig11, F11 n⟩ :=
 fun_ok (hints := ⟨[], []⟩) (fuel := n) (c := Tryz.f11.body.getD .skip) (rs := Tryz.f11.results.toList) tt_ok mix (FsOK.cons (ok29 n) (FsOK.nil)) Tryz.func11 (by kernel_rfl) (by kernel_rfl) rfl (by kernel_rfl) rfl rfl (by kernel_rfl)
-- watchfire/watchfirelaw05.FrameBytes
def sig3 : Sig := ⟨(.cons (.one (.c (.ro (.cons (.int .u8) .nil)))) (.cons (.agg (.cons (.int .u8) (.cons (.int .u8) (.cons (.int .u8) (.cons (.int .u16) (.cons (.int .u16) (.cons (.int .u16) (.cons (.int .u16) (.cons (.int .u64) (.cons .bool (.cons (.int .u8) (.cons (.int .u8) (.cons (.int .u8) (.cons (.int .u16) (.cons (.int .u16) (.cons (.int .u16) (.cons (.int .u8) (.cons (.int .u8) (.cons (.int .u8) (.cons .bool .nil)))))))))))))))))))) (.cons (.one (.c (.int .u8))) (.cons (.one (.c (.int .u8))) (.cons (.one (.c (.int .u8))) .nil))))), (.cons (.one (.c .bool)) .nil)⟩
def F3_J1045951 : Arr
 [PT.int IntKind.i64, PT.int IntKind.i64,
 PT.optA
 (OTs.cons (OT.c (CT.int IntKind.u32))
 (OTs.cons (OT.c (CT.int IntKind.i32)) (OTs.cons (OT.c (CT.int IntKind.u32)) OTs.nil)))
 (CT.int IntKind.u32) (OTs.cons (OT.c (CT.int IntKind.u64)) (OTs.cons (OT.c (CT.int IntKind.u64)) OTs.nil)),
 PT.list (CTs.cons (CT.ro (CTs.cons (CT.int IntKind.u8) CTs.nil)) CTs.nil)]
 (Option (Bool × Unit)) →
 Int64 →
 Int64 →
 Int64 →
 Int64 →
 Bool →
 Option ((UInt32 × Int32 × UInt32) × List UInt32 × UInt64 × UInt64) →
 List (List UInt8) → Option (Bool × Unit) := fun
 (rec :
 Arr
 [PT.int IntKind.i64, PT.int IntKind.i64,
 PT.optA
 (OTs.cons (OT.c (CT.int IntKind.u32))
 (OTs.cons (OT.c (CT.int IntKind.i32)) (OTs.cons (OT.c (CT.int IntKind.u32)) OTs.nil)))
 (CT.int IntKind.u32) (OTs.cons (OT.c (CT.int IntKind.u64)) (OTs.cons (OT.c (CT.int IntKind.u64)) OTs.nil)),
 PT.list (CTs.cons (CT.ro (CTs.cons (CT.int IntKind.u8) CTs.nil)) CTs.nil)]
 (Option (Bool × Unit)))
 (i e t_4 t_1_1 : Int64) (t_2_1 : Bool) (t_3_1 : Option ((UInt32 × Int32 × UInt32) × List UInt32 × UInt64 × UInt64))
 (t_4_1 : List (List UInt8)) =>
 oite t_2_1 (some (false, ()))
 (oite (decide ((0 : Int64) < i))
 (oite (decide (e = (10 : Int64))) (some (false, ())) (rec t_4 (t_1_1 + (1 : Int64)) t_3_1 t_4_1))
 (rec t_4 (t_1_1 + (1 : Int64)) t_3_1 t_4_1))
def F3_L1021 : Nat →
 Arr
 [PT.int IntKind.i64, PT.int IntKind.i64,
 PT.optA
 (OTs.cons (OT.c (CT.int IntKind.u32))
 (OTs.cons (OT.c (CT.int IntKind.i32)) (OTs.cons (OT.c (CT.int IntKind.u32)) OTs.nil)))
 (CT.int IntKind.u32) (OTs.cons (OT.c (CT.int IntKind.u64)) (OTs.cons (OT.c (CT.int IntKind.u64)) OTs.nil)),
 PT.list (CTs.cons (CT.ro (CTs.cons (CT.int IntKind.u8) CTs.nil)) CTs.nil)]
 (Option (Bool × Unit)) →
 Int64 →
 Int64 →
 Option ((UInt32 × Int32 × UInt32) × List UInt32 × UInt64 × UInt64) → List (List UInt8) → Option (Bool × Unit) := fun (n : Nat)
 (rec :
 Arr
 [PT.int IntKind.i64, PT.int IntKind.i64,
 PT.optA
 (OTs.cons (OT.c (CT.int IntKind.u32))
 (OTs.cons (OT.c (CT.int IntKind.i32)) (OTs.cons (OT.c (CT.int IntKind.u32)) OTs.nil)))
 (CT.int IntKind.u32) (OTs.cons (OT.c (CT.int IntKind.u64)) (OTs.cons (OT.c (CT.int IntKind.u64)) OTs.nil)),
 PT.list (CTs.cons (CT.ro (CTs.cons (CT.int IntKind.u8) CTs.nil)) CTs.nil)]
 (Option (Bool × Unit)))
 (t t_1 : Int64) (t_2 : Option ((UInt32 × Int32 × UInt32) × List UInt32 × UInt64 × UInt64))
 (t_3 : List (List UInt8)) =>
 oite (decide (t_1 < t))
 (oite (decide ((0 : Int) ≤ Int64.toInt t_1) && Nat.blt (Int.toNat (Int64.toInt t_1)) (List.length t_3))
 (obind t_3[Int.toNat (Int64.toInt t_1)]? fun (x_9 : List UInt8) =>
 obind (F9 n (t_2, x_9))
 fun
 (x_10 :
 ((UInt8 ×
 UInt8 ×
 UInt8 ×
 UInt64 ×
 UInt64 ×
 Bool ×
 UInt8 ×
 UInt64 ×
 UInt64 ×
 List UInt8 ×
 List (List UInt8 × List UInt8) ×
 UInt8 ×
 UInt8 × Int64 × UInt8 × UInt8 × UInt64 × UInt64 × UInt64 × UInt64 × UInt64) ×
 Int64) ×
 Option ((UInt32 × Int32 × UInt32) × List UInt32 × UInt64 × UInt64)) =>
 oite (decide (Prod.snd (Prod.fst x_10) = (0 : Int64)))
 (obind
 (F10 n
 (Prod.fst (Prod.fst (Prod.fst x_10)), Prod.fst (Prod.snd (Prod.fst (Prod.fst x_10))),
 Prod.fst (Prod.snd (Prod.snd (Prod.fst (Prod.fst x_10)))),
 Prod.fst (Prod.snd (Prod.snd (Prod.snd (Prod.fst (Prod.fst x_10))))),
 Prod.fst (Prod.snd (Prod.snd (Prod.snd (Prod.snd (Prod.fst (Prod.fst x_10)))))),
 Prod.fst (Prod.snd (Prod.snd (Prod.snd (Prod.snd (Prod.snd (Prod.fst (Prod.fst x_10))))))),
 Prod.fst (Prod.snd (Prod.snd (Prod.snd (Prod.snd (Prod.snd (Prod.snd (Prod.fst (Prod.fst x_10)))))))),
 Prod.fst
 (Prod.snd
 (Prod.snd (Prod.snd (Prod.snd (Prod.snd (Prod.snd (Prod.snd (Prod.fst (Prod.fst x_10))))))))),
 Prod.fst
 (Prod.snd
 (Prod.snd
 (Prod.snd (Prod.snd (Prod.snd (Prod.snd (Prod.snd (Prod.snd (Prod.fst (Prod.fst x_10)))))))))),
 Prod.fst
 (Prod.snd
 (Prod.snd
 (Prod.snd
 (Prod.snd
 (Prod.snd (Prod.snd (Prod.snd (Prod.snd (Prod.snd (Prod.fst (Prod.fst x_10))))))))))),
 Prod.fst
 (Prod.snd
 (Prod.snd
 (Prod.snd
 (Prod.snd
 (Prod.snd
 (Prod.snd (Prod.snd (Prod.snd (Prod.snd (Prod.snd (Prod.fst (Prod.fst x_10)))))))))))),
 Prod.fst
 (Prod.snd
 (Prod.snd
 (Prod.snd
 (Prod.snd
 (Prod.snd
 (Prod.snd
 (Prod.snd (Prod.snd (Prod.snd (Prod.snd (Prod.snd (Prod.fst (Prod.fst x_10))))))))))))),
 Prod.fst
 (Prod.snd
 (Prod.snd
 (Prod.snd
 (Prod.snd
 (Prod.snd
 (Prod.snd
 (Prod.snd
 (Prod.snd
 (Prod.snd (Prod.snd (Prod.snd (Prod.snd (Prod.fst (Prod.fst x_10)))))))))))))),
 Prod.fst
 (Prod.snd
 (Prod.snd
 (Prod.snd
 (Prod.snd
 (Prod.snd
 (Prod.snd
 (Prod.snd
 (Prod.snd
 (Prod.snd
 (Prod.snd (Prod.snd (Prod.snd (Prod.snd (Prod.fst (Prod.fst x_10))))))))))))))),
 Prod.fst
 (Prod.snd
 (Prod.snd
 (Prod.snd
 (Prod.snd
 (Prod.snd
 (Prod.snd
 (Prod.snd
 (Prod.snd
 (Prod.snd
 (Prod.snd
 (Prod.snd
 (Prod.snd (Prod.snd (Prod.snd (Prod.fst (Prod.fst x_10)))))))))))))))),
 Prod.fst
 (Prod.snd
 (Prod.snd
 (Prod.snd
 (Prod.snd
 (Prod.snd
 (Prod.snd
 (Prod.snd
 (Prod.snd
 (Prod.snd
 (Prod.snd
 (Prod.snd
 (Prod.snd
 (Prod.snd (Prod.snd (Prod.snd (Prod.fst (Prod.fst x_10))))))))))))))))),
 Prod.fst
 (Prod.snd
 (Prod.snd
 (Prod.snd
 (Prod.snd
 (Prod.snd
 (Prod.snd
 (Prod.snd
 (Prod.snd
 (Prod.snd
 (Prod.snd
 (Prod.snd
 (Prod.snd
 (Prod.snd
 (Prod.snd (Prod.snd (Prod.snd (Prod.fst (Prod.fst x_10)))))))))))))))))),
 Prod.fst
 (Prod.snd
 (Prod.snd
 (Prod.snd
 (Prod.snd
 (Prod.snd
 (Prod.snd
 (Prod.snd
 (Prod.snd
 (Prod.snd
 (Prod.snd
 (Prod.snd
 (Prod.snd
 (Prod.snd
 (Prod.snd
 (Prod.snd
 (Prod.snd (Prod.snd (Prod.fst (Prod.fst x_10))))))))))))))))))),
 Prod.fst
 (Prod.snd
 (Prod.snd
 (Prod.snd
 (Prod.snd
 (Prod.snd
 (Prod.snd
 (Prod.snd
 (Prod.snd
 (Prod.snd
 (Prod.snd
 (Prod.snd
 (Prod.snd
 (Prod.snd
 (Prod.snd
 (Prod.snd
 (Prod.snd
 (Prod.snd (Prod.snd (Prod.fst (Prod.fst x_10)))))))))))))))))))),
 Prod.fst
 (Prod.snd
 (Prod.snd
 (Prod.snd
 (Prod.snd
 (Prod.snd
 (Prod.snd
 (Prod.snd
 (Prod.snd
 (Prod.snd
 (Prod.snd
 (Prod.snd
 (Prod.snd
 (Prod.snd
 (Prod.snd
 (Prod.snd
 (Prod.snd
 (Prod.snd
 (Prod.snd (Prod.snd (Prod.fst (Prod.fst x_10))))))))))))))))))))),
 Prod.snd
 (Prod.snd
 (Prod.snd
 (Prod.snd
 (Prod.snd
 (Prod.snd
 (Prod.snd
 (Prod.snd
 (Prod.snd
 (Prod.snd
 (Prod.snd
 (Prod.snd
 (Prod.snd
 (Prod.snd
 (Prod.snd
 (Prod.snd
 (Prod.snd
 (Prod.snd
 (Prod.snd
 (Prod.snd (Prod.fst (Prod.fst x_10)))))))))))))))))))))))
 fun (x_11 : Int64 × Unit) =>
 oite (!decide (Prod.fst x_11 = (0 : Int64))) (some (false, ()))
 (obind
 (F6 n
 (Prod.fst (Prod.fst (Prod.fst x_10)), Prod.fst (Prod.snd (Prod.fst (Prod.fst x_10))),
 Prod.fst (Prod.snd (Prod.snd (Prod.fst (Prod.fst x_10)))),
 Prod.fst (Prod.snd (Prod.snd (Prod.snd (Prod.fst (Prod.fst x_10))))),
 Prod.fst (Prod.snd (Prod.snd (Prod.snd (Prod.snd (Prod.fst (Prod.fst x_10)))))),
 Prod.fst (Prod.snd (Prod.snd (Prod.snd (Prod.snd (Prod.snd (Prod.fst (Prod.fst x_10))))))),
 Prod.fst
 (Prod.snd (Prod.snd (Prod.snd (Prod.snd (Prod.snd (Prod.snd (Prod.fst (Prod.fst x_10)))))))),
 Prod.fst
 (Prod.snd
 (Prod.snd (Prod.snd (Prod.snd (Prod.snd (Prod.snd (Prod.snd (Prod.fst (Prod.fst x_10))))))))),
 Prod.fst
 (Prod.snd
 (Prod.snd
 (Prod.snd
 (Prod.snd (Prod.snd (Prod.snd (Prod.snd (Prod.snd (Prod.fst (Prod.fst x_10)))))))))),
 Prod.fst
 (Prod.snd
 (Prod.snd
 (Prod.snd
 (Prod.snd
 (Prod.snd (Prod.snd (Prod.snd (Prod.snd (Prod.snd (Prod.fst (Prod.fst x_10))))))))))),
 Prod.fst
 (Prod.snd
 (Prod.snd
 (Prod.snd
 (Prod.snd
 (Prod.snd
 (Prod.snd
 (Prod.snd (Prod.snd (Prod.snd (Prod.snd (Prod.fst (Prod.fst x_10)))))))))))),
 Prod.fst
 (Prod.snd
 (Prod.snd
 (Prod.snd
 (Prod.snd
 (Prod.snd
 (Prod.snd
 (Prod.snd
 (Prod.snd (Prod.snd (Prod.snd (Prod.snd (Prod.fst (Prod.fst x_10))))))))))))),
 Prod.fst
 (Prod.snd
 (Prod.snd
 (Prod.snd
 (Prod.snd
 (Prod.snd
 (Prod.snd
 (Prod.snd
 (Prod.snd
 (Prod.snd (Prod.snd (Prod.snd (Prod.snd (Prod.fst (Prod.fst x_10)))))))))))))),
 Prod.fst
 (Prod.snd
 (Prod.snd
 (Prod.snd
 (Prod.snd
 (Prod.snd
 (Prod.snd
 (Prod.snd
 (Prod.snd
 (Prod.snd
 (Prod.snd
 (Prod.snd (Prod.snd (Prod.snd (Prod.fst (Prod.fst x_10))))))))))))))),
 Prod.fst
 (Prod.snd
 (Prod.snd
 (Prod.snd
 (Prod.snd
 (Prod.snd
 (Prod.snd
 (Prod.snd
 (Prod.snd
 (Prod.snd
 (Prod.snd
 (Prod.snd
 (Prod.snd (Prod.snd (Prod.snd (Prod.fst (Prod.fst x_10)))))))))))))))),
 Prod.fst
 (Prod.snd
 (Prod.snd
 (Prod.snd
 (Prod.snd
 (Prod.snd
 (Prod.snd
 (Prod.snd
 (Prod.snd
 (Prod.snd
 (Prod.snd
 (Prod.snd
 (Prod.snd
 (Prod.snd (Prod.snd (Prod.snd (Prod.fst (Prod.fst x_10))))))))))))))))),
 Prod.fst
 (Prod.snd
 (Prod.snd
 (Prod.snd
 (Prod.snd
 (Prod.snd
 (Prod.snd
 (Prod.snd
 (Prod.snd
 (Prod.snd
 (Prod.snd
 (Prod.snd
 (Prod.snd
 (Prod.snd
 (Prod.snd
 (Prod.snd (Prod.snd (Prod.fst (Prod.fst x_10)))))))))))))))))),
 Prod.fst
 (Prod.snd
 (Prod.snd
 (Prod.snd
 (Prod.snd
 (Prod.snd
 (Prod.snd
 (Prod.snd
 (Prod.snd
 (Prod.snd
 (Prod.snd
 (Prod.snd
 (Prod.snd
 (Prod.snd
 (Prod.snd
 (Prod.snd
 (Prod.snd (Prod.snd (Prod.fst (Prod.fst x_10))))))))))))))))))),
 Prod.fst
 (Prod.snd
 (Prod.snd
 (Prod.snd
 (Prod.snd
 (Prod.snd
 (Prod.snd
 (Prod.snd
 (Prod.snd
 (Prod.snd
 (Prod.snd
 (Prod.snd
 (Prod.snd
 (Prod.snd
 (Prod.snd
 (Prod.snd
 (Prod.snd
 (Prod.snd
 (Prod.snd (Prod.fst (Prod.fst x_10)))))))))))))))))))),
 Prod.fst
 (Prod.snd
 (Prod.snd
 (Prod.snd
 (Prod.snd
 (Prod.snd
 (Prod.snd
 (Prod.snd
 (Prod.snd
 (Prod.snd
 (Prod.snd
 (Prod.snd
 (Prod.snd
 (Prod.snd
 (Prod.snd
 (Prod.snd
 (Prod.snd
 (Prod.snd
 (Prod.snd
 (Prod.snd (Prod.fst (Prod.fst x_10))))))))))))))))))))),
 Prod.snd
 (Prod.snd
 (Prod.snd
 (Prod.snd
 (Prod.snd
 (Prod.snd
 (Prod.snd
 (Prod.snd
 (Prod.snd
 (Prod.snd
 (Prod.snd
 (Prod.snd
 (Prod.snd
 (Prod.snd
 (Prod.snd
 (Prod.snd
 (Prod.snd
 (Prod.snd
 (Prod.snd
 (Prod.snd (Prod.fst (Prod.fst x_10)))))))))))))))))))))))
 fun (x_12 : List UInt8 × Unit) =>
 oite (!Prod.fst x_12 == x_9) (some (false, ()))
 (rec t (t_1 + (1 : Int64)) (Prod.snd x_10) t_3)))
 (obind
 (F11 n
 ((Prod.fst (Prod.fst (Prod.fst x_10)), Prod.fst (Prod.snd (Prod.fst (Prod.fst x_10))),
 Prod.fst (Prod.snd (Prod.snd (Prod.fst (Prod.fst x_10)))),
 Prod.fst (Prod.snd (Prod.snd (Prod.snd (Prod.fst (Prod.fst x_10))))),
 Prod.fst (Prod.snd (Prod.snd (Prod.snd (Prod.snd (Prod.fst (Prod.fst x_10)))))),
 Prod.fst (Prod.snd (Prod.snd (Prod.snd (Prod.snd (Prod.snd (Prod.fst (Prod.fst x_10))))))),
 Prod.fst
 (Prod.snd (Prod.snd (Prod.snd (Prod.snd (Prod.snd (Prod.snd (Prod.fst (Prod.fst x_10)))))))),
 Prod.fst
 (Prod.snd
 (Prod.snd (Prod.snd (Prod.snd (Prod.snd (Prod.snd (Prod.snd (Prod.fst (Prod.fst x_10))))))))),
 Prod.fst
 (Prod.snd
 (Prod.snd
 (Prod.snd
 (Prod.snd (Prod.snd (Prod.snd (Prod.snd (Prod.snd (Prod.fst (Prod.fst x_10)))))))))),
 Prod.fst
 (Prod.snd
 (Prod.snd
 (Prod.snd
 (Prod.snd
 (Prod.snd (Prod.snd (Prod.snd (Prod.snd (Prod.snd (Prod.fst (Prod.fst x_10))))))))))),
 Prod.fst
 (Prod.snd
 (Prod.snd
 (Prod.snd
 (Prod.snd
 (Prod.snd
 (Prod.snd (Prod.snd (Prod.snd (Prod.snd (Prod.snd (Prod.fst (Prod.fst x_10)))))))))))),
 Prod.fst
 (Prod.snd
 (Prod.snd
 (Prod.snd
 (Prod.snd
 (Prod.snd
 (Prod.snd
 (Prod.snd
 (Prod.snd (Prod.snd (Prod.snd (Prod.snd (Prod.fst (Prod.fst x_10))))))))))))),
 Prod.fst
 (Prod.snd
 (Prod.snd
 (Prod.snd
 (Prod.snd
 (Prod.snd
 (Prod.snd
 (Prod.snd
 (Prod.snd
 (Prod.snd (Prod.snd (Prod.snd (Prod.snd (Prod.fst (Prod.fst x_10)))))))))))))),
 Prod.fst
 (Prod.snd
 (Prod.snd
 (Prod.snd
 (Prod.snd
 (Prod.snd
 (Prod.snd
 (Prod.snd
 (Prod.snd
 (Prod.snd
 (Prod.snd (Prod.snd (Prod.snd (Prod.snd (Prod.fst (Prod.fst x_10))))))))))))))),
 Prod.fst
 (Prod.snd
 (Prod.snd
 (Prod.snd
 (Prod.snd
 (Prod.snd
 (Prod.snd
 (Prod.snd
 (Prod.snd
 (Prod.snd
 (Prod.snd
 (Prod.snd
 (Prod.snd (Prod.snd (Prod.snd (Prod.fst (Prod.fst x_10)))))))))))))))),
 Prod.fst
 (Prod.snd
 (Prod.snd
 (Prod.snd
 (Prod.snd
 (Prod.snd
 (Prod.snd
 (Prod.snd
 (Prod.snd
 (Prod.snd
 (Prod.snd
 (Prod.snd
 (Prod.snd
 (Prod.snd (Prod.snd (Prod.snd (Prod.fst (Prod.fst x_10))))))))))))))))),
 Prod.fst
 (Prod.snd
 (Prod.snd
 (Prod.snd
 (Prod.snd
 (Prod.snd
 (Prod.snd
 (Prod.snd
 (Prod.snd
 (Prod.snd
 (Prod.snd
 (Prod.snd
 (Prod.snd
 (Prod.snd
 (Prod.snd
 (Prod.snd (Prod.snd (Prod.fst (Prod.fst x_10)))))))))))))))))),
 Prod.fst
 (Prod.snd
 (Prod.snd
 (Prod.snd
 (Prod.snd
 (Prod.snd
 (Prod.snd
 (Prod.snd
 (Prod.snd
 (Prod.snd
 (Prod.snd
 (Prod.snd
 (Prod.snd
 (Prod.snd
 (Prod.snd
 (Prod.snd
 (Prod.snd (Prod.snd (Prod.fst (Prod.fst x_10))))))))))))))))))),
 Prod.fst
 (Prod.snd
 (Prod.snd
 (Prod.snd
 (Prod.snd
 (Prod.snd
 (Prod.snd
 (Prod.snd
 (Prod.snd
 (Prod.snd
 (Prod.snd
 (Prod.snd
 (Prod.snd
 (Prod.snd
 (Prod.snd
 (Prod.snd
 (Prod.snd
 (Prod.snd (Prod.snd (Prod.fst (Prod.fst x_10)))))))))))))))))))),
 Prod.fst
 (Prod.snd
 (Prod.snd
 (Prod.snd
 (Prod.snd
 (Prod.snd
 (Prod.snd
 (Prod.snd
 (Prod.snd
 (Prod.snd
 (Prod.snd
 (Prod.snd
 (Prod.snd
 (Prod.snd
 (Prod.snd
 (Prod.snd
 (Prod.snd
 (Prod.snd
 (Prod.snd
 (Prod.snd (Prod.fst (Prod.fst x_10))))))))))))))))))))),
 Prod.snd
 (Prod.snd
 (Prod.snd
 (Prod.snd
 (Prod.snd
 (Prod.snd
 (Prod.snd
 (Prod.snd
 (Prod.snd
 (Prod.snd
 (Prod.snd
 (Prod.snd
 (Prod.snd
 (Prod.snd
 (Prod.snd
 (Prod.snd
 (Prod.snd
 (Prod.snd
 (Prod.snd
 (Prod.snd (Prod.fst (Prod.fst x_10)))))))))))))))))))))),
 (0 : UInt8), (0 : UInt8), (0 : UInt8), (0 : UInt64), (0 : UInt64), false, (0 : UInt8), (0 : UInt64),
 (0 : UInt64), [], [], (0 : UInt8), (0 : UInt8), (0 : Int64), (0 : UInt8), (0 : UInt8), (0 : UInt64),
 (0 : UInt64), (0 : UInt64), (0 : UInt64), (0 : UInt64)))
 fun (x_11 : Bool × Unit) =>
 oite (!Prod.fst x_11) (some (false, ()))
 (ojoinA (1045951 : Nat)
 [PT.int IntKind.i64, PT.int IntKind.i64, PT.int IntKind.i64, PT.int IntKind.i64, PT.bool,
 PT.optA
 (OTs.cons (OT.c (CT.int IntKind.u32))
 (OTs.cons (OT.c (CT.int IntKind.i32)) (OTs.cons (OT.c (CT.int IntKind.u32)) OTs.nil)))
 (CT.int IntKind.u32)
 (OTs.cons (OT.c (CT.int IntKind.u64)) (OTs.cons (OT.c (CT.int IntKind.u64)) OTs.nil)),
 PT.list (CTs.cons (CT.ro (CTs.cons (CT.int IntKind.u8) CTs.nil)) CTs.nil)]
 (fun
 (J :
 Arr
 [PT.int IntKind.i64, PT.int IntKind.i64, PT.int IntKind.i64, PT.int IntKind.i64, PT.bool,
 PT.optA
 (OTs.cons (OT.c (CT.int IntKind.u32))
 (OTs.cons (OT.c (CT.int IntKind.i32)) (OTs.cons (OT.c (CT.int IntKind.u32)) OTs.nil)))
 (CT.int IntKind.u32)
 (OTs.cons (OT.c (CT.int IntKind.u64)) (OTs.cons (OT.c (CT.int IntKind.u64)) OTs.nil)),
 PT.list (CTs.cons (CT.ro (CTs.cons (CT.int IntKind.u8) CTs.nil)) CTs.nil)]
 (Option (Bool × Unit))) =>
 oite (decide (Prod.snd (Prod.fst x_10) = (3 : Int64)))
 (J t_1 (Prod.snd (Prod.fst x_10)) t t_1
 (!decide (Int64.ofInt ↑(List.length x_9) < (8 : Int64)) ==
 decide (Int64.ofInt ↑(List.length x_9) < (8 : Int64)))
 (Prod.snd x_10) t_3)
 (J t_1 (Prod.snd (Prod.fst x_10)) t t_1
 (!decide (Int64.ofInt ↑(List.length x_9) < (8 : Int64)) == false) (Prod.snd x_10) t_3))
 (F3_J1045951 rec))))
 none)
 (some (true, ()))
def F3_R1021 : Nat →
 Nat →
 PT.T (PT.int IntKind.i64) →
 Int64 →
 Option ((UInt32 × Int32 × UInt32) × List UInt32 × UInt64 × UInt64) → List (List UInt8) → Option (Bool × Unit) := fun (n : Nat) =>
 ofixA (1021 : Nat)
 [PT.int IntKind.i64, PT.int IntKind.i64,
 PT.optA
 (OTs.cons (OT.c (CT.int IntKind.u32))
 (OTs.cons (OT.c (CT.int IntKind.i32)) (OTs.cons (OT.c (CT.int IntKind.u32)) OTs.nil)))
 (CT.int IntKind.u32) (OTs.cons (OT.c (CT.int IntKind.u64)) (OTs.cons (OT.c (CT.int IntKind.u64)) OTs.nil)),
 PT.list (CTs.cons (CT.ro (CTs.cons (CT.int IntKind.u8) CTs.nil)) CTs.nil)]
 (F3_L1021 n)
def F3 : Nat →
 List UInt8 ×
 (UInt8 ×
 UInt8 ×
 UInt8 ×
 UInt16 ×
 UInt16 ×
 UInt16 ×
 UInt16 ×
 UInt64 × Bool × UInt8 × UInt8 × UInt8 × UInt16 × UInt16 × UInt16 × UInt8 × UInt8 × UInt8 × Bool) ×
 UInt8 × UInt8 × UInt8 →
 Option (Bool × Unit) := fun (n : Nat)
 (x :
 List UInt8 ×
 (UInt8 ×
 UInt8 ×
 UInt8 ×
 UInt16 ×
 UInt16 ×
 UInt16 ×
 UInt16 ×
 UInt64 ×
 Bool × UInt8 × UInt8 × UInt8 × UInt16 × UInt16 × UInt16 × UInt8 × UInt8 × UInt8 × Bool) ×
 UInt8 × UInt8 × UInt8) =>
 obind (F4 n ()) fun (x_1 : Bool × Unit) =>
 oite (!Prod.fst x_1) (some (false, ()))
 (oite (decide ((300 : Int64) < Int64.ofInt ↑(List.length (Prod.fst x)))) (some (true, ()))
 (obind (F5 n ())
 fun (x_2 : Option ((UInt32 × Int32 × UInt32) × List UInt32 × UInt64 × UInt64) × Unit) =>
 obind
 (F7 n
 (Prod.fst (Prod.fst (Prod.snd x)), Prod.fst (Prod.snd (Prod.fst (Prod.snd x))),
 Prod.fst (Prod.snd (Prod.snd (Prod.fst (Prod.snd x)))),
 Prod.fst (Prod.snd (Prod.snd (Prod.snd (Prod.fst (Prod.snd x))))),
 Prod.fst (Prod.snd (Prod.snd (Prod.snd (Prod.snd (Prod.fst (Prod.snd x)))))),
 Prod.fst (Prod.snd (Prod.snd (Prod.snd (Prod.snd (Prod.snd (Prod.fst (Prod.snd x))))))),
 Prod.fst (Prod.snd (Prod.snd (Prod.snd (Prod.snd (Prod.snd (Prod.snd (Prod.fst (Prod.snd x)))))))),
 Prod.fst
 (Prod.snd (Prod.snd (Prod.snd (Prod.snd (Prod.snd (Prod.snd (Prod.snd (Prod.fst (Prod.snd x))))))))),
 Prod.fst
 (Prod.snd
 (Prod.snd
 (Prod.snd (Prod.snd (Prod.snd (Prod.snd (Prod.snd (Prod.snd (Prod.fst (Prod.snd x)))))))))),
 Prod.fst
 (Prod.snd
 (Prod.snd
 (Prod.snd
 (Prod.snd (Prod.snd (Prod.snd (Prod.snd (Prod.snd (Prod.snd (Prod.fst (Prod.snd x))))))))))),
 Prod.fst
 (Prod.snd
 (Prod.snd
 (Prod.snd
 (Prod.snd
 (Prod.snd (Prod.snd (Prod.snd (Prod.snd (Prod.snd (Prod.snd (Prod.fst (Prod.snd x)))))))))))),
 Prod.fst
 (Prod.snd
 (Prod.snd
 (Prod.snd
 (Prod.snd
 (Prod.snd
 (Prod.snd
 (Prod.snd (Prod.snd (Prod.snd (Prod.snd (Prod.snd (Prod.fst (Prod.snd x))))))))))))),
 Prod.fst
 (Prod.snd
 (Prod.snd
 (Prod.snd
 (Prod.snd
 (Prod.snd
 (Prod.snd
 (Prod.snd
 (Prod.snd (Prod.snd (Prod.snd (Prod.snd (Prod.snd (Prod.fst (Prod.snd x)))))))))))))),
 Prod.fst
 (Prod.snd
 (Prod.snd
 (Prod.snd
 (Prod.snd
 (Prod.snd
 (Prod.snd
 (Prod.snd
 (Prod.snd
 (Prod.snd
 (Prod.snd (Prod.snd (Prod.snd (Prod.snd (Prod.fst (Prod.snd x))))))))))))))),
 Prod.fst
 (Prod.snd
 (Prod.snd
 (Prod.snd
 (Prod.snd
 (Prod.snd
 (Prod.snd
 (Prod.snd
 (Prod.snd
 (Prod.snd
 (Prod.snd
 (Prod.snd (Prod.snd (Prod.snd (Prod.snd (Prod.fst (Prod.snd x)))))))))))))))),
 Prod.fst
 (Prod.snd
 (Prod.snd
 (Prod.snd
 (Prod.snd
 (Prod.snd
 (Prod.snd
 (Prod.snd
 (Prod.snd
 (Prod.snd
 (Prod.snd
 (Prod.snd
 (Prod.snd (Prod.snd (Prod.snd (Prod.snd (Prod.fst (Prod.snd x))))))))))))))))),
 Prod.fst
 (Prod.snd
 (Prod.snd
 (Prod.snd
 (Prod.snd
 (Prod.snd
 (Prod.snd
 (Prod.snd
 (Prod.snd
 (Prod.snd
 (Prod.snd
 (Prod.snd
 (Prod.snd
 (Prod.snd
 (Prod.snd (Prod.snd (Prod.snd (Prod.fst (Prod.snd x)))))))))))))))))),
 Prod.fst
 (Prod.snd
 (Prod.snd
 (Prod.snd
 (Prod.snd
 (Prod.snd
 (Prod.snd
 (Prod.snd
 (Prod.snd
 (Prod.snd
 (Prod.snd
 (Prod.snd
 (Prod.snd
 (Prod.snd
 (Prod.snd
 (Prod.snd (Prod.snd (Prod.snd (Prod.fst (Prod.snd x))))))))))))))))))),
 Prod.snd
 (Prod.snd
 (Prod.snd
 (Prod.snd
 (Prod.snd
 (Prod.snd
 (Prod.snd
 (Prod.snd
 (Prod.snd
 (Prod.snd
 (Prod.snd
 (Prod.snd
 (Prod.snd
 (Prod.snd
 (Prod.snd
 (Prod.snd (Prod.snd (Prod.snd (Prod.fst (Prod.snd x)))))))))))))))))))))
 fun
 (x_3 :
 (UInt8 ×
 UInt8 ×
 UInt8 ×
 UInt64 ×
 UInt64 ×
 Bool ×
 UInt8 ×
 UInt64 ×
 UInt64 ×
 List UInt8 ×
 List (List UInt8 × List UInt8) ×
 UInt8 ×
 UInt8 × Int64 × UInt8 × UInt8 × UInt64 × UInt64 × UInt64 × UInt64 × UInt64) ×
 Unit) =>
 obind
 (F6 n
 (Prod.fst (Prod.fst x_3), Prod.fst (Prod.snd (Prod.fst x_3)),
 Prod.fst (Prod.snd (Prod.snd (Prod.fst x_3))),
 Prod.fst (Prod.snd (Prod.snd (Prod.snd (Prod.fst x_3)))),
 Prod.fst (Prod.snd (Prod.snd (Prod.snd (Prod.snd (Prod.fst x_3))))),
 Prod.fst (Prod.snd (Prod.snd (Prod.snd (Prod.snd (Prod.snd (Prod.fst x_3)))))),
 Prod.fst (Prod.snd (Prod.snd (Prod.snd (Prod.snd (Prod.snd (Prod.snd (Prod.fst x_3))))))),
 Prod.fst (Prod.snd (Prod.snd (Prod.snd (Prod.snd (Prod.snd (Prod.snd (Prod.snd (Prod.fst x_3)))))))),
 Prod.fst
 (Prod.snd
 (Prod.snd (Prod.snd (Prod.snd (Prod.snd (Prod.snd (Prod.snd (Prod.snd (Prod.fst x_3))))))))),
 Prod.fst
 (Prod.snd
 (Prod.snd
 (Prod.snd (Prod.snd (Prod.snd (Prod.snd (Prod.snd (Prod.snd (Prod.snd (Prod.fst x_3)))))))))),
 Prod.fst
 (Prod.snd
 (Prod.snd
 (Prod.snd
 (Prod.snd
 (Prod.snd (Prod.snd (Prod.snd (Prod.snd (Prod.snd (Prod.snd (Prod.fst x_3))))))))))),
 Prod.fst
 (Prod.snd
 (Prod.snd
 (Prod.snd
 (Prod.snd
 (Prod.snd
 (Prod.snd (Prod.snd (Prod.snd (Prod.snd (Prod.snd (Prod.snd (Prod.fst x_3)))))))))))),
 Prod.fst
 (Prod.snd
 (Prod.snd
 (Prod.snd
 (Prod.snd
 (Prod.snd
 (Prod.snd
 (Prod.snd (Prod.snd (Prod.snd (Prod.snd (Prod.snd (Prod.snd (Prod.fst x_3))))))))))))),
 Prod.fst
 (Prod.snd
 (Prod.snd
 (Prod.snd
 (Prod.snd
 (Prod.snd
 (Prod.snd
 (Prod.snd
 (Prod.snd
 (Prod.snd (Prod.snd (Prod.snd (Prod.snd (Prod.snd (Prod.fst x_3)))))))))))))),
 Prod.fst
 (Prod.snd
 (Prod.snd
 (Prod.snd
 (Prod.snd
 (Prod.snd
 (Prod.snd
 (Prod.snd
 (Prod.snd
 (Prod.snd
 (Prod.snd (Prod.snd (Prod.snd (Prod.snd (Prod.snd (Prod.fst x_3))))))))))))))),
 Prod.fst
 (Prod.snd
 (Prod.snd
 (Prod.snd
 (Prod.snd
 (Prod.snd
 (Prod.snd
 (Prod.snd
 (Prod.snd
 (Prod.snd
 (Prod.snd
 (Prod.snd (Prod.snd (Prod.snd (Prod.snd (Prod.snd (Prod.fst x_3)))))))))))))))),
 Prod.fst
 (Prod.snd
 (Prod.snd
 (Prod.snd
 (Prod.snd
 (Prod.snd
 (Prod.snd
 (Prod.snd
 (Prod.snd
 (Prod.snd
 (Prod.snd
 (Prod.snd
 (Prod.snd
 (Prod.snd (Prod.snd (Prod.snd (Prod.snd (Prod.fst x_3))))))))))))))))),
 Prod.fst
 (Prod.snd
 (Prod.snd
 (Prod.snd
 (Prod.snd
 (Prod.snd
 (Prod.snd
 (Prod.snd
 (Prod.snd
 (Prod.snd
 (Prod.snd
 (Prod.snd
 (Prod.snd
 (Prod.snd
 (Prod.snd (Prod.snd (Prod.snd (Prod.snd (Prod.fst x_3)))))))))))))))))),
 Prod.fst
 (Prod.snd
 (Prod.snd
 (Prod.snd
 (Prod.snd
 (Prod.snd
 (Prod.snd
 (Prod.snd
 (Prod.snd
 (Prod.snd
 (Prod.snd
 (Prod.snd
 (Prod.snd
 (Prod.snd
 (Prod.snd
 (Prod.snd
 (Prod.snd (Prod.snd (Prod.snd (Prod.fst x_3))))))))))))))))))),
 Prod.fst
 (Prod.snd
 (Prod.snd
 (Prod.snd
 (Prod.snd
 (Prod.snd
 (Prod.snd
 (Prod.snd
 (Prod.snd
 (Prod.snd
 (Prod.snd
 (Prod.snd
 (Prod.snd
 (Prod.snd
 (Prod.snd
 (Prod.snd
 (Prod.snd
 (Prod.snd (Prod.snd (Prod.snd (Prod.fst x_3)))))))))))))))))))),
 Prod.snd
 (Prod.snd
 (Prod.snd
 (Prod.snd
 (Prod.snd
 (Prod.snd
 (Prod.snd
 (Prod.snd
 (Prod.snd
 (Prod.snd
 (Prod.snd
 (Prod.snd
 (Prod.snd
 (Prod.snd
 (Prod.snd
 (Prod.snd
 (Prod.snd
 (Prod.snd (Prod.snd (Prod.snd (Prod.fst x_3))))))))))))))))))))))
 fun (x_4 : List UInt8 × Unit) =>
 oite
 (decide ((0 : Int) ≤ Int64.toInt (Int64.ofInt ↑(List.length (Prod.fst x_4)) - (4 : Int64))) &&
 Nat.ble (Int.toNat (Int64.toInt (Int64.ofInt ↑(List.length (Prod.fst x_4)) - (4 : Int64))))
 (List.length (Prod.fst x_4)) &&
 true)
 (oite
 (decide
 (Int64.ofInt
 ↑(Int.toNat (Int64.toInt (Int64.ofInt ↑(List.length (Prod.fst x_4)) - (4 : Int64))) -
 (0 : Nat)) =
 (0 : Int64)))
 none
 (oite
 (decide
 ((0 : Int) ≤
 Int64.toInt
 (Int64.ofInt ↑(UInt8.toNat (Prod.fst (Prod.snd (Prod.snd (Prod.snd x))))) %
 Int64.ofInt
 ↑(Int.toNat (Int64.toInt (Int64.ofInt ↑(List.length (Prod.fst x_4)) - (4 : Int64))) -
 (0 : Nat)))) &&
 Nat.blt
 (Int.toNat
 (Int64.toInt
 (Int64.ofInt ↑(UInt8.toNat (Prod.fst (Prod.snd (Prod.snd (Prod.snd x))))) %
 Int64.ofInt
 ↑(Int.toNat (Int64.toInt (Int64.ofInt ↑(List.length (Prod.fst x_4)) - (4 : Int64))) -
 (0 : Nat)))))
 (Int.toNat (Int64.toInt (Int64.ofInt ↑(List.length (Prod.fst x_4)) - (4 : Int64))) - (0 : Nat)))
 (obind
 (Prod.fst
 x_4)[(0 : Nat) +
 Int.toNat
 (Int64.toInt
 (Int64.ofInt ↑(UInt8.toNat (Prod.fst (Prod.snd (Prod.snd (Prod.snd x))))) %
 Int64.ofInt
 ↑(Int.toNat (Int64.toInt (Int64.ofInt ↑(List.length (Prod.fst x_4)) - (4 : Int64))) -
 (0 : Nat))))]?
 fun (x_5 : UInt8) =>
 obind (F8 n (Prod.fst x_2, Prod.fst x))
 fun (x_6 : List UInt8 × Option ((UInt32 × Int32 × UInt32) × List UInt32 × UInt64 × UInt64)) =>
 oite
 (Nat.ble
 (List.length [(183 : UInt8), Prod.fst (Prod.snd (Prod.snd x)) % (5 : UInt8)] +
 List.length (Prod.fst x))
 (4294967296 : Nat))
 (obind
 (F8 n
 (Prod.snd x_6,
 [(183 : UInt8), Prod.fst (Prod.snd (Prod.snd x)) % (5 : UInt8)] ++ Prod.fst x))
 fun
 (x_7 : List UInt8 × Option ((UInt32 × Int32 × UInt32) × List UInt32 × UInt64 × UInt64)) =>
 obind
 (F8 n
 (Prod.snd x_7,
 List.take
 (Int.toNat (Int64.toInt (Int64.ofInt ↑(List.length (Prod.fst x_4)) - (4 : Int64))) -
 (0 : Nat))
 (List.drop (0 : Nat)
 (List.set (Prod.fst x_4)
 ((0 : Nat) +
 Int.toNat
 (Int64.toInt
 (Int64.ofInt
 ↑(UInt8.toNat (Prod.fst (Prod.snd (Prod.snd (Prod.snd x))))) %
 Int64.ofInt
 ↑(Int.toNat
 (Int64.toInt
 (Int64.ofInt ↑(List.length (Prod.fst x_4)) - (4 : Int64))) -
 (0 : Nat)))))
 (Prod.snd (Prod.snd (Prod.snd (Prod.snd x))))))))
 fun
 (x_8 :
 List UInt8 × Option ((UInt32 × Int32 × UInt32) × List UInt32 × UInt64 × UInt64)) =>
 F3_R1021 n n
 (Int64.ofInt ↑(List.length [Prod.fst x, Prod.fst x_6, Prod.fst x_7, Prod.fst x_8]))
 (0 : Int64) (Prod.snd x_8) [Prod.fst x, Prod.fst x_6, Prod.fst x_7, Prod.fst x_8])
 none)
 none))
 none))
theorem F3_R1021_s (n : Nat) (m_ : Nat) : F3_R1021 n (m_ + 1) = F3_L1021 n (F3_R1021 n m_) := rfl
theorem ok3 (n : Nat) : FunOK Tryz.prog ⟨3, sig3, F3 n⟩ :=
 fun_ok (hints := ⟨[(1045951, ⟨[(11, .one (.own 5)), (13, .one (.int .i64)), (16, .one (.int .i64)), (53, .one (.own 6)), (54, .one (.int .i64)), (55, .one (.int .i64)), (85, .one (.bool))], [(5, .foldA (.cons (.c (.int .u32)) (.cons (.c (.int .i32)) (.cons (.c (.int .u32)) .nil))) (.int .u32) 256 (.cons (.c (.int .u64)) (.cons (.c (.int .u64)) .nil))), (6, .row (.cons (.ro (.cons (.int .u8) .nil)) .nil))], 7⟩)], [(1021, ⟨[(11, .one (.own 5)), (53, .one (.own 6)), (54, .one (.int .i64)), (55, .one (.int .i64))], [(5, .foldA (.cons (.c (.int .u32)) (.cons (.c (.int .i32)) (.cons (.c (.int .u32)) .nil))) (.int .u32) 256 (.cons (.c (.int .u64)) (.cons (.c (.int .u64)) .nil))), (6, .row (.cons (.ro (.cons (.int .u8) .nil)) .nil))], 7⟩)]⟩) (fuel := n) (c := Tryz.f3.body.getD .skip) (rs := Tryz.f3.results.toList) tt_ok mix (FsOK.cons (ok4 n) (FsOK.cons (ok5 n) (FsOK.cons (ok7 n) (FsOK.cons (ok6 n) (FsOK.cons (ok8 n) (FsOK.cons (ok9 n) (FsOK.cons (ok10 n) (FsOK.cons (ok11 n) (FsOK.nil))))))))) Tryz.func3 (by kernel_rfl) (by kernel_rfl) rfl (by kernel_rfl) rfl rfl (by kernel_rfl)
end Go.Proofs.YtgknjddbbehboaaGreat
