/- What the functions of this seat compute, found by walking their code symbolically: each F is what the walk finds, each ok says that the Go function keeps it as a contract. Printed by a program of this repo's. -/
import Derived.Test.YtgknjddbbehboaaGreatFnsA
open Go Go.Sx
namespace Go.Proofs.YtgknjddbbehboaaGreat
set_option maxRecDepth 100000
set_option linter.unusedVariables false
-- (watchfire/watchfirelaw05.Small).Frame
def sig7 : Sig := ⟨(.cons (.agg (.cons (.int .u8) (.cons (.int .u8) (.cons (.int .u8) (.cons (.int .u16) (.cons (.int .u16) (.cons (.int .u16) (.cons (.int .u16) (.cons (.int .u64) (.cons .bool (.cons (.int .u8) (.cons (.int .u8) (.cons (.int .u8) (.cons (.int .u16) (.cons (.int .u16) (.cons (.int .u16) (.cons (.int .u8) (.cons (.int .u8) (.cons (.int .u8) (.cons .bool .nil)))))))))))))))))))) .nil), (.cons (.agg (.cons (.int .u8) (.cons (.int .u8) (.cons (.int .u8) (.cons (.int .u64) (.cons (.int .u64) (.cons .bool (.cons (.int .u8) (.cons (.int .u64) (.cons (.int .u64) (.cons .str (.cons (.ro (.cons .str (.cons .str .nil))) (.cons (.int .u8) (.cons (.int .u8) (.cons (.int .i64) (.cons (.int .u8) (.cons (.int .u8) (.cons (.int .u64) (.cons (.int .u64) (.cons (.int .u64) (.cons (.int .u64) (.cons (.int .u64) .nil)))))))))))))))))))))) .nil)⟩
def F7_J7 : Nat →
 UInt8 →
 UInt8 →
 UInt8 →
 UInt16 →
 UInt16 →
 UInt16 →
 UInt16 →
 UInt64 →
 Bool →
 UInt8 →
 UInt8 →
 UInt8 →
 UInt16 →
 UInt16 →
 UInt16 →
 UInt8 →
 UInt8 →
 UInt8 →
 Bool →
 UInt8 →
 UInt8 →
 UInt8 →
 UInt64 →
 UInt64 →
 Bool →
 UInt8 →
 UInt64 →
 UInt64 →
 List UInt8 →
 UInt8 →
 UInt8 →
 Int64 →
 UInt8 →
 UInt8 →
 UInt64 →
 UInt64 →
 UInt64 →
 UInt64 →
 UInt64 →
 UInt8 →
 UInt8 →
 UInt8 →
 UInt64 →
 UInt64 →
 Bool →
 UInt8 →
 UInt64 →
 UInt64 →
 List UInt8 →
 UInt8 →
 UInt8 →
 Int64 →
 UInt8 →
 UInt8 →
 UInt64 →
 UInt64 →
 UInt64 →
 UInt64 →
 UInt64 →
 Option
 ((UInt8 ×
 UInt8 ×
 UInt8 ×
 UInt64 ×
 UInt64 ×
 Bool ×
 UInt8 ×
 UInt64 ×
 UInt64 ×
 List
 UInt8 ×
 List
 (List
 UInt8 ×
 List
 UInt8) ×
 UInt8 ×
 UInt8 ×
 Int64 ×
 UInt8 ×
 UInt8 ×
 UInt64 ×
 UInt64 ×
 UInt64 ×
 UInt64 ×
 UInt64) ×
 Unit) := fun (n : Nat) (s0 s1 s2 : UInt8) (s3 s4 s5 s6 : UInt16) (s7 : UInt64) (s8 : Bool) (s9 s10 s11 : UInt8)
 (s12 s13 s14 : UInt16) (s15 s16 s17 : UInt8) (s18 : Bool) (t0 t1 t2 : UInt8) (t3 t4 : UInt64) (t5 : Bool)
 (t6 : UInt8) (t7 t8 : UInt64) (t9 : List UInt8) (t11 t12 : UInt8) (t13 : Int64) (t14 t15 : UInt8)
 (t16 t17 t18 t19 t20 : UInt64) (f0 f1 f2 : UInt8) (f3 f4 : UInt64) (f5 : Bool) (f6 : UInt8) (f7 f8 : UInt64)
 (f9 : List UInt8) (f11 f12 : UInt8) (f13 : Int64) (f14 f15 : UInt8) (f16 f17 f18 f19 f20 : UInt64) =>
 oite (decide (f0 = (1 : UInt8)))
 (obind (F17 n (s8, s9, s10, s11, s12, s13, s14, s15, s16, s17, s18))
 fun
 (x_1 :
 (Bool ×
 UInt8 ×
 UInt64 ×
 UInt64 ×
 List UInt8 ×
 List (List UInt8 × List UInt8) × UInt8 × UInt8 × Int64 × UInt8 × UInt8 × UInt64 × UInt64) ×
 Unit) =>
 some
 ((f0, f1, f2, (1 : UInt64) + UInt64.ofInt ↑(UInt16.toNat s3), (1 : UInt64) + UInt64.ofInt ↑(UInt16.toNat s4),
 Prod.fst (Prod.fst x_1), Prod.fst (Prod.snd (Prod.fst x_1)), Prod.fst (Prod.snd (Prod.snd (Prod.fst x_1))),
 Prod.fst (Prod.snd (Prod.snd (Prod.snd (Prod.fst x_1)))),
 Prod.fst (Prod.snd (Prod.snd (Prod.snd (Prod.snd (Prod.fst x_1))))),
 Prod.fst (Prod.snd (Prod.snd (Prod.snd (Prod.snd (Prod.snd (Prod.fst x_1)))))),
 Prod.fst (Prod.snd (Prod.snd (Prod.snd (Prod.snd (Prod.snd (Prod.snd (Prod.fst x_1))))))),
 Prod.fst (Prod.snd (Prod.snd (Prod.snd (Prod.snd (Prod.snd (Prod.snd (Prod.snd (Prod.fst x_1)))))))),
 Prod.fst
 (Prod.snd (Prod.snd (Prod.snd (Prod.snd (Prod.snd (Prod.snd (Prod.snd (Prod.snd (Prod.fst x_1))))))))),
 Prod.fst
 (Prod.snd
 (Prod.snd (Prod.snd (Prod.snd (Prod.snd (Prod.snd (Prod.snd (Prod.snd (Prod.snd (Prod.fst x_1)))))))))),
 Prod.fst
 (Prod.snd
 (Prod.snd
 (Prod.snd
 (Prod.snd (Prod.snd (Prod.snd (Prod.snd (Prod.snd (Prod.snd (Prod.snd (Prod.fst x_1))))))))))),
 Prod.fst
 (Prod.snd
 (Prod.snd
 (Prod.snd
 (Prod.snd
 (Prod.snd (Prod.snd (Prod.snd (Prod.snd (Prod.snd (Prod.snd (Prod.snd (Prod.fst x_1)))))))))))),
 Prod.snd
 (Prod.snd
 (Prod.snd
 (Prod.snd
 (Prod.snd
 (Prod.snd (Prod.snd (Prod.snd (Prod.snd (Prod.snd (Prod.snd (Prod.snd (Prod.fst x_1)))))))))))),
 f18, f19, f20),
 ()))
 (oite (decide (f0 = (2 : UInt8)))
 (some
 ((f0, f1, f2, (1 : UInt64) + UInt64.ofInt ↑(UInt16.toNat s3), f4, f5, f6, f7, f8, f9, [], f11, f12, f13, f14,
 f15, f16, f17, UInt64.ofInt ↑(UInt16.toNat s5), s7, (1 : UInt64) + UInt64.ofInt ↑(UInt16.toNat s6)),
 ()))
 (some
 ((f0, f1, f2, f3, f4, f5, f6, f7, f8, f9, [], f11, f12, f13, f14, f15, f16, f17, f18, f19, f20), ())))
def F7 : Nat →
 UInt8 ×
 UInt8 ×
 UInt8 ×
 UInt16 ×
 UInt16 ×
 UInt16 ×
 UInt16 ×
 UInt64 × Bool × UInt8 × UInt8 × UInt8 × UInt16 × UInt16 × UInt16 × UInt8 × UInt8 × UInt8 × Bool →
 Option
 ((UInt8 ×
 UInt8 ×
 UInt8 ×
 UInt64 ×
 UInt64 ×
 Bool ×
 UInt8 ×
 UInt64 ×
 UInt64 ×
 List UInt8 ×
 List (List UInt8 × List UInt8) ×
 UInt8 × UInt8 × Int64 × UInt8 × UInt8 × UInt64 × UInt64 × UInt64 × UInt64 × UInt64) ×
 Unit) := fun (n : Nat)
 (x :
 UInt8 ×
 UInt8 ×
 UInt8 ×
 UInt16 ×
 UInt16 ×
 UInt16 ×
 UInt16 ×
 UInt64 × Bool × UInt8 × UInt8 × UInt8 × UInt16 × UInt16 × UInt16 × UInt8 × UInt8 × UInt8 × Bool) =>
 ojoinA (7 : Nat)
 [PT.int IntKind.u8, PT.int IntKind.u8, PT.int IntKind.u8, PT.int IntKind.u16, PT.int IntKind.u16,
 PT.int IntKind.u16, PT.int IntKind.u16, PT.int IntKind.u64, PT.bool, PT.int IntKind.u8, PT.int IntKind.u8,
 PT.int IntKind.u8, PT.int IntKind.u16, PT.int IntKind.u16, PT.int IntKind.u16, PT.int IntKind.u8,
 PT.int IntKind.u8, PT.int IntKind.u8, PT.bool, PT.int IntKind.u8, PT.int IntKind.u8, PT.int IntKind.u8,
 PT.int IntKind.u64, PT.int IntKind.u64, PT.bool, PT.int IntKind.u8, PT.int IntKind.u64, PT.int IntKind.u64,
 PT.bytes, PT.int IntKind.u8, PT.int IntKind.u8, PT.int IntKind.i64, PT.int IntKind.u8, PT.int IntKind.u8,
 PT.int IntKind.u64, PT.int IntKind.u64, PT.int IntKind.u64, PT.int IntKind.u64, PT.int IntKind.u64,
 PT.int IntKind.u8, PT.int IntKind.u8, PT.int IntKind.u8, PT.int IntKind.u64, PT.int IntKind.u64, PT.bool,
 PT.int IntKind.u8, PT.int IntKind.u64, PT.int IntKind.u64, PT.bytes, PT.int IntKind.u8, PT.int IntKind.u8,
 PT.int IntKind.i64, PT.int IntKind.u8, PT.int IntKind.u8, PT.int IntKind.u64, PT.int IntKind.u64,
 PT.int IntKind.u64, PT.int IntKind.u64, PT.int IntKind.u64]
 (fun
 (J :
 Arr
 [PT.int IntKind.u8, PT.int IntKind.u8, PT.int IntKind.u8, PT.int IntKind.u16, PT.int IntKind.u16,
 PT.int IntKind.u16, PT.int IntKind.u16, PT.int IntKind.u64, PT.bool, PT.int IntKind.u8, PT.int IntKind.u8,
 PT.int IntKind.u8, PT.int IntKind.u16, PT.int IntKind.u16, PT.int IntKind.u16, PT.int IntKind.u8,
 PT.int IntKind.u8, PT.int IntKind.u8, PT.bool, PT.int IntKind.u8, PT.int IntKind.u8, PT.int IntKind.u8,
 PT.int IntKind.u64, PT.int IntKind.u64, PT.bool, PT.int IntKind.u8, PT.int IntKind.u64,
 PT.int IntKind.u64, PT.bytes, PT.int IntKind.u8, PT.int IntKind.u8, PT.int IntKind.i64, PT.int IntKind.u8,
 PT.int IntKind.u8, PT.int IntKind.u64, PT.int IntKind.u64, PT.int IntKind.u64, PT.int IntKind.u64,
 PT.int IntKind.u64, PT.int IntKind.u8, PT.int IntKind.u8, PT.int IntKind.u8, PT.int IntKind.u64,
 PT.int IntKind.u64, PT.bool, PT.int IntKind.u8, PT.int IntKind.u64, PT.int IntKind.u64, PT.bytes,
 PT.int IntKind.u8, PT.int IntKind.u8, PT.int IntKind.i64, PT.int IntKind.u8, PT.int IntKind.u8,
 PT.int IntKind.u64, PT.int IntKind.u64, PT.int IntKind.u64, PT.int IntKind.u64, PT.int IntKind.u64]
 (Option
 ((UInt8 ×
 UInt8 ×
 UInt8 ×
 UInt64 ×
 UInt64 ×
 Bool ×
 UInt8 ×
 UInt64 ×
 UInt64 ×
 List UInt8 ×
 List (List UInt8 × List UInt8) ×
 UInt8 ×
 UInt8 × Int64 × UInt8 × UInt8 × UInt64 × UInt64 × UInt64 × UInt64 × UInt64) ×
 Unit))) =>
 oite (decide (Prod.fst (Prod.snd x) % (32 : UInt8) = Prod.fst (Prod.snd (Prod.snd x)) % (32 : UInt8)))
 (J (Prod.fst x) (Prod.fst (Prod.snd x)) (Prod.fst (Prod.snd (Prod.snd x)))
 (Prod.fst (Prod.snd (Prod.snd (Prod.snd x)))) (Prod.fst (Prod.snd (Prod.snd (Prod.snd (Prod.snd x)))))
 (Prod.fst (Prod.snd (Prod.snd (Prod.snd (Prod.snd (Prod.snd x))))))
 (Prod.fst (Prod.snd (Prod.snd (Prod.snd (Prod.snd (Prod.snd (Prod.snd x)))))))
 (Prod.fst (Prod.snd (Prod.snd (Prod.snd (Prod.snd (Prod.snd (Prod.snd (Prod.snd x))))))))
 (Prod.fst (Prod.snd (Prod.snd (Prod.snd (Prod.snd (Prod.snd (Prod.snd (Prod.snd (Prod.snd x)))))))))
 (Prod.fst
 (Prod.snd (Prod.snd (Prod.snd (Prod.snd (Prod.snd (Prod.snd (Prod.snd (Prod.snd (Prod.snd x))))))))))
 (Prod.fst
 (Prod.snd
 (Prod.snd (Prod.snd (Prod.snd (Prod.snd (Prod.snd (Prod.snd (Prod.snd (Prod.snd (Prod.snd x)))))))))))
 (Prod.fst
 (Prod.snd
 (Prod.snd
 (Prod.snd (Prod.snd (Prod.snd (Prod.snd (Prod.snd (Prod.snd (Prod.snd (Prod.snd (Prod.snd x))))))))))))
 (Prod.fst
 (Prod.snd
 (Prod.snd
 (Prod.snd
 (Prod.snd
 (Prod.snd (Prod.snd (Prod.snd (Prod.snd (Prod.snd (Prod.snd (Prod.snd (Prod.snd x)))))))))))))
 (Prod.fst
 (Prod.snd
 (Prod.snd
 (Prod.snd
 (Prod.snd
 (Prod.snd
 (Prod.snd (Prod.snd (Prod.snd (Prod.snd (Prod.snd (Prod.snd (Prod.snd (Prod.snd x))))))))))))))
 (Prod.fst
 (Prod.snd
 (Prod.snd
 (Prod.snd
 (Prod.snd
 (Prod.snd
 (Prod.snd
 (Prod.snd (Prod.snd (Prod.snd (Prod.snd (Prod.snd (Prod.snd (Prod.snd (Prod.snd x)))))))))))))))
 (Prod.fst
 (Prod.snd
 (Prod.snd
 (Prod.snd
 (Prod.snd
 (Prod.snd
 (Prod.snd
 (Prod.snd
 (Prod.snd
 (Prod.snd (Prod.snd (Prod.snd (Prod.snd (Prod.snd (Prod.snd (Prod.snd x))))))))))))))))
 (Prod.fst
 (Prod.snd
 (Prod.snd
 (Prod.snd
 (Prod.snd
 (Prod.snd
 (Prod.snd
 (Prod.snd
 (Prod.snd
 (Prod.snd
 (Prod.snd (Prod.snd (Prod.snd (Prod.snd (Prod.snd (Prod.snd (Prod.snd x)))))))))))))))))
 (Prod.fst
 (Prod.snd
 (Prod.snd
 (Prod.snd
 (Prod.snd
 (Prod.snd
 (Prod.snd
 (Prod.snd
 (Prod.snd
 (Prod.snd
 (Prod.snd
 (Prod.snd
 (Prod.snd (Prod.snd (Prod.snd (Prod.snd (Prod.snd (Prod.snd x))))))))))))))))))
 (Prod.snd
 (Prod.snd
 (Prod.snd
 (Prod.snd
 (Prod.snd
 (Prod.snd
 (Prod.snd
 (Prod.snd
 (Prod.snd
 (Prod.snd
 (Prod.snd
 (Prod.snd
 (Prod.snd (Prod.snd (Prod.snd (Prod.snd (Prod.snd (Prod.snd x))))))))))))))))))
 (0 : UInt8) (0 : UInt8) (0 : UInt8) (0 : UInt64) (0 : UInt64) false (0 : UInt8) (0 : UInt64) (0 : UInt64) []
 (0 : UInt8) (0 : UInt8) (0 : Int64) (0 : UInt8) (0 : UInt8) (0 : UInt64) (0 : UInt64) (0 : UInt64)
 (0 : UInt64) (0 : UInt64) ((1 : UInt8) + Prod.fst x % (3 : UInt8)) (Prod.fst (Prod.snd x) % (32 : UInt8))
 ((Prod.fst (Prod.snd (Prod.snd x)) % (32 : UInt8) + (1 : UInt8)) % (32 : UInt8)) (0 : UInt64) (0 : UInt64)
 false (0 : UInt8) (0 : UInt64) (0 : UInt64) [] (0 : UInt8) (0 : UInt8) (0 : Int64) (0 : UInt8) (0 : UInt8)
 (0 : UInt64) (0 : UInt64) (0 : UInt64) (0 : UInt64) (0 : UInt64))
 (J (Prod.fst x) (Prod.fst (Prod.snd x)) (Prod.fst (Prod.snd (Prod.snd x)))
 (Prod.fst (Prod.snd (Prod.snd (Prod.snd x)))) (Prod.fst (Prod.snd (Prod.snd (Prod.snd (Prod.snd x)))))
 (Prod.fst (Prod.snd (Prod.snd (Prod.snd (Prod.snd (Prod.snd x))))))
 (Prod.fst (Prod.snd (Prod.snd (Prod.snd (Prod.snd (Prod.snd (Prod.snd x)))))))
 (Prod.fst (Prod.snd (Prod.snd (Prod.snd (Prod.snd (Prod.snd (Prod.snd (Prod.snd x))))))))
 (Prod.fst (Prod.snd (Prod.snd (Prod.snd (Prod.snd (Prod.snd (Prod.snd (Prod.snd (Prod.snd x)))))))))
 (Prod.fst
 (Prod.snd (Prod.snd (Prod.snd (Prod.snd (Prod.snd (Prod.snd (Prod.snd (Prod.snd (Prod.snd x))))))))))
 (Prod.fst
 (Prod.snd
 (Prod.snd (Prod.snd (Prod.snd (Prod.snd (Prod.snd (Prod.snd (Prod.snd (Prod.snd (Prod.snd x)))))))))))
 (Prod.fst
 (Prod.snd
 (Prod.snd
 (Prod.snd (Prod.snd (Prod.snd (Prod.snd (Prod.snd (Prod.snd (Prod.snd (Prod.snd (Prod.snd x))))))))))))
 (Prod.fst
 (Prod.snd
 (Prod.snd
 (Prod.snd
 (Prod.snd
 (Prod.snd (Prod.snd (Prod.snd (Prod.snd (Prod.snd (Prod.snd (Prod.snd (Prod.snd x)))))))))))))
 (Prod.fst
 (Prod.snd
 (Prod.snd
 (Prod.snd
 (Prod.snd
 (Prod.snd
 (Prod.snd (Prod.snd (Prod.snd (Prod.snd (Prod.snd (Prod.snd (Prod.snd (Prod.snd x))))))))))))))
 (Prod.fst
 (Prod.snd
 (Prod.snd
 (Prod.snd
 (Prod.snd
 (Prod.snd
 (Prod.snd
 (Prod.snd (Prod.snd (Prod.snd (Prod.snd (Prod.snd (Prod.snd (Prod.snd (Prod.snd x)))))))))))))))
 (Prod.fst
 (Prod.snd
 (Prod.snd
 (Prod.snd
 (Prod.snd
 (Prod.snd
 (Prod.snd
 (Prod.snd
 (Prod.snd
 (Prod.snd (Prod.snd (Prod.snd (Prod.snd (Prod.snd (Prod.snd (Prod.snd x))))))))))))))))
 (Prod.fst
 (Prod.snd
 (Prod.snd
 (Prod.snd
 (Prod.snd
 (Prod.snd
 (Prod.snd
 (Prod.snd
 (Prod.snd
 (Prod.snd
 (Prod.snd (Prod.snd (Prod.snd (Prod.snd (Prod.snd (Prod.snd (Prod.snd x)))))))))))))))))
 (Prod.fst
 (Prod.snd
 (Prod.snd
 (Prod.snd
 (Prod.snd
 (Prod.snd
 (Prod.snd
 (Prod.snd
 (Prod.snd
 (Prod.snd
 (Prod.snd
 (Prod.snd
 (Prod.snd (Prod.snd (Prod.snd (Prod.snd (Prod.snd (Prod.snd x))))))))))))))))))
 (Prod.snd
 (Prod.snd
 (Prod.snd
 (Prod.snd
 (Prod.snd
 (Prod.snd
 (Prod.snd
 (Prod.snd
 (Prod.snd
 (Prod.snd
 (Prod.snd
 (Prod.snd
 (Prod.snd (Prod.snd (Prod.snd (Prod.snd (Prod.snd (Prod.snd x))))))))))))))))))
 (0 : UInt8) (0 : UInt8) (0 : UInt8) (0 : UInt64) (0 : UInt64) false (0 : UInt8) (0 : UInt64) (0 : UInt64) []
 (0 : UInt8) (0 : UInt8) (0 : Int64) (0 : UInt8) (0 : UInt8) (0 : UInt64) (0 : UInt64) (0 : UInt64)
 (0 : UInt64) (0 : UInt64) ((1 : UInt8) + Prod.fst x % (3 : UInt8)) (Prod.fst (Prod.snd x) % (32 : UInt8))
 (Prod.fst (Prod.snd (Prod.snd x)) % (32 : UInt8)) (0 : UInt64) (0 : UInt64) false (0 : UInt8) (0 : UInt64)
 (0 : UInt64) [] (0 : UInt8) (0 : UInt8) (0 : Int64) (0 : UInt8) (0 : UInt8) (0 : UInt64) (0 : UInt64)
 (0 : UInt64) (0 : UInt64) (0 : UInt64)))
 (F7_J7 n)
theorem ok7 (n : Nat) : FunOK Tryz.prog ⟨7, sig7, F7 n⟩ :=
 fun_ok (hints := ⟨[(7, ⟨[(1, .one (.own 1)), (2, .one (.own 2)), (3, .one (.own 3))], [(1, .cells [.int .u8, .int .u8, .int .u8, .int .u16, .int .u16, .int .u16, .int .u16, .int .u64, .bool, .int .u8, .int .u8, .int .u8, .int .u16, .int .u16, .int .u16, .int .u8, .int .u8, .int .u8, .bool]), (2, .cells [.int .u8, .int .u8, .int .u8, .int .u64, .int .u64, .bool, .int .u8, .int .u64, .int .u64, .str, .nils, .int .u8, .int .u8, .int .i64, .int .u8, .int .u8, .int .u64, .int .u64, .int .u64, .int .u64, .int .u64]), (3, .cells [.int .u8, .int .u8, .int .u8, .int .u64, .int .u64, .bool, .int .u8, .int .u64, .int .u64, .str, .nils, .int .u8, .int .u8, .int .i64, .int .u8, .int .u8, .int .u64, .int .u64, .int .u64, .int .u64, .int .u64])], 4⟩)], []⟩) (fuel := n) (c := Tryz.f7.body.getD .skip) (rs := Tryz.f7.results.toList) tt_ok mix (FsOK.cons (ok17 n) (FsOK.nil)) Tryz.func7 (by kernel_rfl) (by kernel_rfl) rfl (by kernel_rfl) rfl rfl (by kernel_rfl)
-- watchfire/watchfireref01.Uint
def sig13 : Sig := ⟨(.cons (.one (.c (.int .u64))) .nil), (.cons (.one (.row (.cons (.int .u8) .nil))) .nil)⟩
def F13_L14 : Arr [PT.int IntKind.u64, PT.list (CTs.cons (CT.int IntKind.u8) CTs.nil)] (Option (List UInt8 × Unit)) →
 UInt64 → List UInt8 → Option (List UInt8 × Unit) := fun (rec : Arr [PT.int IntKind.u64, PT.list (CTs.cons (CT.int IntKind.u8) CTs.nil)] (Option (List UInt8 × Unit)))
 (n_ : UInt64) (out : List UInt8) =>
 oite (decide ((128 : UInt64) ≤ n_))
 (oite
 (Nat.ble (List.length out + List.length [UInt8.ofInt ↑(UInt64.toNat (n_ % (128 : UInt64) + (128 : UInt64)))])
 (4294967296 : Nat))
 (rec (n_ / (128 : UInt64)) (out ++ [UInt8.ofInt ↑(UInt64.toNat (n_ % (128 : UInt64) + (128 : UInt64)))])) none)
 (oite (Nat.ble (List.length out + List.length [UInt8.ofInt ↑(UInt64.toNat n_)]) (4294967296 : Nat))
 (some (out ++ [UInt8.ofInt ↑(UInt64.toNat n_)], ())) none)
def F13_R14 : Nat → PT.T (PT.int IntKind.u64) → List UInt8 → Option (List UInt8 × Unit) := ofixA (14 : Nat) [PT.int IntKind.u64, PT.list (CTs.cons (CT.int IntKind.u8) CTs.nil)] F13_L14
def F13 : Nat → UInt64 → Option (List UInt8 × Unit) := fun (n : Nat) (x : UInt64) => F13_R14 n x []
theorem F13_R14_s  (m_ : Nat) : F13_R14  (m_ + 1) = F13_L14  (F13_R14  m_) := rfl
theorem ok13 (n : Nat) : FunOK Tryz.prog ⟨13, sig13, F13 n⟩ :=
 fun_ok (hints := ⟨[], [(14, ⟨[(0, .one (.int .u64)), (3, .one (.own 1))], [(1, .row (.cons (.int .u8) .nil))], 2⟩)]⟩) (fuel := n) (c := Tryz.f13.body.getD .skip) (rs := Tryz.f13.results.toList) tt_ok mix (FsOK.nil) Tryz.func13 (by kernel_rfl) (by kernel_rfl) rfl (by kernel_rfl) rfl rfl (by kernel_rfl)
-- watchfire/watchfireref01.Long
def sig34 : Sig := ⟨(.cons (.one (.c .str)) .nil), (.cons (.one (.c (.ro (.cons (.int .u8) .nil)))) .nil)⟩
def F34 : Nat → List UInt8 → Option (List UInt8 × Unit) := fun (n : Nat) (x : List UInt8) =>
 obind (F13 n (UInt64.ofInt (Int64.toInt (Int64.ofInt ↑(List.length x))))) fun (x_1 : List UInt8 × Unit) =>
 oite (Nat.ble (List.length (Prod.fst x_1) + List.length x) (4294967296 : Nat))
 (some (Prod.fst x_1 ++ x, ())) none
theorem ok34 (n : Nat) : FunOK Tryz.prog ⟨34, sig34, F34 n⟩ :=
 fun_ok (hints := ⟨[], []⟩) (fuel := n) (c := Tryz.f34.body.getD .skip) (rs := Tryz.f34.results.toList) tt_ok mix (FsOK.cons (ok13 n) (FsOK.nil)) Tryz.func34 (by kernel_rfl) (by kernel_rfl) rfl (by kernel_rfl) rfl rfl (by kernel_rfl)
-- watchfire/watchfireref01.Int
def sig35 : Sig := ⟨(.cons (.one (.c (.int .i64))) .nil), (.cons (.one (.c (.ro (.cons (.int .u8) .nil)))) .nil)⟩
def F35 : Nat → Int64 → Option (List UInt8 × Unit) := fun (n : Nat) (x : Int64) =>
 oite (decide (x < (0 : Int64)))
 (obind (F13 n ((2 : UInt64) * UInt64.ofInt (Int64.toInt ((0 : Int64) - (x + (1 : Int64)))) + (1 : UInt64)))
 fun (x_1 : List UInt8 × Unit) => some (Prod.fst x_1, ()))
 (obind (F13 n ((2 : UInt64) * UInt64.ofInt (Int64.toInt x))) fun (x_1 : List UInt8 × Unit) =>
 some (Prod.fst x_1, ()))
theorem ok35 (n : Nat) : FunOK Tryz.prog ⟨35, sig35, F35 n⟩ :=
 fun_ok (hints := ⟨[], []⟩) (fuel := n) (c := Tryz.f35.body.getD .skip) (rs := Tryz.f35.results.toList) tt_ok mix (FsOK.cons (ok13 n) (FsOK.nil)) Tryz.func35 (by kernel_rfl) (by kernel_rfl) rfl (by kernel_rfl) rfl rfl (by kernel_rfl)
-- watchfire/watchfireref01.Bytes
def sig14 : Sig := ⟨(.cons (.agg (.cons .bool (.cons (.int .u8) (.cons (.int .u64) (.cons (.int .u64) (.cons .str (.cons (.ro (.cons .str (.cons .str .nil))) (.cons (.int .u8) (.cons (.int .u8) (.cons (.int .i64) (.cons (.int .u8) (.cons (.int .u8) (.cons (.int .u64) (.cons (.int .u64) .nil)))))))))))))) .nil), (.cons (.one (.c (.ro (.cons (.int .u8) .nil)))) .nil)⟩
def F14_L509 : Nat →
 Arr
 [PT.int IntKind.i64, PT.int IntKind.u8, PT.int IntKind.u64, PT.int IntKind.u64, PT.bytes,
 PT.list (CTs.cons CT.str (CTs.cons CT.str CTs.nil)), PT.int IntKind.u8, PT.int IntKind.u8, PT.int IntKind.i64,
 PT.int IntKind.u8, PT.list (CTs.cons (CT.int IntKind.u8) CTs.nil)]
 (Option (List UInt8 × Unit)) →
 Int64 →
 UInt8 →
 UInt64 →
 UInt64 →
 List UInt8 →
 List (List UInt8 × List UInt8) → UInt8 → UInt8 → Int64 → UInt8 → List UInt8 → Option (List UInt8 × Unit) := fun (n : Nat)
 (rec :
 Arr
 [PT.int IntKind.i64, PT.int IntKind.u8, PT.int IntKind.u64, PT.int IntKind.u64, PT.bytes,
 PT.list (CTs.cons CT.str (CTs.cons CT.str CTs.nil)), PT.int IntKind.u8, PT.int IntKind.u8, PT.int IntKind.i64,
 PT.int IntKind.u8, PT.list (CTs.cons (CT.int IntKind.u8) CTs.nil)]
 (Option (List UInt8 × Unit)))
 (i : Int64) (v0 : UInt8) (v1 v2 : UInt64) (v3 : List UInt8) (v4 : List (List UInt8 × List UInt8)) (v5 v6 : UInt8)
 (v7 : Int64) (v8 : UInt8) (out : List UInt8) =>
 oite (decide (i < Int64.ofInt ↑(List.length v4)))
 (obind (at? v4 (Int64.toInt i)) fun (x_5 : List UInt8 × List UInt8) =>
 obind (F34 n (Prod.fst x_5)) fun (x_6 : List UInt8 × Unit) =>
 oite (Nat.ble (List.length out + List.length (Prod.fst x_6)) (4294967296 : Nat))
 (obind (at? v4 (Int64.toInt i)) fun (x_7 : List UInt8 × List UInt8) =>
 obind (F34 n (Prod.snd x_7)) fun (x_8 : List UInt8 × Unit) =>
 oite (Nat.ble (List.length (out ++ Prod.fst x_6) + List.length (Prod.fst x_8)) (4294967296 : Nat))
 (rec (i + (1 : Int64)) v0 v1 v2 v3 v4 v5 v6 v7 v8 (out ++ Prod.fst x_6 ++ Prod.fst x_8)) none)
 none)
 (oite (Nat.ble (List.length out + List.length [v5, v6]) (4294967296 : Nat))
 (obind (F35 n v7) fun (x_5 : List UInt8 × Unit) =>
 oite (Nat.ble (List.length (out ++ [v5, v6]) + List.length (Prod.fst x_5)) (4294967296 : Nat))
 (oite (Nat.ble (List.length (out ++ [v5, v6] ++ Prod.fst x_5) + List.length [v8]) (4294967296 : Nat))
 (some (out ++ [v5, v6] ++ Prod.fst x_5 ++ [v8], ())) none)
 none)
 none)
def F14_R509 : Nat →
 Nat →
 PT.T (PT.int IntKind.i64) →
 UInt8 →
 UInt64 →
 UInt64 →
 List UInt8 →
 List (List UInt8 × List UInt8) → UInt8 → UInt8 → Int64 → UInt8 → List UInt8 → Option (List UInt8 × Unit) := fun (n : Nat) =>
 ofixA (509 : Nat)
 [PT.int IntKind.i64, PT.int IntKind.u8, PT.int IntKind.u64, PT.int IntKind.u64, PT.bytes,
 PT.list (CTs.cons CT.str (CTs.cons CT.str CTs.nil)), PT.int IntKind.u8, PT.int IntKind.u8, PT.int IntKind.i64,
 PT.int IntKind.u8, PT.list (CTs.cons (CT.int IntKind.u8) CTs.nil)]
 (F14_L509 n)
def F14 : Nat →
 Bool ×
 UInt8 ×
 UInt64 ×
 UInt64 ×
 List UInt8 × List (List UInt8 × List UInt8) × UInt8 × UInt8 × Int64 × UInt8 × UInt8 × UInt64 × UInt64 →
 Option (List UInt8 × Unit) := fun (n : Nat)
 (x :
 Bool ×
 UInt8 ×
 UInt64 ×
 UInt64 ×
 List UInt8 × List (List UInt8 × List UInt8) × UInt8 × UInt8 × Int64 × UInt8 × UInt8 × UInt64 × UInt64) =>
 oite (Prod.fst x)
 (obind
 (F13 n
 (Prod.fst
 (Prod.snd
 (Prod.snd
 (Prod.snd (Prod.snd (Prod.snd (Prod.snd (Prod.snd (Prod.snd (Prod.snd (Prod.snd (Prod.snd x)))))))))))))
 fun (x_1 : List UInt8 × Unit) =>
 oite
 (Nat.ble
 (List.length
 [(1 : UInt8),
 Prod.fst
 (Prod.snd
 (Prod.snd
 (Prod.snd (Prod.snd (Prod.snd (Prod.snd (Prod.snd (Prod.snd (Prod.snd (Prod.snd x))))))))))] +
 List.length (Prod.fst x_1))
 (4294967296 : Nat))
 (obind
 (F13 n
 (Prod.snd
 (Prod.snd
 (Prod.snd
 (Prod.snd
 (Prod.snd (Prod.snd (Prod.snd (Prod.snd (Prod.snd (Prod.snd (Prod.snd (Prod.snd x)))))))))))))
 fun (x_2 : List UInt8 × Unit) =>
 oite
 (Nat.ble
 (List.length
 ([(1 : UInt8),
 Prod.fst
 (Prod.snd
 (Prod.snd
 (Prod.snd
 (Prod.snd (Prod.snd (Prod.snd (Prod.snd (Prod.snd (Prod.snd (Prod.snd x))))))))))] ++
 Prod.fst x_1) +
 List.length (Prod.fst x_2))
 (4294967296 : Nat))
 (some
 ([(1 : UInt8),
 Prod.fst
 (Prod.snd
 (Prod.snd
 (Prod.snd
 (Prod.snd (Prod.snd (Prod.snd (Prod.snd (Prod.snd (Prod.snd (Prod.snd x))))))))))] ++
 Prod.fst x_1 ++
 Prod.fst x_2,
 ()))
 none)
 none)
 (obind (F13 n (Prod.fst (Prod.snd (Prod.snd x)))) fun (x_1 : List UInt8 × Unit) =>
 oite (Nat.ble (List.length [(0 : UInt8), Prod.fst (Prod.snd x)] + List.length (Prod.fst x_1)) (4294967296 : Nat))
 (obind (F13 n (Prod.fst (Prod.snd (Prod.snd (Prod.snd x))))) fun (x_2 : List UInt8 × Unit) =>
 oite
 (Nat.ble (List.length ([(0 : UInt8), Prod.fst (Prod.snd x)] ++ Prod.fst x_1) + List.length (Prod.fst x_2))
 (4294967296 : Nat))
 (obind (F34 n (Prod.fst (Prod.snd (Prod.snd (Prod.snd (Prod.snd x)))))) fun (x_3 : List UInt8 × Unit) =>
 oite
 (Nat.ble
 (List.length ([(0 : UInt8), Prod.fst (Prod.snd x)] ++ Prod.fst x_1 ++ Prod.fst x_2) +
 List.length (Prod.fst x_3))
 (4294967296 : Nat))
 (obind
 (F13 n
 (UInt64.ofInt
 (Int64.toInt
 (Int64.ofInt
 ↑(List.length (Prod.fst (Prod.snd (Prod.snd (Prod.snd (Prod.snd (Prod.snd x)))))))))))
 fun (x_4 : List UInt8 × Unit) =>
 oite
 (Nat.ble
 (List.length
 ([(0 : UInt8), Prod.fst (Prod.snd x)] ++ Prod.fst x_1 ++ Prod.fst x_2 ++ Prod.fst x_3) +
 List.length (Prod.fst x_4))
 (4294967296 : Nat))
 (F14_R509 n n (0 : Int64) (Prod.fst (Prod.snd x)) (Prod.fst (Prod.snd (Prod.snd x)))
 (Prod.fst (Prod.snd (Prod.snd (Prod.snd x))))
 (Prod.fst (Prod.snd (Prod.snd (Prod.snd (Prod.snd x)))))
 (Prod.fst (Prod.snd (Prod.snd (Prod.snd (Prod.snd (Prod.snd x))))))
 (Prod.fst (Prod.snd (Prod.snd (Prod.snd (Prod.snd (Prod.snd (Prod.snd x)))))))
 (Prod.fst (Prod.snd (Prod.snd (Prod.snd (Prod.snd (Prod.snd (Prod.snd (Prod.snd x))))))))
 (Prod.fst
 (Prod.snd (Prod.snd (Prod.snd (Prod.snd (Prod.snd (Prod.snd (Prod.snd (Prod.snd x)))))))))
 (Prod.fst
 (Prod.snd
 (Prod.snd (Prod.snd (Prod.snd (Prod.snd (Prod.snd (Prod.snd (Prod.snd (Prod.snd x))))))))))
 ([(0 : UInt8), Prod.fst (Prod.snd x)] ++ Prod.fst x_1 ++ Prod.fst x_2 ++ Prod.fst x_3 ++
 Prod.fst x_4))
 none)
 none)
 none)
 none)
theorem F14_R509_s (n : Nat) (m_ : Nat) : F14_R509 n (m_ + 1) = F14_L509 n (F14_R509 n m_) := rfl
theorem ok14 (n : Nat) : FunOK Tryz.prog ⟨14, sig14, F14 n⟩ :=
 fun_ok (hints := ⟨[], [(509, ⟨[(4, .one (.own 1)), (5, .one (.own 2)), (6, .one (.int .i64))], [(1, .cells [.int .u8, .int .u64, .int .u64, .str, .ro (.cons .str (.cons .str .nil)), .int .u8, .int .u8, .int .i64, .int .u8]), (2, .row (.cons (.int .u8) .nil))], 3⟩)]⟩) (fuel := n) (c := Tryz.f14.body.getD .skip) (rs := Tryz.f14.results.toList) tt_ok mix (FsOK.cons (ok13 n) (FsOK.cons (ok34 n) (FsOK.cons (ok35 n) (FsOK.nil)))) Tryz.func14 (by kernel_rfl) (by kernel_rfl) rfl (by kernel_rfl) rfl rfl (by kernel_rfl)
-- watchfire/watchfireref01.Sum
def sig16 : Sig := ⟨(.cons (.one (.c (.ro (.cons (.int .u8) .nil)))) .nil), (.cons (.one (.c (.int .u32))) .nil)⟩
def F16_L939 : Arr [PT.list (CTs.cons (CT.int IntKind.u8) CTs.nil), PT.int IntKind.u32, PT.int IntKind.i64] (Option (UInt32 × Unit)) →
 Arr [PT.list (CTs.cons (CT.int IntKind.u8) CTs.nil), PT.int IntKind.u32, PT.int IntKind.i64, PT.int IntKind.i64]
 (Option (UInt32 × Unit)) →
 List UInt8 → UInt32 → Int64 → Int64 → Option (UInt32 × Unit) := fun
 (rec :
 Arr [PT.list (CTs.cons (CT.int IntKind.u8) CTs.nil), PT.int IntKind.u32, PT.int IntKind.i64]
 (Option (UInt32 × Unit)))
 (rec_1 :
 Arr [PT.list (CTs.cons (CT.int IntKind.u8) CTs.nil), PT.int IntKind.u32, PT.int IntKind.i64, PT.int IntKind.i64]
 (Option (UInt32 × Unit)))
 (b_1 : List UInt8) (n__1 : UInt32) (i_1 k : Int64) =>
 oite (decide (k < (8 : Int64)))
 (oite (decide (n__1 % (2 : UInt32) = (1 : UInt32)))
 (rec_1 b_1 (n__1 / (2 : UInt32) ^^^ (3988292384 : UInt32)) i_1 (k + (1 : Int64)))
 (rec_1 b_1 (n__1 / (2 : UInt32)) i_1 (k + (1 : Int64))))
 (rec b_1 n__1 (i_1 + (1 : Int64)))
def F16_R939 : Arr [PT.list (CTs.cons (CT.int IntKind.u8) CTs.nil), PT.int IntKind.u32, PT.int IntKind.i64] (Option (UInt32 × Unit)) →
 Nat → PT.T (PT.list (CTs.cons (CT.int IntKind.u8) CTs.nil)) → UInt32 → Int64 → Int64 → Option (UInt32 × Unit) := fun
 (rec :
 Arr [PT.list (CTs.cons (CT.int IntKind.u8) CTs.nil), PT.int IntKind.u32, PT.int IntKind.i64]
 (Option (UInt32 × Unit))) =>
 ofixA (939 : Nat)
 [PT.list (CTs.cons (CT.int IntKind.u8) CTs.nil), PT.int IntKind.u32, PT.int IntKind.i64, PT.int IntKind.i64]
 (F16_L939 rec)
def F16_L29 : Nat →
 Arr [PT.list (CTs.cons (CT.int IntKind.u8) CTs.nil), PT.int IntKind.u32, PT.int IntKind.i64]
 (Option (UInt32 × Unit)) →
 List UInt8 → UInt32 → Int64 → Option (UInt32 × Unit) := fun (n : Nat)
 (rec :
 Arr [PT.list (CTs.cons (CT.int IntKind.u8) CTs.nil), PT.int IntKind.u32, PT.int IntKind.i64]
 (Option (UInt32 × Unit)))
 (b : List UInt8) (n_ : UInt32) (i : Int64) =>
 oite (decide (i < Int64.ofInt ↑(List.length b)))
 (obind (at? b (Int64.toInt i)) fun (x_1 : UInt8) =>
 F16_R939 rec n b (n_ ^^^ UInt32.ofInt ↑(UInt8.toNat x_1)) i (0 : Int64))
 (some (n_ ^^^ (4294967295 : UInt32), ()))
def F16_R29 : Nat → Nat → PT.T (PT.list (CTs.cons (CT.int IntKind.u8) CTs.nil)) → UInt32 → Int64 → Option (UInt32 × Unit) := fun (n : Nat) =>
 ofixA (29 : Nat) [PT.list (CTs.cons (CT.int IntKind.u8) CTs.nil), PT.int IntKind.u32, PT.int IntKind.i64] (F16_L29 n)
def F16 : Nat → List UInt8 → Option (UInt32 × Unit) := fun (n : Nat) (x : List UInt8) => F16_R29 n n x (4294967295 : UInt32) (0 : Int64)
theorem F16_R939_s (rec : Arr [PT.list (CTs.cons (CT.int IntKind.u8) CTs.nil), PT.int IntKind.u32, PT.int IntKind.i64] (Option (UInt32 × Unit))) (m_ : Nat) : F16_R939 rec (m_ + 1) = F16_L939 rec (F16_R939 rec m_) := rfl
theorem F16_R29_s (n : Nat) (m_ : Nat) : F16_R29 n (m_ + 1) = F16_L29 n (F16_R29 n m_) := rfl
theorem ok16 (n : Nat) : FunOK Tryz.prog ⟨16, sig16, F16 n⟩ :=
 fun_ok (hints := ⟨[], [(29, ⟨[(0, .one (.ro (.cons (.int .u8) .nil))), (3, .one (.int .u32)), (4, .one (.int .i64))], [], 1⟩), (939, ⟨[(0, .one (.ro (.cons (.int .u8) .nil))), (3, .one (.int .u32)), (4, .one (.int .i64)), (5, .one (.int .i64))], [], 1⟩)]⟩) (fuel := n) (c := Tryz.f16.body.getD .skip) (rs := Tryz.f16.results.toList) tt_ok mix (FsOK.nil) Tryz.func16 (by kernel_rfl) (by kernel_rfl) rfl (by kernel_rfl) rfl rfl (by kernel_rfl)
-- watchfire/watchfireref01.Sum
def sig1016 : Sig := ⟨(.cons (.one (.row (.cons (.int .u8) .nil))) .nil), (.cons (.one (.c (.int .u32))) .nil)⟩
def F1016_L939 : Arr [PT.int IntKind.u32, PT.int IntKind.i64, PT.list (CTs.cons (CT.int IntKind.u8) CTs.nil)]
 (Option (UInt32 × List UInt8)) →
 Arr [PT.int IntKind.u32, PT.int IntKind.i64, PT.int IntKind.i64, PT.list (CTs.cons (CT.int IntKind.u8) CTs.nil)]
 (Option (UInt32 × List UInt8)) →
 UInt32 → Int64 → Int64 → List UInt8 → Option (UInt32 × List UInt8) := fun
 (rec :
 Arr [PT.int IntKind.u32, PT.int IntKind.i64, PT.list (CTs.cons (CT.int IntKind.u8) CTs.nil)]
 (Option (UInt32 × List UInt8)))
 (rec_1 :
 Arr [PT.int IntKind.u32, PT.int IntKind.i64, PT.int IntKind.i64, PT.list (CTs.cons (CT.int IntKind.u8) CTs.nil)]
 (Option (UInt32 × List UInt8)))
 (n__1 : UInt32) (i_1 k : Int64) (b_1 : List UInt8) =>
 oite (decide (k < (8 : Int64)))
 (oite (decide (n__1 % (2 : UInt32) = (1 : UInt32)))
 (rec_1 (n__1 / (2 : UInt32) ^^^ (3988292384 : UInt32)) i_1 (k + (1 : Int64)) b_1)
 (rec_1 (n__1 / (2 : UInt32)) i_1 (k + (1 : Int64)) b_1))
 (rec n__1 (i_1 + (1 : Int64)) b_1)
def F1016_R939 : Arr [PT.int IntKind.u32, PT.int IntKind.i64, PT.list (CTs.cons (CT.int IntKind.u8) CTs.nil)]
 (Option (UInt32 × List UInt8)) →
 Nat → PT.T (PT.int IntKind.u32) → Int64 → Int64 → List UInt8 → Option (UInt32 × List UInt8) := fun
 (rec :
 Arr [PT.int IntKind.u32, PT.int IntKind.i64, PT.list (CTs.cons (CT.int IntKind.u8) CTs.nil)]
 (Option (UInt32 × List UInt8))) =>
 ofixA (939 : Nat)
 [PT.int IntKind.u32, PT.int IntKind.i64, PT.int IntKind.i64, PT.list (CTs.cons (CT.int IntKind.u8) CTs.nil)]
 (F1016_L939 rec)
def F1016_L29 : Nat →
 Arr [PT.int IntKind.u32, PT.int IntKind.i64, PT.list (CTs.cons (CT.int IntKind.u8) CTs.nil)]
 (Option (UInt32 × List UInt8)) →
 UInt32 → Int64 → List UInt8 → Option (UInt32 × List UInt8) := fun (n : Nat)
 (rec :
 Arr [PT.int IntKind.u32, PT.int IntKind.i64, PT.list (CTs.cons (CT.int IntKind.u8) CTs.nil)]
 (Option (UInt32 × List UInt8)))
 (n_ : UInt32) (i : Int64) (b : List UInt8) =>
 oite (decide (i < Int64.ofInt ↑(List.length b)))
 (oite (decide ((0 : Int) ≤ Int64.toInt i) && Nat.blt (Int.toNat (Int64.toInt i)) (List.length b))
 (obind b[Int.toNat (Int64.toInt i)]? fun (x_1 : UInt8) =>
 F1016_R939 rec n (n_ ^^^ UInt32.ofInt ↑(UInt8.toNat x_1)) i (0 : Int64) b)
 none)
 (some (n_ ^^^ (4294967295 : UInt32), b))
def F1016_R29 : Nat → Nat → PT.T (PT.int IntKind.u32) → Int64 → List UInt8 → Option (UInt32 × List UInt8) := fun (n : Nat) =>
 ofixA (29 : Nat) [PT.int IntKind.u32, PT.int IntKind.i64, PT.list (CTs.cons (CT.int IntKind.u8) CTs.nil)]
 (F1016_L29 n)
def F1016 : Nat → List UInt8 → Option (UInt32 × List UInt8) := fun (n : Nat) (x : List UInt8) => F1016_R29 n n (4294967295 : UInt32) (0 : Int64) x
theorem F1016_R939_s (rec : Arr [PT.int IntKind.u32, PT.int IntKind.i64, PT.list (CTs.cons (CT.int IntKind.u8) CTs.nil)] (Option (UInt32 × List UInt8))) (m_ : Nat) : F1016_R939 rec (m_ + 1) = F1016_L939 rec (F1016_R939 rec m_) := rfl
theorem F1016_R29_s (n : Nat) (m_ : Nat) : F1016_R29 n (m_ + 1) = F1016_L29 n (F1016_R29 n m_) := rfl
theorem ok1016 (n : Nat) : FunOK Tryz.prog ⟨16, sig1016, F1016 n⟩ :=
 fun_ok (hints := ⟨[], [(29, ⟨[(0, .one (.own 0)), (3, .one (.int .u32)), (4, .one (.int .i64))], [(0, .row (.cons (.int .u8) .nil))], 1⟩), (939, ⟨[(0, .one (.own 0)), (3, .one (.int .u32)), (4, .one (.int .i64)), (5, .one (.int .i64))], [(0, .row (.cons (.int .u8) .nil))], 1⟩)]⟩) (fuel := n) (c := Tryz.f16.body.getD .skip) (rs := Tryz.f16.results.toList) tt_ok mix (FsOK.nil) Tryz.func16 (by kernel_rfl) (by kernel_rfl) rfl (by kernel_rfl) rfl rfl (by kernel_rfl)
-- watchfire/watchfireref01.Four
def sig15 : Sig := ⟨(.cons (.one (.c (.int .u32))) .nil), (.cons (.one (.c (.ro (.cons (.int .u8) .nil)))) .nil)⟩
def F15 : Nat → UInt32 → Option (List UInt8 × Unit) := fun (n : Nat) (x : UInt32) =>
 some
 ([UInt8.ofInt ↑(UInt32.toNat (x % (256 : UInt32))),
 UInt8.ofInt ↑(UInt32.toNat (x / (256 : UInt32) % (256 : UInt32))),
 UInt8.ofInt ↑(UInt32.toNat (x / (65536 : UInt32) % (256 : UInt32))),
 UInt8.ofInt ↑(UInt32.toNat (x / (16777216 : UInt32)))],
 ())
theorem ok15 (n : Nat) : FunOK Tryz.prog ⟨15, sig15, F15 n⟩ :=
 fun_ok (hints := ⟨[], []⟩) (fuel := n) (c := Tryz.f15.body.getD .skip) (rs := Tryz.f15.results.toList) tt_ok mix (FsOK.nil) Tryz.func15 (by kernel_rfl) (by kernel_rfl) rfl (by kernel_rfl) rfl rfl (by kernel_rfl)
-- watchfire/watchfirelaw05.encode
def sig6 : Sig := ⟨(.cons (.agg (.cons (.int .u8) (.cons (.int .u8) (.cons (.int .u8) (.cons (.int .u64) (.cons (.int .u64) (.cons .bool (.cons (.int .u8) (.cons (.int .u64) (.cons (.int .u64) (.cons .str (.cons (.ro (.cons .str (.cons .str .nil))) (.cons (.int .u8) (.cons (.int .u8) (.cons (.int .i64) (.cons (.int .u8) (.cons (.int .u8) (.cons (.int .u64) (.cons (.int .u64) (.cons (.int .u64) (.cons (.int .u64) (.cons (.int .u64) .nil)))))))))))))))))))))) .nil), (.cons (.one (.row (.cons (.int .u8) .nil))) .nil)⟩
def F6_J7 : Nat → List UInt8 → Option (List UInt8 × Unit) := fun (n : Nat) (b : List UInt8) =>
 obind (F1016 n b) fun (x_1 : UInt32 × List UInt8) =>
 obind (F15 n (Prod.fst x_1)) fun (x_2 : List UInt8 × Unit) =>
 oite (Nat.ble (List.length (Prod.snd x_1) + List.length (Prod.fst x_2)) (4294967296 : Nat))
 (some (Prod.snd x_1 ++ Prod.fst x_2, ())) none
def F6_L957 : Nat →
 Arr [PT.list (CTs.cons (CT.int IntKind.u8) CTs.nil)] (Option (List UInt8 × Unit)) →
 Arr
 [PT.int IntKind.i64, PT.int IntKind.i64, PT.list (CTs.cons (CT.int IntKind.u8) CTs.nil),
 PT.list (CTs.cons (CT.int IntKind.u64) CTs.nil)]
 (Option (List UInt8 × Unit)) →
 Int64 → Int64 → List UInt8 → List UInt64 → Option (List UInt8 × Unit) := fun (n : Nat) (J : Arr [PT.list (CTs.cons (CT.int IntKind.u8) CTs.nil)] (Option (List UInt8 × Unit)))
 (rec :
 Arr
 [PT.int IntKind.i64, PT.int IntKind.i64, PT.list (CTs.cons (CT.int IntKind.u8) CTs.nil),
 PT.list (CTs.cons (CT.int IntKind.u64) CTs.nil)]
 (Option (List UInt8 × Unit)))
 (t t_1 : Int64) (b : List UInt8) (t_2 : List UInt64) =>
 oite (decide (t_1 < t))
 (oite (decide ((0 : Int) ≤ Int64.toInt t_1) && Nat.blt (Int.toNat (Int64.toInt t_1)) (List.length t_2))
 (obind t_2[Int.toNat (Int64.toInt t_1)]? fun (x_1 : UInt64) =>
 obind (F13 n x_1) fun (x_2 : List UInt8 × Unit) =>
 oite (Nat.ble (List.length b + List.length (Prod.fst x_2)) (4294967296 : Nat))
 (rec t (t_1 + (1 : Int64)) (b ++ Prod.fst x_2) t_2) none)
 none)
 (J b)
def F6_R957 : Nat →
 Arr [PT.list (CTs.cons (CT.int IntKind.u8) CTs.nil)] (Option (List UInt8 × Unit)) →
 Nat → PT.T (PT.int IntKind.i64) → Int64 → List UInt8 → List UInt64 → Option (List UInt8 × Unit) := fun (n : Nat) (J : Arr [PT.list (CTs.cons (CT.int IntKind.u8) CTs.nil)] (Option (List UInt8 × Unit))) =>
 ofixA (957 : Nat)
 [PT.int IntKind.i64, PT.int IntKind.i64, PT.list (CTs.cons (CT.int IntKind.u8) CTs.nil),
 PT.list (CTs.cons (CT.int IntKind.u64) CTs.nil)]
 (F6_L957 n J)
def F6 : Nat →
 UInt8 ×
 UInt8 ×
 UInt8 ×
 UInt64 ×
 UInt64 ×
 Bool ×
 UInt8 ×
 UInt64 ×
 UInt64 ×
 List UInt8 ×
 List (List UInt8 × List UInt8) ×
 UInt8 × UInt8 × Int64 × UInt8 × UInt8 × UInt64 × UInt64 × UInt64 × UInt64 × UInt64 →
 Option (List UInt8 × Unit) := fun (n : Nat)
 (x :
 UInt8 ×
 UInt8 ×
 UInt8 ×
 UInt64 ×
 UInt64 ×
 Bool ×
 UInt8 ×
 UInt64 ×
 UInt64 ×
 List UInt8 ×
 List (List UInt8 × List UInt8) ×
 UInt8 × UInt8 × Int64 × UInt8 × UInt8 × UInt64 × UInt64 × UInt64 × UInt64 × UInt64) =>
 ojoinA (7 : Nat) [PT.list (CTs.cons (CT.int IntKind.u8) CTs.nil)]
 (fun (J : Arr [PT.list (CTs.cons (CT.int IntKind.u8) CTs.nil)] (Option (List UInt8 × Unit))) =>
 oite (decide (Prod.fst x = (1 : UInt8)))
 (obind (F13 n (Prod.fst (Prod.snd (Prod.snd (Prod.snd x))))) fun (x_1 : List UInt8 × Unit) =>
 oite
 (Nat.ble
 (List.length [(183 : UInt8), Prod.fst x, Prod.fst (Prod.snd x), Prod.fst (Prod.snd (Prod.snd x))] +
 List.length (Prod.fst x_1))
 (4294967296 : Nat))
 (obind (F13 n (Prod.fst (Prod.snd (Prod.snd (Prod.snd (Prod.snd x)))))) fun (x_2 : List UInt8 × Unit) =>
 oite
 (Nat.ble
 (List.length
 ([(183 : UInt8), Prod.fst x, Prod.fst (Prod.snd x), Prod.fst (Prod.snd (Prod.snd x))] ++
 Prod.fst x_1) +
 List.length (Prod.fst x_2))
 (4294967296 : Nat))
 (obind
 (F14 n
 (Prod.fst (Prod.snd (Prod.snd (Prod.snd (Prod.snd (Prod.snd x))))),
 Prod.fst (Prod.snd (Prod.snd (Prod.snd (Prod.snd (Prod.snd (Prod.snd x)))))),
 Prod.fst (Prod.snd (Prod.snd (Prod.snd (Prod.snd (Prod.snd (Prod.snd (Prod.snd x))))))),
 Prod.fst
 (Prod.snd (Prod.snd (Prod.snd (Prod.snd (Prod.snd (Prod.snd (Prod.snd (Prod.snd x)))))))),
 Prod.fst
 (Prod.snd
 (Prod.snd (Prod.snd (Prod.snd (Prod.snd (Prod.snd (Prod.snd (Prod.snd (Prod.snd x))))))))),
 Prod.fst
 (Prod.snd
 (Prod.snd
 (Prod.snd (Prod.snd (Prod.snd (Prod.snd (Prod.snd (Prod.snd (Prod.snd (Prod.snd x)))))))))),
 Prod.fst
 (Prod.snd
 (Prod.snd
 (Prod.snd
 (Prod.snd
 (Prod.snd (Prod.snd (Prod.snd (Prod.snd (Prod.snd (Prod.snd (Prod.snd x))))))))))),
 Prod.fst
 (Prod.snd
 (Prod.snd
 (Prod.snd
 (Prod.snd
 (Prod.snd
 (Prod.snd (Prod.snd (Prod.snd (Prod.snd (Prod.snd (Prod.snd (Prod.snd x)))))))))))),
 Prod.fst
 (Prod.snd
 (Prod.snd
 (Prod.snd
 (Prod.snd
 (Prod.snd
 (Prod.snd
 (Prod.snd
 (Prod.snd (Prod.snd (Prod.snd (Prod.snd (Prod.snd (Prod.snd x))))))))))))),
 Prod.fst
 (Prod.snd
 (Prod.snd
 (Prod.snd
 (Prod.snd
 (Prod.snd
 (Prod.snd
 (Prod.snd
 (Prod.snd
 (Prod.snd (Prod.snd (Prod.snd (Prod.snd (Prod.snd (Prod.snd x)))))))))))))),
 Prod.fst
 (Prod.snd
 (Prod.snd
 (Prod.snd
 (Prod.snd
 (Prod.snd
 (Prod.snd
 (Prod.snd
 (Prod.snd
 (Prod.snd
 (Prod.snd (Prod.snd (Prod.snd (Prod.snd (Prod.snd (Prod.snd x))))))))))))))),
 Prod.fst
 (Prod.snd
 (Prod.snd
 (Prod.snd
 (Prod.snd
 (Prod.snd
 (Prod.snd
 (Prod.snd
 (Prod.snd
 (Prod.snd
 (Prod.snd
 (Prod.snd
 (Prod.snd (Prod.snd (Prod.snd (Prod.snd (Prod.snd x)))))))))))))))),
 Prod.fst
 (Prod.snd
 (Prod.snd
 (Prod.snd
 (Prod.snd
 (Prod.snd
 (Prod.snd
 (Prod.snd
 (Prod.snd
 (Prod.snd
 (Prod.snd
 (Prod.snd
 (Prod.snd
 (Prod.snd (Prod.snd (Prod.snd (Prod.snd (Prod.snd x)))))))))))))))))))
 fun (x_3 : List UInt8 × Unit) =>
 oite
 (Nat.ble
 (List.length
 ([(183 : UInt8), Prod.fst x, Prod.fst (Prod.snd x), Prod.fst (Prod.snd (Prod.snd x))] ++
 Prod.fst x_1 ++
 Prod.fst x_2) +
 List.length (Prod.fst x_3))
 (4294967296 : Nat))
 (J
 ([(183 : UInt8), Prod.fst x, Prod.fst (Prod.snd x), Prod.fst (Prod.snd (Prod.snd x))] ++
 Prod.fst x_1 ++
 Prod.fst x_2 ++
 Prod.fst x_3))
 none)
 none)
 none)
 (oite (decide (Prod.fst x = (2 : UInt8)))
 (F6_R957 n J n
 (Int64.ofInt
 ↑(List.length
 [Prod.fst (Prod.snd (Prod.snd (Prod.snd x))),
 Prod.fst
 (Prod.snd
 (Prod.snd
 (Prod.snd
 (Prod.snd
 (Prod.snd
 (Prod.snd
 (Prod.snd
 (Prod.snd
 (Prod.snd
 (Prod.snd
 (Prod.snd
 (Prod.snd
 (Prod.snd
 (Prod.snd (Prod.snd (Prod.snd (Prod.snd (Prod.snd x)))))))))))))))))),
 Prod.fst
 (Prod.snd
 (Prod.snd
 (Prod.snd
 (Prod.snd
 (Prod.snd
 (Prod.snd
 (Prod.snd
 (Prod.snd
 (Prod.snd
 (Prod.snd
 (Prod.snd
 (Prod.snd
 (Prod.snd
 (Prod.snd
 (Prod.snd
 (Prod.snd (Prod.snd (Prod.snd (Prod.snd x))))))))))))))))))),
 Prod.snd
 (Prod.snd
 (Prod.snd
 (Prod.snd
 (Prod.snd
 (Prod.snd
 (Prod.snd
 (Prod.snd
 (Prod.snd
 (Prod.snd
 (Prod.snd
 (Prod.snd
 (Prod.snd
 (Prod.snd
 (Prod.snd
 (Prod.snd
 (Prod.snd (Prod.snd (Prod.snd (Prod.snd x)))))))))))))))))))]))
 (0 : Int64) [(183 : UInt8), Prod.fst x, Prod.fst (Prod.snd x), Prod.fst (Prod.snd (Prod.snd x))]
 [Prod.fst (Prod.snd (Prod.snd (Prod.snd x))),
 Prod.fst
 (Prod.snd
 (Prod.snd
 (Prod.snd
 (Prod.snd
 (Prod.snd
 (Prod.snd
 (Prod.snd
 (Prod.snd
 (Prod.snd
 (Prod.snd
 (Prod.snd
 (Prod.snd
 (Prod.snd (Prod.snd (Prod.snd (Prod.snd (Prod.snd (Prod.snd x)))))))))))))))))),
 Prod.fst
 (Prod.snd
 (Prod.snd
 (Prod.snd
 (Prod.snd
 (Prod.snd
 (Prod.snd
 (Prod.snd
 (Prod.snd
 (Prod.snd
 (Prod.snd
 (Prod.snd
 (Prod.snd
 (Prod.snd
 (Prod.snd
 (Prod.snd (Prod.snd (Prod.snd (Prod.snd (Prod.snd x))))))))))))))))))),
 Prod.snd
 (Prod.snd
 (Prod.snd
 (Prod.snd
 (Prod.snd
 (Prod.snd
 (Prod.snd
 (Prod.snd
 (Prod.snd
 (Prod.snd
 (Prod.snd
 (Prod.snd
 (Prod.snd
 (Prod.snd
 (Prod.snd
 (Prod.snd (Prod.snd (Prod.snd (Prod.snd (Prod.snd x)))))))))))))))))))])
 (J [(183 : UInt8), Prod.fst x, Prod.fst (Prod.snd x), Prod.fst (Prod.snd (Prod.snd x))])))
 (F6_J7 n)
theorem F6_R957_s (n : Nat) (J : Arr [PT.list (CTs.cons (CT.int IntKind.u8) CTs.nil)] (Option (List UInt8 × Unit))) (m_ : Nat) : F6_R957 n J (m_ + 1) = F6_L957 n J (F6_R957 n J m_) := rfl
theorem ok6 (n : Nat) : FunOK Tryz.prog ⟨6, sig6, F6 n⟩ :=
 fun_ok (hints := ⟨[(7, ⟨[(3, .one (.own 1))], [(1, .row (.cons (.int .u8) .nil))], 2⟩)], [(957, ⟨[(3, .one (.own 1)), (40, .one (.own 2)), (41, .one (.int .i64)), (42, .one (.int .i64))], [(1, .row (.cons (.int .u8) .nil)), (2, .row (.cons (.int .u64) .nil))], 3⟩)]⟩) (fuel := n) (c := Tryz.f6.body.getD .skip) (rs := Tryz.f6.results.toList) tt_ok mix (FsOK.cons (ok13 n) (FsOK.cons (ok14 n) (FsOK.cons (ok1016 n) (FsOK.cons (ok16 n) (FsOK.cons (ok15 n) (FsOK.nil)))))) Tryz.func6 (by kernel_rfl) (by kernel_rfl) rfl (by kernel_rfl) rfl rfl (by kernel_rfl)
-- watchfire/crc.Take
def sig40 : Sig := ⟨(.cons (.agg (.cons (.int .u8) (.cons (.int .u8) (.cons (.int .u8) (.cons (.int .u8) .nil))))) .nil), (.cons (.one (.c (.int .u32))) .nil)⟩
def F40 : Nat → UInt8 × UInt8 × UInt8 × UInt8 → Option (UInt32 × Unit) := fun (n : Nat) (x : UInt8 × UInt8 × UInt8 × UInt8) =>
 some
 (UInt32.ofInt ↑(UInt8.toNat (Prod.fst x)) |||
 IK.shl IntKind.u32 (UInt32.ofInt ↑(UInt8.toNat (Prod.fst (Prod.snd x)))) ↑(UInt64.toNat (8 : UInt64)) |||
 IK.shl IntKind.u32 (UInt32.ofInt ↑(UInt8.toNat (Prod.fst (Prod.snd (Prod.snd x)))))
 ↑(UInt64.toNat (16 : UInt64)) |||
 IK.shl IntKind.u32 (UInt32.ofInt ↑(UInt8.toNat (Prod.snd (Prod.snd (Prod.snd x)))))
 ↑(UInt64.toNat (24 : UInt64)),
 ())
theorem ok40 (n : Nat) : FunOK Tryz.prog ⟨40, sig40, F40 n⟩ :=
 fun_ok (hints := ⟨[], []⟩) (fuel := n) (c := Tryz.f40.body.getD .skip) (rs := Tryz.f40.results.toList) tt_ok mix (FsOK.nil) Tryz.func40 (by kernel_rfl) (by kernel_rfl) rfl (by kernel_rfl) rfl rfl (by kernel_rfl)
-- (*watchfire/crc.Table).Open
def sig20 : Sig := ⟨(.cons (.one (.ptrA (.cons (.c (.int .u32)) (.cons (.c (.int .i32)) (.cons (.c (.int .u32)) .nil))) (.int .u32) 256 (.cons (.c (.int .u64)) (.cons (.c (.int .u64)) .nil)))) (.cons (.one (.c (.ro (.cons (.int .u8) .nil)))) .nil)), (.cons (.one (.c (.ro (.cons (.int .u8) .nil)))) (.cons (.one (.c .bool)) .nil))⟩
def F20 : Nat →
 Option ((UInt32 × Int32 × UInt32) × List UInt32 × UInt64 × UInt64) × List UInt8 →
 Option ((List UInt8 × Bool) × Option ((UInt32 × Int32 × UInt32) × List UInt32 × UInt64 × UInt64)) := fun (n : Nat) (x : Option ((UInt32 × Int32 × UInt32) × List UInt32 × UInt64 × UInt64) × List UInt8) =>
 oelim (Prod.fst x) (some (([], false), none)) fun (x_1 : (UInt32 × Int32 × UInt32) × List UInt32 × UInt64 × UInt64) =>
 oite (decide (Int64.ofInt ↑(List.length (Prod.snd x)) - (4 : Int64) < (0 : Int64)))
 (some
 (([], false),
 some
 ((Prod.fst (Prod.fst x_1), Prod.fst (Prod.snd (Prod.fst x_1)), Prod.snd (Prod.snd (Prod.fst x_1))),
 Prod.fst (Prod.snd x_1), Prod.fst (Prod.snd (Prod.snd x_1)), Prod.snd (Prod.snd (Prod.snd x_1)))))
 (oite
 (decide ((0 : Int) ≤ Int64.toInt (Int64.ofInt ↑(List.length (Prod.snd x)) - (4 : Int64))) &&
 Nat.ble (Int.toNat (Int64.toInt (Int64.ofInt ↑(List.length (Prod.snd x)) - (4 : Int64))))
 (List.length (Prod.snd x)) &&
 true)
 (obind
 (F19 n
 (some
 ((Prod.fst (Prod.fst x_1), Prod.fst (Prod.snd (Prod.fst x_1)), Prod.snd (Prod.snd (Prod.fst x_1))),
 Prod.fst (Prod.snd x_1), Prod.fst (Prod.snd (Prod.snd x_1)), Prod.snd (Prod.snd (Prod.snd x_1))),
 [List.drop (0 : Nat)
 (List.take (Int.toNat (Int64.toInt (Int64.ofInt ↑(List.length (Prod.snd x)) - (4 : Int64))))
 (Prod.snd x))]))
 fun (x_2 : UInt32 × Option ((UInt32 × Int32 × UInt32) × List UInt32 × UInt64 × UInt64)) =>
 oite
 (decide ((0 : Int) ≤ Int64.toInt (Int64.ofInt ↑(List.length (Prod.snd x)) - (4 : Int64))) &&
 Nat.ble (Int.toNat (Int64.toInt (Int64.ofInt ↑(List.length (Prod.snd x)) - (4 : Int64))))
 (List.length (Prod.snd x)))
 (obind
 (firstN (CT.int IntKind.u8) (4 : Nat)
 (List.drop (Int.toNat (Int64.toInt (Int64.ofInt ↑(List.length (Prod.snd x)) - (4 : Int64))))
 (List.take (List.length (Prod.snd x)) (Prod.snd x))))
 fun (x_3 : UInt8 × UInt8 × UInt8 × UInt8) =>
 obind
 (F40 n
 (Prod.fst x_3, Prod.fst (Prod.snd x_3), Prod.fst (Prod.snd (Prod.snd x_3)),
 Prod.snd (Prod.snd (Prod.snd x_3))))
 fun (x_4 : UInt32 × Unit) =>
 oite (!decide (Prod.fst x_2 = Prod.fst x_4)) (some (([], false), Prod.snd x_2))
 (oite
 (decide ((0 : Int) ≤ Int64.toInt (Int64.ofInt ↑(List.length (Prod.snd x)) - (4 : Int64))) &&
 Nat.ble (Int.toNat (Int64.toInt (Int64.ofInt ↑(List.length (Prod.snd x)) - (4 : Int64))))
 (List.length (Prod.snd x)) &&
 true)
 (oite
 (Nat.ble
 ((0 : Nat) +
 List.length
 (List.drop (0 : Nat)
 (List.take
 (Int.toNat (Int64.toInt (Int64.ofInt ↑(List.length (Prod.snd x)) - (4 : Int64))))
 (Prod.snd x))))
 (4294967296 : Nat))
 (some
 (([] ++
 List.drop (0 : Nat)
 (List.take
 (Int.toNat (Int64.toInt (Int64.ofInt ↑(List.length (Prod.snd x)) - (4 : Int64))))
 (Prod.snd x)),
 true),
 Prod.snd x_2))
 none)
 none))
 none)
 none)
theorem ok20 (n : Nat) : FunOK Tryz.prog ⟨20, sig20, F20 n⟩ :=
 fun_ok (hints := ⟨[], []⟩) (fuel := n) (c := Tryz.f20.body.getD .skip) (rs := Tryz.f20.results.toList) tt_ok mix (FsOK.cons (ok19 n) (FsOK.cons (ok40 n) (FsOK.nil))) Tryz.func20 (by kernel_rfl) (by kernel_rfl) rfl (by kernel_rfl) rfl rfl (by kernel_rfl)
-- watchfire/pack.Read
def sig21 : Sig := ⟨(.cons (.one (.c (.ro (.cons (.int .u8) .nil)))) .nil), (.cons (.one (.ptr (.cons (.c (.ro (.cons (.int .u8) .nil))) (.cons (.c (.int .i64)) .nil)))) .nil)⟩
def F21 : Nat → List UInt8 → Option (Option (List UInt8 × Int64) × Unit) := fun (n : Nat) (x : List UInt8) => some (some (x, (0 : Int64)), ())
theorem ok21 (n : Nat) : FunOK Tryz.prog ⟨21, sig21, F21 n⟩ :=
 fun_ok (hints := ⟨[], []⟩) (fuel := n) (c := Tryz.f21.body.getD .skip) (rs := Tryz.f21.results.toList) tt_ok mix (FsOK.nil) Tryz.func21 (by kernel_rfl) (by kernel_rfl) rfl (by kernel_rfl) rfl rfl (by kernel_rfl)
-- (*watchfire/pack.Reader).ok
def sig41 : Sig := ⟨(.cons (.one (.ptr (.cons (.c (.ro (.cons (.int .u8) .nil))) (.cons (.c (.int .i64)) .nil)))) .nil), (.cons (.one (.c .bool)) .nil)⟩
def F41 : Nat → Option (List UInt8 × Int64) → Option (Bool × Option (List UInt8 × Int64)) := fun (n : Nat) (x : Option (List UInt8 × Int64)) =>
 oelim x (some (false, none)) fun (x_1 : List UInt8 × Int64) =>
 some (decide (Prod.snd x_1 = (0 : Int64)), some (Prod.fst x_1, Prod.snd x_1))
theorem ok41 (n : Nat) : FunOK Tryz.prog ⟨41, sig41, F41 n⟩ :=
 fun_ok (hints := ⟨[], []⟩) (fuel := n) (c := Tryz.f41.body.getD .skip) (rs := Tryz.f41.results.toList) tt_ok mix (FsOK.nil) Tryz.func41 (by kernel_rfl) (by kernel_rfl) rfl (by kernel_rfl) rfl rfl (by kernel_rfl)
-- (*watchfire/pack.Reader).Fail
def sig42 : Sig := ⟨(.cons (.one (.ptr (.cons (.c (.ro (.cons (.int .u8) .nil))) (.cons (.c (.int .i64)) .nil)))) (.cons (.one (.c (.int .i64))) .nil)), .nil⟩
def F42 : Nat → Option (List UInt8 × Int64) × Int64 → Option (Unit × Option (List UInt8 × Int64)) := fun (n : Nat) (x : Option (List UInt8 × Int64) × Int64) =>
 oelim (Prod.fst x) (some ((), none)) fun (x_1 : List UInt8 × Int64) =>
 oite (decide (Prod.snd x_1 = (0 : Int64))) (some ((), some (Prod.fst x_1, Prod.snd x)))
 (some ((), some (Prod.fst x_1, Prod.snd x_1)))
theorem ok42 (n : Nat) : FunOK Tryz.prog ⟨42, sig42, F42 n⟩ :=
 fun_ok (hints := ⟨[], []⟩) (fuel := n) (c := Tryz.f42.body.getD .skip) (rs := Tryz.f42.results.toList) tt_ok mix (FsOK.nil) Tryz.func42 (by kernel_rfl) (by kernel_rfl) rfl (by kernel_rfl) rfl rfl (by kernel_rfl)
-- (*watchfire/pack.Reader).Byte
def sig22 : Sig := ⟨(.cons (.one (.ptr (.cons (.c (.ro (.cons (.int .u8) .nil))) (.cons (.c (.int .i64)) .nil)))) .nil), (.cons (.one (.c (.int .u8))) .nil)⟩
def F22 : Nat → Option (List UInt8 × Int64) → Option (UInt8 × Option (List UInt8 × Int64)) := fun (n : Nat) (x : Option (List UInt8 × Int64)) =>
 obind (F41 n x) fun (x_1 : Bool × Option (List UInt8 × Int64)) =>
 oite (!Prod.fst x_1) (some ((0 : UInt8), Prod.snd x_1))
 (obind (Prod.snd x_1) fun (x_2 : List UInt8 × Int64) =>
 oite (decide (Int64.ofInt ↑(List.length (Prod.fst x_2)) = (0 : Int64)))
 (obind (F42 n (some (Prod.fst x_2, Prod.snd x_2), (3 : Int64)))
 fun (x_3 : Unit × Option (List UInt8 × Int64)) => some ((0 : UInt8), Prod.snd x_3))
 (obind (at? (Prod.fst x_2) (Int64.toInt (0 : Int64))) fun (x_3 : UInt8) =>
 oite (Nat.ble (Int.toNat (Int64.toInt (1 : Int64))) (List.length (Prod.fst x_2)))
 (some
 (x_3,
 some
 (List.drop (Int.toNat (Int64.toInt (1 : Int64)))
 (List.take (List.length (Prod.fst x_2)) (Prod.fst x_2)),
 Prod.snd x_2)))
 none))
theorem ok22 (n : Nat) : FunOK Tryz.prog ⟨22, sig22, F22 n⟩ :=
 fun_ok (hints := ⟨[], []⟩) (fuel := n) (c := Tryz.f22.body.getD .skip) (rs := Tryz.f22.results.toList) tt_ok mix (FsOK.cons (ok41 n) (FsOK.cons (ok42 n) (FsOK.nil))) Tryz.func22 (by kernel_rfl) (by kernel_rfl) rfl (by kernel_rfl) rfl rfl (by kernel_rfl)
-- (*watchfire/pack.Reader).Uint
def sig23 : Sig := ⟨(.cons (.one (.ptr (.cons (.c (.ro (.cons (.int .u8) .nil))) (.cons (.c (.int .i64)) .nil)))) .nil), (.cons (.one (.c (.int .u64))) .nil)⟩
def F23_J121 : Nat →
 Arr
 [PT.int IntKind.u64, PT.int IntKind.i64,
 PT.opt
 (OTs.cons (OT.c (CT.ro (CTs.cons (CT.int IntKind.u8) CTs.nil)))
 (OTs.cons (OT.c (CT.int IntKind.i64)) OTs.nil))]
 (Option (UInt64 × Option (List UInt8 × Int64))) →
 UInt64 → Int64 → UInt8 → Option (List UInt8 × Int64) → Option (UInt64 × Option (List UInt8 × Int64)) := fun (n : Nat)
 (rec :
 Arr
 [PT.int IntKind.u64, PT.int IntKind.i64,
 PT.opt
 (OTs.cons (OT.c (CT.ro (CTs.cons (CT.int IntKind.u8) CTs.nil)))
 (OTs.cons (OT.c (CT.int IntKind.i64)) OTs.nil))]
 (Option (UInt64 × Option (List UInt8 × Int64))))
 (n__1 : UInt64) (shift_1 : Int64) (c : UInt8) (r_1 : Option (List UInt8 × Int64)) =>
 oite (decide ((0 : Int) ≤ Int64.toInt shift_1))
 (oite (decide (c < (128 : UInt8)))
 (oite (decide (c = (0 : UInt8)))
 (oite (decide ((0 : Int64) < shift_1))
 (obind (F42 n (r_1, (2 : Int64))) fun (x_2 : Unit × Option (List UInt8 × Int64)) =>
 some ((0 : UInt64), Prod.snd x_2))
 (some
 (n__1 ||| IK.shl IntKind.u64 (UInt64.ofInt ↑(UInt8.toNat (c &&& (127 : UInt8)))) (Int64.toInt shift_1),
 r_1)))
 (some
 (n__1 ||| IK.shl IntKind.u64 (UInt64.ofInt ↑(UInt8.toNat (c &&& (127 : UInt8)))) (Int64.toInt shift_1), r_1)))
 (rec (n__1 ||| IK.shl IntKind.u64 (UInt64.ofInt ↑(UInt8.toNat (c &&& (127 : UInt8)))) (Int64.toInt shift_1))
 (shift_1 + (7 : Int64)) r_1))
 none
def F23_L15 : Nat →
 Arr
 [PT.int IntKind.u64, PT.int IntKind.i64,
 PT.opt
 (OTs.cons (OT.c (CT.ro (CTs.cons (CT.int IntKind.u8) CTs.nil)))
 (OTs.cons (OT.c (CT.int IntKind.i64)) OTs.nil))]
 (Option (UInt64 × Option (List UInt8 × Int64))) →
 UInt64 → Int64 → Option (List UInt8 × Int64) → Option (UInt64 × Option (List UInt8 × Int64)) := fun (n : Nat)
 (rec :
 Arr
 [PT.int IntKind.u64, PT.int IntKind.i64,
 PT.opt
 (OTs.cons (OT.c (CT.ro (CTs.cons (CT.int IntKind.u8) CTs.nil)))
 (OTs.cons (OT.c (CT.int IntKind.i64)) OTs.nil))]
 (Option (UInt64 × Option (List UInt8 × Int64))))
 (n_ : UInt64) (shift : Int64) (r : Option (List UInt8 × Int64)) =>
 obind (F22 n r) fun (x_1 : UInt8 × Option (List UInt8 × Int64)) =>
 ojoinA (121 : Nat)
 [PT.int IntKind.u64, PT.int IntKind.i64, PT.int IntKind.u8,
 PT.opt
 (OTs.cons (OT.c (CT.ro (CTs.cons (CT.int IntKind.u8) CTs.nil)))
 (OTs.cons (OT.c (CT.int IntKind.i64)) OTs.nil))]
 (fun
 (J :
 Arr
 [PT.int IntKind.u64, PT.int IntKind.i64, PT.int IntKind.u8,
 PT.opt
 (OTs.cons (OT.c (CT.ro (CTs.cons (CT.int IntKind.u8) CTs.nil)))
 (OTs.cons (OT.c (CT.int IntKind.i64)) OTs.nil))]
 (Option (UInt64 × Option (List UInt8 × Int64)))) =>
 obind (F41 n (Prod.snd x_1)) fun (x_2 : Bool × Option (List UInt8 × Int64)) =>
 oite (!Prod.fst x_2) (some ((0 : UInt64), Prod.snd x_2))
 (oite (decide (shift = (63 : Int64)))
 (oite (decide ((1 : UInt8) < Prod.fst x_1))
 (obind (F42 n (Prod.snd x_2, (6 : Int64))) fun (x_3 : Unit × Option (List UInt8 × Int64)) =>
 some ((0 : UInt64), Prod.snd x_3))
 (J n_ shift (Prod.fst x_1) (Prod.snd x_2)))
 (J n_ shift (Prod.fst x_1) (Prod.snd x_2))))
 (F23_J121 n rec)
def F23_R15 : Nat →
 Nat → PT.T (PT.int IntKind.u64) → Int64 → Option (List UInt8 × Int64) → Option (UInt64 × Option (List UInt8 × Int64)) := fun (n : Nat) =>
 ofixA (15 : Nat)
 [PT.int IntKind.u64, PT.int IntKind.i64,
 PT.opt
 (OTs.cons (OT.c (CT.ro (CTs.cons (CT.int IntKind.u8) CTs.nil))) (OTs.cons (OT.c (CT.int IntKind.i64)) OTs.nil))]
 (F23_L15 n)
def F23 : Nat → Option (List UInt8 × Int64) → Option (UInt64 × Option (List UInt8 × Int64)) := fun (n : Nat) (x : Option (List UInt8 × Int64)) => F23_R15 n n (0 : UInt64) (0 : Int64) x
theorem F23_R15_s (n : Nat) (m_ : Nat) : F23_R15 n (m_ + 1) = F23_L15 n (F23_R15 n m_) := rfl
theorem ok23 (n : Nat) : FunOK Tryz.prog ⟨23, sig23, F23 n⟩ :=
 fun_ok (hints := ⟨[(121, ⟨[(0, .one (.own 0)), (3, .one (.int .u64)), (4, .one (.int .i64)), (5, .one (.int .u8))], [(0, .fold (.cons (.c (.ro (.cons (.int .u8) .nil))) (.cons (.c (.int .i64)) .nil)))], 1⟩)], [(15, ⟨[(0, .one (.own 0)), (3, .one (.int .u64)), (4, .one (.int .i64))], [(0, .fold (.cons (.c (.ro (.cons (.int .u8) .nil))) (.cons (.c (.int .i64)) .nil)))], 1⟩)]⟩) (fuel := n) (c := Tryz.f23.body.getD .skip) (rs := Tryz.f23.results.toList) tt_ok mix (FsOK.cons (ok22 n) (FsOK.cons (ok41 n) (FsOK.cons (ok42 n) (FsOK.nil)))) Tryz.func23 (by kernel_rfl) (by kernel_rfl) rfl (by kernel_rfl) rfl rfl (by kernel_rfl)
-- (*watchfire/pack.Reader).Bool
def sig43 : Sig := ⟨(.cons (.one (.ptr (.cons (.c (.ro (.cons (.int .u8) .nil))) (.cons (.c (.int .i64)) .nil)))) .nil), (.cons (.one (.c .bool)) .nil)⟩
def F43 : Nat → Option (List UInt8 × Int64) → Option (Bool × Option (List UInt8 × Int64)) := fun (n : Nat) (x : Option (List UInt8 × Int64)) =>
 obind (F22 n x) fun (x_1 : UInt8 × Option (List UInt8 × Int64)) =>
 oite (decide ((1 : UInt8) < Prod.fst x_1))
 (obind (F42 n (Prod.snd x_1, (2 : Int64))) fun (x_2 : Unit × Option (List UInt8 × Int64)) =>
 some (decide (Prod.fst x_1 = (1 : UInt8)), Prod.snd x_2))
 (some (decide (Prod.fst x_1 = (1 : UInt8)), Prod.snd x_1))
theorem ok43 (n : Nat) : FunOK Tryz.prog ⟨43, sig43, F43 n⟩ :=
 fun_ok (hints := ⟨[], []⟩) (fuel := n) (c := Tryz.f43.body.getD .skip) (rs := Tryz.f43.results.toList) tt_ok mix (FsOK.cons (ok22 n) (FsOK.cons (ok42 n) (FsOK.nil))) Tryz.func43 (by kernel_rfl) (by kernel_rfl) rfl (by kernel_rfl) rfl rfl (by kernel_rfl)
-- (*watchfire/pack.Reader).Text
def sig61 : Sig := ⟨(.cons (.one (.ptr (.cons (.c (.ro (.cons (.int .u8) .nil))) (.cons (.c (.int .i64)) .nil)))) (.cons (.one (.c (.int .i64))) .nil)), (.cons (.one (.c .str)) .nil)⟩
def F61 : Nat → Option (List UInt8 × Int64) × Int64 → Option (List UInt8 × Option (List UInt8 × Int64)) := fun (n : Nat) (x : Option (List UInt8 × Int64) × Int64) =>
 obind (F23 n (Prod.fst x)) fun (x_1 : UInt64 × Option (List UInt8 × Int64)) =>
 obind (F41 n (Prod.snd x_1)) fun (x_2 : Bool × Option (List UInt8 × Int64)) =>
 oite (!Prod.fst x_2) (some ([], Prod.snd x_2))
 (oite (decide (UInt64.ofInt (Int64.toInt (IK.maxI IntKind.i64 (Prod.snd x) (0 : Int64))) < Prod.fst x_1))
 (obind (F42 n (Prod.snd x_2, (4 : Int64))) fun (x_3 : Unit × Option (List UInt8 × Int64)) =>
 some ([], Prod.snd x_3))
 (obind (Prod.snd x_2) fun (x_3 : List UInt8 × Int64) =>
 oite (decide (UInt64.ofInt (Int64.toInt (Int64.ofInt ↑(List.length (Prod.fst x_3)))) < Prod.fst x_1))
 (obind (F42 n (some (Prod.fst x_3, Prod.snd x_3), (3 : Int64)))
 fun (x_4 : Unit × Option (List UInt8 × Int64)) => some ([], Prod.snd x_4))
 (oite
 (decide ((0 : Int) ≤ ↑(UInt64.toNat (Prod.fst x_1))) &&
 Nat.ble (Int.toNat ↑(UInt64.toNat (Prod.fst x_1))) (List.length (Prod.fst x_3)) &&
 true)
 (oite
 (decide ((0 : Int) ≤ ↑(UInt64.toNat (Prod.fst x_1))) &&
 Nat.ble (Int.toNat ↑(UInt64.toNat (Prod.fst x_1))) (List.length (Prod.fst x_3)))
 (some
 (List.drop (0 : Nat) (List.take (Int.toNat ↑(UInt64.toNat (Prod.fst x_1))) (Prod.fst x_3)),
 some
 (List.drop (Int.toNat ↑(UInt64.toNat (Prod.fst x_1)))
 (List.take (List.length (Prod.fst x_3)) (Prod.fst x_3)),
 Prod.snd x_3)))
 none)
 none)))
theorem ok61 (n : Nat) : FunOK Tryz.prog ⟨61, sig61, F61 n⟩ :=
 fun_ok (hints := ⟨[], []⟩) (fuel := n) (c := Tryz.f61.body.getD .skip) (rs := Tryz.f61.results.toList) tt_ok mix (FsOK.cons (ok23 n) (FsOK.cons (ok41 n) (FsOK.cons (ok42 n) (FsOK.nil)))) Tryz.func61 (by kernel_rfl) (by kernel_rfl) rfl (by kernel_rfl) rfl rfl (by kernel_rfl)
-- (*watchfire/pack.Reader).Count
def sig62 : Sig := ⟨(.cons (.one (.ptr (.cons (.c (.ro (.cons (.int .u8) .nil))) (.cons (.c (.int .i64)) .nil)))) (.cons (.one (.c (.int .u64))) .nil)), (.cons (.one (.c (.int .u64))) .nil)⟩
def F62 : Nat → Option (List UInt8 × Int64) × UInt64 → Option (UInt64 × Option (List UInt8 × Int64)) := fun (n : Nat) (x : Option (List UInt8 × Int64) × UInt64) =>
 obind (F23 n (Prod.fst x)) fun (x_1 : UInt64 × Option (List UInt8 × Int64)) =>
 oite (decide (Prod.snd x < Prod.fst x_1))
 (obind (F42 n (Prod.snd x_1, (6 : Int64))) fun (x_2 : Unit × Option (List UInt8 × Int64)) =>
 some ((0 : UInt64), Prod.snd x_2))
 (some (Prod.fst x_1, Prod.snd x_1))
theorem ok62 (n : Nat) : FunOK Tryz.prog ⟨62, sig62, F62 n⟩ :=
 fun_ok (hints := ⟨[], []⟩) (fuel := n) (c := Tryz.f62.body.getD .skip) (rs := Tryz.f62.results.toList) tt_ok mix (FsOK.cons (ok23 n) (FsOK.cons (ok42 n) (FsOK.nil))) Tryz.func62 (by kernel_rfl) (by kernel_rfl) rfl (by kernel_rfl) rfl rfl (by kernel_rfl)
-- (*watchfire/pack.Reader).Int
def sig63 : Sig := ⟨(.cons (.one (.ptr (.cons (.c (.ro (.cons (.int .u8) .nil))) (.cons (.c (.int .i64)) .nil)))) .nil), (.cons (.one (.c (.int .i64))) .nil)⟩
def F63 : Nat → Option (List UInt8 × Int64) → Option (Int64 × Option (List UInt8 × Int64)) := fun (n : Nat) (x : Option (List UInt8 × Int64)) =>
 obind (F23 n x) fun (x_1 : UInt64 × Option (List UInt8 × Int64)) =>
 some
 (Int64.ofInt ↑(UInt64.toNat (IK.shr IntKind.u64 (Prod.fst x_1) ↑(UInt64.toNat (1 : UInt64)))) ^^^
 (0 : Int64) - Int64.ofInt ↑(UInt64.toNat (Prod.fst x_1 &&& (1 : UInt64))),
 Prod.snd x_1)
theorem ok63 (n : Nat) : FunOK Tryz.prog ⟨63, sig63, F63 n⟩ :=
 fun_ok (hints := ⟨[], []⟩) (fuel := n) (c := Tryz.f63.body.getD .skip) (rs := Tryz.f63.results.toList) tt_ok mix (FsOK.cons (ok23 n) (FsOK.nil)) Tryz.func63 (by kernel_rfl) (by kernel_rfl) rfl (by kernel_rfl) rfl rfl (by kernel_rfl)
-- watchfire/item.take
def sig44 : Sig := ⟨(.cons (.one (.ptr (.cons (.c (.ro (.cons (.int .u8) .nil))) (.cons (.c (.int .i64)) .nil)))) .nil), (.cons (.agg (.cons (.int .u8) (.cons (.int .u64) (.cons (.int .u64) (.cons .str (.cons (.ro (.cons .str (.cons .str .nil))) (.cons (.int .u8) (.cons (.int .u8) (.cons (.int .i64) (.cons (.int .u8) .nil)))))))))) .nil)⟩
def F44_L1021 : Nat →
 Arr
 [PT.int IntKind.u64, PT.int IntKind.u64,
 PT.opt
 (OTs.cons (OT.c (CT.ro (CTs.cons (CT.int IntKind.u8) CTs.nil)))
 (OTs.cons (OT.c (CT.int IntKind.i64)) OTs.nil)),
 PT.int IntKind.u8, PT.int IntKind.u64, PT.int IntKind.u64, PT.bytes, PT.int IntKind.u8, PT.int IntKind.u8,
 PT.int IntKind.i64, PT.int IntKind.u8, PT.int IntKind.u8, PT.int IntKind.u64, PT.int IntKind.u64, PT.bytes,
 PT.int IntKind.u8, PT.int IntKind.u8, PT.int IntKind.i64, PT.int IntKind.u8,
 PT.list (CTs.cons CT.str (CTs.cons CT.str CTs.nil))]
 (Option
 ((UInt8 × UInt64 × UInt64 × List UInt8 × List (List UInt8 × List UInt8) × UInt8 × UInt8 × Int64 × UInt8) ×
 Option (List UInt8 × Int64))) →
 UInt64 →
 UInt64 →
 Option (List UInt8 × Int64) →
 UInt8 →
 UInt64 →
 UInt64 →
 List UInt8 →
 UInt8 →
 UInt8 →
 Int64 →
 UInt8 →
 UInt8 →
 UInt64 →
 UInt64 →
 List UInt8 →
 UInt8 →
 UInt8 →
 Int64 →
 UInt8 →
 List (List UInt8 × List UInt8) →
 Option
 ((UInt8 ×
 UInt64 ×
 UInt64 ×
 List UInt8 ×
 List (List UInt8 × List UInt8) ×
 UInt8 × UInt8 × Int64 × UInt8) ×
 Option (List UInt8 × Int64)) := fun (n : Nat)
 (rec :
 Arr
 [PT.int IntKind.u64, PT.int IntKind.u64,
 PT.opt
 (OTs.cons (OT.c (CT.ro (CTs.cons (CT.int IntKind.u8) CTs.nil)))
 (OTs.cons (OT.c (CT.int IntKind.i64)) OTs.nil)),
 PT.int IntKind.u8, PT.int IntKind.u64, PT.int IntKind.u64, PT.bytes, PT.int IntKind.u8, PT.int IntKind.u8,
 PT.int IntKind.i64, PT.int IntKind.u8, PT.int IntKind.u8, PT.int IntKind.u64, PT.int IntKind.u64, PT.bytes,
 PT.int IntKind.u8, PT.int IntKind.u8, PT.int IntKind.i64, PT.int IntKind.u8,
 PT.list (CTs.cons CT.str (CTs.cons CT.str CTs.nil))]
 (Option
 ((UInt8 × UInt64 × UInt64 × List UInt8 × List (List UInt8 × List UInt8) × UInt8 × UInt8 × Int64 × UInt8) ×
 Option (List UInt8 × Int64))))
 (t t_1 : UInt64) (r : Option (List UInt8 × Int64)) (t0 : UInt8) (t1 t2 : UInt64) (t3 : List UInt8) (t5 t6 : UInt8)
 (t7 : Int64) (t8 v0 : UInt8) (v1 v2 : UInt64) (v3 : List UInt8) (v5 v6 : UInt8) (v7 : Int64) (v8 : UInt8)
 (vl : List (List UInt8 × List UInt8)) =>
 oite (decide (t_1 < t))
 (obind (F61 n (r, (8 : Int64))) fun (x_6 : List UInt8 × Option (List UInt8 × Int64)) =>
 obind (F61 n (Prod.snd x_6, (16 : Int64))) fun (x_7 : List UInt8 × Option (List UInt8 × Int64)) =>
 oite (Nat.ble (List.length vl + List.length [(Prod.fst x_6, Prod.fst x_7)]) (4294967296 : Nat))
 (rec t (t_1 + (1 : UInt64)) (Prod.snd x_7) t0 t1 t2 t3 t5 t6 t7 t8 v0 v1 v2 v3 v5 v6 v7 v8
 (vl ++ [(Prod.fst x_6, Prod.fst x_7)]))
 none)
 (obind (F22 n r) fun (x_6 : UInt8 × Option (List UInt8 × Int64)) =>
 obind (F22 n (Prod.snd x_6)) fun (x_7 : UInt8 × Option (List UInt8 × Int64)) =>
 obind (F63 n (Prod.snd x_7)) fun (x_8 : Int64 × Option (List UInt8 × Int64)) =>
 obind (F22 n (Prod.snd x_8)) fun (x_9 : UInt8 × Option (List UInt8 × Int64)) =>
 some ((v0, v1, v2, v3, vl, Prod.fst x_6, Prod.fst x_7, Prod.fst x_8, Prod.fst x_9), Prod.snd x_9))
def F44_R1021 : Nat →
 Nat →
 PT.T (PT.int IntKind.u64) →
 UInt64 →
 Option (List UInt8 × Int64) →
 UInt8 →
 UInt64 →
 UInt64 →
 List UInt8 →
 UInt8 →
 UInt8 →
 Int64 →
 UInt8 →
 UInt8 →
 UInt64 →
 UInt64 →
 List UInt8 →
 UInt8 →
 UInt8 →
 Int64 →
 UInt8 →
 List (List UInt8 × List UInt8) →
 Option
 ((UInt8 ×
 UInt64 ×
 UInt64 ×
 List UInt8 ×
 List (List UInt8 × List UInt8) ×
 UInt8 × UInt8 × Int64 × UInt8) ×
 Option (List UInt8 × Int64)) := fun (n : Nat) =>
 ofixA (1021 : Nat)
 [PT.int IntKind.u64, PT.int IntKind.u64,
 PT.opt
 (OTs.cons (OT.c (CT.ro (CTs.cons (CT.int IntKind.u8) CTs.nil))) (OTs.cons (OT.c (CT.int IntKind.i64)) OTs.nil)),
 PT.int IntKind.u8, PT.int IntKind.u64, PT.int IntKind.u64, PT.bytes, PT.int IntKind.u8, PT.int IntKind.u8,
 PT.int IntKind.i64, PT.int IntKind.u8, PT.int IntKind.u8, PT.int IntKind.u64, PT.int IntKind.u64, PT.bytes,
 PT.int IntKind.u8, PT.int IntKind.u8, PT.int IntKind.i64, PT.int IntKind.u8,
 PT.list (CTs.cons CT.str (CTs.cons CT.str CTs.nil))]
 (F44_L1021 n)
def F44 : Nat →
 Option (List UInt8 × Int64) →
 Option
 ((UInt8 × UInt64 × UInt64 × List UInt8 × List (List UInt8 × List UInt8) × UInt8 × UInt8 × Int64 × UInt8) ×
 Option (List UInt8 × Int64)) := fun (n : Nat) (x : Option (List UInt8 × Int64)) =>
 obind (F22 n x) fun (x_1 : UInt8 × Option (List UInt8 × Int64)) =>
 obind (F23 n (Prod.snd x_1)) fun (x_2 : UInt64 × Option (List UInt8 × Int64)) =>
 obind (F23 n (Prod.snd x_2)) fun (x_3 : UInt64 × Option (List UInt8 × Int64)) =>
 obind (F61 n (Prod.snd x_3, (12 : Int64))) fun (x_4 : List UInt8 × Option (List UInt8 × Int64)) =>
 obind (F62 n (Prod.snd x_4, (8 : UInt64))) fun (x_5 : UInt64 × Option (List UInt8 × Int64)) =>
 F44_R1021 n n (Prod.fst x_5) (0 : UInt64) (Prod.snd x_5) (0 : UInt8) (0 : UInt64) (0 : UInt64) []
 (0 : UInt8) (0 : UInt8) (0 : Int64) (0 : UInt8) (Prod.fst x_1) (Prod.fst x_2) (Prod.fst x_3)
 (Prod.fst x_4) (0 : UInt8) (0 : UInt8) (0 : Int64) (0 : UInt8) []
theorem F44_R1021_s (n : Nat) (m_ : Nat) : F44_R1021 n (m_ + 1) = F44_L1021 n (F44_R1021 n m_) := rfl
theorem ok44 (n : Nat) : FunOK Tryz.prog ⟨44, sig44, F44 n⟩ :=
 fun_ok (hints := ⟨[], [(1021, ⟨[(0, .one (.own 0)), (2, .one (.own 1)), (3, .one (.own 2)), (20, .one (.int .u64)), (21, .one (.int .u64))], [(0, .fold (.cons (.c (.ro (.cons (.int .u8) .nil))) (.cons (.c (.int .i64)) .nil))), (1, .cells [.int .u8, .int .u64, .int .u64, .str, .nils, .int .u8, .int .u8, .int .i64, .int .u8]), (2, .cells [.int .u8, .int .u64, .int .u64, .str, .own 3, .int .u8, .int .u8, .int .i64, .int .u8]), (3, .row (.cons .str (.cons .str .nil)))], 4⟩)]⟩) (fuel := n) (c := Tryz.f44.body.getD .skip) (rs := Tryz.f44.results.toList) tt_ok mix (FsOK.cons (ok22 n) (FsOK.cons (ok23 n) (FsOK.cons (ok61 n) (FsOK.cons (ok62 n) (FsOK.cons (ok63 n) (FsOK.nil)))))) Tryz.func44 (by kernel_rfl) (by kernel_rfl) rfl (by kernel_rfl) rfl rfl (by kernel_rfl)
-- (*watchfire/pack.Reader).Err
def sig45 : Sig := ⟨(.cons (.one (.ptr (.cons (.c (.ro (.cons (.int .u8) .nil))) (.cons (.c (.int .i64)) .nil)))) .nil), (.cons (.one (.c (.int .i64))) .nil)⟩
def F45 : Nat → Option (List UInt8 × Int64) → Option (Int64 × Option (List UInt8 × Int64)) := fun (n : Nat) (x : Option (List UInt8 × Int64)) =>
 oelim x (some ((1 : Int64), none)) fun (x_1 : List UInt8 × Int64) =>
 some (Prod.snd x_1, some (Prod.fst x_1, Prod.snd x_1))
theorem ok45 (n : Nat) : FunOK Tryz.prog ⟨45, sig45, F45 n⟩ :=
 fun_ok (hints := ⟨[], []⟩) (fuel := n) (c := Tryz.f45.body.getD .skip) (rs := Tryz.f45.results.toList) tt_ok mix (FsOK.nil) Tryz.func45 (by kernel_rfl) (by kernel_rfl) rfl (by kernel_rfl) rfl rfl (by kernel_rfl)
-- watchfire/item.Take
def sig24 : Sig := ⟨(.cons (.one (.ptr (.cons (.c (.ro (.cons (.int .u8) .nil))) (.cons (.c (.int .i64)) .nil)))) .nil), (.cons (.agg (.cons .bool (.cons (.int .u8) (.cons (.int .u64) (.cons (.int .u64) (.cons .str (.cons (.ro (.cons .str (.cons .str .nil))) (.cons (.int .u8) (.cons (.int .u8) (.cons (.int .i64) (.cons (.int .u8) (.cons (.int .u8) (.cons (.int .u64) (.cons (.int .u64) .nil)))))))))))))) .nil)⟩
def F24_J15 : Nat →
 Option (List UInt8 × Int64) →
 Bool →
 UInt8 →
 UInt64 →
 UInt64 →
 List UInt8 →
 UInt8 →
 UInt8 →
 Int64 →
 UInt8 →
 UInt8 →
 UInt64 →
 UInt64 →
 Bool →
 UInt8 →
 UInt64 →
 UInt64 →
 List UInt8 →
 List (List UInt8 × List UInt8) →
 UInt8 →
 UInt8 →
 Int64 →
 UInt8 →
 UInt8 →
 UInt64 →
 UInt64 →
 Option
 ((Bool ×
 UInt8 ×
 UInt64 ×
 UInt64 ×
 List UInt8 ×
 List (List UInt8 × List UInt8) ×
 UInt8 ×
 UInt8 ×
 Int64 × UInt8 × UInt8 × UInt64 × UInt64) ×
 Option (List UInt8 × Int64)) := fun (n : Nat) (r_1 : Option (List UInt8 × Int64)) (t0_1 : Bool) (t1_1 : UInt8) (t2_1 t3_1 : UInt64) (t4_1 : List UInt8)
 (t6_1 t7_1 : UInt8) (t8_1 : Int64) (t9_1 t10_1 : UInt8) (t11_1 t12_1 : UInt64) (x0_1 : Bool) (x1_1 : UInt8)
 (x2_1 x3_1 : UInt64) (x4_1 : List UInt8) (x5_1 : List (List UInt8 × List UInt8)) (x6_1 x7_1 : UInt8) (x8_1 : Int64)
 (x9_1 x10_1 : UInt8) (x11_1 x12_1 : UInt64) =>
 obind (F45 n r_1) fun (x_2 : Int64 × Option (List UInt8 × Int64)) =>
 oite (!decide (Prod.fst x_2 = (0 : Int64)))
 (some
 ((false, (0 : UInt8), (0 : UInt64), (0 : UInt64), [], [], (0 : UInt8), (0 : UInt8), (0 : Int64), (0 : UInt8),
 (0 : UInt8), (0 : UInt64), (0 : UInt64)),
 Prod.snd x_2))
 (some ((x0_1, x1_1, x2_1, x3_1, x4_1, x5_1, x6_1, x7_1, x8_1, x9_1, x10_1, x11_1, x12_1), Prod.snd x_2))
def F24_J7 : Nat →
 Option (List UInt8 × Int64) →
 Bool →
 UInt8 →
 UInt64 →
 UInt64 →
 List UInt8 →
 UInt8 →
 UInt8 →
 Int64 →
 UInt8 →
 UInt8 →
 UInt64 →
 UInt64 →
 Bool →
 UInt8 →
 UInt64 →
 UInt64 →
 List UInt8 →
 List (List UInt8 × List UInt8) →
 UInt8 →
 UInt8 →
 Int64 →
 UInt8 →
 UInt8 →
 UInt64 →
 UInt64 →
 Option
 ((Bool ×
 UInt8 ×
 UInt64 ×
 UInt64 ×
 List UInt8 ×
 List (List UInt8 × List UInt8) ×
 UInt8 ×
 UInt8 ×
 Int64 × UInt8 × UInt8 × UInt64 × UInt64) ×
 Option (List UInt8 × Int64)) := fun (n : Nat) (r : Option (List UInt8 × Int64)) (t0 : Bool) (t1 : UInt8) (t2 t3 : UInt64) (t4 : List UInt8)
 (t6 t7 : UInt8) (t8 : Int64) (t9 t10 : UInt8) (t11 t12 : UInt64) (x0 : Bool) (x1 : UInt8) (x2 x3 : UInt64)
 (x4 : List UInt8) (x5 : List (List UInt8 × List UInt8)) (x6 x7 : UInt8) (x8 : Int64) (x9 x10 : UInt8)
 (x11 x12 : UInt64) =>
 ojoinA (15 : Nat)
 [PT.opt
 (OTs.cons (OT.c (CT.ro (CTs.cons (CT.int IntKind.u8) CTs.nil))) (OTs.cons (OT.c (CT.int IntKind.i64)) OTs.nil)),
 PT.bool, PT.int IntKind.u8, PT.int IntKind.u64, PT.int IntKind.u64, PT.bytes, PT.int IntKind.u8,
 PT.int IntKind.u8, PT.int IntKind.i64, PT.int IntKind.u8, PT.int IntKind.u8, PT.int IntKind.u64,
 PT.int IntKind.u64, PT.bool, PT.int IntKind.u8, PT.int IntKind.u64, PT.int IntKind.u64, PT.bytes,
 PT.list (CTs.cons CT.str (CTs.cons CT.str CTs.nil)), PT.int IntKind.u8, PT.int IntKind.u8, PT.int IntKind.i64,
 PT.int IntKind.u8, PT.int IntKind.u8, PT.int IntKind.u64, PT.int IntKind.u64]
 (fun
 (J :
 Arr
 [PT.opt
 (OTs.cons (OT.c (CT.ro (CTs.cons (CT.int IntKind.u8) CTs.nil)))
 (OTs.cons (OT.c (CT.int IntKind.i64)) OTs.nil)),
 PT.bool, PT.int IntKind.u8, PT.int IntKind.u64, PT.int IntKind.u64, PT.bytes, PT.int IntKind.u8,
 PT.int IntKind.u8, PT.int IntKind.i64, PT.int IntKind.u8, PT.int IntKind.u8, PT.int IntKind.u64,
 PT.int IntKind.u64, PT.bool, PT.int IntKind.u8, PT.int IntKind.u64, PT.int IntKind.u64, PT.bytes,
 PT.list (CTs.cons CT.str (CTs.cons CT.str CTs.nil)), PT.int IntKind.u8, PT.int IntKind.u8,
 PT.int IntKind.i64, PT.int IntKind.u8, PT.int IntKind.u8, PT.int IntKind.u64, PT.int IntKind.u64]
 (Option
 ((Bool ×
 UInt8 ×
 UInt64 ×
 UInt64 ×
 List UInt8 ×
 List (List UInt8 × List UInt8) × UInt8 × UInt8 × Int64 × UInt8 × UInt8 × UInt64 × UInt64) ×
 Option (List UInt8 × Int64)))) =>
 obind (F45 n r) fun (x_2 : Int64 × Option (List UInt8 × Int64)) =>
 oite (decide (Prod.fst x_2 = (0 : Int64)))
 (obind (F46 n (x0, x1, x2, x3, x4, x5, x6, x7, x8, x9, x10, x11, x12)) fun (x_3 : Int64 × Unit) =>
 oite (!decide (Prod.fst x_3 = (0 : Int64)))
 (obind (F42 n (Prod.snd x_2, Prod.fst x_3)) fun (x_4 : Unit × Option (List UInt8 × Int64)) =>
 J (Prod.snd x_4) t0 t1 t2 t3 t4 t6 t7 t8 t9 t10 t11 t12 x0 x1 x2 x3 x4 x5 x6 x7 x8 x9 x10 x11 x12)
 (J (Prod.snd x_2) t0 t1 t2 t3 t4 t6 t7 t8 t9 t10 t11 t12 x0 x1 x2 x3 x4 x5 x6 x7 x8 x9 x10 x11 x12))
 (J (Prod.snd x_2) t0 t1 t2 t3 t4 t6 t7 t8 t9 t10 t11 t12 x0 x1 x2 x3 x4 x5 x6 x7 x8 x9 x10 x11 x12))
 (F24_J15 n)
def F24 : Nat →
 Option (List UInt8 × Int64) →
 Option
 ((Bool ×
 UInt8 ×
 UInt64 ×
 UInt64 ×
 List UInt8 × List (List UInt8 × List UInt8) × UInt8 × UInt8 × Int64 × UInt8 × UInt8 × UInt64 × UInt64) ×
 Option (List UInt8 × Int64)) := fun (n : Nat) (x : Option (List UInt8 × Int64)) =>
 obind (F43 n x) fun (x_1 : Bool × Option (List UInt8 × Int64)) =>
 ojoinA (7 : Nat)
 [PT.opt
 (OTs.cons (OT.c (CT.ro (CTs.cons (CT.int IntKind.u8) CTs.nil)))
 (OTs.cons (OT.c (CT.int IntKind.i64)) OTs.nil)),
 PT.bool, PT.int IntKind.u8, PT.int IntKind.u64, PT.int IntKind.u64, PT.bytes, PT.int IntKind.u8,
 PT.int IntKind.u8, PT.int IntKind.i64, PT.int IntKind.u8, PT.int IntKind.u8, PT.int IntKind.u64,
 PT.int IntKind.u64, PT.bool, PT.int IntKind.u8, PT.int IntKind.u64, PT.int IntKind.u64, PT.bytes,
 PT.list (CTs.cons CT.str (CTs.cons CT.str CTs.nil)), PT.int IntKind.u8, PT.int IntKind.u8, PT.int IntKind.i64,
 PT.int IntKind.u8, PT.int IntKind.u8, PT.int IntKind.u64, PT.int IntKind.u64]
 (fun
 (J :
 Arr
 [PT.opt
 (OTs.cons (OT.c (CT.ro (CTs.cons (CT.int IntKind.u8) CTs.nil)))
 (OTs.cons (OT.c (CT.int IntKind.i64)) OTs.nil)),
 PT.bool, PT.int IntKind.u8, PT.int IntKind.u64, PT.int IntKind.u64, PT.bytes, PT.int IntKind.u8,
 PT.int IntKind.u8, PT.int IntKind.i64, PT.int IntKind.u8, PT.int IntKind.u8, PT.int IntKind.u64,
 PT.int IntKind.u64, PT.bool, PT.int IntKind.u8, PT.int IntKind.u64, PT.int IntKind.u64, PT.bytes,
 PT.list (CTs.cons CT.str (CTs.cons CT.str CTs.nil)), PT.int IntKind.u8, PT.int IntKind.u8,
 PT.int IntKind.i64, PT.int IntKind.u8, PT.int IntKind.u8, PT.int IntKind.u64, PT.int IntKind.u64]
 (Option
 ((Bool ×
 UInt8 ×
 UInt64 ×
 UInt64 ×
 List UInt8 ×
 List (List UInt8 × List UInt8) × UInt8 × UInt8 × Int64 × UInt8 × UInt8 × UInt64 × UInt64) ×
 Option (List UInt8 × Int64)))) =>
 oite (Prod.fst x_1)
 (obind (F22 n (Prod.snd x_1)) fun (x_2 : UInt8 × Option (List UInt8 × Int64)) =>
 obind (F23 n (Prod.snd x_2)) fun (x_3 : UInt64 × Option (List UInt8 × Int64)) =>
 obind (F23 n (Prod.snd x_3)) fun (x_4 : UInt64 × Option (List UInt8 × Int64)) =>
 J (Prod.snd x_4) false (0 : UInt8) (0 : UInt64) (0 : UInt64) [] (0 : UInt8) (0 : UInt8) (0 : Int64)
 (0 : UInt8) (0 : UInt8) (0 : UInt64) (0 : UInt64) (Prod.fst x_1) (0 : UInt8) (0 : UInt64) (0 : UInt64)
 [] [] (0 : UInt8) (0 : UInt8) (0 : Int64) (0 : UInt8) (Prod.fst x_2) (Prod.fst x_3) (Prod.fst x_4))
 (obind (F44 n (Prod.snd x_1))
 fun
 (x_2 :
 (UInt8 ×
 UInt64 × UInt64 × List UInt8 × List (List UInt8 × List UInt8) × UInt8 × UInt8 × Int64 × UInt8) ×
 Option (List UInt8 × Int64)) =>
 J (Prod.snd x_2) false (0 : UInt8) (0 : UInt64) (0 : UInt64) [] (0 : UInt8) (0 : UInt8) (0 : Int64)
 (0 : UInt8) (0 : UInt8) (0 : UInt64) (0 : UInt64) (Prod.fst x_1) (Prod.fst (Prod.fst x_2))
 (Prod.fst (Prod.snd (Prod.fst x_2))) (Prod.fst (Prod.snd (Prod.snd (Prod.fst x_2))))
 (Prod.fst (Prod.snd (Prod.snd (Prod.snd (Prod.fst x_2)))))
 (Prod.fst (Prod.snd (Prod.snd (Prod.snd (Prod.snd (Prod.fst x_2))))))
 (Prod.fst (Prod.snd (Prod.snd (Prod.snd (Prod.snd (Prod.snd (Prod.fst x_2)))))))
 (Prod.fst (Prod.snd (Prod.snd (Prod.snd (Prod.snd (Prod.snd (Prod.snd (Prod.fst x_2))))))))
 (Prod.fst (Prod.snd (Prod.snd (Prod.snd (Prod.snd (Prod.snd (Prod.snd (Prod.snd (Prod.fst x_2)))))))))
 (Prod.snd (Prod.snd (Prod.snd (Prod.snd (Prod.snd (Prod.snd (Prod.snd (Prod.snd (Prod.fst x_2)))))))))
 (0 : UInt8) (0 : UInt64) (0 : UInt64)))
 (F24_J7 n)
theorem ok24 (n : Nat) : FunOK Tryz.prog ⟨24, sig24, F24 n⟩ :=
 fun_ok (hints := ⟨[(7, ⟨[(0, .one (.own 0)), (2, .one (.own 1)), (3, .one (.own 2))], [(0, .fold (.cons (.c (.ro (.cons (.int .u8) .nil))) (.cons (.c (.int .i64)) .nil))), (1, .cells [.bool, .int .u8, .int .u64, .int .u64, .str, .nils, .int .u8, .int .u8, .int .i64, .int .u8, .int .u8, .int .u64, .int .u64]), (2, .cells [.bool, .int .u8, .int .u64, .int .u64, .str, .ro (.cons .str (.cons .str .nil)), .int .u8, .int .u8, .int .i64, .int .u8, .int .u8, .int .u64, .int .u64])], 3⟩), (15, ⟨[(0, .one (.own 0)), (2, .one (.own 1)), (3, .one (.own 2))], [(0, .fold (.cons (.c (.ro (.cons (.int .u8) .nil))) (.cons (.c (.int .i64)) .nil))), (1, .cells [.bool, .int .u8, .int .u64, .int .u64, .str, .nils, .int .u8, .int .u8, .int .i64, .int .u8, .int .u8, .int .u64, .int .u64]), (2, .cells [.bool, .int .u8, .int .u64, .int .u64, .str, .ro (.cons .str (.cons .str .nil)), .int .u8, .int .u8, .int .i64, .int .u8, .int .u8, .int .u64, .int .u64])], 3⟩)], []⟩) (fuel := n) (c := Tryz.f24.body.getD .skip) (rs := Tryz.f24.results.toList) tt_ok mix (FsOK.cons (ok43 n) (FsOK.cons (ok22 n) (FsOK.cons (ok23 n) (FsOK.cons (ok44 n) (FsOK.cons (ok45 n) (FsOK.cons (ok46 n) (FsOK.cons (ok42 n) (FsOK.nil)))))))) Tryz.func24 (by kernel_rfl) (by kernel_rfl) rfl (by kernel_rfl) rfl rfl (by kernel_rfl)
-- (*watchfire/pack.Reader).Left
def sig47 : Sig := ⟨(.cons (.one (.ptr (.cons (.c (.ro (.cons (.int .u8) .nil))) (.cons (.c (.int .i64)) .nil)))) .nil), (.cons (.one (.c (.int .i64))) .nil)⟩
def F47 : Nat → Option (List UInt8 × Int64) → Option (Int64 × Option (List UInt8 × Int64)) := fun (n : Nat) (x : Option (List UInt8 × Int64)) =>
 obind (F41 n x) fun (x_1 : Bool × Option (List UInt8 × Int64)) =>
 oite (!Prod.fst x_1) (some ((0 : Int64), Prod.snd x_1))
 (obind (Prod.snd x_1) fun (x_2 : List UInt8 × Int64) =>
 some (Int64.ofInt ↑(List.length (Prod.fst x_2)), some (Prod.fst x_2, Prod.snd x_2)))
theorem ok47 (n : Nat) : FunOK Tryz.prog ⟨47, sig47, F47 n⟩ :=
 fun_ok (hints := ⟨[], []⟩) (fuel := n) (c := Tryz.f47.body.getD .skip) (rs := Tryz.f47.results.toList) tt_ok mix (FsOK.cons (ok41 n) (FsOK.nil)) Tryz.func47 (by kernel_rfl) (by kernel_rfl) rfl (by kernel_rfl) rfl rfl (by kernel_rfl)
-- (*watchfire/pack.Reader).Done
def sig25 : Sig := ⟨(.cons (.one (.ptr (.cons (.c (.ro (.cons (.int .u8) .nil))) (.cons (.c (.int .i64)) .nil)))) .nil), (.cons (.one (.c (.int .i64))) .nil)⟩
def F25 : Nat → Option (List UInt8 × Int64) → Option (Int64 × Option (List UInt8 × Int64)) := fun (n : Nat) (x : Option (List UInt8 × Int64)) =>
 obind (F47 n x) fun (x_1 : Int64 × Option (List UInt8 × Int64)) =>
 oite (decide ((0 : Int64) < Prod.fst x_1))
 (obind (F42 n (Prod.snd x_1, (25 : Int64))) fun (x_2 : Unit × Option (List UInt8 × Int64)) =>
 obind (F45 n (Prod.snd x_2)) fun (x_3 : Int64 × Option (List UInt8 × Int64)) =>
 some (Prod.fst x_3, Prod.snd x_3))
 (obind (F45 n (Prod.snd x_1)) fun (x_2 : Int64 × Option (List UInt8 × Int64)) =>
 some (Prod.fst x_2, Prod.snd x_2))
theorem ok25 (n : Nat) : FunOK Tryz.prog ⟨25, sig25, F25 n⟩ :=
 fun_ok (hints := ⟨[], []⟩) (fuel := n) (c := Tryz.f25.body.getD .skip) (rs := Tryz.f25.results.toList) tt_ok mix (FsOK.cons (ok47 n) (FsOK.cons (ok42 n) (FsOK.cons (ok45 n) (FsOK.nil)))) Tryz.func25 (by kernel_rfl) (by kernel_rfl) rfl (by kernel_rfl) rfl rfl (by kernel_rfl)
-- watchfire/frame.Decode
def sig9 : Sig := ⟨(.cons (.one (.ptrA (.cons (.c (.int .u32)) (.cons (.c (.int .i32)) (.cons (.c (.int .u32)) .nil))) (.int .u32) 256 (.cons (.c (.int .u64)) (.cons (.c (.int .u64)) .nil)))) (.cons (.one (.c (.ro (.cons (.int .u8) .nil)))) .nil)), (.cons (.agg (.cons (.int .u8) (.cons (.int .u8) (.cons (.int .u8) (.cons (.int .u64) (.cons (.int .u64) (.cons .bool (.cons (.int .u8) (.cons (.int .u64) (.cons (.int .u64) (.cons .str (.cons (.ro (.cons .str (.cons .str .nil))) (.cons (.int .u8) (.cons (.int .u8) (.cons (.int .i64) (.cons (.int .u8) (.cons (.int .u8) (.cons (.int .u64) (.cons (.int .u64) (.cons (.int .u64) (.cons (.int .u64) (.cons (.int .u64) .nil)))))))))))))))))))))) (.cons (.one (.c (.int .i64))) .nil))⟩
def F9_J1023 : Nat →
 Option ((UInt32 × Int32 × UInt32) × List UInt32 × UInt64 × UInt64) →
 UInt8 →
 UInt8 →
 UInt8 →
 UInt64 →
 UInt64 →
 Bool →
 UInt8 →
 UInt64 →
 UInt64 →
 List UInt8 →
 UInt8 →
 UInt8 →
 Int64 →
 UInt8 →
 UInt8 →
 UInt64 →
 UInt64 →
 UInt64 →
 UInt64 →
 UInt64 →
 Option (List UInt8 × Int64) →
 UInt8 →
 UInt8 →
 UInt8 →
 UInt64 →
 UInt64 →
 Bool →
 UInt8 →
 UInt64 →
 UInt64 →
 List UInt8 →
 List (List UInt8 × List UInt8) →
 UInt8 →
 UInt8 →
 Int64 →
 UInt8 →
 UInt8 →
 UInt64 →
 UInt64 →
 UInt64 →
 UInt64 →
 UInt64 →
 Option
 (((UInt8 ×
 UInt8 ×
 UInt8 ×
 UInt64 ×
 UInt64 ×
 Bool ×
 UInt8 ×
 UInt64 ×
 UInt64 ×
 List
 UInt8 ×
 List
 (List
 UInt8 ×
 List
 UInt8) ×
 UInt8 ×
 UInt8 ×
 Int64 ×
 UInt8 ×
 UInt8 ×
 UInt64 ×
 UInt64 ×
 UInt64 ×
 UInt64 ×
 UInt64) ×
 Int64) ×
 Option
 ((UInt32 ×
 Int32 × UInt32) ×
 List UInt32 ×
 UInt64 × UInt64)) := fun (n : Nat) (c0 : Option ((UInt32 × Int32 × UInt32) × List UInt32 × UInt64 × UInt64)) (t0 t1 t2 : UInt8)
 (t3 t4 : UInt64) (t5 : Bool) (t6 : UInt8) (t7 t8 : UInt64) (t9 : List UInt8) (t11 t12 : UInt8) (t13 : Int64)
 (t14 t15 : UInt8) (t16 t17 t18 t19 t20 : UInt64) (r : Option (List UInt8 × Int64)) (f0 f1 f2 : UInt8)
 (f3 f4 : UInt64) (f5 : Bool) (f6 : UInt8) (f7 f8 : UInt64) (f9 : List UInt8) (f10 : List (List UInt8 × List UInt8))
 (f11 f12 : UInt8) (f13 : Int64) (f14 f15 : UInt8) (f16 f17 f18 f19 f20 : UInt64) =>
 obind (F25 n r) fun (x_8 : Int64 × Option (List UInt8 × Int64)) =>
 oite (!decide (Prod.fst x_8 = (0 : Int64)))
 (some
 ((((0 : UInt8), (0 : UInt8), (0 : UInt8), (0 : UInt64), (0 : UInt64), false, (0 : UInt8), (0 : UInt64),
 (0 : UInt64), [], [], (0 : UInt8), (0 : UInt8), (0 : Int64), (0 : UInt8), (0 : UInt8), (0 : UInt64),
 (0 : UInt64), (0 : UInt64), (0 : UInt64), (0 : UInt64)),
 Prod.fst x_8),
 c0))
 (obind (F26 n (f0, f1, f2, f3, f4, f5, f6, f7, f8, f9, f10, f11, f12, f13, f14, f15, f16, f17, f18, f19, f20))
 fun (x_9 : Int64 × Unit) =>
 oite (!decide (Prod.fst x_9 = (0 : Int64)))
 (some
 ((((0 : UInt8), (0 : UInt8), (0 : UInt8), (0 : UInt64), (0 : UInt64), false, (0 : UInt8), (0 : UInt64),
 (0 : UInt64), [], [], (0 : UInt8), (0 : UInt8), (0 : Int64), (0 : UInt8), (0 : UInt8), (0 : UInt64),
 (0 : UInt64), (0 : UInt64), (0 : UInt64), (0 : UInt64)),
 Prod.fst x_9),
 c0))
 (some
 (((f0, f1, f2, f3, f4, f5, f6, f7, f8, f9, f10, f11, f12, f13, f14, f15, f16, f17, f18, f19, f20),
 (0 : Int64)),
 c0)))
def F9 : Nat →
 Option ((UInt32 × Int32 × UInt32) × List UInt32 × UInt64 × UInt64) × List UInt8 →
 Option
 (((UInt8 ×
 UInt8 ×
 UInt8 ×
 UInt64 ×
 UInt64 ×
 Bool ×
 UInt8 ×
 UInt64 ×
 UInt64 ×
 List UInt8 ×
 List (List UInt8 × List UInt8) ×
 UInt8 × UInt8 × Int64 × UInt8 × UInt8 × UInt64 × UInt64 × UInt64 × UInt64 × UInt64) ×
 Int64) ×
 Option ((UInt32 × Int32 × UInt32) × List UInt32 × UInt64 × UInt64)) := fun (n : Nat) (x : Option ((UInt32 × Int32 × UInt32) × List UInt32 × UInt64 × UInt64) × List UInt8) =>
 oelim (Prod.fst x)
 (some
 ((((0 : UInt8), (0 : UInt8), (0 : UInt8), (0 : UInt64), (0 : UInt64), false, (0 : UInt8), (0 : UInt64),
 (0 : UInt64), [], [], (0 : UInt8), (0 : UInt8), (0 : Int64), (0 : UInt8), (0 : UInt8), (0 : UInt64),
 (0 : UInt64), (0 : UInt64), (0 : UInt64), (0 : UInt64)),
 (1 : Int64)),
 none))
 fun (x_1 : (UInt32 × Int32 × UInt32) × List UInt32 × UInt64 × UInt64) =>
 oite (decide (Int64.ofInt ↑(List.length (Prod.snd x)) < (8 : Int64)))
 (some
 ((((0 : UInt8), (0 : UInt8), (0 : UInt8), (0 : UInt64), (0 : UInt64), false, (0 : UInt8), (0 : UInt64),
 (0 : UInt64), [], [], (0 : UInt8), (0 : UInt8), (0 : Int64), (0 : UInt8), (0 : UInt8), (0 : UInt64),
 (0 : UInt64), (0 : UInt64), (0 : UInt64), (0 : UInt64)),
 (3 : Int64)),
 some
 ((Prod.fst (Prod.fst x_1), Prod.fst (Prod.snd (Prod.fst x_1)), Prod.snd (Prod.snd (Prod.fst x_1))),
 Prod.fst (Prod.snd x_1), Prod.fst (Prod.snd (Prod.snd x_1)), Prod.snd (Prod.snd (Prod.snd x_1)))))
 (obind
 (F20 n
 (some
 ((Prod.fst (Prod.fst x_1), Prod.fst (Prod.snd (Prod.fst x_1)), Prod.snd (Prod.snd (Prod.fst x_1))),
 Prod.fst (Prod.snd x_1), Prod.fst (Prod.snd (Prod.snd x_1)), Prod.snd (Prod.snd (Prod.snd x_1))),
 Prod.snd x))
 fun (x_2 : (List UInt8 × Bool) × Option ((UInt32 × Int32 × UInt32) × List UInt32 × UInt64 × UInt64)) =>
 oite (!Prod.snd (Prod.fst x_2))
 (some
 ((((0 : UInt8), (0 : UInt8), (0 : UInt8), (0 : UInt64), (0 : UInt64), false, (0 : UInt8), (0 : UInt64),
 (0 : UInt64), [], [], (0 : UInt8), (0 : UInt8), (0 : Int64), (0 : UInt8), (0 : UInt8), (0 : UInt64),
 (0 : UInt64), (0 : UInt64), (0 : UInt64), (0 : UInt64)),
 (10 : Int64)),
 Prod.snd x_2))
 (obind (F21 n (Prod.fst (Prod.fst x_2))) fun (x_3 : Option (List UInt8 × Int64) × Unit) =>
 obind (F22 n (Prod.fst x_3)) fun (x_4 : UInt8 × Option (List UInt8 × Int64)) =>
 oite (!decide (Prod.fst x_4 = (183 : UInt8)))
 (some
 ((((0 : UInt8), (0 : UInt8), (0 : UInt8), (0 : UInt64), (0 : UInt64), false, (0 : UInt8),
 (0 : UInt64), (0 : UInt64), [], [], (0 : UInt8), (0 : UInt8), (0 : Int64), (0 : UInt8),
 (0 : UInt8), (0 : UInt64), (0 : UInt64), (0 : UInt64), (0 : UInt64), (0 : UInt64)),
 (11 : Int64)),
 Prod.snd x_2))
 (obind (F22 n (Prod.snd x_4)) fun (x_5 : UInt8 × Option (List UInt8 × Int64)) =>
 obind (F22 n (Prod.snd x_5)) fun (x_6 : UInt8 × Option (List UInt8 × Int64)) =>
 obind (F22 n (Prod.snd x_6)) fun (x_7 : UInt8 × Option (List UInt8 × Int64)) =>
 ojoinA (1023 : Nat)
 [PT.optA
 (OTs.cons (OT.c (CT.int IntKind.u32))
 (OTs.cons (OT.c (CT.int IntKind.i32)) (OTs.cons (OT.c (CT.int IntKind.u32)) OTs.nil)))
 (CT.int IntKind.u32)
 (OTs.cons (OT.c (CT.int IntKind.u64)) (OTs.cons (OT.c (CT.int IntKind.u64)) OTs.nil)),
 PT.int IntKind.u8, PT.int IntKind.u8, PT.int IntKind.u8, PT.int IntKind.u64,
 PT.int IntKind.u64, PT.bool, PT.int IntKind.u8, PT.int IntKind.u64, PT.int IntKind.u64,
 PT.bytes, PT.int IntKind.u8, PT.int IntKind.u8, PT.int IntKind.i64, PT.int IntKind.u8,
 PT.int IntKind.u8, PT.int IntKind.u64, PT.int IntKind.u64, PT.int IntKind.u64,
 PT.int IntKind.u64, PT.int IntKind.u64,
 PT.opt
 (OTs.cons (OT.c (CT.ro (CTs.cons (CT.int IntKind.u8) CTs.nil)))
 (OTs.cons (OT.c (CT.int IntKind.i64)) OTs.nil)),
 PT.int IntKind.u8, PT.int IntKind.u8, PT.int IntKind.u8, PT.int IntKind.u64,
 PT.int IntKind.u64, PT.bool, PT.int IntKind.u8, PT.int IntKind.u64, PT.int IntKind.u64,
 PT.bytes, PT.list (CTs.cons CT.str (CTs.cons CT.str CTs.nil)), PT.int IntKind.u8,
 PT.int IntKind.u8, PT.int IntKind.i64, PT.int IntKind.u8, PT.int IntKind.u8,
 PT.int IntKind.u64, PT.int IntKind.u64, PT.int IntKind.u64, PT.int IntKind.u64,
 PT.int IntKind.u64]
 (fun
 (J :
 Arr
 [PT.optA
 (OTs.cons (OT.c (CT.int IntKind.u32))
 (OTs.cons (OT.c (CT.int IntKind.i32))
 (OTs.cons (OT.c (CT.int IntKind.u32)) OTs.nil)))
 (CT.int IntKind.u32)
 (OTs.cons (OT.c (CT.int IntKind.u64))
 (OTs.cons (OT.c (CT.int IntKind.u64)) OTs.nil)),
 PT.int IntKind.u8, PT.int IntKind.u8, PT.int IntKind.u8, PT.int IntKind.u64,
 PT.int IntKind.u64, PT.bool, PT.int IntKind.u8, PT.int IntKind.u64,
 PT.int IntKind.u64, PT.bytes, PT.int IntKind.u8, PT.int IntKind.u8,
 PT.int IntKind.i64, PT.int IntKind.u8, PT.int IntKind.u8, PT.int IntKind.u64,
 PT.int IntKind.u64, PT.int IntKind.u64, PT.int IntKind.u64, PT.int IntKind.u64,
 PT.opt
 (OTs.cons (OT.c (CT.ro (CTs.cons (CT.int IntKind.u8) CTs.nil)))
 (OTs.cons (OT.c (CT.int IntKind.i64)) OTs.nil)),
 PT.int IntKind.u8, PT.int IntKind.u8, PT.int IntKind.u8, PT.int IntKind.u64,
 PT.int IntKind.u64, PT.bool, PT.int IntKind.u8, PT.int IntKind.u64,
 PT.int IntKind.u64, PT.bytes, PT.list (CTs.cons CT.str (CTs.cons CT.str CTs.nil)),
 PT.int IntKind.u8, PT.int IntKind.u8, PT.int IntKind.i64, PT.int IntKind.u8,
 PT.int IntKind.u8, PT.int IntKind.u64, PT.int IntKind.u64, PT.int IntKind.u64,
 PT.int IntKind.u64, PT.int IntKind.u64]
 (Option
 (((UInt8 ×
 UInt8 ×
 UInt8 ×
 UInt64 ×
 UInt64 ×
 Bool ×
 UInt8 ×
 UInt64 ×
 UInt64 ×
 List UInt8 ×
 List (List UInt8 × List UInt8) ×
 UInt8 ×
 UInt8 ×
 Int64 ×
 UInt8 ×
 UInt8 ×
 UInt64 × UInt64 × UInt64 × UInt64 × UInt64) ×
 Int64) ×
 Option ((UInt32 × Int32 × UInt32) × List UInt32 × UInt64 × UInt64)))) =>
 oite (decide (Prod.fst x_5 = (1 : UInt8)))
 (obind (F23 n (Prod.snd x_7)) fun (x_8 : UInt64 × Option (List UInt8 × Int64)) =>
 obind (F23 n (Prod.snd x_8)) fun (x_9 : UInt64 × Option (List UInt8 × Int64)) =>
 obind (F24 n (Prod.snd x_9))
 fun
 (x_10 :
 (Bool ×
 UInt8 ×
 UInt64 ×
 UInt64 ×
 List UInt8 ×
 List (List UInt8 × List UInt8) ×
 UInt8 × UInt8 × Int64 × UInt8 × UInt8 × UInt64 × UInt64) ×
 Option (List UInt8 × Int64)) =>
 J (Prod.snd x_2) (0 : UInt8) (0 : UInt8) (0 : UInt8) (0 : UInt64) (0 : UInt64) false
 (0 : UInt8) (0 : UInt64) (0 : UInt64) [] (0 : UInt8) (0 : UInt8) (0 : Int64)
 (0 : UInt8) (0 : UInt8) (0 : UInt64) (0 : UInt64) (0 : UInt64) (0 : UInt64)
 (0 : UInt64) (Prod.snd x_10) (Prod.fst x_5) (Prod.fst x_6) (Prod.fst x_7)
 (Prod.fst x_8) (Prod.fst x_9) (Prod.fst (Prod.fst x_10))
 (Prod.fst (Prod.snd (Prod.fst x_10)))
 (Prod.fst (Prod.snd (Prod.snd (Prod.fst x_10))))
 (Prod.fst (Prod.snd (Prod.snd (Prod.snd (Prod.fst x_10)))))
 (Prod.fst (Prod.snd (Prod.snd (Prod.snd (Prod.snd (Prod.fst x_10))))))
 (Prod.fst (Prod.snd (Prod.snd (Prod.snd (Prod.snd (Prod.snd (Prod.fst x_10)))))))
 (Prod.fst
 (Prod.snd (Prod.snd (Prod.snd (Prod.snd (Prod.snd (Prod.snd (Prod.fst x_10))))))))
 (Prod.fst
 (Prod.snd
 (Prod.snd
 (Prod.snd (Prod.snd (Prod.snd (Prod.snd (Prod.snd (Prod.fst x_10)))))))))
 (Prod.fst
 (Prod.snd
 (Prod.snd
 (Prod.snd
 (Prod.snd (Prod.snd (Prod.snd (Prod.snd (Prod.snd (Prod.fst x_10))))))))))
 (Prod.fst
 (Prod.snd
 (Prod.snd
 (Prod.snd
 (Prod.snd
 (Prod.snd
 (Prod.snd (Prod.snd (Prod.snd (Prod.snd (Prod.fst x_10)))))))))))
 (Prod.fst
 (Prod.snd
 (Prod.snd
 (Prod.snd
 (Prod.snd
 (Prod.snd
 (Prod.snd
 (Prod.snd (Prod.snd (Prod.snd (Prod.snd (Prod.fst x_10))))))))))))
 (Prod.fst
 (Prod.snd
 (Prod.snd
 (Prod.snd
 (Prod.snd
 (Prod.snd
 (Prod.snd
 (Prod.snd
 (Prod.snd (Prod.snd (Prod.snd (Prod.snd (Prod.fst x_10)))))))))))))
 (Prod.snd
 (Prod.snd
 (Prod.snd
 (Prod.snd
 (Prod.snd
 (Prod.snd
 (Prod.snd
 (Prod.snd
 (Prod.snd (Prod.snd (Prod.snd (Prod.snd (Prod.fst x_10)))))))))))))
 (0 : UInt64) (0 : UInt64) (0 : UInt64))
 (oite (decide (Prod.fst x_5 = (2 : UInt8)))
 (obind (F23 n (Prod.snd x_7)) fun (x_8 : UInt64 × Option (List UInt8 × Int64)) =>
 obind (F23 n (Prod.snd x_8)) fun (x_9 : UInt64 × Option (List UInt8 × Int64)) =>
 obind (F23 n (Prod.snd x_9)) fun (x_10 : UInt64 × Option (List UInt8 × Int64)) =>
 obind (F23 n (Prod.snd x_10)) fun (x_11 : UInt64 × Option (List UInt8 × Int64)) =>
 J (Prod.snd x_2) (0 : UInt8) (0 : UInt8) (0 : UInt8) (0 : UInt64) (0 : UInt64)
 false (0 : UInt8) (0 : UInt64) (0 : UInt64) [] (0 : UInt8) (0 : UInt8)
 (0 : Int64) (0 : UInt8) (0 : UInt8) (0 : UInt64) (0 : UInt64) (0 : UInt64)
 (0 : UInt64) (0 : UInt64) (Prod.snd x_11) (Prod.fst x_5) (Prod.fst x_6)
 (Prod.fst x_7) (Prod.fst x_8) (0 : UInt64) false (0 : UInt8) (0 : UInt64)
 (0 : UInt64) [] [] (0 : UInt8) (0 : UInt8) (0 : Int64) (0 : UInt8) (0 : UInt8)
 (0 : UInt64) (0 : UInt64) (Prod.fst x_9) (Prod.fst x_10) (Prod.fst x_11))
 (J (Prod.snd x_2) (0 : UInt8) (0 : UInt8) (0 : UInt8) (0 : UInt64) (0 : UInt64) false
 (0 : UInt8) (0 : UInt64) (0 : UInt64) [] (0 : UInt8) (0 : UInt8) (0 : Int64) (0 : UInt8)
 (0 : UInt8) (0 : UInt64) (0 : UInt64) (0 : UInt64) (0 : UInt64) (0 : UInt64)
 (Prod.snd x_7) (Prod.fst x_5) (Prod.fst x_6) (Prod.fst x_7) (0 : UInt64) (0 : UInt64)
 false (0 : UInt8) (0 : UInt64) (0 : UInt64) [] [] (0 : UInt8) (0 : UInt8) (0 : Int64)
 (0 : UInt8) (0 : UInt8) (0 : UInt64) (0 : UInt64) (0 : UInt64) (0 : UInt64)
 (0 : UInt64))))
 (F9_J1023 n))))
theorem ok9 (n : Nat) : FunOK Tryz.prog ⟨9, sig9, F9 n⟩ :=
 fun_ok (hints := ⟨[(1023, ⟨[(4, .one (.own 2)), (8, .one (.own 3)), (9, .one (.own 4))], [(0, .foldA (.cons (.c (.int .u32)) (.cons (.c (.int .i32)) (.cons (.c (.int .u32)) .nil))) (.int .u32) 256 (.cons (.c (.int .u64)) (.cons (.c (.int .u64)) .nil))), (2, .cells [.int .u8, .int .u8, .int .u8, .int .u64, .int .u64, .bool, .int .u8, .int .u64, .int .u64, .str, .nils, .int .u8, .int .u8, .int .i64, .int .u8, .int .u8, .int .u64, .int .u64, .int .u64, .int .u64, .int .u64]), (3, .fold (.cons (.c (.ro (.cons (.int .u8) .nil))) (.cons (.c (.int .i64)) .nil))), (4, .cells [.int .u8, .int .u8, .int .u8, .int .u64, .int .u64, .bool, .int .u8, .int .u64, .int .u64, .str, .ro (.cons .str (.cons .str .nil)), .int .u8, .int .u8, .int .i64, .int .u8, .int .u8, .int .u64, .int .u64, .int .u64, .int .u64, .int .u64])], 5⟩)], []⟩) (fuel := n) (c := Tryz.f9.body.getD .skip) (rs := Tryz.f9.results.toList) tt_ok mix (FsOK.cons (ok20 n) (FsOK.cons (ok21 n) (FsOK.cons (ok22 n) (FsOK.cons (ok23 n) (FsOK.cons (ok24 n) (FsOK.cons (ok25 n) (FsOK.cons (ok26 n) (FsOK.nil)))))))) Tryz.func9 (by kernel_rfl) (by kernel_rfl) rfl (by kernel_rfl) rfl rfl (by kernel_rfl)
-- watchfire/watchfireref01.Same
def sig49 : Sig := ⟨(.cons (.one (.c (.ro (.cons .str (.cons .str .nil))))) (.cons (.one (.c (.ro (.cons .str (.cons .str .nil))))) .nil)), (.cons (.one (.c .bool)) .nil)⟩
def F49_L29 : Arr
 [PT.list (CTs.cons CT.str (CTs.cons CT.str CTs.nil)), PT.list (CTs.cons CT.str (CTs.cons CT.str CTs.nil)),
 PT.int IntKind.i64]
 (Option (Bool × Unit)) →
 List (List UInt8 × List UInt8) → List (List UInt8 × List UInt8) → Int64 → Option (Bool × Unit) := fun
 (rec :
 Arr
 [PT.list (CTs.cons CT.str (CTs.cons CT.str CTs.nil)), PT.list (CTs.cons CT.str (CTs.cons CT.str CTs.nil)),
 PT.int IntKind.i64]
 (Option (Bool × Unit)))
 (a b : List (List UInt8 × List UInt8)) (i : Int64) =>
 oite (decide (i < Int64.ofInt ↑(List.length a)))
 (obind (at? a (Int64.toInt i)) fun (x_1 : List UInt8 × List UInt8) =>
 obind (at? b (Int64.toInt i)) fun (x_2 : List UInt8 × List UInt8) =>
 oite (!(Prod.fst x_1 == Prod.fst x_2 && (Prod.snd x_1 == Prod.snd x_2 && true))) (some (false, ()))
 (rec a b (i + (1 : Int64))))
 (some (true, ()))
def F49_R29 : Nat →
 PT.T (PT.list (CTs.cons CT.str (CTs.cons CT.str CTs.nil))) →
 List (List UInt8 × List UInt8) → Int64 → Option (Bool × Unit) := ofixA (29 : Nat)
 [PT.list (CTs.cons CT.str (CTs.cons CT.str CTs.nil)), PT.list (CTs.cons CT.str (CTs.cons CT.str CTs.nil)),
 PT.int IntKind.i64]
 F49_L29
def F49 : Nat → List (List UInt8 × List UInt8) × List (List UInt8 × List UInt8) → Option (Bool × Unit) := fun (n : Nat) (x : List (List UInt8 × List UInt8) × List (List UInt8 × List UInt8)) =>
 oite (!decide (Int64.ofInt ↑(List.length (Prod.fst x)) = Int64.ofInt ↑(List.length (Prod.snd x))))
 (some (false, ())) (F49_R29 n (Prod.fst x) (Prod.snd x) (0 : Int64))
theorem F49_R29_s  (m_ : Nat) : F49_R29  (m_ + 1) = F49_L29  (F49_R29  m_) := rfl
theorem ok49 (n : Nat) : FunOK Tryz.prog ⟨49, sig49, F49 n⟩ :=
 fun_ok (hints := ⟨[], [(29, ⟨[(0, .one (.ro (.cons .str (.cons .str .nil)))), (1, .one (.ro (.cons .str (.cons .str .nil)))), (5, .one (.int .i64))], [], 2⟩)]⟩) (fuel := n) (c := Tryz.f49.body.getD .skip) (rs := Tryz.f49.results.toList) tt_ok mix (FsOK.nil) Tryz.func49 (by kernel_rfl) (by kernel_rfl) rfl (by kernel_rfl) rfl rfl (by kernel_rfl)
-- watchfire/watchfireref01.SameItem
def sig27 : Sig := ⟨(.cons (.agg (.cons .bool (.cons (.int .u8) (.cons (.int .u64) (.cons (.int .u64) (.cons .str (.cons (.ro (.cons .str (.cons .str .nil))) (.cons (.int .u8) (.cons (.int .u8) (.cons (.int .i64) (.cons (.int .u8) (.cons (.int .u8) (.cons (.int .u64) (.cons (.int .u64) .nil)))))))))))))) (.cons (.agg (.cons .bool (.cons (.int .u8) (.cons (.int .u64) (.cons (.int .u64) (.cons .str (.cons (.ro (.cons .str (.cons .str .nil))) (.cons (.int .u8) (.cons (.int .u8) (.cons (.int .i64) (.cons (.int .u8) (.cons (.int .u8) (.cons (.int .u64) (.cons (.int .u64) .nil)))))))))))))) .nil)), (.cons (.one (.c .bool)) .nil)⟩
def F27 : Nat →
 (Bool ×
 UInt8 ×
 UInt64 ×
 UInt64 ×
 List UInt8 × List (List UInt8 × List UInt8) × UInt8 × UInt8 × Int64 × UInt8 × UInt8 × UInt64 × UInt64) ×
 Bool ×
 UInt8 ×
 UInt64 ×
 UInt64 ×
 List UInt8 × List (List UInt8 × List UInt8) × UInt8 × UInt8 × Int64 × UInt8 × UInt8 × UInt64 × UInt64 →
 Option (Bool × Unit) := fun (n : Nat)
 (x :
 (Bool ×
 UInt8 ×
 UInt64 ×
 UInt64 ×
 List UInt8 × List (List UInt8 × List UInt8) × UInt8 × UInt8 × Int64 × UInt8 × UInt8 × UInt64 × UInt64) ×
 Bool ×
 UInt8 ×
 UInt64 ×
 UInt64 ×
 List UInt8 ×
 List (List UInt8 × List UInt8) × UInt8 × UInt8 × Int64 × UInt8 × UInt8 × UInt64 × UInt64) =>
 oite (!Prod.fst (Prod.fst x) == Prod.fst (Prod.snd x)) (some (false, ()))
 (oite (Prod.fst (Prod.fst x))
 (some
 (decide
 (Prod.fst
 (Prod.snd
 (Prod.snd
 (Prod.snd
 (Prod.snd (Prod.snd (Prod.snd (Prod.snd (Prod.snd (Prod.snd (Prod.snd (Prod.fst x))))))))))) =
 Prod.fst
 (Prod.snd
 (Prod.snd
 (Prod.snd
 (Prod.snd (Prod.snd (Prod.snd (Prod.snd (Prod.snd (Prod.snd (Prod.snd (Prod.snd x)))))))))))) &&
 (decide
 (Prod.fst
 (Prod.snd
 (Prod.snd
 (Prod.snd
 (Prod.snd
 (Prod.snd
 (Prod.snd (Prod.snd (Prod.snd (Prod.snd (Prod.snd (Prod.snd (Prod.fst x)))))))))))) =
 Prod.fst
 (Prod.snd
 (Prod.snd
 (Prod.snd
 (Prod.snd
 (Prod.snd
 (Prod.snd (Prod.snd (Prod.snd (Prod.snd (Prod.snd (Prod.snd (Prod.snd x))))))))))))) &&
 (decide
 (Prod.snd
 (Prod.snd
 (Prod.snd
 (Prod.snd
 (Prod.snd
 (Prod.snd
 (Prod.snd (Prod.snd (Prod.snd (Prod.snd (Prod.snd (Prod.snd (Prod.fst x)))))))))))) =
 Prod.snd
 (Prod.snd
 (Prod.snd
 (Prod.snd
 (Prod.snd
 (Prod.snd
 (Prod.snd (Prod.snd (Prod.snd (Prod.snd (Prod.snd (Prod.snd (Prod.snd x))))))))))))) &&
 true)),
 ()))
 (oite (decide (Prod.fst (Prod.snd (Prod.fst x)) = Prod.fst (Prod.snd (Prod.snd x))))
 (oite (decide (Prod.fst (Prod.snd (Prod.snd (Prod.fst x))) = Prod.fst (Prod.snd (Prod.snd (Prod.snd x)))))
 (oite
 (decide
 (Prod.fst (Prod.snd (Prod.snd (Prod.snd (Prod.fst x)))) =
 Prod.fst (Prod.snd (Prod.snd (Prod.snd (Prod.snd x))))))
 (oite
 (Prod.fst (Prod.snd (Prod.snd (Prod.snd (Prod.snd (Prod.fst x))))) ==
 Prod.fst (Prod.snd (Prod.snd (Prod.snd (Prod.snd (Prod.snd x))))))
 (oite
 (decide
 (Prod.fst (Prod.snd (Prod.snd (Prod.snd (Prod.snd (Prod.snd (Prod.snd (Prod.fst x))))))) =
 Prod.fst (Prod.snd (Prod.snd (Prod.snd (Prod.snd (Prod.snd (Prod.snd (Prod.snd x)))))))))
 (oite
 (decide
 (Prod.fst
 (Prod.snd (Prod.snd (Prod.snd (Prod.snd (Prod.snd (Prod.snd (Prod.snd (Prod.fst x)))))))) =
 Prod.fst
 (Prod.snd (Prod.snd (Prod.snd (Prod.snd (Prod.snd (Prod.snd (Prod.snd (Prod.snd x))))))))))
 (oite
 (decide
 (Prod.fst
 (Prod.snd
 (Prod.snd (Prod.snd (Prod.snd (Prod.snd (Prod.snd (Prod.snd (Prod.snd (Prod.fst x))))))))) =
 Prod.fst
 (Prod.snd
 (Prod.snd (Prod.snd (Prod.snd (Prod.snd (Prod.snd (Prod.snd (Prod.snd (Prod.snd x)))))))))))
 (oite
 (decide
 (Prod.fst
 (Prod.snd
 (Prod.snd
 (Prod.snd
 (Prod.snd (Prod.snd (Prod.snd (Prod.snd (Prod.snd (Prod.snd (Prod.fst x)))))))))) =
 Prod.fst
 (Prod.snd
 (Prod.snd
 (Prod.snd
 (Prod.snd (Prod.snd (Prod.snd (Prod.snd (Prod.snd (Prod.snd (Prod.snd x))))))))))))
 (obind
 (F49 n
 (Prod.fst (Prod.snd (Prod.snd (Prod.snd (Prod.snd (Prod.snd (Prod.fst x)))))),
 Prod.fst (Prod.snd (Prod.snd (Prod.snd (Prod.snd (Prod.snd (Prod.snd x))))))))
 fun (x_1 : Bool × Unit) => some (Prod.fst x_1, ()))
 (some (false, ())))
 (some (false, ())))
 (some (false, ())))
 (some (false, ())))
 (some (false, ())))
 (some (false, ())))
 (some (false, ())))
 (some (false, ()))))
theorem ok27 (n : Nat) : FunOK Tryz.prog ⟨27, sig27, F27 n⟩ :=
 fun_ok (hints := ⟨[], []⟩) (fuel := n) (c := Tryz.f27.body.getD .skip) (rs := Tryz.f27.results.toList) tt_ok mix (FsOK.cons (ok49 n) (FsOK.nil)) Tryz.func27 (by kernel_rfl) (by kernel_rfl) rfl (by kernel_rfl) rfl rfl (by kernel_rfl)
-- watchfire/watchfireref01.number
def sig50 : Sig := ⟨(.cons (.one (.c (.int .u64))) .nil), (.cons (.one (.c .bool)) .nil)⟩
def F50 : Nat → UInt64 → Option (Bool × Unit) := fun (n : Nat) (x : UInt64) => some (decide (x ≤ (1099511627776 : UInt64)), ())
theorem ok50 (n : Nat) : FunOK Tryz.prog ⟨50, sig50, F50 n⟩ :=
 fun_ok (hints := ⟨[], []⟩) (fuel := n) (c := Tryz.f50.body.getD .skip) (rs := Tryz.f50.results.toList) tt_ok mix (FsOK.nil) Tryz.func50 (by kernel_rfl) (by kernel_rfl) rfl (by kernel_rfl) rfl rfl (by kernel_rfl)
-- watchfire/watchfireref01.small
def sig67 : Sig := ⟨(.cons (.one (.c (.int .u8))) .nil), (.cons (.one (.c .bool)) .nil)⟩
def F67 : Nat → UInt8 → Option (Bool × Unit) := fun (n : Nat) (x : UInt8) =>
 oite (decide ((97 : UInt8) ≤ x)) (some (decide (x ≤ (122 : UInt8)), ())) (some (false, ()))
theorem ok67 (n : Nat) : FunOK Tryz.prog ⟨67, sig67, F67 n⟩ :=
 fun_ok (hints := ⟨[], []⟩) (fuel := n) (c := Tryz.f67.body.getD .skip) (rs := Tryz.f67.results.toList) tt_ok mix (FsOK.nil) Tryz.func67 (by kernel_rfl) (by kernel_rfl) rfl (by kernel_rfl) rfl rfl (by kernel_rfl)
-- watchfire/watchfireref01.Value
def sig66 : Sig := ⟨(.cons (.one (.c .str)) .nil), (.cons (.one (.c .bool)) .nil)⟩
def F66_J53 : Arr [PT.bytes, PT.int IntKind.i64] (Option (Bool × Unit)) → List UInt8 → Int64 → Option (Bool × Unit) := fun (rec : Arr [PT.bytes, PT.int IntKind.i64] (Option (Bool × Unit))) (s_1 : List UInt8) (i_1 : Int64) =>
 rec s_1 (i_1 + (1 : Int64))
def F66_L13 : Nat → Arr [PT.bytes, PT.int IntKind.i64] (Option (Bool × Unit)) → List UInt8 → Int64 → Option (Bool × Unit) := fun (n : Nat) (rec : Arr [PT.bytes, PT.int IntKind.i64] (Option (Bool × Unit))) (s : List UInt8) (i : Int64) =>
 oite (decide (i < Int64.ofInt ↑(List.length s)))
 (ojoinA (53 : Nat) [PT.bytes, PT.int IntKind.i64]
 (fun (J : Arr [PT.bytes, PT.int IntKind.i64] (Option (Bool × Unit))) =>
 obind (at? s (Int64.toInt i)) fun (x_1 : UInt8) =>
 obind (F67 n x_1) fun (x_2 : Bool × Unit) =>
 oite (!Prod.fst x_2)
 (oite (decide ((48 : UInt8) ≤ x_1))
 (oite (!decide (x_1 ≤ (57 : UInt8)))
 (oite (!decide (x_1 = (46 : UInt8)))
 (oite (!decide (x_1 = (95 : UInt8)))
 (oite (!decide (x_1 = (45 : UInt8))) (some (false, ())) (J s i)) (J s i))
 (J s i))
 (J s i))
 (oite (!decide (x_1 = (46 : UInt8)))
 (oite (!decide (x_1 = (95 : UInt8)))
 (oite (!decide (x_1 = (45 : UInt8))) (some (false, ())) (J s i)) (J s i))
 (J s i)))
 (J s i))
 (F66_J53 rec))
 (oite (decide ((1 : Int64) ≤ Int64.ofInt ↑(List.length s)))
 (some (decide (Int64.ofInt ↑(List.length s) ≤ (16 : Int64)), ())) (some (false, ())))
def F66_R13 : Nat → Nat → PT.T PT.bytes → Int64 → Option (Bool × Unit) := fun (n : Nat) => ofixA (13 : Nat) [PT.bytes, PT.int IntKind.i64] (F66_L13 n)
def F66 : Nat → List UInt8 → Option (Bool × Unit) := fun (n : Nat) (x : List UInt8) => F66_R13 n n x (0 : Int64)
theorem F66_R13_s (n : Nat) (m_ : Nat) : F66_R13 n (m_ + 1) = F66_L13 n (F66_R13 n m_) := rfl
theorem ok66 (n : Nat) : FunOK Tryz.prog ⟨66, sig66, F66 n⟩ :=
 fun_ok (hints := ⟨[(53, ⟨[(0, .one (.str)), (3, .one (.int .i64))], [], 1⟩)], [(13, ⟨[(0, .one (.str)), (3, .one (.int .i64))], [], 1⟩)]⟩) (fuel := n) (c := Tryz.f66.body.getD .skip) (rs := Tryz.f66.results.toList) tt_ok mix (FsOK.cons (ok67 n) (FsOK.nil)) Tryz.func66 (by kernel_rfl) (by kernel_rfl) rfl (by kernel_rfl) rfl rfl (by kernel_rfl)
-- watchfire/watchfireref01.Name
def sig51 : Sig := ⟨(.cons (.one (.c .str)) .nil), (.cons (.one (.c .bool)) .nil)⟩
def F51 : Nat → List UInt8 → Option (Bool × Unit) := fun (n : Nat) (x : List UInt8) =>
 obind (F66 n x) fun (x_1 : Bool × Unit) =>
 oite (Prod.fst x_1)
 (oite (decide (Int64.ofInt ↑(List.length x) ≤ (12 : Int64)))
 (obind (at? x (Int64.toInt (0 : Int64))) fun (x_2 : UInt8) =>
 obind (F67 n x_2) fun (x_3 : Bool × Unit) => some (Prod.fst x_3, ()))
 (some (false, ())))
 (some (false, ()))
theorem ok51 (n : Nat) : FunOK Tryz.prog ⟨51, sig51, F51 n⟩ :=
 fun_ok (hints := ⟨[], []⟩) (fuel := n) (c := Tryz.f51.body.getD .skip) (rs := Tryz.f51.results.toList) tt_ok mix (FsOK.cons (ok66 n) (FsOK.cons (ok67 n) (FsOK.nil))) Tryz.func51 (by kernel_rfl) (by kernel_rfl) rfl (by kernel_rfl) rfl rfl (by kernel_rfl)
-- watchfire/watchfireref01.Own
def sig52 : Sig := ⟨(.cons (.one (.c .str)) .nil), (.cons (.one (.c .bool)) .nil)⟩
def F52 : Nat → List UInt8 → Option (Bool × Unit) := fun (n : Nat) (x : List UInt8) =>
 oite (decide ((4 : Int64) ≤ Int64.ofInt ↑(List.length x)))
 (oite (Nat.ble (Int.toNat (Int64.toInt (4 : Int64))) (List.length x) && true)
 (some
 (List.drop (0 : Nat) (List.take (Int.toNat (Int64.toInt (4 : Int64))) x) ==
 [(111 : UInt8), (119 : UInt8), (110 : UInt8), (46 : UInt8)],
 ()))
 none)
 (some (false, ()))
theorem ok52 (n : Nat) : FunOK Tryz.prog ⟨52, sig52, F52 n⟩ :=
 fun_ok (hints := ⟨[], []⟩) (fuel := n) (c := Tryz.f52.body.getD .skip) (rs := Tryz.f52.results.toList) tt_ok mix (FsOK.nil) Tryz.func52 (by kernel_rfl) (by kernel_rfl) rfl (by kernel_rfl) rfl rfl (by kernel_rfl)
-- watchfire/watchfireref01.Key
def sig68 : Sig := ⟨(.cons (.one (.c .str)) .nil), (.cons (.one (.c .bool)) .nil)⟩
def F68_L13 : Nat → Arr [PT.bytes, PT.int IntKind.i64] (Option (Bool × Unit)) → List UInt8 → Int64 → Option (Bool × Unit) := fun (n : Nat) (rec : Arr [PT.bytes, PT.int IntKind.i64] (Option (Bool × Unit))) (s : List UInt8) (i : Int64) =>
 oite (decide (i < Int64.ofInt ↑(List.length s)))
 (obind (at? s (Int64.toInt i)) fun (x_1 : UInt8) =>
 obind (F67 n x_1) fun (x_2 : Bool × Unit) =>
 oite (!Prod.fst x_2) (some (false, ())) (rec s (i + (1 : Int64))))
 (oite (decide ((1 : Int64) ≤ Int64.ofInt ↑(List.length s)))
 (some (decide (Int64.ofInt ↑(List.length s) ≤ (8 : Int64)), ())) (some (false, ())))
def F68_R13 : Nat → Nat → PT.T PT.bytes → Int64 → Option (Bool × Unit) := fun (n : Nat) => ofixA (13 : Nat) [PT.bytes, PT.int IntKind.i64] (F68_L13 n)
def F68 : Nat → List UInt8 → Option (Bool × Unit) := fun (n : Nat) (x : List UInt8) => F68_R13 n n x (0 : Int64)
theorem F68_R13_s (n : Nat) (m_ : Nat) : F68_R13 n (m_ + 1) = F68_L13 n (F68_R13 n m_) := rfl
theorem ok68 (n : Nat) : FunOK Tryz.prog ⟨68, sig68, F68 n⟩ :=
 fun_ok (hints := ⟨[], [(13, ⟨[(0, .one (.str)), (3, .one (.int .i64))], [], 1⟩)]⟩) (fuel := n) (c := Tryz.f68.body.getD .skip) (rs := Tryz.f68.results.toList) tt_ok mix (FsOK.cons (ok67 n) (FsOK.nil)) Tryz.func68 (by kernel_rfl) (by kernel_rfl) rfl (by kernel_rfl) rfl rfl (by kernel_rfl)
-- watchfire/watchfireref01.Check
def sig53 : Sig := ⟨(.cons (.one (.c (.ro (.cons .str (.cons .str .nil))))) .nil), (.cons (.one (.c (.int .i64))) .nil)⟩
def F53_J469 : Arr [PT.list (CTs.cons CT.str (CTs.cons CT.str CTs.nil)), PT.int IntKind.i64] (Option (Int64 × Unit)) →
 List (List UInt8 × List UInt8) → Int64 → Option (Int64 × Unit) := fun (rec : Arr [PT.list (CTs.cons CT.str (CTs.cons CT.str CTs.nil)), PT.int IntKind.i64] (Option (Int64 × Unit)))
 (l_1 : List (List UInt8 × List UInt8)) (i_1 : Int64) =>
 oite (decide ((0 : Int64) < i_1))
 (obind (at? l_1 (Int64.toInt (i_1 - (1 : Int64)))) fun (x_5 : List UInt8 × List UInt8) =>
 obind (at? l_1 (Int64.toInt i_1)) fun (x_6 : List UInt8 × List UInt8) =>
 oite (!(bytesLt (Prod.fst x_5) (Prod.fst x_6) || Prod.fst x_5 == Prod.fst x_6)) (some ((9 : Int64), ()))
 (rec l_1 (i_1 + (1 : Int64))))
 (rec l_1 (i_1 + (1 : Int64)))
def F53_L29 : Nat →
 Arr [PT.list (CTs.cons CT.str (CTs.cons CT.str CTs.nil)), PT.int IntKind.i64] (Option (Int64 × Unit)) →
 List (List UInt8 × List UInt8) → Int64 → Option (Int64 × Unit) := fun (n : Nat)
 (rec : Arr [PT.list (CTs.cons CT.str (CTs.cons CT.str CTs.nil)), PT.int IntKind.i64] (Option (Int64 × Unit)))
 (l : List (List UInt8 × List UInt8)) (i : Int64) =>
 oite (decide (i < Int64.ofInt ↑(List.length l)))
 (obind (at? l (Int64.toInt i)) fun (x_1 : List UInt8 × List UInt8) =>
 obind (F68 n (Prod.fst x_1)) fun (x_2 : Bool × Unit) =>
 oite (!Prod.fst x_2) (some ((8 : Int64), ()))
 (obind (at? l (Int64.toInt i)) fun (x_3 : List UInt8 × List UInt8) =>
 obind (F66 n (Prod.snd x_3)) fun (x_4 : Bool × Unit) =>
 oite (!Prod.fst x_4) (some ((8 : Int64), ()))
 (ojoinA (469 : Nat) [PT.list (CTs.cons CT.str (CTs.cons CT.str CTs.nil)), PT.int IntKind.i64]
 (fun
 (J :
 Arr [PT.list (CTs.cons CT.str (CTs.cons CT.str CTs.nil)), PT.int IntKind.i64]
 (Option (Int64 × Unit))) =>
 oite (decide ((0 : Int64) < i))
 (obind (at? l (Int64.toInt (i - (1 : Int64)))) fun (x_5 : List UInt8 × List UInt8) =>
 obind (at? l (Int64.toInt i)) fun (x_6 : List UInt8 × List UInt8) =>
 oite (Prod.fst x_5 == Prod.fst x_6) (some ((7 : Int64), ())) (J l i))
 (J l i))
 (F53_J469 rec))))
 (some ((0 : Int64), ()))
def F53_R29 : Nat → Nat → PT.T (PT.list (CTs.cons CT.str (CTs.cons CT.str CTs.nil))) → Int64 → Option (Int64 × Unit) := fun (n : Nat) => ofixA (29 : Nat) [PT.list (CTs.cons CT.str (CTs.cons CT.str CTs.nil)), PT.int IntKind.i64] (F53_L29 n)
def F53 : Nat → List (List UInt8 × List UInt8) → Option (Int64 × Unit) := fun (n : Nat) (x : List (List UInt8 × List UInt8)) =>
 oite (decide ((8 : Int64) < Int64.ofInt ↑(List.length x))) (some ((5 : Int64), ()))
 (F53_R29 n n x (0 : Int64))
theorem F53_R29_s (n : Nat) (m_ : Nat) : F53_R29 n (m_ + 1) = F53_L29 n (F53_R29 n m_) := rfl
theorem ok53 (n : Nat) : FunOK Tryz.prog ⟨53, sig53, F53 n⟩ :=
 fun_ok (hints := ⟨[(469, ⟨[(0, .one (.ro (.cons .str (.cons .str .nil)))), (3, .one (.int .i64))], [], 1⟩)], [(29, ⟨[(0, .one (.ro (.cons .str (.cons .str .nil)))), (3, .one (.int .i64))], [], 1⟩)]⟩) (fuel := n) (c := Tryz.f53.body.getD .skip) (rs := Tryz.f53.results.toList) tt_ok mix (FsOK.cons (ok68 n) (FsOK.cons (ok66 n) (FsOK.nil))) Tryz.func53 (by kernel_rfl) (by kernel_rfl) rfl (by kernel_rfl) rfl rfl (by kernel_rfl)
-- watchfire/watchfireref01.Item
def sig28 : Sig := ⟨(.cons (.agg (.cons .bool (.cons (.int .u8) (.cons (.int .u64) (.cons (.int .u64) (.cons .str (.cons (.ro (.cons .str (.cons .str .nil))) (.cons (.int .u8) (.cons (.int .u8) (.cons (.int .i64) (.cons (.int .u8) (.cons (.int .u8) (.cons (.int .u64) (.cons (.int .u64) .nil)))))))))))))) .nil), (.cons (.one (.c (.int .i64))) .nil)⟩
def F28_J127 : Nat →
 UInt8 →
 UInt64 →
 UInt64 → List UInt8 → List (List UInt8 × List UInt8) → UInt8 → UInt8 → Int64 → UInt8 → Option (Int64 × Unit) := fun (n : Nat) (v0 : UInt8) (v1 v2 : UInt64) (v3 : List UInt8) (v4 : List (List UInt8 × List UInt8)) (v5 v6 : UInt8)
 (v7 : Int64) (v8 : UInt8) =>
 obind (F52 n v3) fun (x_4 : Bool × Unit) =>
 oite (!decide ((0 : UInt8) < v8) == Prod.fst x_4) (some ((27 : Int64), ()))
 (obind (F53 n v4) fun (x_5 : Int64 × Unit) => some (Prod.fst x_5, ()))
def F28 : Nat →
 Bool ×
 UInt8 ×
 UInt64 ×
 UInt64 ×
 List UInt8 × List (List UInt8 × List UInt8) × UInt8 × UInt8 × Int64 × UInt8 × UInt8 × UInt64 × UInt64 →
 Option (Int64 × Unit) := fun (n : Nat)
 (x :
 Bool ×
 UInt8 ×
 UInt64 ×
 UInt64 ×
 List UInt8 × List (List UInt8 × List UInt8) × UInt8 × UInt8 × Int64 × UInt8 × UInt8 × UInt64 × UInt64) =>
 oite (Prod.fst x)
 (oite
 (decide
 ((31 : UInt8) <
 Prod.fst
 (Prod.snd
 (Prod.snd (Prod.snd (Prod.snd (Prod.snd (Prod.snd (Prod.snd (Prod.snd (Prod.snd (Prod.snd x))))))))))))
 (some ((6 : Int64), ()))
 (oite
 (decide
 (Prod.fst
 (Prod.snd
 (Prod.snd
 (Prod.snd
 (Prod.snd (Prod.snd (Prod.snd (Prod.snd (Prod.snd (Prod.snd (Prod.snd (Prod.snd x))))))))))) =
 (0 : UInt64)))
 (some ((6 : Int64), ()))
 (oite
 (decide
 (Prod.snd
 (Prod.snd
 (Prod.snd
 (Prod.snd
 (Prod.snd (Prod.snd (Prod.snd (Prod.snd (Prod.snd (Prod.snd (Prod.snd (Prod.snd x))))))))))) <
 Prod.fst
 (Prod.snd
 (Prod.snd
 (Prod.snd
 (Prod.snd (Prod.snd (Prod.snd (Prod.snd (Prod.snd (Prod.snd (Prod.snd (Prod.snd x)))))))))))))
 (some ((6 : Int64), ()))
 (obind
 (F50 n
 (Prod.snd
 (Prod.snd
 (Prod.snd
 (Prod.snd
 (Prod.snd (Prod.snd (Prod.snd (Prod.snd (Prod.snd (Prod.snd (Prod.snd (Prod.snd x)))))))))))))
 fun (x_1 : Bool × Unit) =>
 oite (!Prod.fst x_1) (some ((6 : Int64), ())) (some ((0 : Int64), ()))))))
 (oite (decide ((31 : UInt8) < Prod.fst (Prod.snd x))) (some ((6 : Int64), ()))
 (oite (decide (Prod.fst (Prod.snd (Prod.snd x)) = (0 : UInt64))) (some ((6 : Int64), ()))
 (obind (F50 n (Prod.fst (Prod.snd (Prod.snd x)))) fun (x_1 : Bool × Unit) =>
 oite (!Prod.fst x_1) (some ((6 : Int64), ()))
 (obind (F50 n (Prod.fst (Prod.snd (Prod.snd (Prod.snd x))))) fun (x_2 : Bool × Unit) =>
 oite (!Prod.fst x_2) (some ((6 : Int64), ()))
 (oite
 (decide
 ((7 : UInt8) <
 Prod.fst (Prod.snd (Prod.snd (Prod.snd (Prod.snd (Prod.snd (Prod.snd (Prod.snd x)))))))))
 (some ((6 : Int64), ()))
 (obind (F51 n (Prod.fst (Prod.snd (Prod.snd (Prod.snd (Prod.snd x)))))) fun (x_3 : Bool × Unit) =>
 oite (!Prod.fst x_3) (some ((8 : Int64), ()))
 (ojoinA (127 : Nat)
 [PT.int IntKind.u8, PT.int IntKind.u64, PT.int IntKind.u64, PT.bytes,
 PT.list (CTs.cons CT.str (CTs.cons CT.str CTs.nil)), PT.int IntKind.u8, PT.int IntKind.u8,
 PT.int IntKind.i64, PT.int IntKind.u8]
 (fun
 (J :
 Arr
 [PT.int IntKind.u8, PT.int IntKind.u64, PT.int IntKind.u64, PT.bytes,
 PT.list (CTs.cons CT.str (CTs.cons CT.str CTs.nil)), PT.int IntKind.u8,
 PT.int IntKind.u8, PT.int IntKind.i64, PT.int IntKind.u8]
 (Option (Int64 × Unit))) =>
 oite
 (!decide
 (Prod.fst (Prod.snd (Prod.snd (Prod.snd (Prod.snd (Prod.snd (Prod.snd x)))))) =
 (0 : UInt8)))
 (oite
 (!decide
 (Prod.fst (Prod.snd (Prod.snd (Prod.snd (Prod.snd (Prod.snd (Prod.snd x)))))) =
 (2 : UInt8)))
 (some ((12 : Int64), ()))
 (oite
 (decide
 ((2 : UInt8) <
 Prod.fst
 (Prod.snd
 (Prod.snd
 (Prod.snd
 (Prod.snd (Prod.snd (Prod.snd (Prod.snd (Prod.snd (Prod.snd x)))))))))))
 (some ((12 : Int64), ()))
 (J (Prod.fst (Prod.snd x)) (Prod.fst (Prod.snd (Prod.snd x)))
 (Prod.fst (Prod.snd (Prod.snd (Prod.snd x))))
 (Prod.fst (Prod.snd (Prod.snd (Prod.snd (Prod.snd x)))))
 (Prod.fst (Prod.snd (Prod.snd (Prod.snd (Prod.snd (Prod.snd x))))))
 (Prod.fst (Prod.snd (Prod.snd (Prod.snd (Prod.snd (Prod.snd (Prod.snd x)))))))
 (Prod.fst
 (Prod.snd (Prod.snd (Prod.snd (Prod.snd (Prod.snd (Prod.snd (Prod.snd x))))))))
 (Prod.fst
 (Prod.snd
 (Prod.snd (Prod.snd (Prod.snd (Prod.snd (Prod.snd (Prod.snd (Prod.snd x)))))))))
 (Prod.fst
 (Prod.snd
 (Prod.snd
 (Prod.snd
 (Prod.snd (Prod.snd (Prod.snd (Prod.snd (Prod.snd (Prod.snd x)))))))))))))
 (oite
 (decide
 ((2 : UInt8) <
 Prod.fst
 (Prod.snd
 (Prod.snd
 (Prod.snd
 (Prod.snd (Prod.snd (Prod.snd (Prod.snd (Prod.snd (Prod.snd x)))))))))))
 (some ((12 : Int64), ()))
 (J (Prod.fst (Prod.snd x)) (Prod.fst (Prod.snd (Prod.snd x)))
 (Prod.fst (Prod.snd (Prod.snd (Prod.snd x))))
 (Prod.fst (Prod.snd (Prod.snd (Prod.snd (Prod.snd x)))))
 (Prod.fst (Prod.snd (Prod.snd (Prod.snd (Prod.snd (Prod.snd x))))))
 (Prod.fst (Prod.snd (Prod.snd (Prod.snd (Prod.snd (Prod.snd (Prod.snd x)))))))
 (Prod.fst
 (Prod.snd (Prod.snd (Prod.snd (Prod.snd (Prod.snd (Prod.snd (Prod.snd x))))))))
 (Prod.fst
 (Prod.snd
 (Prod.snd (Prod.snd (Prod.snd (Prod.snd (Prod.snd (Prod.snd (Prod.snd x)))))))))
 (Prod.fst
 (Prod.snd
 (Prod.snd
 (Prod.snd
 (Prod.snd (Prod.snd (Prod.snd (Prod.snd (Prod.snd (Prod.snd x)))))))))))))
 (F28_J127 n))))))))
theorem ok28 (n : Nat) : FunOK Tryz.prog ⟨28, sig28, F28 n⟩ :=
 fun_ok (hints := ⟨[(127, ⟨[(5, .one (.own 1))], [(1, .cells [.int .u8, .int .u64, .int .u64, .str, .ro (.cons .str (.cons .str .nil)), .int .u8, .int .u8, .int .i64, .int .u8])], 2⟩)], []⟩) (fuel := n) (c := Tryz.f28.body.getD .skip) (rs := Tryz.f28.results.toList) tt_ok mix (FsOK.cons (ok50 n) (FsOK.cons (ok51 n) (FsOK.cons (ok52 n) (FsOK.cons (ok53 n) (FsOK.nil))))) Tryz.func28 (by kernel_rfl) (by kernel_rfl) rfl (by kernel_rfl) rfl rfl (by kernel_rfl)
-- watchfire/watchfirelaw05.check
def sig10 : Sig := ⟨(.cons (.agg (.cons (.int .u8) (.cons (.int .u8) (.cons (.int .u8) (.cons (.int .u64) (.cons (.int .u64) (.cons .bool (.cons (.int .u8) (.cons (.int .u64) (.cons (.int .u64) (.cons .str (.cons (.ro (.cons .str (.cons .str .nil))) (.cons (.int .u8) (.cons (.int .u8) (.cons (.int .i64) (.cons (.int .u8) (.cons (.int .u8) (.cons (.int .u64) (.cons (.int .u64) (.cons (.int .u64) (.cons (.int .u64) (.cons (.int .u64) .nil)))))))))))))))))))))) .nil), (.cons (.one (.c (.int .i64))) .nil)⟩
def F10_J4063 : Int64 → Bool → Option (Int64 × Unit) := fun (bad : Int64) (t : Bool) => oite t (some (bad, ())) (some ((0 : Int64), ()))
def F10 : Nat →
 UInt8 ×
 UInt8 ×
 UInt8 ×
 UInt64 ×
 UInt64 ×
 Bool ×
 UInt8 ×
 UInt64 ×
 UInt64 ×
 List UInt8 ×
 List (List UInt8 × List UInt8) ×
 UInt8 × UInt8 × Int64 × UInt8 × UInt8 × UInt64 × UInt64 × UInt64 × UInt64 × UInt64 →
 Option (Int64 × Unit) := fun (n : Nat)
 (x :
 UInt8 ×
 UInt8 ×
 UInt8 ×
 UInt64 ×
 UInt64 ×
 Bool ×
 UInt8 ×
 UInt64 ×
 UInt64 ×
 List UInt8 ×
 List (List UInt8 × List UInt8) ×
 UInt8 × UInt8 × Int64 × UInt8 × UInt8 × UInt64 × UInt64 × UInt64 × UInt64 × UInt64) =>
 oite (decide (Prod.fst x < (1 : UInt8))) (some ((12 : Int64), ()))
 (oite (decide ((3 : UInt8) < Prod.fst x)) (some ((12 : Int64), ()))
 (oite (decide ((31 : UInt8) < Prod.fst (Prod.snd x))) (some ((20 : Int64), ()))
 (oite (decide ((31 : UInt8) < Prod.fst (Prod.snd (Prod.snd x)))) (some ((20 : Int64), ()))
 (oite (decide (Prod.fst (Prod.snd x) = Prod.fst (Prod.snd (Prod.snd x)))) (some ((20 : Int64), ()))
 (oite (decide ((1099511627776 : UInt64) < Prod.fst (Prod.snd (Prod.snd (Prod.snd x)))))
 (some ((6 : Int64), ()))
 (oite (decide ((1099511627776 : UInt64) < Prod.fst (Prod.snd (Prod.snd (Prod.snd (Prod.snd x))))))
 (some ((6 : Int64), ()))
 (oite
 (decide
 ((1099511627776 : UInt64) <
 Prod.fst
 (Prod.snd
 (Prod.snd
 (Prod.snd
 (Prod.snd
 (Prod.snd
 (Prod.snd
 (Prod.snd
 (Prod.snd
 (Prod.snd
 (Prod.snd
 (Prod.snd
 (Prod.snd
 (Prod.snd
 (Prod.snd
 (Prod.snd (Prod.snd (Prod.snd (Prod.snd x))))))))))))))))))))
 (some ((6 : Int64), ()))
 (oite
 (decide
 ((1099511627776 : UInt64) <
 Prod.snd
 (Prod.snd
 (Prod.snd
 (Prod.snd
 (Prod.snd
 (Prod.snd
 (Prod.snd
 (Prod.snd
 (Prod.snd
 (Prod.snd
 (Prod.snd
 (Prod.snd
 (Prod.snd
 (Prod.snd
 (Prod.snd
 (Prod.snd
 (Prod.snd (Prod.snd (Prod.snd (Prod.snd x)))))))))))))))))))))
 (some ((6 : Int64), ()))
 (obind
 (F27 n
 ((Prod.fst (Prod.snd (Prod.snd (Prod.snd (Prod.snd (Prod.snd x))))),
 Prod.fst (Prod.snd (Prod.snd (Prod.snd (Prod.snd (Prod.snd (Prod.snd x)))))),
 Prod.fst (Prod.snd (Prod.snd (Prod.snd (Prod.snd (Prod.snd (Prod.snd (Prod.snd x))))))),
 Prod.fst
 (Prod.snd (Prod.snd (Prod.snd (Prod.snd (Prod.snd (Prod.snd (Prod.snd (Prod.snd x)))))))),
 Prod.fst
 (Prod.snd
 (Prod.snd
 (Prod.snd (Prod.snd (Prod.snd (Prod.snd (Prod.snd (Prod.snd (Prod.snd x))))))))),
 Prod.fst
 (Prod.snd
 (Prod.snd
 (Prod.snd
 (Prod.snd (Prod.snd (Prod.snd (Prod.snd (Prod.snd (Prod.snd (Prod.snd x)))))))))),
 Prod.fst
 (Prod.snd
 (Prod.snd
 (Prod.snd
 (Prod.snd
 (Prod.snd
 (Prod.snd (Prod.snd (Prod.snd (Prod.snd (Prod.snd (Prod.snd x))))))))))),
 Prod.fst
 (Prod.snd
 (Prod.snd
 (Prod.snd
 (Prod.snd
 (Prod.snd
 (Prod.snd
 (Prod.snd (Prod.snd (Prod.snd (Prod.snd (Prod.snd (Prod.snd x)))))))))))),
 Prod.fst
 (Prod.snd
 (Prod.snd
 (Prod.snd
 (Prod.snd
 (Prod.snd
 (Prod.snd
 (Prod.snd
 (Prod.snd (Prod.snd (Prod.snd (Prod.snd (Prod.snd (Prod.snd x))))))))))))),
 Prod.fst
 (Prod.snd
 (Prod.snd
 (Prod.snd
 (Prod.snd
 (Prod.snd
 (Prod.snd
 (Prod.snd
 (Prod.snd
 (Prod.snd
 (Prod.snd (Prod.snd (Prod.snd (Prod.snd (Prod.snd x)))))))))))))),
 Prod.fst
 (Prod.snd
 (Prod.snd
 (Prod.snd
 (Prod.snd
 (Prod.snd
 (Prod.snd
 (Prod.snd
 (Prod.snd
 (Prod.snd
 (Prod.snd
 (Prod.snd (Prod.snd (Prod.snd (Prod.snd (Prod.snd x))))))))))))))),
 Prod.fst
 (Prod.snd
 (Prod.snd
 (Prod.snd
 (Prod.snd
 (Prod.snd
 (Prod.snd
 (Prod.snd
 (Prod.snd
 (Prod.snd
 (Prod.snd
 (Prod.snd
 (Prod.snd (Prod.snd (Prod.snd (Prod.snd (Prod.snd x)))))))))))))))),
 Prod.fst
 (Prod.snd
 (Prod.snd
 (Prod.snd
 (Prod.snd
 (Prod.snd
 (Prod.snd
 (Prod.snd
 (Prod.snd
 (Prod.snd
 (Prod.snd
 (Prod.snd
 (Prod.snd
 (Prod.snd
 (Prod.snd (Prod.snd (Prod.snd (Prod.snd x)))))))))))))))))),
 false, (0 : UInt8), (0 : UInt64), (0 : UInt64), [], [], (0 : UInt8), (0 : UInt8), (0 : Int64),
 (0 : UInt8), (0 : UInt8), (0 : UInt64), (0 : UInt64)))
 fun (x_1 : Bool × Unit) =>
 oite (decide (Prod.fst x = (1 : UInt8)))
 (oite (decide (Prod.fst (Prod.snd (Prod.snd (Prod.snd (Prod.snd x)))) = (0 : UInt64)))
 (some ((6 : Int64), ()))
 (oite (decide (Prod.fst (Prod.snd (Prod.snd (Prod.snd x))) = (0 : UInt64)))
 (some ((6 : Int64), ()))
 (oite
 (decide
 ((0 : UInt64) <
 Prod.fst
 (Prod.snd
 (Prod.snd
 (Prod.snd
 (Prod.snd
 (Prod.snd
 (Prod.snd
 (Prod.snd
 (Prod.snd
 (Prod.snd
 (Prod.snd
 (Prod.snd
 (Prod.snd
 (Prod.snd
 (Prod.snd
 (Prod.snd
 (Prod.snd (Prod.snd (Prod.snd x))))))))))))))))))))
 (some ((6 : Int64), ()))
 (oite
 (decide
 ((0 : UInt64) <
 Prod.fst
 (Prod.snd
 (Prod.snd
 (Prod.snd
 (Prod.snd
 (Prod.snd
 (Prod.snd
 (Prod.snd
 (Prod.snd
 (Prod.snd
 (Prod.snd
 (Prod.snd
 (Prod.snd
 (Prod.snd
 (Prod.snd
 (Prod.snd
 (Prod.snd
 (Prod.snd
 (Prod.snd (Prod.snd x)))))))))))))))))))))
 (some ((6 : Int64), ()))
 (oite
 (decide
 ((0 : UInt64) <
 Prod.snd
 (Prod.snd
 (Prod.snd
 (Prod.snd
 (Prod.snd
 (Prod.snd
 (Prod.snd
 (Prod.snd
 (Prod.snd
 (Prod.snd
 (Prod.snd
 (Prod.snd
 (Prod.snd
 (Prod.snd
 (Prod.snd
 (Prod.snd
 (Prod.snd
 (Prod.snd
 (Prod.snd (Prod.snd x)))))))))))))))))))))
 (some ((6 : Int64), ()))
 (obind
 (F28 n
 (Prod.fst (Prod.snd (Prod.snd (Prod.snd (Prod.snd (Prod.snd x))))),
 Prod.fst (Prod.snd (Prod.snd (Prod.snd (Prod.snd (Prod.snd (Prod.snd x)))))),
 Prod.fst
 (Prod.snd
 (Prod.snd (Prod.snd (Prod.snd (Prod.snd (Prod.snd (Prod.snd x))))))),
 Prod.fst
 (Prod.snd
 (Prod.snd
 (Prod.snd (Prod.snd (Prod.snd (Prod.snd (Prod.snd (Prod.snd x)))))))),
 Prod.fst
 (Prod.snd
 (Prod.snd
 (Prod.snd
 (Prod.snd (Prod.snd (Prod.snd (Prod.snd (Prod.snd (Prod.snd x))))))))),
 Prod.fst
 (Prod.snd
 (Prod.snd
 (Prod.snd
 (Prod.snd
 (Prod.snd
 (Prod.snd (Prod.snd (Prod.snd (Prod.snd (Prod.snd x)))))))))),
 Prod.fst
 (Prod.snd
 (Prod.snd
 (Prod.snd
 (Prod.snd
 (Prod.snd
 (Prod.snd
 (Prod.snd (Prod.snd (Prod.snd (Prod.snd (Prod.snd x))))))))))),
 Prod.fst
 (Prod.snd
 (Prod.snd
 (Prod.snd
 (Prod.snd
 (Prod.snd
 (Prod.snd
 (Prod.snd
 (Prod.snd (Prod.snd (Prod.snd (Prod.snd (Prod.snd x)))))))))))),
 Prod.fst
 (Prod.snd
 (Prod.snd
 (Prod.snd
 (Prod.snd
 (Prod.snd
 (Prod.snd
 (Prod.snd
 (Prod.snd
 (Prod.snd
 (Prod.snd (Prod.snd (Prod.snd (Prod.snd x))))))))))))),
 Prod.fst
 (Prod.snd
 (Prod.snd
 (Prod.snd
 (Prod.snd
 (Prod.snd
 (Prod.snd
 (Prod.snd
 (Prod.snd
 (Prod.snd
 (Prod.snd
 (Prod.snd (Prod.snd (Prod.snd (Prod.snd x)))))))))))))),
 Prod.fst
 (Prod.snd
 (Prod.snd
 (Prod.snd
 (Prod.snd
 (Prod.snd
 (Prod.snd
 (Prod.snd
 (Prod.snd
 (Prod.snd
 (Prod.snd
 (Prod.snd
 (Prod.snd
 (Prod.snd (Prod.snd (Prod.snd x))))))))))))))),
 Prod.fst
 (Prod.snd
 (Prod.snd
 (Prod.snd
 (Prod.snd
 (Prod.snd
 (Prod.snd
 (Prod.snd
 (Prod.snd
 (Prod.snd
 (Prod.snd
 (Prod.snd
 (Prod.snd
 (Prod.snd
 (Prod.snd (Prod.snd (Prod.snd x)))))))))))))))),
 Prod.fst
 (Prod.snd
 (Prod.snd
 (Prod.snd
 (Prod.snd
 (Prod.snd
 (Prod.snd
 (Prod.snd
 (Prod.snd
 (Prod.snd
 (Prod.snd
 (Prod.snd
 (Prod.snd
 (Prod.snd
 (Prod.snd
 (Prod.snd (Prod.snd (Prod.snd x)))))))))))))))))))
 fun (x_2 : Int64 × Unit) => some (Prod.fst x_2, ())))))))
 (oite (decide (Prod.fst x = (2 : UInt8)))
 (oite (decide (Prod.fst (Prod.snd (Prod.snd (Prod.snd x))) = (0 : UInt64)))
 (some ((6 : Int64), ()))
 (oite
 (decide
 (Prod.snd
 (Prod.snd
 (Prod.snd
 (Prod.snd
 (Prod.snd
 (Prod.snd
 (Prod.snd
 (Prod.snd
 (Prod.snd
 (Prod.snd
 (Prod.snd
 (Prod.snd
 (Prod.snd
 (Prod.snd
 (Prod.snd
 (Prod.snd
 (Prod.snd
 (Prod.snd (Prod.snd (Prod.snd x))))))))))))))))))) =
 (0 : UInt64)))
 (some ((6 : Int64), ()))
 (oite (decide ((0 : UInt64) < Prod.fst (Prod.snd (Prod.snd (Prod.snd (Prod.snd x))))))
 (some ((6 : Int64), ()))
 (oite (!Prod.fst x_1) (some ((6 : Int64), ()))
 (some ((0 : Int64), ()))))))
 (ojoinA (4063 : Nat) [PT.int IntKind.i64, PT.bool]
 (fun (J : Arr [PT.int IntKind.i64, PT.bool] (Option (Int64 × Unit))) =>
 oite (decide ((0 : UInt64) < Prod.fst (Prod.snd (Prod.snd (Prod.snd x)))))
 (J (6 : Int64) true)
 (oite (decide ((0 : UInt64) < Prod.fst (Prod.snd (Prod.snd (Prod.snd (Prod.snd x))))))
 (J (6 : Int64) true)
 (oite
 (decide
 ((0 : UInt64) <
 Prod.fst
 (Prod.snd
 (Prod.snd
 (Prod.snd
 (Prod.snd
 (Prod.snd
 (Prod.snd
 (Prod.snd
 (Prod.snd
 (Prod.snd
 (Prod.snd
 (Prod.snd
 (Prod.snd
 (Prod.snd
 (Prod.snd
 (Prod.snd
 (Prod.snd
 (Prod.snd (Prod.snd x))))))))))))))))))))
 (J (6 : Int64) true)
 (oite
 (decide
 ((0 : UInt64) <
 Prod.fst
 (Prod.snd
 (Prod.snd
 (Prod.snd
 (Prod.snd
 (Prod.snd
 (Prod.snd
 (Prod.snd
 (Prod.snd
 (Prod.snd
 (Prod.snd
 (Prod.snd
 (Prod.snd
 (Prod.snd
 (Prod.snd
 (Prod.snd
 (Prod.snd
 (Prod.snd
 (Prod.snd (Prod.snd x)))))))))))))))))))))
 (J (6 : Int64) true)
 (oite
 (decide
 ((0 : UInt64) <
 Prod.snd
 (Prod.snd
 (Prod.snd
 (Prod.snd
 (Prod.snd
 (Prod.snd
 (Prod.snd
 (Prod.snd
 (Prod.snd
 (Prod.snd
 (Prod.snd
 (Prod.snd
 (Prod.snd
 (Prod.snd
 (Prod.snd
 (Prod.snd
 (Prod.snd
 (Prod.snd
 (Prod.snd
 (Prod.snd x)))))))))))))))))))))
 (J (6 : Int64) true) (J (6 : Int64) !Prod.fst x_1))))))
 F10_J4063)))))))))))
theorem ok10 (n : Nat) : FunOK Tryz.prog ⟨10, sig10, F10 n⟩ :=
 fun_ok (hints := ⟨[(4063, ⟨[(4, .one (.int .i64)), (87, .one (.bool))], [], 1⟩)], []⟩) (fuel := n) (c := Tryz.f10.body.getD .skip) (rs := Tryz.f10.results.toList) tt_ok mix (FsOK.cons (ok27 n) (FsOK.cons (ok28 n) (FsOK.nil))) Tryz.func10 (by kernel_rfl) (by kernel_rfl) rfl (by kernel_rfl) rfl rfl (by kernel_rfl)
end Go.Proofs.YtgknjddbbehboaaGreat
