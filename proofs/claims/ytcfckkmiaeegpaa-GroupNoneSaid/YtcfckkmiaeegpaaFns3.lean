/- What the functions of this seat compute, found by walking their code symbolically: each F is what the walk finds, each ok says that the Go function keeps it as a contract. Printed by a program of this repo's. -/
import Derived.Test.YtcfckkmiaeegpaaFns2
open Go Go.Sx
namespace Go.Proofs.Ytcfckkmiaeegpaa
set_option maxRecDepth 100000
set_option linter.unusedVariables false
-- (*watchfire/group.Groups).look
def sig33 : Sig := ⟨(.cons (.one (.ptr (.cons (.c (.rop (.cons (.ro zc8) .nil))) (.cons (.map (.agg zc15) (.agg (.cons (.ro zc12) (.cons (.int .u64) (.cons .bool (.cons (.int .u64) (.cons (.rom (.cons (.int .u8) zc12) zc4) .nil))))))) (.cons (.c (.int .u64)) .nil))))) (.cons (.agg zc15) (.cons (.one (.c (.int .u64))) (.cons (.one (.c (.ro zc4))) (.cons (.one (.c (.rom (.cons (.int .u8) zc12) zc4))) .nil))))), (.cons (.agg (.cons (.int .u64) (.cons .str (.cons (.ro zc12) (.cons (.ro zc4) .nil))))) (.cons (.one (.c .bool)) .nil))⟩
noncomputable def F33_J32767 : Nat →
 UInt64 →
 List zt3 →
 Option
 (List
 zt5) →
 UInt64 →
 UInt64 →
 List UInt8 →
 List zt10 →
 UInt64 →
 Bool →
 UInt64 →
 List zt14 →
 List UInt8 →
 List (List UInt8) →
 UInt64 →
 UInt64 →
 UInt64 →
 Bool →
 Int64 →
 List
 ((Int64 × List UInt8) ×
 List zt10 ×
 UInt64 ×
 Bool ×
 UInt64 ×
 List
 zt7) →
 List
 zt7 →
 Option
 (((UInt64 ×
 List UInt8 ×
 List zt10 ×
 List
 zt3) ×
 Bool) ×
 Option
 zt1) := fun (n : Nat) (now_4 : UInt64)
 (tell_4 : List zt3)
 (c00 :
 Option
 (List
 zt5))
 (c02 t0_4 : UInt64) (t1_4 : List UInt8) (s0_4 : List zt10) (s1_4 : UInt64) (s2_4 : Bool)
 (s3_4 : UInt64) (n0_4 : List zt14) (n1_4 : List UInt8) (n2_4 : List (List UInt8))
 (n3_4 n4_4 n5_4 : UInt64) (n6_4 : Bool) (n7_4 : Int64)
 (c0l :
 List
 ((Int64 × List UInt8) ×
 List zt10 ×
 UInt64 ×
 Bool ×
 UInt64 ×
 List
 zt7))
 (sl :
 List
 zt7) =>
 obind (F52 n s0_4) fun (x_4 : List zt10 × Unit) =>
 some (((now_4, n1_4, x_4.1, tell_4), true), some (c00, c0l, c02))
noncomputable def F33_L16381 : Nat →
 Arr
 [PT.int IntKind.u64,
 PT.list
 zc0,
 PT.list
 zc0,
 PT.list
 zc0,
 PT.int IntKind.i64, PT.int IntKind.i64,
 PT.optC
 (CTs.cons
 (CT.ro
 zc2)
 CTs.nil),
 PT.int IntKind.u64, PT.int IntKind.i64, PT.bytes, PT.int IntKind.u64, PT.bytes,
 PT.list zc6, PT.int IntKind.u64, PT.bool, PT.int IntKind.u64,
 PT.ents (VT.agg (CTs.cons (CT.int IntKind.u8) zc6))
 (VT.agg
 zc0),
 PT.list zc13, PT.bytes,
 PT.list zc18, PT.int IntKind.u64, PT.int IntKind.u64, PT.int IntKind.u64, PT.bool,
 PT.int IntKind.i64,
 PT.ents (VT.agg (CTs.cons (CT.int IntKind.u8) zc6))
 (VT.agg
 zc0),
 PT.ents (VT.agg zc9)
 (VT.agg
 (CTs.cons (CT.ro zc6)
 (CTs.cons (CT.int IntKind.u64)
 (CTs.cons CT.bool
 (CTs.cons (CT.int IntKind.u64)
 (CTs.cons
 (CT.rom (CTs.cons (CT.int IntKind.u8) zc6)
 zc0)
 CTs.nil))))))]
 (Option
 (((UInt64 ×
 List UInt8 ×
 List zt10 ×
 List zt3) ×
 Bool) ×
 Option
 zt1)) →
 UInt64 →
 List zt3 →
 List zt3 →
 List zt3 →
 Int64 →
 Int64 →
 Option
 (List
 zt5) →
 UInt64 →
 Int64 →
 List UInt8 →
 UInt64 →
 List UInt8 →
 List zt10 →
 UInt64 →
 Bool →
 UInt64 →
 List
 zt7 →
 List zt14 →
 List UInt8 →
 List (List UInt8) →
 UInt64 →
 UInt64 →
 UInt64 →
 Bool →
 Int64 →
 List
 zt7 →
 List
 ((Int64 × List UInt8) ×
 List zt10 ×
 UInt64 ×
 Bool ×
 UInt64 ×
 List
 zt7) →
 Option
 (((UInt64 ×
 List UInt8 ×
 List zt10 ×
 List
 zt3) ×
 Bool) ×
 Option
 zt1) := fun (n : Nat)
 (rec_1 :
 Arr
 [PT.int IntKind.u64,
 PT.list
 zc0,
 PT.list
 zc0,
 PT.list
 zc0,
 PT.int IntKind.i64, PT.int IntKind.i64,
 PT.optC
 (CTs.cons
 (CT.ro
 zc2)
 CTs.nil),
 PT.int IntKind.u64, PT.int IntKind.i64, PT.bytes, PT.int IntKind.u64, PT.bytes,
 PT.list zc6, PT.int IntKind.u64, PT.bool, PT.int IntKind.u64,
 PT.ents (VT.agg (CTs.cons (CT.int IntKind.u8) zc6))
 (VT.agg
 zc0),
 PT.list zc13, PT.bytes,
 PT.list zc18, PT.int IntKind.u64, PT.int IntKind.u64, PT.int IntKind.u64, PT.bool,
 PT.int IntKind.i64,
 PT.ents (VT.agg (CTs.cons (CT.int IntKind.u8) zc6))
 (VT.agg
 zc0),
 PT.ents (VT.agg zc9)
 (VT.agg
 (CTs.cons (CT.ro zc6)
 (CTs.cons (CT.int IntKind.u64)
 (CTs.cons CT.bool
 (CTs.cons (CT.int IntKind.u64)
 (CTs.cons
 (CT.rom (CTs.cons (CT.int IntKind.u8) zc6)
 zc0)
 CTs.nil))))))]
 (Option
 (((UInt64 ×
 List UInt8 ×
 List zt10 ×
 List zt3) ×
 Bool) ×
 Option
 zt1)))
 (now_3 : UInt64)
 (alerts_3 tell_3 t_1 : List zt3)
 (t_1_1 t_2 : Int64)
 (g0_3 :
 Option
 (List
 zt5))
 (g2_3 : UInt64) (k0_3 : Int64) (k1_3 : List UInt8) (t0_3 : UInt64) (t1_3 : List UInt8)
 (s0_3 : List zt10) (s1_3 : UInt64) (s2_3 : Bool) (s3_3 : UInt64)
 (s4_3 :
 List
 zt7)
 (n0_3 : List zt14) (n1_3 : List UInt8) (n2_3 : List (List UInt8))
 (n3_3 n4_3 n5_3 : UInt64) (n6_3 : Bool) (n7_3 : Int64)
 (next_1 :
 List
 zt7)
 (gl_3 :
 List
 ((Int64 × List UInt8) ×
 List zt10 ×
 UInt64 ×
 Bool ×
 UInt64 ×
 List
 zt7)) =>
 oite (decide (t_2 < t_1_1))
 (obind (at? t_1 (Int64.toInt t_2))
 fun (x_4 : UInt8 × List UInt8 × List zt10 × UInt8 × UInt64 × UInt8 × Int64) =>
 obind
 (F31 n
 (x_4.1, x_4.2.1, x_4.2.2.1,
 x_4.2.2.2.1, x_4.2.2.2.2.1,
 x_4.2.2.2.2.2.1,
 x_4.2.2.2.2.2.2))
 fun (x_5 : (UInt8 × List UInt8 × List UInt8) × Unit) =>
 oite (decide (x_4.2.2.2.1 = (0 : UInt8)))
 (obind
 (F31 n
 (x_4.1, x_4.2.1, x_4.2.2.1,
 x_4.2.2.2.1, x_4.2.2.2.2.1,
 x_4.2.2.2.2.2.1,
 x_4.2.2.2.2.2.2))
 fun (x_6 : (UInt8 × List UInt8 × List UInt8) × Unit) =>
 rec_1 now_3 alerts_3 tell_3 t_1 t_1_1 (t_2 + (1 : Int64)) g0_3 g2_3 k0_3 k1_3 t0_3 t1_3 s0_3 s1_3 s2_3 s3_3
 s4_3 n0_3 n1_3 n2_3 n3_3 n4_3 n5_3 n6_3 n7_3
 (mdel (VT.agg (CTs.cons (CT.int IntKind.u8) zc6))
 (VT.agg
 zc0)
 (x_6.1.1, x_6.1.2.1, x_6.1.2.2)
 (mput (VT.agg (CTs.cons (CT.int IntKind.u8) zc6))
 (VT.agg
 zc0)
 (x_5.1.1, x_5.1.2.1, x_5.1.2.2)
 (x_4.1, x_4.2.1, x_4.2.2.1,
 x_4.2.2.2.1,
 x_4.2.2.2.2.1,
 x_4.2.2.2.2.2.1,
 x_4.2.2.2.2.2.2)
 next_1))
 gl_3)
 (rec_1 now_3 alerts_3 tell_3 t_1 t_1_1 (t_2 + (1 : Int64)) g0_3 g2_3 k0_3 k1_3 t0_3 t1_3 s0_3 s1_3 s2_3 s3_3
 s4_3 n0_3 n1_3 n2_3 n3_3 n4_3 n5_3 n6_3 n7_3
 (mput (VT.agg (CTs.cons (CT.int IntKind.u8) zc6))
 (VT.agg
 zc0)
 (x_5.1.1, x_5.1.2.1, x_5.1.2.2)
 (x_4.1, x_4.2.1, x_4.2.2.1,
 x_4.2.2.2.1, x_4.2.2.2.2.1,
 x_4.2.2.2.2.2.1,
 x_4.2.2.2.2.2.2)
 next_1)
 gl_3))
 (ojoinA (32767 : Nat)
 [PT.int IntKind.u64,
 PT.list
 zc0,
 PT.optC
 (CTs.cons
 (CT.ro
 zc2)
 CTs.nil),
 PT.int IntKind.u64, PT.int IntKind.u64, PT.bytes, PT.list zc6,
 PT.int IntKind.u64, PT.bool, PT.int IntKind.u64,
 PT.list zc13, PT.bytes,
 PT.list zc18, PT.int IntKind.u64, PT.int IntKind.u64, PT.int IntKind.u64, PT.bool,
 PT.int IntKind.i64,
 PT.ents (VT.agg zc9)
 (VT.agg
 (CTs.cons (CT.ro zc6)
 (CTs.cons (CT.int IntKind.u64)
 (CTs.cons CT.bool
 (CTs.cons (CT.int IntKind.u64)
 (CTs.cons
 (CT.rom (CTs.cons (CT.int IntKind.u8) zc6)
 zc0)
 CTs.nil)))))),
 PT.ents (VT.agg (CTs.cons (CT.int IntKind.u8) zc6))
 (VT.agg
 zc0)]
 (fun
 (J :
 Arr
 [PT.int IntKind.u64,
 PT.list
 zc0,
 PT.optC
 (CTs.cons
 (CT.ro
 zc2)
 CTs.nil),
 PT.int IntKind.u64, PT.int IntKind.u64, PT.bytes, PT.list zc6,
 PT.int IntKind.u64, PT.bool, PT.int IntKind.u64,
 PT.list zc13, PT.bytes,
 PT.list zc18, PT.int IntKind.u64, PT.int IntKind.u64, PT.int IntKind.u64, PT.bool,
 PT.int IntKind.i64,
 PT.ents (VT.agg zc9)
 (VT.agg
 (CTs.cons (CT.ro zc6)
 (CTs.cons (CT.int IntKind.u64)
 (CTs.cons CT.bool
 (CTs.cons (CT.int IntKind.u64)
 (CTs.cons
 (CT.rom (CTs.cons (CT.int IntKind.u8) zc6)
 zc0)
 CTs.nil)))))),
 PT.ents (VT.agg (CTs.cons (CT.int IntKind.u8) zc6))
 (VT.agg
 zc0)]
 (Option
 (((UInt64 ×
 List UInt8 ×
 List zt10 ×
 List zt3) ×
 Bool) ×
 Option
 zt1))) =>
 oite (decide (Int64.ofInt ↑(List.length alerts_3) = (0 : Int64)))
 (oite (Nat.ble (List.length next_1) (4294967296 : Nat))
 (oite (decide (Int64.ofInt ↑(List.length next_1) = (0 : Int64)))
 (J now_3 tell_3 g0_3 g2_3 t0_3 t1_3 s0_3 s1_3 s2_3 s3_3 n0_3 n1_3 n2_3 n3_3 n4_3 n5_3 n6_3 n7_3
 (mdel (VT.agg zc9)
 (VT.agg
 (CTs.cons (CT.ro zc6)
 (CTs.cons (CT.int IntKind.u64)
 (CTs.cons CT.bool
 (CTs.cons (CT.int IntKind.u64)
 (CTs.cons
 (CT.rom (CTs.cons (CT.int IntKind.u8) zc6)
 zc0)
 CTs.nil))))))
 (k0_3, k1_3)
 (mput (VT.agg zc9)
 (VT.agg
 (CTs.cons (CT.ro zc6)
 (CTs.cons (CT.int IntKind.u64)
 (CTs.cons CT.bool
 (CTs.cons (CT.int IntKind.u64)
 (CTs.cons
 (CT.rom (CTs.cons (CT.int IntKind.u8) zc6)
 zc0)
 CTs.nil))))))
 (k0_3, k1_3) (s0_3, s1_3, s2_3, s3_3, next_1) gl_3))
 next_1)
 (J now_3 tell_3 g0_3 g2_3 t0_3 t1_3 s0_3 s1_3 s2_3 s3_3 n0_3 n1_3 n2_3 n3_3 n4_3 n5_3 n6_3 n7_3
 (mput (VT.agg zc9)
 (VT.agg
 (CTs.cons (CT.ro zc6)
 (CTs.cons (CT.int IntKind.u64)
 (CTs.cons CT.bool
 (CTs.cons (CT.int IntKind.u64)
 (CTs.cons
 (CT.rom (CTs.cons (CT.int IntKind.u8) zc6)
 zc0)
 CTs.nil))))))
 (k0_3, k1_3) (s0_3, s1_3, s2_3, s3_3, next_1) gl_3)
 next_1))
 none)
 (J now_3 tell_3 g0_3 g2_3 t0_3 t1_3 s0_3 s1_3 s2_3 s3_3 n0_3 n1_3 n2_3 n3_3 n4_3 n5_3 n6_3 n7_3
 (mput (VT.agg zc9)
 (VT.agg
 (CTs.cons (CT.ro zc6)
 (CTs.cons (CT.int IntKind.u64)
 (CTs.cons CT.bool
 (CTs.cons (CT.int IntKind.u64)
 (CTs.cons
 (CT.rom (CTs.cons (CT.int IntKind.u8) zc6)
 zc0)
 CTs.nil))))))
 (k0_3, k1_3) (s0_3, s1_3, s2_3, s3_3, next_1) gl_3)
 next_1))
 (F33_J32767 n))
noncomputable def F33_R16381 : Nat →
 Nat →
 PT.T (PT.int IntKind.u64) →
 List zt3 →
 List zt3 →
 List zt3 →
 Int64 →
 Int64 →
 Option
 (List
 zt5) →
 UInt64 →
 Int64 →
 List UInt8 →
 UInt64 →
 List UInt8 →
 List zt10 →
 UInt64 →
 Bool →
 UInt64 →
 List
 zt7 →
 List zt14 →
 List UInt8 →
 List (List UInt8) →
 UInt64 →
 UInt64 →
 UInt64 →
 Bool →
 Int64 →
 List
 zt7 →
 List
 ((Int64 × List UInt8) ×
 List zt10 ×
 UInt64 ×
 Bool ×
 UInt64 ×
 List
 zt7) →
 Option
 (((UInt64 ×
 List UInt8 ×
 List zt10 ×
 List
 zt3) ×
 Bool) ×
 Option
 zt1) := fun (n : Nat) =>
 ofixA (16381 : Nat)
 [PT.int IntKind.u64,
 PT.list
 zc0,
 PT.list
 zc0,
 PT.list
 zc0,
 PT.int IntKind.i64, PT.int IntKind.i64,
 PT.optC
 (CTs.cons
 (CT.ro
 zc2)
 CTs.nil),
 PT.int IntKind.u64, PT.int IntKind.i64, PT.bytes, PT.int IntKind.u64, PT.bytes,
 PT.list zc6, PT.int IntKind.u64, PT.bool, PT.int IntKind.u64,
 PT.ents (VT.agg (CTs.cons (CT.int IntKind.u8) zc6))
 (VT.agg
 zc0),
 PT.list zc13, PT.bytes,
 PT.list zc18, PT.int IntKind.u64, PT.int IntKind.u64, PT.int IntKind.u64, PT.bool,
 PT.int IntKind.i64,
 PT.ents (VT.agg (CTs.cons (CT.int IntKind.u8) zc6))
 (VT.agg
 zc0),
 PT.ents (VT.agg zc9)
 (VT.agg
 (CTs.cons (CT.ro zc6)
 (CTs.cons (CT.int IntKind.u64)
 (CTs.cons CT.bool
 (CTs.cons (CT.int IntKind.u64)
 (CTs.cons
 (CT.rom (CTs.cons (CT.int IntKind.u8) zc6)
 zc0)
 CTs.nil))))))]
 (F33_L16381 n)
noncomputable def F33_L8189 : Nat →
 Arr
 [PT.int IntKind.u64,
 PT.list
 zc0,
 PT.list
 zc0,
 PT.optC
 (CTs.cons
 (CT.ro
 zc2)
 CTs.nil),
 PT.int IntKind.u64, PT.int IntKind.i64, PT.bytes, PT.int IntKind.u64, PT.bytes,
 PT.list zc6, PT.int IntKind.u64, PT.bool, PT.int IntKind.u64,
 PT.ents (VT.agg (CTs.cons (CT.int IntKind.u8) zc6))
 (VT.agg
 zc0),
 PT.list zc13, PT.bytes,
 PT.list zc18, PT.int IntKind.u64, PT.int IntKind.u64, PT.int IntKind.u64, PT.bool,
 PT.int IntKind.i64,
 PT.ents (VT.agg (CTs.cons (CT.int IntKind.u8) zc6))
 (VT.agg
 zc0),
 PT.ents (VT.agg (CTs.cons (CT.int IntKind.u8) zc6))
 (VT.agg
 zc0),
 PT.ents (VT.agg zc9)
 (VT.agg
 (CTs.cons (CT.ro zc6)
 (CTs.cons (CT.int IntKind.u64)
 (CTs.cons CT.bool
 (CTs.cons (CT.int IntKind.u64)
 (CTs.cons
 (CT.rom (CTs.cons (CT.int IntKind.u8) zc6)
 zc0)
 CTs.nil))))))]
 (Option
 (((UInt64 ×
 List UInt8 ×
 List zt10 ×
 List zt3) ×
 Bool) ×
 Option
 zt1)) →
 UInt64 →
 List zt3 →
 List zt3 →
 Option
 (List
 zt5) →
 UInt64 →
 Int64 →
 List UInt8 →
 UInt64 →
 List UInt8 →
 List zt10 →
 UInt64 →
 Bool →
 UInt64 →
 List
 zt7 →
 List zt14 →
 List UInt8 →
 List (List UInt8) →
 UInt64 →
 UInt64 →
 UInt64 →
 Bool →
 Int64 →
 List
 zt7 →
 List
 zt7 →
 List
 ((Int64 × List UInt8) ×
 List zt10 ×
 UInt64 ×
 Bool ×
 UInt64 ×
 List
 zt7) →
 Option
 (((UInt64 ×
 List UInt8 ×
 List zt10 ×
 List
 zt3) ×
 Bool) ×
 Option
 zt1) := fun (n : Nat)
 (rec :
 Arr
 [PT.int IntKind.u64,
 PT.list
 zc0,
 PT.list
 zc0,
 PT.optC
 (CTs.cons
 (CT.ro
 zc2)
 CTs.nil),
 PT.int IntKind.u64, PT.int IntKind.i64, PT.bytes, PT.int IntKind.u64, PT.bytes,
 PT.list zc6, PT.int IntKind.u64, PT.bool, PT.int IntKind.u64,
 PT.ents (VT.agg (CTs.cons (CT.int IntKind.u8) zc6))
 (VT.agg
 zc0),
 PT.list zc13, PT.bytes,
 PT.list zc18, PT.int IntKind.u64, PT.int IntKind.u64, PT.int IntKind.u64, PT.bool,
 PT.int IntKind.i64,
 PT.ents (VT.agg (CTs.cons (CT.int IntKind.u8) zc6))
 (VT.agg
 zc0),
 PT.ents (VT.agg (CTs.cons (CT.int IntKind.u8) zc6))
 (VT.agg
 zc0),
 PT.ents (VT.agg zc9)
 (VT.agg
 (CTs.cons (CT.ro zc6)
 (CTs.cons (CT.int IntKind.u64)
 (CTs.cons CT.bool
 (CTs.cons (CT.int IntKind.u64)
 (CTs.cons
 (CT.rom (CTs.cons (CT.int IntKind.u8) zc6)
 zc0)
 CTs.nil))))))]
 (Option
 (((UInt64 ×
 List UInt8 ×
 List zt10 ×
 List zt3) ×
 Bool) ×
 Option
 zt1)))
 (now_2 : UInt64)
 (alerts_2 tell_2 : List zt3)
 (g0_2 :
 Option
 (List
 zt5))
 (g2_2 : UInt64) (k0_2 : Int64) (k1_2 : List UInt8) (t0_2 : UInt64) (t1_2 : List UInt8)
 (s0_2 : List zt10) (s1_2 : UInt64) (s2_2 : Bool) (s3_2 : UInt64)
 (s4_2 :
 List
 zt7)
 (n0_2 : List zt14) (n1_2 : List UInt8) (n2_2 : List (List UInt8))
 (n3_2 n4_2 n5_2 : UInt64) (n6_2 : Bool) (n7_2 : Int64)
 (next tr :
 List
 zt7)
 (gl_2 :
 List
 ((Int64 × List UInt8) ×
 List zt10 ×
 UInt64 ×
 Bool ×
 UInt64 ×
 List
 zt7)) =>
 oite (Nat.blt (0 : Nat) (List.length tr))
 (oallN (List.length tr) fun (j : Nat) =>
 obind tr[j]?
 fun
 (p :
 (UInt8 × List UInt8 × List UInt8) ×
 UInt8 × List UInt8 × List zt10 × UInt8 × UInt64 × UInt8 × Int64) =>
 rec now_2 alerts_2 tell_2 g0_2 g2_2 k0_2 k1_2 t0_2 t1_2 s0_2 s1_2 s2_2 s3_2 s4_2 n0_2 n1_2 n2_2 n3_2 n4_2 n5_2
 n6_2 n7_2
 (mput (VT.agg (CTs.cons (CT.int IntKind.u8) zc6))
 (VT.agg
 zc0)
 (p.1.1, p.1.2.1, p.1.2.2)
 (p.2.1, p.2.2.1, p.2.2.2.1,
 p.2.2.2.2.1,
 p.2.2.2.2.2.1,
 p.2.2.2.2.2.2.1,
 p.2.2.2.2.2.2.2)
 next)
 (List.eraseIdx tr j) gl_2)
 (F33_R16381 n n now_2 alerts_2 tell_2 tell_2 (Int64.ofInt ↑(List.length tell_2)) (0 : Int64) g0_2 g2_2 k0_2 k1_2
 t0_2 t1_2 s0_2 s1_2 s2_2 s3_2 s4_2 n0_2 n1_2 n2_2 n3_2 n4_2 n5_2 n6_2 n7_2 next gl_2)
noncomputable def F33_R8189 : Nat →
 Nat →
 PT.T (PT.int IntKind.u64) →
 List zt3 →
 List zt3 →
 Option
 (List
 zt5) →
 UInt64 →
 Int64 →
 List UInt8 →
 UInt64 →
 List UInt8 →
 List zt10 →
 UInt64 →
 Bool →
 UInt64 →
 List
 zt7 →
 List zt14 →
 List UInt8 →
 List (List UInt8) →
 UInt64 →
 UInt64 →
 UInt64 →
 Bool →
 Int64 →
 List
 zt7 →
 List
 zt7 →
 List
 ((Int64 × List UInt8) ×
 List zt10 ×
 UInt64 ×
 Bool ×
 UInt64 ×
 List
 zt7) →
 Option
 (((UInt64 ×
 List UInt8 ×
 List zt10 ×
 List
 zt3) ×
 Bool) ×
 Option
 zt1) := fun (n : Nat) =>
 ofixA (8189 : Nat)
 [PT.int IntKind.u64,
 PT.list
 zc0,
 PT.list
 zc0,
 PT.optC
 (CTs.cons
 (CT.ro
 zc2)
 CTs.nil),
 PT.int IntKind.u64, PT.int IntKind.i64, PT.bytes, PT.int IntKind.u64, PT.bytes,
 PT.list zc6, PT.int IntKind.u64, PT.bool, PT.int IntKind.u64,
 PT.ents (VT.agg (CTs.cons (CT.int IntKind.u8) zc6))
 (VT.agg
 zc0),
 PT.list zc13, PT.bytes,
 PT.list zc18, PT.int IntKind.u64, PT.int IntKind.u64, PT.int IntKind.u64, PT.bool,
 PT.int IntKind.i64,
 PT.ents (VT.agg (CTs.cons (CT.int IntKind.u8) zc6))
 (VT.agg
 zc0),
 PT.ents (VT.agg (CTs.cons (CT.int IntKind.u8) zc6))
 (VT.agg
 zc0),
 PT.ents (VT.agg zc9)
 (VT.agg
 (CTs.cons (CT.ro zc6)
 (CTs.cons (CT.int IntKind.u64)
 (CTs.cons CT.bool
 (CTs.cons (CT.int IntKind.u64)
 (CTs.cons
 (CT.rom (CTs.cons (CT.int IntKind.u8) zc6)
 zc0)
 CTs.nil))))))]
 (F33_L8189 n)
noncomputable def F33_J510 : Nat →
 UInt64 →
 List zt3 →
 List zt3 →
 Bool →
 Option
 (List
 zt5) →
 UInt64 →
 Int64 →
 List UInt8 →
 UInt64 →
 List UInt8 →
 List zt10 →
 UInt64 →
 Bool →
 UInt64 →
 List
 zt7 →
 List zt14 →
 List UInt8 →
 List (List UInt8) →
 UInt64 →
 UInt64 →
 UInt64 →
 Bool →
 Int64 →
 List
 ((Int64 × List UInt8) ×
 List zt10 ×
 UInt64 ×
 Bool ×
 UInt64 ×
 List
 zt7) →
 Option
 (((UInt64 ×
 List UInt8 ×
 List zt10 ×
 List
 zt3) ×
 Bool) ×
 Option
 zt1) := fun (n : Nat) (now_1 : UInt64)
 (alerts_1 tell_1 : List zt3)
 (t : Bool)
 (g0_1 :
 Option
 (List
 zt5))
 (g2_1 : UInt64) (k0_1 : Int64) (k1_1 : List UInt8) (t0_1 : UInt64) (t1_1 : List UInt8)
 (s0_1 : List zt10) (s1_1 : UInt64) (s2_1 : Bool) (s3_1 : UInt64)
 (s4_1 :
 List
 zt7)
 (n0_1 : List zt14) (n1_1 : List UInt8) (n2_1 : List (List UInt8))
 (n3_1 n4_1 n5_1 : UInt64) (n6_1 : Bool) (n7_1 : Int64)
 (gl_1 :
 List
 ((Int64 × List UInt8) ×
 List zt10 ×
 UInt64 ×
 Bool ×
 UInt64 ×
 List
 zt7)) =>
 oite t
 (some
 ((((0 : UInt64), @List.nil UInt8, @List.nil zt10,
 @List.nil zt3),
 false),
 some
 (g0_1,
 mput (VT.agg zc9)
 (VT.agg
 (CTs.cons (CT.ro zc6)
 (CTs.cons (CT.int IntKind.u64)
 (CTs.cons CT.bool
 (CTs.cons (CT.int IntKind.u64)
 (CTs.cons
 (CT.rom (CTs.cons (CT.int IntKind.u8) zc6)
 zc0)
 CTs.nil))))))
 (k0_1, k1_1) (s0_1, s1_1, s2_1, s3_1, s4_1) gl_1,
 g2_1)))
 (F33_R8189 n n now_1 alerts_1 tell_1 g0_1 g2_1 k0_1 k1_1 t0_1 t1_1 s0_1 s1_1 true now_1 s4_1 n0_1 n1_1 n2_1 n3_1
 n4_1 n5_1 n6_1 n7_1 [] s4_1 gl_1)
noncomputable def F33_J127 : Nat →
 UInt64 →
 List zt3 →
 List zt3 →
 Bool →
 Option
 (List
 zt5) →
 UInt64 →
 Int64 →
 List UInt8 →
 UInt64 →
 List UInt8 →
 List zt10 →
 UInt64 →
 Bool →
 UInt64 →
 List
 zt7 →
 List zt14 →
 List UInt8 →
 List (List UInt8) →
 UInt64 →
 UInt64 →
 UInt64 →
 Bool →
 Int64 →
 List
 ((Int64 × List UInt8) ×
 List zt10 ×
 UInt64 ×
 Bool ×
 UInt64 ×
 List
 zt7) →
 Option
 (((UInt64 ×
 List UInt8 ×
 List zt10 ×
 List
 zt3) ×
 Bool) ×
 Option
 zt1) := fun (n : Nat) (now : UInt64)
 (alerts tell : List zt3)
 (changed : Bool)
 (g0 :
 Option
 (List
 zt5))
 (g2 : UInt64) (k0 : Int64) (k1 : List UInt8) (t0 : UInt64) (t1 : List UInt8) (s0 : List zt10)
 (s1 : UInt64) (s2 : Bool) (s3 : UInt64)
 (s4 :
 List
 zt7)
 (n0 : List zt14) (n1 : List UInt8) (n2 : List (List UInt8)) (n3 n4 n5 : UInt64)
 (n6 : Bool) (n7 : Int64)
 (gl :
 List
 ((Int64 × List UInt8) ×
 List zt10 ×
 UInt64 ×
 Bool ×
 UInt64 ×
 List
 zt7)) =>
 ojoinA (510 : Nat)
 [PT.int IntKind.u64,
 PT.list
 zc0,
 PT.list
 zc0,
 PT.bool,
 PT.optC
 (CTs.cons
 (CT.ro
 zc2)
 CTs.nil),
 PT.int IntKind.u64, PT.int IntKind.i64, PT.bytes, PT.int IntKind.u64, PT.bytes,
 PT.list zc6, PT.int IntKind.u64, PT.bool, PT.int IntKind.u64,
 PT.ents (VT.agg (CTs.cons (CT.int IntKind.u8) zc6))
 (VT.agg
 zc0),
 PT.list zc13, PT.bytes,
 PT.list zc18, PT.int IntKind.u64, PT.int IntKind.u64, PT.int IntKind.u64, PT.bool,
 PT.int IntKind.i64,
 PT.ents (VT.agg zc9)
 (VT.agg
 (CTs.cons (CT.ro zc6)
 (CTs.cons (CT.int IntKind.u64)
 (CTs.cons CT.bool
 (CTs.cons (CT.int IntKind.u64)
 (CTs.cons
 (CT.rom (CTs.cons (CT.int IntKind.u8) zc6)
 zc0)
 CTs.nil))))))]
 (fun
 (J :
 Arr
 [PT.int IntKind.u64,
 PT.list
 zc0,
 PT.list
 zc0,
 PT.bool,
 PT.optC
 (CTs.cons
 (CT.ro
 zc2)
 CTs.nil),
 PT.int IntKind.u64, PT.int IntKind.i64, PT.bytes, PT.int IntKind.u64, PT.bytes,
 PT.list zc6, PT.int IntKind.u64, PT.bool, PT.int IntKind.u64,
 PT.ents (VT.agg (CTs.cons (CT.int IntKind.u8) zc6))
 (VT.agg
 zc0),
 PT.list zc13, PT.bytes,
 PT.list zc18, PT.int IntKind.u64, PT.int IntKind.u64, PT.int IntKind.u64, PT.bool,
 PT.int IntKind.i64,
 PT.ents (VT.agg zc9)
 (VT.agg
 (CTs.cons (CT.ro zc6)
 (CTs.cons (CT.int IntKind.u64)
 (CTs.cons CT.bool
 (CTs.cons (CT.int IntKind.u64)
 (CTs.cons
 (CT.rom (CTs.cons (CT.int IntKind.u8) zc6)
 zc0)
 CTs.nil))))))]
 (Option
 (((UInt64 ×
 List UInt8 ×
 List zt10 ×
 List zt3) ×
 Bool) ×
 Option
 zt1))) =>
 oite (!changed)
 (oite (!s2) (J now alerts tell true g0 g2 k0 k1 t0 t1 s0 s1 s2 s3 s4 n0 n1 n2 n3 n4 n5 n6 n7 gl)
 (oite (decide (now - s3 < n5))
 (J now alerts tell true g0 g2 k0 k1 t0 t1 s0 s1 s2 s3 s4 n0 n1 n2 n3 n4 n5 n6 n7 gl)
 (J now alerts tell (decide (Int64.ofInt ↑(List.length tell) = (0 : Int64))) g0 g2 k0 k1 t0 t1 s0 s1 s2 s3 s4
 n0 n1 n2 n3 n4 n5 n6 n7 gl)))
 (J now alerts tell (decide (Int64.ofInt ↑(List.length tell) = (0 : Int64))) g0 g2 k0 k1 t0 t1 s0 s1 s2 s3 s4 n0
 n1 n2 n3 n4 n5 n6 n7 gl))
 (F33_J510 n)
noncomputable def F33 : Nat →
 Option
 zt1 ×
 (Int64 × List UInt8) ×
 UInt64 ×
 List zt3 ×
 List
 zt7 →
 Option
 (((UInt64 ×
 List UInt8 ×
 List zt10 ×
 List zt3) ×
 Bool) ×
 Option
 zt1) := fun (n : Nat)
 (x :
 Option
 zt1 ×
 (Int64 × List UInt8) ×
 UInt64 ×
 List zt3 ×
 List
 zt7) =>
 obind x.1
 fun
 (x_1 :
 Option
 (List
 zt5) ×
 List
 ((Int64 × List UInt8) ×
 List zt10 ×
 UInt64 ×
 Bool ×
 UInt64 ×
 List
 zt7) ×
 UInt64) =>
 oite
 (decide
 (x.2.2.1 <
 Prod.fst (Prod.snd (Option.getD
 (mget (VT.agg zc9)
 (VT.agg
 (CTs.cons (CT.ro zc6)
 (CTs.cons (CT.int IntKind.u64)
 (CTs.cons CT.bool
 (CTs.cons (CT.int IntKind.u64)
 (CTs.cons
 (CT.rom (CTs.cons (CT.int IntKind.u8) zc6)
 zc0)
 CTs.nil))))))
 (x.2.1.1, x.2.1.2) x_1.2.1)
 (@List.nil zt10, (0 : UInt64), false, (0 : UInt64),
 @List.nil
 zt7)))))
 (some
 ((((0 : UInt64), @List.nil UInt8, @List.nil zt10,
 @List.nil zt3),
 false),
 some (x_1.1, x_1.2.1, x_1.2.2)))
 (obind (F30 n (x_1.1, x.2.1.1))
 fun
 (x_2 :
 (zt5 ×
 Bool) ×
 Unit) =>
 obind
 (F50 n
 ((Prod.fst (Option.getD
 (mget (VT.agg zc9)
 (VT.agg
 (CTs.cons (CT.ro zc6)
 (CTs.cons (CT.int IntKind.u64)
 (CTs.cons CT.bool
 (CTs.cons (CT.int IntKind.u64)
 (CTs.cons
 (CT.rom (CTs.cons (CT.int IntKind.u8) zc6)
 zc0)
 CTs.nil))))))
 (x.2.1.1, x.2.1.2) x_1.2.1)
 (@List.nil zt10, (0 : UInt64), false, (0 : UInt64),
 @List.nil
 zt7)),
 x.2.2.1 +
 x_2.1.1.2.2.2.2.1,
 Prod.fst (Prod.snd (Prod.snd (Option.getD
 (mget (VT.agg zc9)
 (VT.agg
 (CTs.cons (CT.ro zc6)
 (CTs.cons (CT.int IntKind.u64)
 (CTs.cons CT.bool
 (CTs.cons (CT.int IntKind.u64)
 (CTs.cons
 (CT.rom (CTs.cons (CT.int IntKind.u8) zc6)
 zc0)
 CTs.nil))))))
 (x.2.1.1, x.2.1.2)
 x_1.2.1)
 (@List.nil zt10, (0 : UInt64), false, (0 : UInt64),
 @List.nil
 zt7)))),
 Prod.fst (Prod.snd (Prod.snd (Prod.snd (Option.getD
 (mget (VT.agg zc9)
 (VT.agg
 (CTs.cons (CT.ro zc6)
 (CTs.cons (CT.int IntKind.u64)
 (CTs.cons CT.bool
 (CTs.cons (CT.int IntKind.u64)
 (CTs.cons
 (CT.rom
 (CTs.cons (CT.int IntKind.u8) zc6)
 zc0)
 CTs.nil))))))
 (x.2.1.1, x.2.1.2)
 x_1.2.1)
 (@List.nil zt10, (0 : UInt64), false, (0 : UInt64),
 @List.nil
 zt7))))),
 Prod.snd (Prod.snd (Prod.snd (Prod.snd (Option.getD
 (mget (VT.agg zc9)
 (VT.agg
 (CTs.cons (CT.ro zc6)
 (CTs.cons (CT.int IntKind.u64)
 (CTs.cons CT.bool
 (CTs.cons (CT.int IntKind.u64)
 (CTs.cons
 (CT.rom
 (CTs.cons (CT.int IntKind.u8) zc6)
 zc0)
 CTs.nil))))))
 (x.2.1.1, x.2.1.2)
 x_1.2.1)
 (@List.nil zt10, (0 : UInt64), false, (0 : UInt64),
 @List.nil
 zt7)))))),
 x.2.2.2.1, x.2.2.2.2))
 fun
 (x_3 :
 (List zt3 × Bool) ×
 Unit) =>
 ojoinA (127 : Nat)
 [PT.int IntKind.u64,
 PT.list
 zc0,
 PT.list
 zc0,
 PT.bool,
 PT.optC
 (CTs.cons
 (CT.ro
 zc2)
 CTs.nil),
 PT.int IntKind.u64, PT.int IntKind.i64, PT.bytes, PT.int IntKind.u64, PT.bytes,
 PT.list zc6, PT.int IntKind.u64, PT.bool, PT.int IntKind.u64,
 PT.ents (VT.agg (CTs.cons (CT.int IntKind.u8) zc6))
 (VT.agg
 zc0),
 PT.list zc13, PT.bytes,
 PT.list zc18, PT.int IntKind.u64, PT.int IntKind.u64, PT.int IntKind.u64, PT.bool,
 PT.int IntKind.i64,
 PT.ents (VT.agg zc9)
 (VT.agg
 (CTs.cons (CT.ro zc6)
 (CTs.cons (CT.int IntKind.u64)
 (CTs.cons CT.bool
 (CTs.cons (CT.int IntKind.u64)
 (CTs.cons
 (CT.rom (CTs.cons (CT.int IntKind.u8) zc6)
 zc0)
 CTs.nil))))))]
 (fun
 (J :
 Arr
 [PT.int IntKind.u64,
 PT.list
 zc0,
 PT.list
 zc0,
 PT.bool,
 PT.optC
 (CTs.cons
 (CT.ro
 zc2)
 CTs.nil),
 PT.int IntKind.u64, PT.int IntKind.i64, PT.bytes, PT.int IntKind.u64, PT.bytes,
 PT.list zc6, PT.int IntKind.u64, PT.bool,
 PT.int IntKind.u64,
 PT.ents (VT.agg (CTs.cons (CT.int IntKind.u8) zc6))
 (VT.agg
 zc0),
 PT.list zc13, PT.bytes,
 PT.list zc18, PT.int IntKind.u64, PT.int IntKind.u64, PT.int IntKind.u64,
 PT.bool, PT.int IntKind.i64,
 PT.ents (VT.agg zc9)
 (VT.agg
 (CTs.cons (CT.ro zc6)
 (CTs.cons (CT.int IntKind.u64)
 (CTs.cons CT.bool
 (CTs.cons (CT.int IntKind.u64)
 (CTs.cons
 (CT.rom (CTs.cons (CT.int IntKind.u8) zc6)
 zc0)
 CTs.nil))))))]
 (Option
 (((UInt64 ×
 List UInt8 ×
 List zt10 ×
 List
 zt3) ×
 Bool) ×
 Option
 zt1))) =>
 oite (decide (Int64.ofInt ↑(List.length x.2.2.2.1) = (0 : Int64)))
 (oite (decide (Int64.ofInt ↑(List.length x_3.1.1) = (0 : Int64)))
 (obind
 (F51 n
 ((Prod.fst (Option.getD
 (mget (VT.agg zc9)
 (VT.agg
 (CTs.cons (CT.ro zc6)
 (CTs.cons (CT.int IntKind.u64)
 (CTs.cons CT.bool
 (CTs.cons (CT.int IntKind.u64)
 (CTs.cons
 (CT.rom
 (CTs.cons (CT.int IntKind.u8) zc6)
 zc0)
 CTs.nil))))))
 (x.2.1.1, x.2.1.2)
 x_1.2.1)
 (@List.nil zt10, (0 : UInt64), false, (0 : UInt64),
 @List.nil
 zt7)),
 x.2.2.1 +
 x_2.1.1.2.2.2.2.1,
 Prod.fst (Prod.snd (Prod.snd (Option.getD
 (mget (VT.agg zc9)
 (VT.agg
 (CTs.cons (CT.ro zc6)
 (CTs.cons (CT.int IntKind.u64)
 (CTs.cons CT.bool
 (CTs.cons (CT.int IntKind.u64)
 (CTs.cons
 (CT.rom
 (CTs.cons (CT.int IntKind.u8)
 zc6)
 zc0)
 CTs.nil))))))
 (x.2.1.1, x.2.1.2)
 x_1.2.1)
 (@List.nil zt10, (0 : UInt64), false, (0 : UInt64),
 @List.nil
 zt7)))),
 Prod.fst (Prod.snd (Prod.snd (Prod.snd (Option.getD
 (mget (VT.agg zc9)
 (VT.agg
 (CTs.cons (CT.ro zc6)
 (CTs.cons (CT.int IntKind.u64)
 (CTs.cons CT.bool
 (CTs.cons (CT.int IntKind.u64)
 (CTs.cons
 (CT.rom
 (CTs.cons (CT.int IntKind.u8)
 zc6)
 zc0)
 CTs.nil))))))
 (x.2.1.1, x.2.1.2)
 x_1.2.1)
 (@List.nil zt10, (0 : UInt64), false, (0 : UInt64),
 @List.nil
 zt7))))),
 Prod.snd (Prod.snd (Prod.snd (Prod.snd (Option.getD
 (mget (VT.agg zc9)
 (VT.agg
 (CTs.cons (CT.ro zc6)
 (CTs.cons (CT.int IntKind.u64)
 (CTs.cons CT.bool
 (CTs.cons (CT.int IntKind.u64)
 (CTs.cons
 (CT.rom
 (CTs.cons (CT.int IntKind.u8)
 zc6)
 zc0)
 CTs.nil))))))
 (x.2.1.1, x.2.1.2)
 x_1.2.1)
 (@List.nil zt10, (0 : UInt64), false, (0 : UInt64),
 @List.nil
 zt7)))))),
 x.2.2.2.2))
 fun (x_4 : Bool × Unit) =>
 oite (!x_4.1)
 (some
 ((((0 : UInt64), @List.nil UInt8, @List.nil zt10,
 @List.nil
 zt3),
 false),
 some
 (x_1.1,
 mput (VT.agg zc9)
 (VT.agg
 (CTs.cons (CT.ro zc6)
 (CTs.cons (CT.int IntKind.u64)
 (CTs.cons CT.bool
 (CTs.cons (CT.int IntKind.u64)
 (CTs.cons
 (CT.rom
 (CTs.cons (CT.int IntKind.u8) zc6)
 zc0)
 CTs.nil))))))
 (x.2.1.1, x.2.1.2)
 (Prod.fst (Option.getD
 (mget (VT.agg zc9)
 (VT.agg
 (CTs.cons (CT.ro zc6)
 (CTs.cons (CT.int IntKind.u64)
 (CTs.cons CT.bool
 (CTs.cons (CT.int IntKind.u64)
 (CTs.cons
 (CT.rom
 (CTs.cons (CT.int IntKind.u8)
 zc6)
 zc0)
 CTs.nil))))))
 (x.2.1.1, x.2.1.2)
 x_1.2.1)
 (@List.nil zt10, (0 : UInt64), false, (0 : UInt64),
 @List.nil
 zt7)),
 x.2.2.1 +
 x_2.1.1.2.2.2.2.1,
 Prod.fst (Prod.snd (Prod.snd (Option.getD
 (mget (VT.agg zc9)
 (VT.agg
 (CTs.cons (CT.ro zc6)
 (CTs.cons (CT.int IntKind.u64)
 (CTs.cons CT.bool
 (CTs.cons (CT.int IntKind.u64)
 (CTs.cons
 (CT.rom
 (CTs.cons (CT.int IntKind.u8)
 zc6)
 zc0)
 CTs.nil))))))
 (x.2.1.1, x.2.1.2)
 x_1.2.1)
 (@List.nil zt10, (0 : UInt64), false, (0 : UInt64),
 @List.nil
 zt7)))),
 Prod.fst (Prod.snd (Prod.snd (Prod.snd (Option.getD
 (mget (VT.agg zc9)
 (VT.agg
 (CTs.cons (CT.ro zc6)
 (CTs.cons (CT.int IntKind.u64)
 (CTs.cons CT.bool
 (CTs.cons (CT.int IntKind.u64)
 (CTs.cons
 (CT.rom
 (CTs.cons (CT.int IntKind.u8)
 zc6)
 zc0)
 CTs.nil))))))
 (x.2.1.1, x.2.1.2)
 x_1.2.1)
 (@List.nil zt10, (0 : UInt64), false, (0 : UInt64),
 @List.nil
 zt7))))),
 Prod.snd (Prod.snd (Prod.snd (Prod.snd (Option.getD
 (mget (VT.agg zc9)
 (VT.agg
 (CTs.cons (CT.ro zc6)
 (CTs.cons (CT.int IntKind.u64)
 (CTs.cons CT.bool
 (CTs.cons (CT.int IntKind.u64)
 (CTs.cons
 (CT.rom
 (CTs.cons (CT.int IntKind.u8)
 zc6)
 zc0)
 CTs.nil))))))
 (x.2.1.1, x.2.1.2)
 x_1.2.1)
 (@List.nil zt10, (0 : UInt64), false, (0 : UInt64),
 @List.nil
 zt7))))))
 x_1.2.1,
 x_1.2.2)))
 (some
 ((((0 : UInt64), @List.nil UInt8, @List.nil zt10,
 @List.nil
 zt3),
 false),
 some
 (x_1.1,
 mdel (VT.agg zc9)
 (VT.agg
 (CTs.cons (CT.ro zc6)
 (CTs.cons (CT.int IntKind.u64)
 (CTs.cons CT.bool
 (CTs.cons (CT.int IntKind.u64)
 (CTs.cons
 (CT.rom
 (CTs.cons (CT.int IntKind.u8) zc6)
 zc0)
 CTs.nil))))))
 (x.2.1.1, x.2.1.2)
 x_1.2.1,
 x_1.2.2))))
 (J x.2.2.1 x.2.2.2.1
 x_3.1.1 x_3.1.2 x_1.1 x_1.2.2
 x.2.1.1 x.2.1.2 (0 : UInt64) []
 (Prod.fst (Option.getD
 (mget (VT.agg zc9)
 (VT.agg
 (CTs.cons (CT.ro zc6)
 (CTs.cons (CT.int IntKind.u64)
 (CTs.cons CT.bool
 (CTs.cons (CT.int IntKind.u64)
 (CTs.cons
 (CT.rom (CTs.cons (CT.int IntKind.u8) zc6)
 zc0)
 CTs.nil))))))
 (x.2.1.1, x.2.1.2)
 x_1.2.1)
 (@List.nil zt10, (0 : UInt64), false, (0 : UInt64),
 @List.nil
 zt7)))
 (x.2.2.1 +
 x_2.1.1.2.2.2.2.1)
 (Prod.fst (Prod.snd (Prod.snd (Option.getD
 (mget (VT.agg zc9)
 (VT.agg
 (CTs.cons (CT.ro zc6)
 (CTs.cons (CT.int IntKind.u64)
 (CTs.cons CT.bool
 (CTs.cons (CT.int IntKind.u64)
 (CTs.cons
 (CT.rom
 (CTs.cons (CT.int IntKind.u8) zc6)
 zc0)
 CTs.nil))))))
 (x.2.1.1, x.2.1.2)
 x_1.2.1)
 (@List.nil zt10, (0 : UInt64), false, (0 : UInt64),
 @List.nil
 zt7)))))
 (Prod.fst (Prod.snd (Prod.snd (Prod.snd (Option.getD
 (mget (VT.agg zc9)
 (VT.agg
 (CTs.cons (CT.ro zc6)
 (CTs.cons (CT.int IntKind.u64)
 (CTs.cons CT.bool
 (CTs.cons (CT.int IntKind.u64)
 (CTs.cons
 (CT.rom
 (CTs.cons (CT.int IntKind.u8) zc6)
 zc0)
 CTs.nil))))))
 (x.2.1.1, x.2.1.2)
 x_1.2.1)
 (@List.nil zt10, (0 : UInt64), false, (0 : UInt64),
 @List.nil
 zt7))))))
 (Prod.snd (Prod.snd (Prod.snd (Prod.snd (Option.getD
 (mget (VT.agg zc9)
 (VT.agg
 (CTs.cons (CT.ro zc6)
 (CTs.cons (CT.int IntKind.u64)
 (CTs.cons CT.bool
 (CTs.cons (CT.int IntKind.u64)
 (CTs.cons
 (CT.rom
 (CTs.cons (CT.int IntKind.u8) zc6)
 zc0)
 CTs.nil))))))
 (x.2.1.1, x.2.1.2)
 x_1.2.1)
 (@List.nil zt10, (0 : UInt64), false, (0 : UInt64),
 @List.nil
 zt7))))))
 x_2.1.1.1 x_2.1.1.2.1
 x_2.1.1.2.2.1
 x_2.1.1.2.2.2.1
 x_2.1.1.2.2.2.2.1
 x_2.1.1.2.2.2.2.2.1
 x_2.1.1.2.2.2.2.2.2.1
 x_2.1.1.2.2.2.2.2.2.2
 x_1.2.1))
 (J x.2.2.1 x.2.2.2.1
 x_3.1.1 x_3.1.2 x_1.1 x_1.2.2
 x.2.1.1 x.2.1.2 (0 : UInt64) []
 (Prod.fst (Option.getD
 (mget (VT.agg zc9)
 (VT.agg
 (CTs.cons (CT.ro zc6)
 (CTs.cons (CT.int IntKind.u64)
 (CTs.cons CT.bool
 (CTs.cons (CT.int IntKind.u64)
 (CTs.cons
 (CT.rom (CTs.cons (CT.int IntKind.u8) zc6)
 zc0)
 CTs.nil))))))
 (x.2.1.1, x.2.1.2) x_1.2.1)
 (@List.nil zt10, (0 : UInt64), false, (0 : UInt64),
 @List.nil
 zt7)))
 (x.2.2.1 +
 x_2.1.1.2.2.2.2.1)
 (Prod.fst (Prod.snd (Prod.snd (Option.getD
 (mget (VT.agg zc9)
 (VT.agg
 (CTs.cons (CT.ro zc6)
 (CTs.cons (CT.int IntKind.u64)
 (CTs.cons CT.bool
 (CTs.cons (CT.int IntKind.u64)
 (CTs.cons
 (CT.rom
 (CTs.cons (CT.int IntKind.u8) zc6)
 zc0)
 CTs.nil))))))
 (x.2.1.1, x.2.1.2)
 x_1.2.1)
 (@List.nil zt10, (0 : UInt64), false, (0 : UInt64),
 @List.nil
 zt7)))))
 (Prod.fst (Prod.snd (Prod.snd (Prod.snd (Option.getD
 (mget (VT.agg zc9)
 (VT.agg
 (CTs.cons (CT.ro zc6)
 (CTs.cons (CT.int IntKind.u64)
 (CTs.cons CT.bool
 (CTs.cons (CT.int IntKind.u64)
 (CTs.cons
 (CT.rom
 (CTs.cons (CT.int IntKind.u8) zc6)
 zc0)
 CTs.nil))))))
 (x.2.1.1, x.2.1.2)
 x_1.2.1)
 (@List.nil zt10, (0 : UInt64), false, (0 : UInt64),
 @List.nil
 zt7))))))
 (Prod.snd (Prod.snd (Prod.snd (Prod.snd (Option.getD
 (mget (VT.agg zc9)
 (VT.agg
 (CTs.cons (CT.ro zc6)
 (CTs.cons (CT.int IntKind.u64)
 (CTs.cons CT.bool
 (CTs.cons (CT.int IntKind.u64)
 (CTs.cons
 (CT.rom
 (CTs.cons (CT.int IntKind.u8) zc6)
 zc0)
 CTs.nil))))))
 (x.2.1.1, x.2.1.2)
 x_1.2.1)
 (@List.nil zt10, (0 : UInt64), false, (0 : UInt64),
 @List.nil
 zt7))))))
 x_2.1.1.1 x_2.1.1.2.1
 x_2.1.1.2.2.1
 x_2.1.1.2.2.2.1
 x_2.1.1.2.2.2.2.1
 x_2.1.1.2.2.2.2.2.1
 x_2.1.1.2.2.2.2.2.2.1
 x_2.1.1.2.2.2.2.2.2.2
 x_1.2.1))
 (F33_J127 n))
theorem F33_R16381_s (n : Nat) (m_ : Nat) : F33_R16381 n (m_ + 1) = F33_L16381 n (F33_R16381 n m_) := rfl
theorem F33_R8189_s (n : Nat) (m_ : Nat) : F33_R8189 n (m_ + 1) = F33_L8189 n (F33_R8189 n m_) := rfl
theorem ok33 (n : Nat) : FunOK Try.prog ⟨33, sig33, F33 n⟩ :=
 fun_ok (hints := ⟨[(127, ⟨[(0, .one (.own 0)), (2, .one (.int .u64)), (3, .one (.ro zc4)), (6, .one (.own 5)), (10, .one (.own 6)), (12, .one (.own 7)), (13, .one (.own 8)), (15, .one (.ro zc4)), (16, .one (.bool))], [(0, .cells [.rop (.cons (.ro zc8) .nil), .own 9, .int .u64]), (5, .cells [.int .i64, .str]), (6, .cells [.int .u64, .str, .nils, .nils]), (7, .cells [.ro zc12, .int .u64, .bool, .int .u64, .rom (.cons (.int .u8) zc12) zc4]), (8, .cells [.ro zc16, .str, .ro (.cons .str .nil), .int .u64, .int .u64, .int .u64, .bool, .int .i64]), (9, .map (.agg zc15) (.agg (.cons (.ro zc12) (.cons (.int .u64) (.cons .bool (.cons (.int .u64) (.cons (.rom (.cons (.int .u8) zc12) zc4) .nil)))))))], 10⟩), (510, ⟨[(0, .one (.own 0)), (2, .one (.int .u64)), (3, .one (.ro zc4)), (6, .one (.own 5)), (10, .one (.own 6)), (12, .one (.own 7)), (13, .one (.own 8)), (15, .one (.ro zc4)), (102, .one (.bool))], [(0, .cells [.rop (.cons (.ro zc8) .nil), .own 9, .int .u64]), (5, .cells [.int .i64, .str]), (6, .cells [.int .u64, .str, .nils, .nils]), (7, .cells [.ro zc12, .int .u64, .bool, .int .u64, .rom (.cons (.int .u8) zc12) zc4]), (8, .cells [.ro zc16, .str, .ro (.cons .str .nil), .int .u64, .int .u64, .int .u64, .bool, .int .i64]), (9, .map (.agg zc15) (.agg (.cons (.ro zc12) (.cons (.int .u64) (.cons .bool (.cons (.int .u64) (.cons (.rom (.cons (.int .u8) zc12) zc4) .nil)))))))], 10⟩), (32767, ⟨[(2, .one (.int .u64)), (10, .one (.own 5)), (12, .one (.own 6)), (13, .one (.own 7)), (15, .one (.ro zc4))], [(0, .cells [.rop (.cons (.ro zc8) .nil), .own 8, .int .u64]), (5, .cells [.int .u64, .str, .nils, .nils]), (6, .cells [.ro zc12, .int .u64, .bool, .int .u64, .own 9]), (7, .cells [.ro zc16, .str, .ro (.cons .str .nil), .int .u64, .int .u64, .int .u64, .bool, .int .i64]), (8, .map (.agg zc15) (.agg (.cons (.ro zc12) (.cons (.int .u64) (.cons .bool (.cons (.int .u64) (.cons (.rom (.cons (.int .u8) zc12) zc4) .nil))))))), (9, .sealedM (.cons (.int .u8) zc12) zc4)], 10⟩)], [(8189, ⟨[(0, .one (.own 0)), (2, .one (.int .u64)), (3, .one (.ro zc4)), (6, .one (.own 5)), (10, .one (.own 6)), (12, .one (.own 7)), (13, .one (.own 8)), (15, .one (.ro zc4)), (17, .one (.own 9)), (116, .one (.own 10))], [(0, .cells [.rop (.cons (.ro zc8) .nil), .own 11, .int .u64]), (5, .cells [.int .i64, .str]), (6, .cells [.int .u64, .str, .nils, .nils]), (7, .cells [.ro zc12, .int .u64, .bool, .int .u64, .rom (.cons (.int .u8) zc12) zc4]), (8, .cells [.ro zc16, .str, .ro (.cons .str .nil), .int .u64, .int .u64, .int .u64, .bool, .int .i64]), (9, .map (.agg (.cons (.int .u8) zc12)) (.agg zc4)), (10, .riter (.cons (.int .u8) zc12) zc4), (11, .map (.agg zc15) (.agg (.cons (.ro zc12) (.cons (.int .u64) (.cons .bool (.cons (.int .u64) (.cons (.rom (.cons (.int .u8) zc12) zc4) .nil)))))))], 12⟩), (16381, ⟨[(0, .one (.own 0)), (2, .one (.int .u64)), (3, .one (.ro zc4)), (6, .one (.own 5)), (10, .one (.own 6)), (12, .one (.own 7)), (13, .one (.own 8)), (15, .one (.ro zc4)), (17, .one (.own 9)), (125, .one (.ro zc4)), (126, .one (.int .i64)), (127, .one (.int .i64))], [(0, .cells [.rop (.cons (.ro zc8) .nil), .own 10, .int .u64]), (5, .cells [.int .i64, .str]), (6, .cells [.int .u64, .str, .nils, .nils]), (7, .cells [.ro zc12, .int .u64, .bool, .int .u64, .rom (.cons (.int .u8) zc12) zc4]), (8, .cells [.ro zc16, .str, .ro (.cons .str .nil), .int .u64, .int .u64, .int .u64, .bool, .int .i64]), (9, .map (.agg (.cons (.int .u8) zc12)) (.agg zc4)), (10, .map (.agg zc15) (.agg (.cons (.ro zc12) (.cons (.int .u64) (.cons .bool (.cons (.int .u64) (.cons (.rom (.cons (.int .u8) zc12) zc4) .nil)))))))], 11⟩)]⟩) (fuel := n) (c := Try.f33.body.getD .skip) (rs := Try.f33.results.toList) tt_ok mix (FsOK.cons (ok30 n) (FsOK.cons (ok50 n) (FsOK.cons (ok51 n) (FsOK.cons (ok31 n) (FsOK.cons (ok52 n) (FsOK.nil)))))) Try.func33 (by kernel_rfl) (by kernel_rfl) rfl (by kernel_rfl) rfl rfl (by kernel_rfl)
end Go.Proofs.Ytcfckkmiaeegpaa
