/- What the functions of this seat compute, found by walking their code symbolically: each F is what the walk finds, each ok says that the Go function keeps it as a contract. Printed by a program of this repo's. -/
import Derived.Test.YtcfckkmiaeegpaaFns3
open Go Go.Sx
namespace Go.Proofs.Ytcfckkmiaeegpaa
set_option maxRecDepth 100000
set_option linter.unusedVariables false
-- (*watchfire/group.Groups).Step
def sig13 : Sig := ⟨(.cons (.one (.ptr (.cons (.c (.rop (.cons (.ro zc8) .nil))) (.cons (.map (.agg zc15) (.agg (.cons (.ro zc12) (.cons (.int .u64) (.cons .bool (.cons (.int .u64) (.cons (.rom (.cons (.int .u8) zc12) zc4) .nil))))))) (.cons (.c (.int .u64)) .nil))))) (.cons (.one (.c (.int .u64))) (.cons (.one (.c (.ro zc4))) (.cons (.one (.c (.ro zc4))) .nil)))), (.cons (.one (.c (.ro (.cons (.int .u64) (.cons .str (.cons (.ro zc12) (.cons (.ro zc4) .nil))))))) .nil)⟩
noncomputable def F13_J3931 : Arr
 [PT.int IntKind.u64,
 PT.list
 zc0,
 PT.list
 (CTs.cons (CT.int IntKind.i64)
 (CTs.cons CT.str
 (CTs.cons (CT.ro zc6)
 zc0))),
 PT.int IntKind.i64, PT.int IntKind.i64,
 PT.opt
 (OTs.cons
 (OT.c
 (CT.rop
 (CTs.cons
 (CT.ro
 zc2)
 CTs.nil)))
 (OTs.cons
 (OT.map (VT.agg zc9)
 (VT.agg
 (CTs.cons (CT.ro zc6)
 (CTs.cons (CT.int IntKind.u64)
 (CTs.cons CT.bool
 (CTs.cons (CT.int IntKind.u64)
 (CTs.cons
 (CT.rom (CTs.cons (CT.int IntKind.u8) zc6)
 zc0)
 CTs.nil)))))))
 (OTs.cons (OT.c (CT.int IntKind.u64)) OTs.nil))),
 PT.ents (VT.agg zc9)
 (VT.one
 (CT.ro
 zc0))]
 (Option
 (List
 (UInt64 ×
 List UInt8 ×
 List zt10 ×
 List zt3) ×
 Option
 zt1)) →
 UInt64 →
 List zt3 →
 List
 (Int64 ×
 List UInt8 ×
 List zt10 ×
 UInt8 × List UInt8 × List zt10 × UInt8 × UInt64 × UInt8 × Int64) →
 Int64 →
 Int64 →
 Option
 (List
 zt5) →
 UInt64 →
 List
 ((Int64 × List UInt8) ×
 List zt3) →
 Int64 →
 List UInt8 →
 List zt10 →
 UInt8 →
 List UInt8 →
 List zt10 →
 UInt8 →
 UInt64 →
 UInt8 →
 Int64 →
 List
 ((Int64 × List UInt8) ×
 List zt10 ×
 UInt64 ×
 Bool ×
 UInt64 ×
 List
 zt7) →
 Option
 (List
 (UInt64 ×
 List UInt8 ×
 List zt10 ×
 List
 zt3) ×
 Option
 zt1) := fun
 (rec :
 Arr
 [PT.int IntKind.u64,
 PT.list
 zc0,
 PT.list
 (CTs.cons (CT.int IntKind.i64)
 (CTs.cons CT.str
 (CTs.cons (CT.ro zc6)
 zc0))),
 PT.int IntKind.i64, PT.int IntKind.i64,
 PT.opt
 (OTs.cons
 (OT.c
 (CT.rop
 (CTs.cons
 (CT.ro
 zc2)
 CTs.nil)))
 (OTs.cons
 (OT.map (VT.agg zc9)
 (VT.agg
 (CTs.cons (CT.ro zc6)
 (CTs.cons (CT.int IntKind.u64)
 (CTs.cons CT.bool
 (CTs.cons (CT.int IntKind.u64)
 (CTs.cons
 (CT.rom (CTs.cons (CT.int IntKind.u8) zc6)
 zc0)
 CTs.nil)))))))
 (OTs.cons (OT.c (CT.int IntKind.u64)) OTs.nil))),
 PT.ents (VT.agg zc9)
 (VT.one
 (CT.ro
 zc0))]
 (Option
 (List
 (UInt64 ×
 List UInt8 ×
 List zt10 ×
 List zt3) ×
 Option
 zt1)))
 (now_1 : UInt64)
 (all__1 : List zt3)
 (t_3 :
 List
 (Int64 ×
 List UInt8 ×
 List zt10 ×
 UInt8 × List UInt8 × List zt10 × UInt8 × UInt64 × UInt8 × Int64))
 (t_1_1 t_2_1 : Int64)
 (g0 :
 Option
 (List
 zt5))
 (g2 : UInt64)
 (in__1 :
 List
 ((Int64 × List UInt8) ×
 List zt3))
 (m0 : Int64) (m1 : List UInt8) (m2 : List zt10) (m3 : UInt8) (m4 : List UInt8)
 (m5 : List zt10) (m6 : UInt8) (m7 : UInt64) (m8 : UInt8) (m9 : Int64)
 (gl :
 List
 ((Int64 × List UInt8) ×
 List zt10 ×
 UInt64 ×
 Bool ×
 UInt64 ×
 List
 zt7)) =>
 oite (decide (m0 = m0) && (m1 == m1 && true))
 (oelim
 (mget (VT.agg zc9)
 (VT.one
 (CT.ro
 zc0))
 (m0, m1) in__1)
 (oite (Nat.ble ((0 : Nat) + List.length [(m3, m4, m5, m6, m7, m8, m9)]) (4294967296 : Nat))
 (rec now_1 all__1 t_3 t_1_1 (t_2_1 + (1 : Int64)) (some (g0, gl, g2))
 (mput (VT.agg zc9)
 (VT.one
 (CT.ro
 zc0))
 (m0, m1) ([] ++ [(m3, m4, m5, m6, m7, m8, m9)])
 (mput (VT.agg zc9)
 (VT.one
 (CT.ro
 zc0))
 (m0, m1)
 (Option.getD
 (mget (VT.agg zc9)
 (VT.one
 (CT.ro
 zc0))
 (m0, m1) in__1)
 [])
 in__1)))
 none)
 fun (x_5 : List zt3) => none)
 none
noncomputable def F13_J32685 : Arr
 [PT.int IntKind.u64, PT.list zc9, PT.int IntKind.i64,
 PT.int IntKind.i64,
 PT.opt
 (OTs.cons
 (OT.c
 (CT.rop
 (CTs.cons
 (CT.ro
 zc2)
 CTs.nil)))
 (OTs.cons
 (OT.map (VT.agg zc9)
 (VT.agg
 (CTs.cons (CT.ro zc6)
 (CTs.cons (CT.int IntKind.u64)
 (CTs.cons CT.bool
 (CTs.cons (CT.int IntKind.u64)
 (CTs.cons
 (CT.rom (CTs.cons (CT.int IntKind.u8) zc6)
 zc0)
 CTs.nil)))))))
 (OTs.cons (OT.c (CT.int IntKind.u64)) OTs.nil))),
 PT.ents (VT.agg zc9)
 (VT.one
 (CT.ro
 zc0)),
 PT.ents (VT.agg (CTs.cons (CT.int IntKind.u8) zc6))
 (VT.agg
 zc0),
 PT.list
 (CTs.cons (CT.int IntKind.u64)
 (CTs.cons CT.str
 (CTs.cons (CT.ro zc6)
 (CTs.cons
 (CT.ro
 zc0)
 CTs.nil))))]
 (Option
 (List
 (UInt64 ×
 List UInt8 ×
 List zt10 ×
 List zt3) ×
 Option
 zt1)) →
 UInt64 →
 Bool →
 List (Int64 × List UInt8) →
 Int64 →
 Int64 →
 Option
 zt1 →
 List
 ((Int64 × List UInt8) ×
 List zt3) →
 List
 zt7 →
 List
 (UInt64 ×
 List UInt8 ×
 List zt10 ×
 List
 zt3) →
 UInt64 →
 List UInt8 →
 List zt10 →
 List zt3 →
 Option
 (List
 (UInt64 ×
 List UInt8 ×
 List zt10 ×
 List
 zt3) ×
 Option
 zt1) := fun
 (rec_2 :
 Arr
 [PT.int IntKind.u64, PT.list zc9, PT.int IntKind.i64,
 PT.int IntKind.i64,
 PT.opt
 (OTs.cons
 (OT.c
 (CT.rop
 (CTs.cons
 (CT.ro
 zc2)
 CTs.nil)))
 (OTs.cons
 (OT.map (VT.agg zc9)
 (VT.agg
 (CTs.cons (CT.ro zc6)
 (CTs.cons (CT.int IntKind.u64)
 (CTs.cons CT.bool
 (CTs.cons (CT.int IntKind.u64)
 (CTs.cons
 (CT.rom (CTs.cons (CT.int IntKind.u8) zc6)
 zc0)
 CTs.nil)))))))
 (OTs.cons (OT.c (CT.int IntKind.u64)) OTs.nil))),
 PT.ents (VT.agg zc9)
 (VT.one
 (CT.ro
 zc0)),
 PT.ents (VT.agg (CTs.cons (CT.int IntKind.u8) zc6))
 (VT.agg
 zc0),
 PT.list
 (CTs.cons (CT.int IntKind.u64)
 (CTs.cons CT.str
 (CTs.cons (CT.ro zc6)
 (CTs.cons
 (CT.ro
 zc0)
 CTs.nil))))]
 (Option
 (List
 (UInt64 ×
 List UInt8 ×
 List zt10 ×
 List zt3) ×
 Option
 zt1)))
 (now_3 : UInt64) (ok : Bool) (t_5 : List (Int64 × List UInt8)) (t_1_3 t_2_3 : Int64)
 (g_3 :
 Option
 zt1)
 (in__3 :
 List
 ((Int64 × List UInt8) ×
 List zt3))
 (states_2 :
 List
 zt7)
 (out_1 :
 List
 (UInt64 ×
 List UInt8 ×
 List zt10 ×
 List zt3))
 (n0 : UInt64) (n1 : List UInt8) (n2 : List zt10)
 (n3 : List zt3) =>
 oite ok
 (oite (Nat.ble (List.length out_1 + List.length [(n0, n1, n2, n3)]) (4294967296 : Nat))
 (obind g_3
 fun
 (x_5 :
 Option
 (List
 zt5) ×
 List
 ((Int64 × List UInt8) ×
 List zt10 ×
 UInt64 ×
 Bool ×
 UInt64 ×
 List
 zt7) ×
 UInt64) =>
 rec_2 now_3 t_5 t_1_3 (t_2_3 + (1 : Int64))
 (some (x_5.1, x_5.2.1, x_5.2.2 + (1 : UInt64))) in__3 states_2
 (out_1 ++ [(n0, n1, n2, n3)]))
 none)
 (rec_2 now_3 t_5 t_1_3 (t_2_3 + (1 : Int64)) g_3 in__3 states_2 out_1)
noncomputable def F13_L1021 : Nat →
 Arr
 [PT.int IntKind.u64, PT.list zc9, PT.int IntKind.i64,
 PT.int IntKind.i64,
 PT.opt
 (OTs.cons
 (OT.c
 (CT.rop
 (CTs.cons
 (CT.ro
 zc2)
 CTs.nil)))
 (OTs.cons
 (OT.map (VT.agg zc9)
 (VT.agg
 (CTs.cons (CT.ro zc6)
 (CTs.cons (CT.int IntKind.u64)
 (CTs.cons CT.bool
 (CTs.cons (CT.int IntKind.u64)
 (CTs.cons
 (CT.rom (CTs.cons (CT.int IntKind.u8) zc6)
 zc0)
 CTs.nil)))))))
 (OTs.cons (OT.c (CT.int IntKind.u64)) OTs.nil))),
 PT.ents (VT.agg zc9)
 (VT.one
 (CT.ro
 zc0)),
 PT.ents (VT.agg (CTs.cons (CT.int IntKind.u8) zc6))
 (VT.agg
 zc0),
 PT.list
 (CTs.cons (CT.int IntKind.u64)
 (CTs.cons CT.str
 (CTs.cons (CT.ro zc6)
 (CTs.cons
 (CT.ro
 zc0)
 CTs.nil))))]
 (Option
 (List
 (UInt64 ×
 List UInt8 ×
 List zt10 ×
 List zt3) ×
 Option
 zt1)) →
 UInt64 →
 List (Int64 × List UInt8) →
 Int64 →
 Int64 →
 Option
 zt1 →
 List
 ((Int64 × List UInt8) ×
 List zt3) →
 List
 zt7 →
 List
 (UInt64 ×
 List UInt8 ×
 List zt10 ×
 List
 zt3) →
 Option
 (List
 (UInt64 ×
 List UInt8 ×
 List zt10 ×
 List
 zt3) ×
 Option
 zt1) := fun (n : Nat)
 (rec_2 :
 Arr
 [PT.int IntKind.u64, PT.list zc9, PT.int IntKind.i64,
 PT.int IntKind.i64,
 PT.opt
 (OTs.cons
 (OT.c
 (CT.rop
 (CTs.cons
 (CT.ro
 zc2)
 CTs.nil)))
 (OTs.cons
 (OT.map (VT.agg zc9)
 (VT.agg
 (CTs.cons (CT.ro zc6)
 (CTs.cons (CT.int IntKind.u64)
 (CTs.cons CT.bool
 (CTs.cons (CT.int IntKind.u64)
 (CTs.cons
 (CT.rom (CTs.cons (CT.int IntKind.u8) zc6)
 zc0)
 CTs.nil)))))))
 (OTs.cons (OT.c (CT.int IntKind.u64)) OTs.nil))),
 PT.ents (VT.agg zc9)
 (VT.one
 (CT.ro
 zc0)),
 PT.ents (VT.agg (CTs.cons (CT.int IntKind.u8) zc6))
 (VT.agg
 zc0),
 PT.list
 (CTs.cons (CT.int IntKind.u64)
 (CTs.cons CT.str
 (CTs.cons (CT.ro zc6)
 (CTs.cons
 (CT.ro
 zc0)
 CTs.nil))))]
 (Option
 (List
 (UInt64 ×
 List UInt8 ×
 List zt10 ×
 List zt3) ×
 Option
 zt1)))
 (now_2 : UInt64) (t_4 : List (Int64 × List UInt8)) (t_1_2 t_2_2 : Int64)
 (g_2 :
 Option
 zt1)
 (in__2 :
 List
 ((Int64 × List UInt8) ×
 List zt3))
 (states_1 :
 List
 zt7)
 (out :
 List
 (UInt64 ×
 List UInt8 ×
 List zt10 ×
 List zt3)) =>
 oite (decide (t_2_2 < t_1_2))
 (obind (at? t_4 (Int64.toInt t_2_2)) fun (x_4 : Int64 × List UInt8) =>
 ojoinA (32685 : Nat)
 [PT.int IntKind.u64, PT.bool, PT.list zc9,
 PT.int IntKind.i64, PT.int IntKind.i64,
 PT.opt
 (OTs.cons
 (OT.c
 (CT.rop
 (CTs.cons
 (CT.ro
 zc2)
 CTs.nil)))
 (OTs.cons
 (OT.map (VT.agg zc9)
 (VT.agg
 (CTs.cons (CT.ro zc6)
 (CTs.cons (CT.int IntKind.u64)
 (CTs.cons CT.bool
 (CTs.cons (CT.int IntKind.u64)
 (CTs.cons
 (CT.rom (CTs.cons (CT.int IntKind.u8) zc6)
 zc0)
 CTs.nil)))))))
 (OTs.cons (OT.c (CT.int IntKind.u64)) OTs.nil))),
 PT.ents (VT.agg zc9)
 (VT.one
 (CT.ro
 zc0)),
 PT.ents (VT.agg (CTs.cons (CT.int IntKind.u8) zc6))
 (VT.agg
 zc0),
 PT.list
 (CTs.cons (CT.int IntKind.u64)
 (CTs.cons CT.str
 (CTs.cons (CT.ro zc6)
 (CTs.cons
 (CT.ro
 zc0)
 CTs.nil)))),
 PT.int IntKind.u64, PT.bytes, PT.list zc6,
 PT.list
 zc0]
 (fun
 (J :
 Arr
 [PT.int IntKind.u64, PT.bool, PT.list zc9,
 PT.int IntKind.i64, PT.int IntKind.i64,
 PT.opt
 (OTs.cons
 (OT.c
 (CT.rop
 (CTs.cons
 (CT.ro
 zc2)
 CTs.nil)))
 (OTs.cons
 (OT.map (VT.agg zc9)
 (VT.agg
 (CTs.cons (CT.ro zc6)
 (CTs.cons (CT.int IntKind.u64)
 (CTs.cons CT.bool
 (CTs.cons (CT.int IntKind.u64)
 (CTs.cons
 (CT.rom (CTs.cons (CT.int IntKind.u8) zc6)
 zc0)
 CTs.nil)))))))
 (OTs.cons (OT.c (CT.int IntKind.u64)) OTs.nil))),
 PT.ents (VT.agg zc9)
 (VT.one
 (CT.ro
 zc0)),
 PT.ents (VT.agg (CTs.cons (CT.int IntKind.u8) zc6))
 (VT.agg
 zc0),
 PT.list
 (CTs.cons (CT.int IntKind.u64)
 (CTs.cons CT.str
 (CTs.cons (CT.ro zc6)
 (CTs.cons
 (CT.ro
 zc0)
 CTs.nil)))),
 PT.int IntKind.u64, PT.bytes, PT.list zc6,
 PT.list
 zc0]
 (Option
 (List
 (UInt64 ×
 List UInt8 ×
 List zt10 ×
 List
 zt3) ×
 Option
 zt1))) =>
 oelim
 (mget (VT.agg zc9)
 (VT.one
 (CT.ro
 zc0))
 (x_4.1, x_4.2) in__2)
 (obind
 (F33 n
 (g_2, (x_4.1, x_4.2), now_2,
 @List.nil zt3,
 states_1))
 fun
 (x_5 :
 ((UInt64 ×
 List UInt8 ×
 List zt10 ×
 List
 zt3) ×
 Bool) ×
 Option
 zt1) =>
 J now_2 x_5.1.2 t_4 t_1_2 t_2_2 x_5.2 in__2 states_1 out
 x_5.1.1.1 x_5.1.1.2.1
 x_5.1.1.2.2.1
 x_5.1.1.2.2.2)
 fun (x_5 : List zt3) =>
 obind (F33 n (g_2, (x_4.1, x_4.2), now_2, x_5, states_1))
 fun
 (x_6 :
 ((UInt64 ×
 List UInt8 ×
 List zt10 ×
 List
 zt3) ×
 Bool) ×
 Option
 zt1) =>
 J now_2 x_6.1.2 t_4 t_1_2 t_2_2 x_6.2 in__2 states_1 out
 x_6.1.1.1 x_6.1.1.2.1
 x_6.1.1.2.2.1
 x_6.1.1.2.2.2)
 (F13_J32685 rec_2))
 (some (out, g_2))
noncomputable def F13_R1021 : Nat →
 Nat →
 PT.T (PT.int IntKind.u64) →
 List (Int64 × List UInt8) →
 Int64 →
 Int64 →
 Option
 zt1 →
 List
 ((Int64 × List UInt8) ×
 List zt3) →
 List
 zt7 →
 List
 (UInt64 ×
 List UInt8 ×
 List zt10 ×
 List
 zt3) →
 Option
 (List
 (UInt64 ×
 List UInt8 ×
 List zt10 ×
 List
 zt3) ×
 Option
 zt1) := fun (n : Nat) =>
 ofixA (1021 : Nat)
 [PT.int IntKind.u64, PT.list zc9, PT.int IntKind.i64,
 PT.int IntKind.i64,
 PT.opt
 (OTs.cons
 (OT.c
 (CT.rop
 (CTs.cons
 (CT.ro
 zc2)
 CTs.nil)))
 (OTs.cons
 (OT.map (VT.agg zc9)
 (VT.agg
 (CTs.cons (CT.ro zc6)
 (CTs.cons (CT.int IntKind.u64)
 (CTs.cons CT.bool
 (CTs.cons (CT.int IntKind.u64)
 (CTs.cons
 (CT.rom (CTs.cons (CT.int IntKind.u8) zc6)
 zc0)
 CTs.nil)))))))
 (OTs.cons (OT.c (CT.int IntKind.u64)) OTs.nil))),
 PT.ents (VT.agg zc9)
 (VT.one
 (CT.ro
 zc0)),
 PT.ents (VT.agg (CTs.cons (CT.int IntKind.u8) zc6))
 (VT.agg
 zc0),
 PT.list
 (CTs.cons (CT.int IntKind.u64)
 (CTs.cons CT.str
 (CTs.cons (CT.ro zc6)
 (CTs.cons
 (CT.ro
 zc0)
 CTs.nil))))]
 (F13_L1021 n)
noncomputable def F13_L253 : Nat →
 Arr
 [PT.int IntKind.u64,
 PT.list
 zc0,
 PT.int IntKind.i64, PT.int IntKind.i64,
 PT.opt
 (OTs.cons
 (OT.c
 (CT.rop
 (CTs.cons
 (CT.ro
 zc2)
 CTs.nil)))
 (OTs.cons
 (OT.map (VT.agg zc9)
 (VT.agg
 (CTs.cons (CT.ro zc6)
 (CTs.cons (CT.int IntKind.u64)
 (CTs.cons CT.bool
 (CTs.cons (CT.int IntKind.u64)
 (CTs.cons
 (CT.rom (CTs.cons (CT.int IntKind.u8) zc6)
 zc0)
 CTs.nil)))))))
 (OTs.cons (OT.c (CT.int IntKind.u64)) OTs.nil))),
 PT.ents (VT.agg zc9)
 (VT.one
 (CT.ro
 zc0)),
 PT.ents (VT.agg (CTs.cons (CT.int IntKind.u8) zc6))
 (VT.agg
 zc0)]
 (Option
 (List
 (UInt64 ×
 List UInt8 ×
 List zt10 ×
 List zt3) ×
 Option
 zt1)) →
 UInt64 →
 List zt3 →
 Int64 →
 Int64 →
 Option
 zt1 →
 List
 ((Int64 × List UInt8) ×
 List zt3) →
 List
 zt7 →
 Option
 (List
 (UInt64 ×
 List UInt8 ×
 List zt10 ×
 List
 zt3) ×
 Option
 zt1) := fun (n : Nat)
 (rec_1 :
 Arr
 [PT.int IntKind.u64,
 PT.list
 zc0,
 PT.int IntKind.i64, PT.int IntKind.i64,
 PT.opt
 (OTs.cons
 (OT.c
 (CT.rop
 (CTs.cons
 (CT.ro
 zc2)
 CTs.nil)))
 (OTs.cons
 (OT.map (VT.agg zc9)
 (VT.agg
 (CTs.cons (CT.ro zc6)
 (CTs.cons (CT.int IntKind.u64)
 (CTs.cons CT.bool
 (CTs.cons (CT.int IntKind.u64)
 (CTs.cons
 (CT.rom (CTs.cons (CT.int IntKind.u8) zc6)
 zc0)
 CTs.nil)))))))
 (OTs.cons (OT.c (CT.int IntKind.u64)) OTs.nil))),
 PT.ents (VT.agg zc9)
 (VT.one
 (CT.ro
 zc0)),
 PT.ents (VT.agg (CTs.cons (CT.int IntKind.u8) zc6))
 (VT.agg
 zc0)]
 (Option
 (List
 (UInt64 ×
 List UInt8 ×
 List zt10 ×
 List zt3) ×
 Option
 zt1)))
 (now_1 : UInt64) (t_3 : List zt3)
 (t_1_1 t_2_1 : Int64)
 (g_1 :
 Option
 zt1)
 (in__1 :
 List
 ((Int64 × List UInt8) ×
 List zt3))
 (states :
 List
 zt7) =>
 oite (decide (t_2_1 < t_1_1))
 (obind (at? t_3 (Int64.toInt t_2_1))
 fun (x_3 : UInt8 × List UInt8 × List zt10 × UInt8 × UInt64 × UInt8 × Int64) =>
 obind
 (F31 n
 (x_3.1, x_3.2.1, x_3.2.2.1,
 x_3.2.2.2.1, x_3.2.2.2.2.1,
 x_3.2.2.2.2.2.1,
 x_3.2.2.2.2.2.2))
 fun (x_4 : (UInt8 × List UInt8 × List UInt8) × Unit) =>
 rec_1 now_1 t_3 t_1_1 (t_2_1 + (1 : Int64)) g_1 in__1
 (mput (VT.agg (CTs.cons (CT.int IntKind.u8) zc6))
 (VT.agg
 zc0)
 (x_4.1.1, x_4.1.2.1, x_4.1.2.2)
 (x_3.1, x_3.2.1, x_3.2.2.1,
 x_3.2.2.2.1, x_3.2.2.2.2.1,
 x_3.2.2.2.2.2.1,
 x_3.2.2.2.2.2.2)
 states))
 (obind (F32 n g_1)
 fun
 (x_3 :
 List (Int64 × List UInt8) ×
 Option
 zt1) =>
 F13_R1021 n n now_1 x_3.1 (Int64.ofInt ↑(List.length x_3.1)) (0 : Int64) x_3.2 in__1
 states [])
noncomputable def F13_R253 : Nat →
 Nat →
 PT.T (PT.int IntKind.u64) →
 List zt3 →
 Int64 →
 Int64 →
 Option
 zt1 →
 List
 ((Int64 × List UInt8) ×
 List zt3) →
 List
 zt7 →
 Option
 (List
 (UInt64 ×
 List UInt8 ×
 List zt10 ×
 List
 zt3) ×
 Option
 zt1) := fun (n : Nat) =>
 ofixA (253 : Nat)
 [PT.int IntKind.u64,
 PT.list
 zc0,
 PT.int IntKind.i64, PT.int IntKind.i64,
 PT.opt
 (OTs.cons
 (OT.c
 (CT.rop
 (CTs.cons
 (CT.ro
 zc2)
 CTs.nil)))
 (OTs.cons
 (OT.map (VT.agg zc9)
 (VT.agg
 (CTs.cons (CT.ro zc6)
 (CTs.cons (CT.int IntKind.u64)
 (CTs.cons CT.bool
 (CTs.cons (CT.int IntKind.u64)
 (CTs.cons
 (CT.rom (CTs.cons (CT.int IntKind.u8) zc6)
 zc0)
 CTs.nil)))))))
 (OTs.cons (OT.c (CT.int IntKind.u64)) OTs.nil))),
 PT.ents (VT.agg zc9)
 (VT.one
 (CT.ro
 zc0)),
 PT.ents (VT.agg (CTs.cons (CT.int IntKind.u8) zc6))
 (VT.agg
 zc0)]
 (F13_L253 n)
noncomputable def F13_L61 : Nat →
 Arr
 [PT.int IntKind.u64,
 PT.list
 zc0,
 PT.list
 (CTs.cons (CT.int IntKind.i64)
 (CTs.cons CT.str
 (CTs.cons (CT.ro zc6)
 zc0))),
 PT.int IntKind.i64, PT.int IntKind.i64,
 PT.opt
 (OTs.cons
 (OT.c
 (CT.rop
 (CTs.cons
 (CT.ro
 zc2)
 CTs.nil)))
 (OTs.cons
 (OT.map (VT.agg zc9)
 (VT.agg
 (CTs.cons (CT.ro zc6)
 (CTs.cons (CT.int IntKind.u64)
 (CTs.cons CT.bool
 (CTs.cons (CT.int IntKind.u64)
 (CTs.cons
 (CT.rom (CTs.cons (CT.int IntKind.u8) zc6)
 zc0)
 CTs.nil)))))))
 (OTs.cons (OT.c (CT.int IntKind.u64)) OTs.nil))),
 PT.ents (VT.agg zc9)
 (VT.one
 (CT.ro
 zc0))]
 (Option
 (List
 (UInt64 ×
 List UInt8 ×
 List zt10 ×
 List zt3) ×
 Option
 zt1)) →
 UInt64 →
 List zt3 →
 List
 (Int64 ×
 List UInt8 ×
 List zt10 ×
 UInt8 × List UInt8 × List zt10 × UInt8 × UInt64 × UInt8 × Int64) →
 Int64 →
 Int64 →
 Option
 zt1 →
 List
 ((Int64 × List UInt8) ×
 List zt3) →
 Option
 (List
 (UInt64 ×
 List UInt8 ×
 List zt10 ×
 List
 zt3) ×
 Option
 zt1) := fun (n : Nat)
 (rec :
 Arr
 [PT.int IntKind.u64,
 PT.list
 zc0,
 PT.list
 (CTs.cons (CT.int IntKind.i64)
 (CTs.cons CT.str
 (CTs.cons (CT.ro zc6)
 zc0))),
 PT.int IntKind.i64, PT.int IntKind.i64,
 PT.opt
 (OTs.cons
 (OT.c
 (CT.rop
 (CTs.cons
 (CT.ro
 zc2)
 CTs.nil)))
 (OTs.cons
 (OT.map (VT.agg zc9)
 (VT.agg
 (CTs.cons (CT.ro zc6)
 (CTs.cons (CT.int IntKind.u64)
 (CTs.cons CT.bool
 (CTs.cons (CT.int IntKind.u64)
 (CTs.cons
 (CT.rom (CTs.cons (CT.int IntKind.u8) zc6)
 zc0)
 CTs.nil)))))))
 (OTs.cons (OT.c (CT.int IntKind.u64)) OTs.nil))),
 PT.ents (VT.agg zc9)
 (VT.one
 (CT.ro
 zc0))]
 (Option
 (List
 (UInt64 ×
 List UInt8 ×
 List zt10 ×
 List zt3) ×
 Option
 zt1)))
 (now : UInt64) (all_ : List zt3)
 (t :
 List
 (Int64 ×
 List UInt8 ×
 List zt10 ×
 UInt8 × List UInt8 × List zt10 × UInt8 × UInt64 × UInt8 × Int64))
 (t_1 t_2 : Int64)
 (g :
 Option
 zt1)
 (in_ :
 List
 ((Int64 × List UInt8) ×
 List zt3)) =>
 oite (decide (t_2 < t_1))
 (obind (at? t (Int64.toInt t_2))
 fun
 (x_3 :
 Int64 ×
 List UInt8 ×
 List zt10 ×
 UInt8 × List UInt8 × List zt10 × UInt8 × UInt64 × UInt8 × Int64) =>
 obind g
 fun
 (x_4 :
 Option
 (List
 zt5) ×
 List
 ((Int64 × List UInt8) ×
 List zt10 ×
 UInt64 ×
 Bool ×
 UInt64 ×
 List
 zt7) ×
 UInt64) =>
 ojoinA (3931 : Nat)
 [PT.int IntKind.u64,
 PT.list
 zc0,
 PT.list
 (CTs.cons (CT.int IntKind.i64)
 (CTs.cons CT.str
 (CTs.cons (CT.ro zc6)
 zc0))),
 PT.int IntKind.i64, PT.int IntKind.i64,
 PT.optC
 (CTs.cons
 (CT.ro
 zc2)
 CTs.nil),
 PT.int IntKind.u64,
 PT.ents (VT.agg zc9)
 (VT.one
 (CT.ro
 zc0)),
 PT.int IntKind.i64, PT.bytes, PT.list zc6, PT.int IntKind.u8,
 PT.bytes, PT.list zc6, PT.int IntKind.u8, PT.int IntKind.u64,
 PT.int IntKind.u8, PT.int IntKind.i64,
 PT.ents (VT.agg zc9)
 (VT.agg
 (CTs.cons (CT.ro zc6)
 (CTs.cons (CT.int IntKind.u64)
 (CTs.cons CT.bool
 (CTs.cons (CT.int IntKind.u64)
 (CTs.cons
 (CT.rom (CTs.cons (CT.int IntKind.u8) zc6)
 zc0)
 CTs.nil))))))]
 (fun
 (J :
 Arr
 [PT.int IntKind.u64,
 PT.list
 zc0,
 PT.list
 (CTs.cons (CT.int IntKind.i64)
 (CTs.cons CT.str
 (CTs.cons (CT.ro zc6)
 zc0))),
 PT.int IntKind.i64, PT.int IntKind.i64,
 PT.optC
 (CTs.cons
 (CT.ro
 zc2)
 CTs.nil),
 PT.int IntKind.u64,
 PT.ents (VT.agg zc9)
 (VT.one
 (CT.ro
 zc0)),
 PT.int IntKind.i64, PT.bytes, PT.list zc6,
 PT.int IntKind.u8, PT.bytes, PT.list zc6, PT.int IntKind.u8,
 PT.int IntKind.u64, PT.int IntKind.u8, PT.int IntKind.i64,
 PT.ents (VT.agg zc9)
 (VT.agg
 (CTs.cons (CT.ro zc6)
 (CTs.cons (CT.int IntKind.u64)
 (CTs.cons CT.bool
 (CTs.cons (CT.int IntKind.u64)
 (CTs.cons
 (CT.rom (CTs.cons (CT.int IntKind.u8) zc6)
 zc0)
 CTs.nil))))))]
 (Option
 (List
 (UInt64 ×
 List UInt8 ×
 List zt10 ×
 List
 zt3) ×
 Option
 zt1))) =>
 oite
 (!Option.isSome
 (mget (VT.agg zc9)
 (VT.agg
 (CTs.cons (CT.ro zc6)
 (CTs.cons (CT.int IntKind.u64)
 (CTs.cons CT.bool
 (CTs.cons (CT.int IntKind.u64)
 (CTs.cons
 (CT.rom (CTs.cons (CT.int IntKind.u8) zc6)
 zc0)
 CTs.nil))))))
 (x_3.1, x_3.2.1) x_4.2.1))
 (oite (Nat.ble (List.length x_4.2.1) (4294967296 : Nat))
 (oite (decide (Int64.ofInt ↑(List.length x_4.2.1) = (256 : Int64)))
 (rec now all_ t t_1 (t_2 + (1 : Int64))
 (some (x_4.1, x_4.2.1, x_4.2.2)) in_)
 (obind (F30 n (x_4.1, x_3.1))
 fun
 (x_5 :
 (zt5 ×
 Bool) ×
 Unit) =>
 J now all_ t t_1 t_2 x_4.1 x_4.2.2 in_ x_3.1
 x_3.2.1 x_3.2.2.1
 x_3.2.2.2.1
 x_3.2.2.2.2.1
 x_3.2.2.2.2.2.1
 x_3.2.2.2.2.2.2.1
 x_3.2.2.2.2.2.2.2.1
 x_3.2.2.2.2.2.2.2.2.1
 x_3.2.2.2.2.2.2.2.2.2
 (mput (VT.agg zc9)
 (VT.agg
 (CTs.cons (CT.ro zc6)
 (CTs.cons (CT.int IntKind.u64)
 (CTs.cons CT.bool
 (CTs.cons (CT.int IntKind.u64)
 (CTs.cons
 (CT.rom (CTs.cons (CT.int IntKind.u8) zc6)
 zc0)
 CTs.nil))))))
 (x_3.1, x_3.2.1)
 (x_3.2.2.1,
 now + x_5.1.1.2.2.2.1, false,
 (0 : UInt64),
 @List.nil
 zt7)
 x_4.2.1)))
 none)
 (J now all_ t t_1 t_2 x_4.1 x_4.2.2 in_ x_3.1
 x_3.2.1 x_3.2.2.1
 x_3.2.2.2.1
 x_3.2.2.2.2.1
 x_3.2.2.2.2.2.1
 x_3.2.2.2.2.2.2.1
 x_3.2.2.2.2.2.2.2.1
 x_3.2.2.2.2.2.2.2.2.1
 x_3.2.2.2.2.2.2.2.2.2
 x_4.2.1))
 (F13_J3931 rec))
 (F13_R253 n n now all_ (Int64.ofInt ↑(List.length all_)) (0 : Int64) g in_ [])
noncomputable def F13_R61 : Nat →
 Nat →
 PT.T (PT.int IntKind.u64) →
 List zt3 →
 List
 (Int64 ×
 List UInt8 ×
 List zt10 ×
 UInt8 × List UInt8 × List zt10 × UInt8 × UInt64 × UInt8 × Int64) →
 Int64 →
 Int64 →
 Option
 zt1 →
 List
 ((Int64 × List UInt8) ×
 List zt3) →
 Option
 (List
 (UInt64 ×
 List UInt8 ×
 List zt10 ×
 List
 zt3) ×
 Option
 zt1) := fun (n : Nat) =>
 ofixA (61 : Nat)
 [PT.int IntKind.u64,
 PT.list
 zc0,
 PT.list
 (CTs.cons (CT.int IntKind.i64)
 (CTs.cons CT.str
 (CTs.cons (CT.ro zc6)
 zc0))),
 PT.int IntKind.i64, PT.int IntKind.i64,
 PT.opt
 (OTs.cons
 (OT.c
 (CT.rop
 (CTs.cons
 (CT.ro
 zc2)
 CTs.nil)))
 (OTs.cons
 (OT.map (VT.agg zc9)
 (VT.agg
 (CTs.cons (CT.ro zc6)
 (CTs.cons (CT.int IntKind.u64)
 (CTs.cons CT.bool
 (CTs.cons (CT.int IntKind.u64)
 (CTs.cons
 (CT.rom (CTs.cons (CT.int IntKind.u8) zc6)
 zc0)
 CTs.nil)))))))
 (OTs.cons (OT.c (CT.int IntKind.u64)) OTs.nil))),
 PT.ents (VT.agg zc9)
 (VT.one
 (CT.ro
 zc0))]
 (F13_L61 n)
noncomputable def F13 : Nat →
 Option
 zt1 ×
 UInt64 ×
 List zt3 ×
 List zt3 →
 Option
 (List
 (UInt64 ×
 List UInt8 ×
 List zt10 ×
 List zt3) ×
 Option
 zt1) := fun (n : Nat)
 (x :
 Option
 zt1 ×
 UInt64 ×
 List zt3 ×
 List zt3) =>
 oelim x.1
 (some
 (@List.nil
 (UInt64 ×
 List UInt8 ×
 List zt10 ×
 List zt3),
 none))
 fun
 (x_1 :
 Option
 (List
 zt5) ×
 List
 ((Int64 × List UInt8) ×
 List zt10 ×
 UInt64 ×
 Bool ×
 UInt64 ×
 List
 zt7) ×
 UInt64) =>
 oite (decide ((1099511627776 : UInt64) < x.2.1))
 (some
 (@List.nil
 (UInt64 ×
 List UInt8 ×
 List zt10 ×
 List zt3),
 some (x_1.1, x_1.2.1, x_1.2.2)))
 (obind
 (F29 n
 (some (x_1.1, x_1.2.1, x_1.2.2), x.2.2.1))
 fun
 (x_2 :
 List
 (Int64 ×
 List UInt8 ×
 List zt10 ×
 UInt8 × List UInt8 × List zt10 × UInt8 × UInt64 × UInt8 × Int64) ×
 Option
 zt1) =>
 F13_R61 n n x.2.1 x.2.2.2 x_2.1
 (Int64.ofInt ↑(List.length x_2.1)) (0 : Int64) x_2.2 [])
theorem F13_R1021_s (n : Nat) (m_ : Nat) : F13_R1021 n (m_ + 1) = F13_L1021 n (F13_R1021 n m_) := rfl
theorem F13_R253_s (n : Nat) (m_ : Nat) : F13_R253 n (m_ + 1) = F13_L253 n (F13_R253 n m_) := rfl
theorem F13_R61_s (n : Nat) (m_ : Nat) : F13_R61 n (m_ + 1) = F13_L61 n (F13_R61 n m_) := rfl
theorem ok13 (n : Nat) : FunOK Try.prog ⟨13, sig13, F13 n⟩ :=
 fun_ok (hints := ⟨[(3931, ⟨[(0, .one (.own 0)), (1, .one (.int .u64)), (3, .one (.ro zc4)), (9, .one (.own 4)), (11, .one (.own 5)), (33, .one (.ro (.cons (.int .i64) (.cons .str (.cons (.ro zc12) zc4))))), (34, .one (.int .i64)), (35, .one (.int .i64))], [(0, .cells [.rop (.cons (.ro zc8) .nil), .own 6, .int .u64]), (4, .map (.agg zc15) (.one (.ro zc4))), (5, .cells [.int .i64, .str, .ro zc12, .int .u8, .str, .ro zc12, .int .u8, .int .u64, .int .u8, .int .i64]), (6, .map (.agg zc15) (.agg (.cons (.ro zc12) (.cons (.int .u64) (.cons .bool (.cons (.int .u64) (.cons (.rom (.cons (.int .u8) zc12) zc4) .nil)))))))], 7⟩), (32685, ⟨[(0, .one (.own 0)), (1, .one (.int .u64)), (9, .one (.own 4)), (16, .one (.own 5)), (19, .one (.own 6)), (22, .one (.own 7)), (23, .one (.bool)), (108, .one (.ro zc15)), (109, .one (.int .i64)), (110, .one (.int .i64))], [(0, .fold (.cons (.c (.rop (.cons (.ro zc8) .nil))) (.cons (.map (.agg zc15) (.agg (.cons (.ro zc12) (.cons (.int .u64) (.cons .bool (.cons (.int .u64) (.cons (.rom (.cons (.int .u8) zc12) zc4) .nil))))))) (.cons (.c (.int .u64)) .nil)))), (4, .map (.agg zc15) (.one (.ro zc4))), (5, .sealedM (.cons (.int .u8) zc12) zc4), (6, .row (.cons (.int .u64) (.cons .str (.cons (.ro zc12) (.cons (.ro zc4) .nil))))), (7, .cells [.int .u64, .str, .ro zc12, .ro zc4])], 8⟩)], [(61, ⟨[(0, .one (.own 0)), (1, .one (.int .u64)), (3, .one (.ro zc4)), (9, .one (.own 4)), (33, .one (.ro (.cons (.int .i64) (.cons .str (.cons (.ro zc12) zc4))))), (34, .one (.int .i64)), (35, .one (.int .i64))], [(0, .fold (.cons (.c (.rop (.cons (.ro zc8) .nil))) (.cons (.map (.agg zc15) (.agg (.cons (.ro zc12) (.cons (.int .u64) (.cons .bool (.cons (.int .u64) (.cons (.rom (.cons (.int .u8) zc12) zc4) .nil))))))) (.cons (.c (.int .u64)) .nil)))), (4, .map (.agg zc15) (.one (.ro zc4)))], 5⟩), (253, ⟨[(0, .one (.own 0)), (1, .one (.int .u64)), (9, .one (.own 4)), (16, .one (.own 5)), (96, .one (.ro zc4)), (97, .one (.int .i64)), (98, .one (.int .i64))], [(0, .fold (.cons (.c (.rop (.cons (.ro zc8) .nil))) (.cons (.map (.agg zc15) (.agg (.cons (.ro zc12) (.cons (.int .u64) (.cons .bool (.cons (.int .u64) (.cons (.rom (.cons (.int .u8) zc12) zc4) .nil))))))) (.cons (.c (.int .u64)) .nil)))), (4, .map (.agg zc15) (.one (.ro zc4))), (5, .map (.agg (.cons (.int .u8) zc12)) (.agg zc4))], 6⟩), (1021, ⟨[(0, .one (.own 0)), (1, .one (.int .u64)), (9, .one (.own 4)), (16, .one (.own 5)), (19, .one (.own 6)), (108, .one (.ro zc15)), (109, .one (.int .i64)), (110, .one (.int .i64))], [(0, .fold (.cons (.c (.rop (.cons (.ro zc8) .nil))) (.cons (.map (.agg zc15) (.agg (.cons (.ro zc12) (.cons (.int .u64) (.cons .bool (.cons (.int .u64) (.cons (.rom (.cons (.int .u8) zc12) zc4) .nil))))))) (.cons (.c (.int .u64)) .nil)))), (4, .map (.agg zc15) (.one (.ro zc4))), (5, .sealedM (.cons (.int .u8) zc12) zc4), (6, .row (.cons (.int .u64) (.cons .str (.cons (.ro zc12) (.cons (.ro zc4) .nil)))))], 7⟩)]⟩) (fuel := n) (c := Try.f13.body.getD .skip) (rs := Try.f13.results.toList) tt_ok mix (FsOK.cons (ok29 n) (FsOK.cons (ok30 n) (FsOK.cons (ok31 n) (FsOK.cons (ok32 n) (FsOK.cons (ok33 n) (FsOK.nil)))))) Try.func13 (by kernel_rfl) (by kernel_rfl) rfl (by kernel_rfl) rfl rfl (by kernel_rfl)
-- watchfire/watchfirelaw21.Awake
def sig6 : Sig := ⟨.nil, (.cons (.one (.c .bool)) .nil)⟩
noncomputable def F6_L130903 : Arr
 [PT.int IntKind.i64, PT.int IntKind.i64, PT.int IntKind.u64,
 PT.opt
 (OTs.cons
 (OT.c
 (CT.rop
 (CTs.cons
 (CT.ro
 zc2)
 CTs.nil)))
 (OTs.cons
 (OT.map (VT.agg zc9)
 (VT.agg
 (CTs.cons (CT.ro zc6)
 (CTs.cons (CT.int IntKind.u64)
 (CTs.cons CT.bool
 (CTs.cons (CT.int IntKind.u64)
 (CTs.cons
 (CT.rom (CTs.cons (CT.int IntKind.u8) zc6)
 zc0)
 CTs.nil)))))))
 (OTs.cons (OT.c (CT.int IntKind.u64)) OTs.nil))),
 PT.int IntKind.u8, PT.bytes, PT.int IntKind.u8, PT.int IntKind.u64, PT.int IntKind.u8, PT.int IntKind.i64,
 PT.int IntKind.u8, PT.bytes, PT.int IntKind.u8, PT.int IntKind.u64, PT.int IntKind.u8, PT.int IntKind.i64,
 PT.list zc21]
 (Option (Bool × Unit)) →
 Arr
 [PT.int IntKind.i64, PT.int IntKind.i64, PT.int IntKind.u64,
 PT.list
 (CTs.cons (CT.int IntKind.u64)
 (CTs.cons CT.str
 (CTs.cons (CT.ro zc6)
 (CTs.cons
 (CT.ro
 zc0)
 CTs.nil)))),
 PT.int IntKind.i64, PT.int IntKind.i64,
 PT.opt
 (OTs.cons
 (OT.c
 (CT.rop
 (CTs.cons
 (CT.ro
 zc2)
 CTs.nil)))
 (OTs.cons
 (OT.map (VT.agg zc9)
 (VT.agg
 (CTs.cons (CT.ro zc6)
 (CTs.cons (CT.int IntKind.u64)
 (CTs.cons CT.bool
 (CTs.cons (CT.int IntKind.u64)
 (CTs.cons
 (CT.rom (CTs.cons (CT.int IntKind.u8) zc6)
 zc0)
 CTs.nil)))))))
 (OTs.cons (OT.c (CT.int IntKind.u64)) OTs.nil))),
 PT.int IntKind.u8, PT.bytes, PT.int IntKind.u8, PT.int IntKind.u64, PT.int IntKind.u8, PT.int IntKind.i64,
 PT.int IntKind.u8, PT.bytes, PT.int IntKind.u8, PT.int IntKind.u64, PT.int IntKind.u8, PT.int IntKind.i64,
 PT.list zc21]
 (Option (Bool × Unit)) →
 Int64 →
 Int64 →
 UInt64 →
 List
 (UInt64 ×
 List UInt8 ×
 List zt10 ×
 List zt3) →
 Int64 →
 Int64 →
 Option
 zt1 →
 UInt8 →
 List UInt8 →
 UInt8 →
 UInt64 →
 UInt8 →
 Int64 →
 UInt8 → List UInt8 → UInt8 → UInt64 → UInt8 → Int64 → List UInt64 → Option (Bool × Unit) := fun
 (rec :
 Arr
 [PT.int IntKind.i64, PT.int IntKind.i64, PT.int IntKind.u64,
 PT.opt
 (OTs.cons
 (OT.c
 (CT.rop
 (CTs.cons
 (CT.ro
 zc2)
 CTs.nil)))
 (OTs.cons
 (OT.map (VT.agg zc9)
 (VT.agg
 (CTs.cons (CT.ro zc6)
 (CTs.cons (CT.int IntKind.u64)
 (CTs.cons CT.bool
 (CTs.cons (CT.int IntKind.u64)
 (CTs.cons
 (CT.rom (CTs.cons (CT.int IntKind.u8) zc6)
 zc0)
 CTs.nil)))))))
 (OTs.cons (OT.c (CT.int IntKind.u64)) OTs.nil))),
 PT.int IntKind.u8, PT.bytes, PT.int IntKind.u8, PT.int IntKind.u64, PT.int IntKind.u8, PT.int IntKind.i64,
 PT.int IntKind.u8, PT.bytes, PT.int IntKind.u8, PT.int IntKind.u64, PT.int IntKind.u8, PT.int IntKind.i64,
 PT.list zc21]
 (Option (Bool × Unit)))
 (rec_1 :
 Arr
 [PT.int IntKind.i64, PT.int IntKind.i64, PT.int IntKind.u64,
 PT.list
 (CTs.cons (CT.int IntKind.u64)
 (CTs.cons CT.str
 (CTs.cons (CT.ro zc6)
 (CTs.cons
 (CT.ro
 zc0)
 CTs.nil)))),
 PT.int IntKind.i64, PT.int IntKind.i64,
 PT.opt
 (OTs.cons
 (OT.c
 (CT.rop
 (CTs.cons
 (CT.ro
 zc2)
 CTs.nil)))
 (OTs.cons
 (OT.map (VT.agg zc9)
 (VT.agg
 (CTs.cons (CT.ro zc6)
 (CTs.cons (CT.int IntKind.u64)
 (CTs.cons CT.bool
 (CTs.cons (CT.int IntKind.u64)
 (CTs.cons
 (CT.rom (CTs.cons (CT.int IntKind.u8) zc6)
 zc0)
 CTs.nil)))))))
 (OTs.cons (OT.c (CT.int IntKind.u64)) OTs.nil))),
 PT.int IntKind.u8, PT.bytes, PT.int IntKind.u8, PT.int IntKind.u64, PT.int IntKind.u8, PT.int IntKind.i64,
 PT.int IntKind.u8, PT.bytes, PT.int IntKind.u8, PT.int IntKind.u64, PT.int IntKind.u8, PT.int IntKind.i64,
 PT.list zc21]
 (Option (Bool × Unit)))
 (e_3 n__2 : Int64) (now_2 : UInt64)
 (t :
 List
 (UInt64 ×
 List UInt8 ×
 List zt10 ×
 List zt3))
 (t_1 t_2 : Int64)
 (g_3 :
 Option
 zt1)
 (a0_2 : UInt8) (a1_2 : List UInt8) (a3_2 : UInt8) (a4_2 : UInt64) (a5_2 : UInt8) (a6_2 : Int64) (b0_2 : UInt8)
 (b1_2 : List UInt8) (b3_2 : UInt8) (b4_2 : UInt64) (b5_2 : UInt8) (b6_2 : Int64) (at__2 : List UInt64) =>
 oite (decide (t_2 < t_1))
 (obind (at? t (Int64.toInt t_2))
 fun
 (x_3 :
 UInt64 ×
 List UInt8 ×
 List zt10 ×
 List zt3) =>
 oite (Nat.ble (List.length at__2 + List.length [x_3.1]) (4294967296 : Nat))
 (rec_1 e_3 (n__2 + Int64.ofInt ↑(List.length x_3.2.2.2)) now_2 t t_1
 (t_2 + (1 : Int64)) g_3 a0_2 a1_2 a3_2 a4_2 a5_2 a6_2 b0_2 b1_2 b3_2 b4_2 b5_2 b6_2 (at__2 ++ [x_3.1]))
 none)
 (rec e_3 n__2 (now_2 + (1 : UInt64)) g_3 a0_2 a1_2 a3_2 a4_2 a5_2 a6_2 b0_2 b1_2 b3_2 b4_2 b5_2 b6_2 at__2)
noncomputable def F6_R130903 : Arr
 [PT.int IntKind.i64, PT.int IntKind.i64, PT.int IntKind.u64,
 PT.opt
 (OTs.cons
 (OT.c
 (CT.rop
 (CTs.cons
 (CT.ro
 zc2)
 CTs.nil)))
 (OTs.cons
 (OT.map (VT.agg zc9)
 (VT.agg
 (CTs.cons (CT.ro zc6)
 (CTs.cons (CT.int IntKind.u64)
 (CTs.cons CT.bool
 (CTs.cons (CT.int IntKind.u64)
 (CTs.cons
 (CT.rom (CTs.cons (CT.int IntKind.u8) zc6)
 zc0)
 CTs.nil)))))))
 (OTs.cons (OT.c (CT.int IntKind.u64)) OTs.nil))),
 PT.int IntKind.u8, PT.bytes, PT.int IntKind.u8, PT.int IntKind.u64, PT.int IntKind.u8, PT.int IntKind.i64,
 PT.int IntKind.u8, PT.bytes, PT.int IntKind.u8, PT.int IntKind.u64, PT.int IntKind.u8, PT.int IntKind.i64,
 PT.list zc21]
 (Option (Bool × Unit)) →
 Nat →
 PT.T (PT.int IntKind.i64) →
 Int64 →
 UInt64 →
 List
 (UInt64 ×
 List UInt8 ×
 List zt10 ×
 List zt3) →
 Int64 →
 Int64 →
 Option
 zt1 →
 UInt8 →
 List UInt8 →
 UInt8 →
 UInt64 →
 UInt8 →
 Int64 →
 UInt8 → List UInt8 → UInt8 → UInt64 → UInt8 → Int64 → List UInt64 → Option (Bool × Unit) := fun
 (rec :
 Arr
 [PT.int IntKind.i64, PT.int IntKind.i64, PT.int IntKind.u64,
 PT.opt
 (OTs.cons
 (OT.c
 (CT.rop
 (CTs.cons
 (CT.ro
 zc2)
 CTs.nil)))
 (OTs.cons
 (OT.map (VT.agg zc9)
 (VT.agg
 (CTs.cons (CT.ro zc6)
 (CTs.cons (CT.int IntKind.u64)
 (CTs.cons CT.bool
 (CTs.cons (CT.int IntKind.u64)
 (CTs.cons
 (CT.rom (CTs.cons (CT.int IntKind.u8) zc6)
 zc0)
 CTs.nil)))))))
 (OTs.cons (OT.c (CT.int IntKind.u64)) OTs.nil))),
 PT.int IntKind.u8, PT.bytes, PT.int IntKind.u8, PT.int IntKind.u64, PT.int IntKind.u8, PT.int IntKind.i64,
 PT.int IntKind.u8, PT.bytes, PT.int IntKind.u8, PT.int IntKind.u64, PT.int IntKind.u8, PT.int IntKind.i64,
 PT.list zc21]
 (Option (Bool × Unit))) =>
 ofixA (130903 : Nat)
 [PT.int IntKind.i64, PT.int IntKind.i64, PT.int IntKind.u64,
 PT.list
 (CTs.cons (CT.int IntKind.u64)
 (CTs.cons CT.str
 (CTs.cons (CT.ro zc6)
 (CTs.cons
 (CT.ro
 zc0)
 CTs.nil)))),
 PT.int IntKind.i64, PT.int IntKind.i64,
 PT.opt
 (OTs.cons
 (OT.c
 (CT.rop
 (CTs.cons
 (CT.ro
 zc2)
 CTs.nil)))
 (OTs.cons
 (OT.map (VT.agg zc9)
 (VT.agg
 (CTs.cons (CT.ro zc6)
 (CTs.cons (CT.int IntKind.u64)
 (CTs.cons CT.bool
 (CTs.cons (CT.int IntKind.u64)
 (CTs.cons
 (CT.rom (CTs.cons (CT.int IntKind.u8) zc6)
 zc0)
 CTs.nil)))))))
 (OTs.cons (OT.c (CT.int IntKind.u64)) OTs.nil))),
 PT.int IntKind.u8, PT.bytes, PT.int IntKind.u8, PT.int IntKind.u64, PT.int IntKind.u8, PT.int IntKind.i64,
 PT.int IntKind.u8, PT.bytes, PT.int IntKind.u8, PT.int IntKind.u64, PT.int IntKind.u8, PT.int IntKind.i64,
 PT.list zc21]
 (F6_L130903 rec)
noncomputable def F6_J32725 : Nat →
 Arr
 [PT.int IntKind.i64, PT.int IntKind.i64, PT.int IntKind.u64,
 PT.opt
 (OTs.cons
 (OT.c
 (CT.rop
 (CTs.cons
 (CT.ro
 zc2)
 CTs.nil)))
 (OTs.cons
 (OT.map (VT.agg zc9)
 (VT.agg
 (CTs.cons (CT.ro zc6)
 (CTs.cons (CT.int IntKind.u64)
 (CTs.cons CT.bool
 (CTs.cons (CT.int IntKind.u64)
 (CTs.cons
 (CT.rom (CTs.cons (CT.int IntKind.u8) zc6)
 zc0)
 CTs.nil)))))))
 (OTs.cons (OT.c (CT.int IntKind.u64)) OTs.nil))),
 PT.int IntKind.u8, PT.bytes, PT.int IntKind.u8, PT.int IntKind.u64, PT.int IntKind.u8, PT.int IntKind.i64,
 PT.int IntKind.u8, PT.bytes, PT.int IntKind.u8, PT.int IntKind.u64, PT.int IntKind.u8, PT.int IntKind.i64,
 PT.list zc21]
 (Option (Bool × Unit)) →
 Int64 →
 Int64 →
 UInt64 →
 Option
 zt1 →
 UInt8 →
 List UInt8 →
 UInt8 →
 UInt64 →
 UInt8 →
 Int64 →
 UInt8 →
 List UInt8 →
 UInt8 →
 UInt64 →
 UInt8 →
 Int64 →
 List UInt64 →
 List
 zt3 →
 Option (Bool × Unit) := fun (n : Nat)
 (rec :
 Arr
 [PT.int IntKind.i64, PT.int IntKind.i64, PT.int IntKind.u64,
 PT.opt
 (OTs.cons
 (OT.c
 (CT.rop
 (CTs.cons
 (CT.ro
 zc2)
 CTs.nil)))
 (OTs.cons
 (OT.map (VT.agg zc9)
 (VT.agg
 (CTs.cons (CT.ro zc6)
 (CTs.cons (CT.int IntKind.u64)
 (CTs.cons CT.bool
 (CTs.cons (CT.int IntKind.u64)
 (CTs.cons
 (CT.rom (CTs.cons (CT.int IntKind.u8) zc6)
 zc0)
 CTs.nil)))))))
 (OTs.cons (OT.c (CT.int IntKind.u64)) OTs.nil))),
 PT.int IntKind.u8, PT.bytes, PT.int IntKind.u8, PT.int IntKind.u64, PT.int IntKind.u8, PT.int IntKind.i64,
 PT.int IntKind.u8, PT.bytes, PT.int IntKind.u8, PT.int IntKind.u64, PT.int IntKind.u8, PT.int IntKind.i64,
 PT.list zc21]
 (Option (Bool × Unit)))
 (e_2 n__1 : Int64) (now_1 : UInt64)
 (g_2 :
 Option
 zt1)
 (a0_1 : UInt8) (a1_1 : List UInt8) (a3_1 : UInt8) (a4_1 : UInt64) (a5_1 : UInt8) (a6_1 : Int64) (b0_1 : UInt8)
 (b1_1 : List UInt8) (b3_1 : UInt8) (b4_1 : UInt64) (b5_1 : UInt8) (b6_1 : Int64) (at__1 : List UInt64)
 (x_ : List zt3) =>
 obind (F13 n (g_2, now_1, x_, x_))
 fun
 (x_2 :
 List
 (UInt64 ×
 List UInt8 ×
 List zt10 ×
 List zt3) ×
 Option
 zt1) =>
 F6_R130903 rec n e_2 n__1 now_1 x_2.1 (Int64.ofInt ↑(List.length x_2.1)) (0 : Int64)
 x_2.2 a0_1 a1_1 a3_1 a4_1 a5_1 a6_1 b0_1 b1_1 b3_1 b4_1 b5_1 b6_1 at__1
noncomputable def F6_L2045 : Nat →
 Arr
 [PT.int IntKind.i64, PT.int IntKind.i64, PT.int IntKind.u64,
 PT.opt
 (OTs.cons
 (OT.c
 (CT.rop
 (CTs.cons
 (CT.ro
 zc2)
 CTs.nil)))
 (OTs.cons
 (OT.map (VT.agg zc9)
 (VT.agg
 (CTs.cons (CT.ro zc6)
 (CTs.cons (CT.int IntKind.u64)
 (CTs.cons CT.bool
 (CTs.cons (CT.int IntKind.u64)
 (CTs.cons
 (CT.rom (CTs.cons (CT.int IntKind.u8) zc6)
 zc0)
 CTs.nil)))))))
 (OTs.cons (OT.c (CT.int IntKind.u64)) OTs.nil))),
 PT.int IntKind.u8, PT.bytes, PT.int IntKind.u8, PT.int IntKind.u64, PT.int IntKind.u8, PT.int IntKind.i64,
 PT.int IntKind.u8, PT.bytes, PT.int IntKind.u8, PT.int IntKind.u64, PT.int IntKind.u8, PT.int IntKind.i64,
 PT.list zc21]
 (Option (Bool × Unit)) →
 Int64 →
 Int64 →
 UInt64 →
 Option
 zt1 →
 UInt8 →
 List UInt8 →
 UInt8 →
 UInt64 →
 UInt8 →
 Int64 → UInt8 → List UInt8 → UInt8 → UInt64 → UInt8 → Int64 → List UInt64 → Option (Bool × Unit) := fun (n : Nat)
 (rec :
 Arr
 [PT.int IntKind.i64, PT.int IntKind.i64, PT.int IntKind.u64,
 PT.opt
 (OTs.cons
 (OT.c
 (CT.rop
 (CTs.cons
 (CT.ro
 zc2)
 CTs.nil)))
 (OTs.cons
 (OT.map (VT.agg zc9)
 (VT.agg
 (CTs.cons (CT.ro zc6)
 (CTs.cons (CT.int IntKind.u64)
 (CTs.cons CT.bool
 (CTs.cons (CT.int IntKind.u64)
 (CTs.cons
 (CT.rom (CTs.cons (CT.int IntKind.u8) zc6)
 zc0)
 CTs.nil)))))))
 (OTs.cons (OT.c (CT.int IntKind.u64)) OTs.nil))),
 PT.int IntKind.u8, PT.bytes, PT.int IntKind.u8, PT.int IntKind.u64, PT.int IntKind.u8, PT.int IntKind.i64,
 PT.int IntKind.u8, PT.bytes, PT.int IntKind.u8, PT.int IntKind.u64, PT.int IntKind.u8, PT.int IntKind.i64,
 PT.list zc21]
 (Option (Bool × Unit)))
 (e_1 n_ : Int64) (now : UInt64)
 (g_1 :
 Option
 zt1)
 (a0 : UInt8) (a1 : List UInt8) (a3 : UInt8) (a4 : UInt64) (a5 : UInt8) (a6 : Int64) (b0 : UInt8) (b1 : List UInt8)
 (b3 : UInt8) (b4 : UInt64) (b5 : UInt8) (b6 : Int64) (at_ : List UInt64) =>
 oite (decide (now < (20 : UInt64)))
 (ojoinA (32725 : Nat)
 [PT.int IntKind.i64, PT.int IntKind.i64, PT.int IntKind.u64,
 PT.opt
 (OTs.cons
 (OT.c
 (CT.rop
 (CTs.cons
 (CT.ro
 zc2)
 CTs.nil)))
 (OTs.cons
 (OT.map (VT.agg zc9)
 (VT.agg
 (CTs.cons (CT.ro zc6)
 (CTs.cons (CT.int IntKind.u64)
 (CTs.cons CT.bool
 (CTs.cons (CT.int IntKind.u64)
 (CTs.cons
 (CT.rom (CTs.cons (CT.int IntKind.u8) zc6)
 zc0)
 CTs.nil)))))))
 (OTs.cons (OT.c (CT.int IntKind.u64)) OTs.nil))),
 PT.int IntKind.u8, PT.bytes, PT.int IntKind.u8, PT.int IntKind.u64, PT.int IntKind.u8, PT.int IntKind.i64,
 PT.int IntKind.u8, PT.bytes, PT.int IntKind.u8, PT.int IntKind.u64, PT.int IntKind.u8, PT.int IntKind.i64,
 PT.list zc21,
 PT.list
 zc0]
 (fun
 (J :
 Arr
 [PT.int IntKind.i64, PT.int IntKind.i64, PT.int IntKind.u64,
 PT.opt
 (OTs.cons
 (OT.c
 (CT.rop
 (CTs.cons
 (CT.ro
 zc2)
 CTs.nil)))
 (OTs.cons
 (OT.map (VT.agg zc9)
 (VT.agg
 (CTs.cons (CT.ro zc6)
 (CTs.cons (CT.int IntKind.u64)
 (CTs.cons CT.bool
 (CTs.cons (CT.int IntKind.u64)
 (CTs.cons
 (CT.rom (CTs.cons (CT.int IntKind.u8) zc6)
 zc0)
 CTs.nil)))))))
 (OTs.cons (OT.c (CT.int IntKind.u64)) OTs.nil))),
 PT.int IntKind.u8, PT.bytes, PT.int IntKind.u8, PT.int IntKind.u64, PT.int IntKind.u8,
 PT.int IntKind.i64, PT.int IntKind.u8, PT.bytes, PT.int IntKind.u8, PT.int IntKind.u64,
 PT.int IntKind.u8, PT.int IntKind.i64, PT.list zc21,
 PT.list
 zc0]
 (Option (Bool × Unit))) =>
 oite (decide ((4 : UInt64) ≤ now))
 (J e_1 n_ now g_1 a0 a1 a3 a4 a5 a6 b0 b1 b3 b4 b5 b6 at_
 [(b0, b1, @List.nil zt10, b3, b4, b5, b6)])
 (J e_1 n_ now g_1 a0 a1 a3 a4 a5 a6 b0 b1 b3 b4 b5 b6 at_
 [(a0, a1, @List.nil zt10, a3, a4, a5, a6)]))
 (F6_J32725 n rec))
 (oite (decide (e_1 = (0 : Int64)))
 (oite (decide (n_ = (2 : Int64)))
 (oite (Nat.blt (Int.toNat (Int64.toInt (0 : Int64))) (List.length at_))
 (obind at_[Int.toNat (Int64.toInt (0 : Int64))]? fun (x_2 : UInt64) =>
 oite (decide (x_2 = (3 : UInt64)))
 (oite (Nat.blt (Int.toNat (Int64.toInt (1 : Int64))) (List.length at_))
 (obind at_[Int.toNat (Int64.toInt (1 : Int64))]? fun (x_3 : UInt64) =>
 some (decide (x_3 = (8 : UInt64)), ()))
 none)
 (some (false, ())))
 none)
 (some (false, ())))
 (some (false, ())))
noncomputable def F6_R2045 : Nat →
 Nat →
 PT.T (PT.int IntKind.i64) →
 Int64 →
 UInt64 →
 Option
 zt1 →
 UInt8 →
 List UInt8 →
 UInt8 →
 UInt64 →
 UInt8 →
 Int64 → UInt8 → List UInt8 → UInt8 → UInt64 → UInt8 → Int64 → List UInt64 → Option (Bool × Unit) := fun (n : Nat) =>
 ofixA (2045 : Nat)
 [PT.int IntKind.i64, PT.int IntKind.i64, PT.int IntKind.u64,
 PT.opt
 (OTs.cons
 (OT.c
 (CT.rop
 (CTs.cons
 (CT.ro
 zc2)
 CTs.nil)))
 (OTs.cons
 (OT.map (VT.agg zc9)
 (VT.agg
 (CTs.cons (CT.ro zc6)
 (CTs.cons (CT.int IntKind.u64)
 (CTs.cons CT.bool
 (CTs.cons (CT.int IntKind.u64)
 (CTs.cons
 (CT.rom (CTs.cons (CT.int IntKind.u8) zc6)
 zc0)
 CTs.nil)))))))
 (OTs.cons (OT.c (CT.int IntKind.u64)) OTs.nil))),
 PT.int IntKind.u8, PT.bytes, PT.int IntKind.u8, PT.int IntKind.u64, PT.int IntKind.u8, PT.int IntKind.i64,
 PT.int IntKind.u8, PT.bytes, PT.int IntKind.u8, PT.int IntKind.u64, PT.int IntKind.u8, PT.int IntKind.i64,
 PT.list zc21]
 (F6_L2045 n)
noncomputable def F6_J7 : Nat →
 Int64 →
 Option
 zt1 →
 Option (Bool × Unit) := fun (n : Nat) (e : Int64)
 (g :
 Option
 zt1) =>
 F6_R2045 n n e (0 : Int64) (1 : UInt64) g (0 : UInt8) [(104 : UInt8), (111 : UInt8), (116 : UInt8)] (2 : UInt8)
 (0 : UInt64) (0 : UInt8) (0 : Int64) (0 : UInt8) [(104 : UInt8), (111 : UInt8), (116 : UInt8)] (0 : UInt8)
 (0 : UInt64) (0 : UInt8) (0 : Int64) []
noncomputable def F6 : Nat → Unit → Option (Bool × Unit) := fun (n : Nat) (x : Unit) =>
 obind
 (F11 n
 [(@List.nil zt14, [(111 : UInt8), (112 : UInt8), (115 : UInt8)],
 @List.nil (List UInt8), (2 : UInt64), (5 : UInt64), (50 : UInt64), false, (-1 : Int64))])
 fun
 (x_1 :
 (Option
 (List
 zt5) ×
 Int64) ×
 Unit) =>
 ojoinA (7 : Nat)
 [PT.int IntKind.i64,
 PT.opt
 (OTs.cons
 (OT.c
 (CT.rop
 (CTs.cons
 (CT.ro
 zc2)
 CTs.nil)))
 (OTs.cons
 (OT.map (VT.agg zc9)
 (VT.agg
 (CTs.cons (CT.ro zc6)
 (CTs.cons (CT.int IntKind.u64)
 (CTs.cons CT.bool
 (CTs.cons (CT.int IntKind.u64)
 (CTs.cons
 (CT.rom (CTs.cons (CT.int IntKind.u8) zc6)
 zc0)
 CTs.nil)))))))
 (OTs.cons (OT.c (CT.int IntKind.u64)) OTs.nil)))]
 (fun
 (J :
 Arr
 [PT.int IntKind.i64,
 PT.opt
 (OTs.cons
 (OT.c
 (CT.rop
 (CTs.cons
 (CT.ro
 zc2)
 CTs.nil)))
 (OTs.cons
 (OT.map (VT.agg zc9)
 (VT.agg
 (CTs.cons (CT.ro zc6)
 (CTs.cons (CT.int IntKind.u64)
 (CTs.cons CT.bool
 (CTs.cons (CT.int IntKind.u64)
 (CTs.cons
 (CT.rom (CTs.cons (CT.int IntKind.u8) zc6)
 zc0)
 CTs.nil)))))))
 (OTs.cons (OT.c (CT.int IntKind.u64)) OTs.nil)))]
 (Option (Bool × Unit))) =>
 oelim x_1.1.1
 (obind (F12 n none)
 fun
 (x_2 :
 (Option
 zt1 ×
 Int64) ×
 Unit) =>
 J x_2.1.2 x_2.1.1)
 fun
 (x_2 :
 List
 zt5) =>
 obind (F12 n (some x_2))
 fun
 (x_3 :
 (Option
 zt1 ×
 Int64) ×
 Unit) =>
 J x_3.1.2 x_3.1.1)
 (F6_J7 n)
theorem F6_R130903_s (rec : Arr [PT.int IntKind.i64, PT.int IntKind.i64, PT.int IntKind.u64, PT.opt (OTs.cons (OT.c (CT.rop (CTs.cons (CT.ro zc2) CTs.nil))) (OTs.cons (OT.map (VT.agg zc9) (VT.agg (CTs.cons (CT.ro zc6) (CTs.cons (CT.int IntKind.u64) (CTs.cons CT.bool (CTs.cons (CT.int IntKind.u64) (CTs.cons (CT.rom (CTs.cons (CT.int IntKind.u8) zc6) zc0) CTs.nil))))))) (OTs.cons (OT.c (CT.int IntKind.u64)) OTs.nil))), PT.int IntKind.u8, PT.bytes, PT.int IntKind.u8, PT.int IntKind.u64, PT.int IntKind.u8, PT.int IntKind.i64, PT.int IntKind.u8, PT.bytes, PT.int IntKind.u8, PT.int IntKind.u64, PT.int IntKind.u8, PT.int IntKind.i64, PT.list zc21] (Option (Bool × Unit))) (m_ : Nat) : F6_R130903 rec (m_ + 1) = F6_L130903 rec (F6_R130903 rec m_) := rfl
theorem F6_R2045_s (n : Nat) (m_ : Nat) : F6_R2045 n (m_ + 1) = F6_L2045 n (F6_R2045 n m_) := rfl
theorem ok6 (n : Nat) : FunOK Try.prog ⟨6, sig6, F6 n⟩ :=
 fun_ok (hints := ⟨[(7, ⟨[(3, .one (.own 0)), (4, .one (.int .i64))], [(0, .fold (.cons (.c (.rop (.cons (.ro zc8) .nil))) (.cons (.map (.agg zc15) (.agg (.cons (.ro zc12) (.cons (.int .u64) (.cons .bool (.cons (.int .u64) (.cons (.rom (.cons (.int .u8) zc12) zc4) .nil))))))) (.cons (.c (.int .u64)) .nil))))], 1⟩), (32725, ⟨[(3, .one (.own 0)), (4, .one (.int .i64)), (5, .one (.own 1)), (6, .one (.own 2)), (7, .one (.int .i64)), (8, .one (.own 3)), (9, .one (.int .u64)), (10, .one (.own 4))], [(0, .fold (.cons (.c (.rop (.cons (.ro zc8) .nil))) (.cons (.map (.agg zc15) (.agg (.cons (.ro zc12) (.cons (.int .u64) (.cons .bool (.cons (.int .u64) (.cons (.rom (.cons (.int .u8) zc12) zc4) .nil))))))) (.cons (.c (.int .u64)) .nil)))), (1, .cells [.int .u8, .str, .nils, .int .u8, .int .u64, .int .u8, .int .i64]), (2, .cells [.int .u8, .str, .nils, .int .u8, .int .u64, .int .u8, .int .i64]), (3, .row (.cons (.int .u64) .nil)), (4, .row zc4)], 5⟩)], [(2045, ⟨[(3, .one (.own 0)), (4, .one (.int .i64)), (5, .one (.own 1)), (6, .one (.own 2)), (7, .one (.int .i64)), (8, .one (.own 3)), (9, .one (.int .u64))], [(0, .fold (.cons (.c (.rop (.cons (.ro zc8) .nil))) (.cons (.map (.agg zc15) (.agg (.cons (.ro zc12) (.cons (.int .u64) (.cons .bool (.cons (.int .u64) (.cons (.rom (.cons (.int .u8) zc12) zc4) .nil))))))) (.cons (.c (.int .u64)) .nil)))), (1, .cells [.int .u8, .str, .nils, .int .u8, .int .u64, .int .u8, .int .i64]), (2, .cells [.int .u8, .str, .nils, .int .u8, .int .u64, .int .u8, .int .i64]), (3, .row (.cons (.int .u64) .nil))], 4⟩), (130903, ⟨[(3, .one (.own 0)), (4, .one (.int .i64)), (5, .one (.own 1)), (6, .one (.own 2)), (7, .one (.int .i64)), (8, .one (.own 3)), (9, .one (.int .u64)), (43, .one (.ro (.cons (.int .u64) (.cons .str (.cons (.ro zc12) (.cons (.ro zc4) .nil)))))), (44, .one (.int .i64)), (45, .one (.int .i64))], [(0, .fold (.cons (.c (.rop (.cons (.ro zc8) .nil))) (.cons (.map (.agg zc15) (.agg (.cons (.ro zc12) (.cons (.int .u64) (.cons .bool (.cons (.int .u64) (.cons (.rom (.cons (.int .u8) zc12) zc4) .nil))))))) (.cons (.c (.int .u64)) .nil)))), (1, .cells [.int .u8, .str, .nils, .int .u8, .int .u64, .int .u8, .int .i64]), (2, .cells [.int .u8, .str, .nils, .int .u8, .int .u64, .int .u8, .int .i64]), (3, .row (.cons (.int .u64) .nil))], 4⟩)]⟩) (fuel := n) (c := Try.f6.body.getD .skip) (rs := Try.f6.results.toList) tt_ok mix (FsOK.cons (ok11 n) (FsOK.cons (ok12 n) (FsOK.cons (ok13 n) (FsOK.nil)))) Try.func6 (by kernel_rfl) (by kernel_rfl) rfl (by kernel_rfl) rfl rfl (by kernel_rfl)
end Go.Proofs.Ytcfckkmiaeegpaa
