/- What the functions of this seat compute, found by walking their code symbolically: each F is what the walk finds, each ok says that the Go function keeps it as a contract. Printed by a program of this repo's. -/
import Derived.Test.YtgknjddbbehboaaGreatProg
import Derived.KernelRfl
import Derived.Test.YtgknjddbbehboaaGreatSxClone
open Go Go.Sx
namespace Go.Proofs.YtgknjddbbehboaaGreat
set_option maxRecDepth 100000
set_option linter.unusedVariables false
def tt : TT := [(2, ⟨.int .i64, 1, 8, some (.int .i64 0), false⟩), (3, ⟨.int .i64, 1, 8, some (.int .i64 0), false⟩), (4, ⟨.bool, 1, 1, some (.bool false), false⟩), (5, ⟨.int .u8, 1, 1, some (.int .u8 0), false⟩), (9, ⟨.str, 1, 16, some (.string ⟨#[]⟩), false⟩), (21, ⟨.int .i32, 1, 4, some (.int .i32 0), false⟩), (22, ⟨.slice 5, 1, 24, some (.slice none 0 0), false⟩), (23, ⟨.int .u16, 1, 2, some (.int .u16 0), false⟩), (24, ⟨.int .u64, 1, 8, some (.int .u64 0), false⟩), (26, ⟨.struct [(0, 4, false), (1, 5, false), (2, 5, false), (3, 5, false), (4, 23, false), (5, 23, false), (6, 23, false), (7, 5, false), (8, 5, false), (9, 5, false), (10, 4, false)], 11, 14, some (.agg #[.bool false, .int .u8 0, .int .u8 0, .int .u8 0, .int .u16 0, .int .u16 0, .int .u16 0, .int .u8 0, .int .u8 0, .int .u8 0, .bool false]), false⟩), (28, ⟨.struct [(0, 5, false), (1, 5, false), (2, 5, false), (3, 23, false), (4, 23, false), (5, 23, false), (6, 23, false), (7, 24, false), (8, 26, false)], 19, 40, some (.agg #[.int .u8 0, .int .u8 0, .int .u8 0, .int .u16 0, .int .u16 0, .int .u16 0, .int .u16 0, .int .u64 0, .bool false, .int .u8 0, .int .u8 0, .int .u8 0, .int .u16 0, .int .u16 0, .int .u16 0, .int .u8 0, .int .u8 0, .int .u8 0, .bool false]), false⟩), (30, ⟨.ptr 71, 1, 8, some (.pointer none), false⟩), (33, ⟨.slice 101, 1, 24, some (.slice none 0 0), false⟩), (34, ⟨.int .u8, 1, 1, some (.int .u8 0), false⟩), (36, ⟨.struct [(0, 5, false), (1, 24, false), (2, 24, false), (3, 9, false), (4, 33, false), (5, 34, false), (6, 5, false), (7, 2, false), (8, 5, false)], 9, 88, some (.agg #[.int .u8 0, .int .u64 0, .int .u64 0, .string ⟨#[]⟩, .slice none 0 0, .int .u8 0, .int .u8 0, .int .i64 0, .int .u8 0]), false⟩), (38, ⟨.struct [(0, 5, false), (1, 24, false), (2, 24, false)], 3, 24, some (.agg #[.int .u8 0, .int .u64 0, .int .u64 0]), false⟩), (40, ⟨.struct [(0, 4, false), (1, 36, false), (10, 38, false)], 13, 120, some (.agg #[.bool false, .int .u8 0, .int .u64 0, .int .u64 0, .string ⟨#[]⟩, .slice none 0 0, .int .u8 0, .int .u8 0, .int .i64 0, .int .u8 0, .int .u8 0, .int .u64 0, .int .u64 0]), false⟩), (42, ⟨.struct [(0, 5, false), (1, 5, false), (2, 5, false), (3, 24, false), (4, 24, false), (5, 40, false), (18, 24, false), (19, 24, false), (20, 24, false)], 21, 168, some (.agg #[.int .u8 0, .int .u8 0, .int .u8 0, .int .u64 0, .int .u64 0, .bool false, .int .u8 0, .int .u64 0, .int .u64 0, .string ⟨#[]⟩, .slice none 0 0, .int .u8 0, .int .u8 0, .int .i64 0, .int .u8 0, .int .u8 0, .int .u64 0, .int .u64 0, .int .u64 0, .int .u64 0, .int .u64 0]), false⟩), (45, ⟨.slice 22, 1, 24, some (.slice none 0 0), false⟩), (46, ⟨.int .i64, 1, 8, some (.int .i64 0), false⟩), (55, ⟨.struct [], 0, 0, some (.agg #[]), false⟩), (56, ⟨.struct [], 0, 0, some (.agg #[]), false⟩), (57, ⟨.int .u32, 1, 4, some (.int .u32 0), false⟩), (59, ⟨.struct [(0, 56, true), (0, 57, false)], 1, 4, some (.agg #[.int .u32 0]), false⟩), (61, ⟨.struct [(0, 21, false), (1, 57, false)], 2, 8, some (.agg #[.int .i32 0, .int .u32 0]), false⟩), (63, ⟨.struct [(0, 55, true), (0, 61, false)], 2, 8, some (.agg #[.int .i32 0, .int .u32 0]), false⟩), (65, ⟨.struct [(0, 55, true), (0, 59, false), (1, 63, false)], 3, 12, some (.agg #[.int .u32 0, .int .i32 0, .int .u32 0]), false⟩), (66, ⟨.arr 256 57, 256, 1024, some (.agg #[.int .u32 0, .int .u32 0, .int .u32 0, .int .u32 0, .int .u32 0, .int .u32 0, .int .u32 0, .int .u32 0, .int .u32 0, .int .u32 0, .int .u32 0, .int .u32 0, .int .u32 0, .int .u32 0, .int .u32 0, .int .u32 0, .int .u32 0, .int .u32 0, .int .u32 0, .int .u32 0, .int .u32 0, .int .u32 0, .int .u32 0, .int .u32 0, .int .u32 0, .int .u32 0, .int .u32 0, .int .u32 0, .int .u32 0, .int .u32 0, .int .u32 0, .int .u32 0, .int .u32 0, .int .u32 0, .int .u32 0, .int .u32 0, .int .u32 0, .int .u32 0, .int .u32 0, .int .u32 0, .int .u32 0, .int .u32 0, .int .u32 0, .int .u32 0, .int .u32 0, .int .u32 0, .int .u32 0, .int .u32 0, .int .u32 0, .int .u32 0, .int .u32 0, .int .u32 0, .int .u32 0, .int .u32 0, .int .u32 0, .int .u32 0, .int .u32 0, .int .u32 0, .int .u32 0, .int .u32 0, .int .u32 0, .int .u32 0, .int .u32 0, .int .u32 0, .int .u32 0, .int .u32 0, .int .u32 0, .int .u32 0, .int .u32 0, .int .u32 0, .int .u32 0, .int .u32 0, .int .u32 0, .int .u32 0, .int .u32 0, .int .u32 0, .int .u32 0, .int .u32 0, .int .u32 0, .int .u32 0, .int .u32 0, .int .u32 0, .int .u32 0, .int .u32 0, .int .u32 0, .int .u32 0, .int .u32 0, .int .u32 0, .int .u32 0, .int .u32 0, .int .u32 0, .int .u32 0, .int .u32 0, .int .u32 0, .int .u32 0, .int .u32 0, .int .u32 0, .int .u32 0, .int .u32 0, .int .u32 0, .int .u32 0, .int .u32 0, .int .u32 0, .int .u32 0, .int .u32 0, .int .u32 0, .int .u32 0, .int .u32 0, .int .u32 0, .int .u32 0, .int .u32 0, .int .u32 0, .int .u32 0, .int .u32 0, .int .u32 0, .int .u32 0, .int .u32 0, .int .u32 0, .int .u32 0, .int .u32 0, .int .u32 0, .int .u32 0, .int .u32 0, .int .u32 0, .int .u32 0, .int .u32 0, .int .u32 0, .int .u32 0, .int .u32 0, .int .u32 0, .int .u32 0, .int .u32 0, .int .u32 0, .int .u32 0, .int .u32 0, .int .u32 0, .int .u32 0, .int .u32 0, .int .u32 0, .int .u32 0, .int .u32 0, .int .u32 0, .int .u32 0, .int .u32 0, .int .u32 0, .int .u32 0, .int .u32 0, .int .u32 0, .int .u32 0, .int .u32 0, .int .u32 0, .int .u32 0, .int .u32 0, .int .u32 0, .int .u32 0, .int .u32 0, .int .u32 0, .int .u32 0, .int .u32 0, .int .u32 0, .int .u32 0, .int .u32 0, .int .u32 0, .int .u32 0, .int .u32 0, .int .u32 0, .int .u32 0, .int .u32 0, .int .u32 0, .int .u32 0, .int .u32 0, .int .u32 0, .int .u32 0, .int .u32 0, .int .u32 0, .int .u32 0, .int .u32 0, .int .u32 0, .int .u32 0, .int .u32 0, .int .u32 0, .int .u32 0, .int .u32 0, .int .u32 0, .int .u32 0, .int .u32 0, .int .u32 0, .int .u32 0, .int .u32 0, .int .u32 0, .int .u32 0, .int .u32 0, .int .u32 0, .int .u32 0, .int .u32 0, .int .u32 0, .int .u32 0, .int .u32 0, .int .u32 0, .int .u32 0, .int .u32 0, .int .u32 0, .int .u32 0, .int .u32 0, .int .u32 0, .int .u32 0, .int .u32 0, .int .u32 0, .int .u32 0, .int .u32 0, .int .u32 0, .int .u32 0, .int .u32 0, .int .u32 0, .int .u32 0, .int .u32 0, .int .u32 0, .int .u32 0, .int .u32 0, .int .u32 0, .int .u32 0, .int .u32 0, .int .u32 0, .int .u32 0, .int .u32 0, .int .u32 0, .int .u32 0, .int .u32 0, .int .u32 0, .int .u32 0, .int .u32 0, .int .u32 0, .int .u32 0, .int .u32 0, .int .u32 0, .int .u32 0, .int .u32 0, .int .u32 0, .int .u32 0, .int .u32 0, .int .u32 0, .int .u32 0, .int .u32 0, .int .u32 0, .int .u32 0, .int .u32 0, .int .u32 0, .int .u32 0, .int .u32 0, .int .u32 0, .int .u32 0, .int .u32 0, .int .u32 0, .int .u32 0, .int .u32 0, .int .u32 0]), false⟩), (67, ⟨.struct [], 0, 0, some (.agg #[]), false⟩), (69, ⟨.struct [(0, 56, true), (0, 67, true), (0, 24, false)], 1, 8, some (.agg #[.int .u64 0]), false⟩), (71, ⟨.struct [(0, 65, false), (3, 66, false), (259, 69, false), (260, 69, false)], 261, 1056, some (.agg #[.int .u32 0, .int .i32 0, .int .u32 0, .int .u32 0, .int .u32 0, .int .u32 0, .int .u32 0, .int .u32 0, .int .u32 0, .int .u32 0, .int .u32 0, .int .u32 0, .int .u32 0, .int .u32 0, .int .u32 0, .int .u32 0, .int .u32 0, .int .u32 0, .int .u32 0, .int .u32 0, .int .u32 0, .int .u32 0, .int .u32 0, .int .u32 0, .int .u32 0, .int .u32 0, .int .u32 0, .int .u32 0, .int .u32 0, .int .u32 0, .int .u32 0, .int .u32 0, .int .u32 0, .int .u32 0, .int .u32 0, .int .u32 0, .int .u32 0, .int .u32 0, .int .u32 0, .int .u32 0, .int .u32 0, .int .u32 0, .int .u32 0, .int .u32 0, .int .u32 0, .int .u32 0, .int .u32 0, .int .u32 0, .int .u32 0, .int .u32 0, .int .u32 0, .int .u32 0, .int .u32 0, .int .u32 0, .int .u32 0, .int .u32 0, .int .u32 0, .int .u32 0, .int .u32 0, .int .u32 0, .int .u32 0, .int .u32 0, .int .u32 0, .int .u32 0, .int .u32 0, .int .u32 0, .int .u32 0, .int .u32 0, .int .u32 0, .int .u32 0, .int .u32 0, .int .u32 0, .int .u32 0, .int .u32 0, .int .u32 0, .int .u32 0, .int .u32 0, .int .u32 0, .int .u32 0, .int .u32 0, .int .u32 0, .int .u32 0, .int .u32 0, .int .u32 0, .int .u32 0, .int .u32 0, .int .u32 0, .int .u32 0, .int .u32 0, .int .u32 0, .int .u32 0, .int .u32 0, .int .u32 0, .int .u32 0, .int .u32 0, .int .u32 0, .int .u32 0, .int .u32 0, .int .u32 0, .int .u32 0, .int .u32 0, .int .u32 0, .int .u32 0, .int .u32 0, .int .u32 0, .int .u32 0, .int .u32 0, .int .u32 0, .int .u32 0, .int .u32 0, .int .u32 0, .int .u32 0, .int .u32 0, .int .u32 0, .int .u32 0, .int .u32 0, .int .u32 0, .int .u32 0, .int .u32 0, .int .u32 0, .int .u32 0, .int .u32 0, .int .u32 0, .int .u32 0, .int .u32 0, .int .u32 0, .int .u32 0, .int .u32 0, .int .u32 0, .int .u32 0, .int .u32 0, .int .u32 0, .int .u32 0, .int .u32 0, .int .u32 0, .int .u32 0, .int .u32 0, .int .u32 0, .int .u32 0, .int .u32 0, .int .u32 0, .int .u32 0, .int .u32 0, .int .u32 0, .int .u32 0, .int .u32 0, .int .u32 0, .int .u32 0, .int .u32 0, .int .u32 0, .int .u32 0, .int .u32 0, .int .u32 0, .int .u32 0, .int .u32 0, .int .u32 0, .int .u32 0, .int .u32 0, .int .u32 0, .int .u32 0, .int .u32 0, .int .u32 0, .int .u32 0, .int .u32 0, .int .u32 0, .int .u32 0, .int .u32 0, .int .u32 0, .int .u32 0, .int .u32 0, .int .u32 0, .int .u32 0, .int .u32 0, .int .u32 0, .int .u32 0, .int .u32 0, .int .u32 0, .int .u32 0, .int .u32 0, .int .u32 0, .int .u32 0, .int .u32 0, .int .u32 0, .int .u32 0, .int .u32 0, .int .u32 0, .int .u32 0, .int .u32 0, .int .u32 0, .int .u32 0, .int .u32 0, .int .u32 0, .int .u32 0, .int .u32 0, .int .u32 0, .int .u32 0, .int .u32 0, .int .u32 0, .int .u32 0, .int .u32 0, .int .u32 0, .int .u32 0, .int .u32 0, .int .u32 0, .int .u32 0, .int .u32 0, .int .u32 0, .int .u32 0, .int .u32 0, .int .u32 0, .int .u32 0, .int .u32 0, .int .u32 0, .int .u32 0, .int .u32 0, .int .u32 0, .int .u32 0, .int .u32 0, .int .u32 0, .int .u32 0, .int .u32 0, .int .u32 0, .int .u32 0, .int .u32 0, .int .u32 0, .int .u32 0, .int .u32 0, .int .u32 0, .int .u32 0, .int .u32 0, .int .u32 0, .int .u32 0, .int .u32 0, .int .u32 0, .int .u32 0, .int .u32 0, .int .u32 0, .int .u32 0, .int .u32 0, .int .u32 0, .int .u32 0, .int .u32 0, .int .u32 0, .int .u32 0, .int .u32 0, .int .u32 0, .int .u32 0, .int .u32 0, .int .u32 0, .int .u32 0, .int .u32 0, .int .u32 0, .int .u32 0, .int .u32 0, .int .u32 0, .int .u32 0, .int .u32 0, .int .u32 0, .int .u32 0, .int .u64 0, .int .u64 0]), false⟩), (74, ⟨.slice 24, 1, 24, some (.slice none 0 0), false⟩), (78, ⟨.arr 4 5, 4, 4, some (.agg #[.int .u8 0, .int .u8 0, .int .u8 0, .int .u8 0]), false⟩), (83, ⟨.ptr 111, 1, 8, some (.pointer none), false⟩), (93, ⟨.struct [(0, 22, false)], 1, 24, some (.agg #[.slice none 0 0]), false⟩), (97, ⟨.ptr 93, 1, 8, some (.pointer none), false⟩), (101, ⟨.struct [(0, 9, false), (1, 9, false)], 2, 32, some (.agg #[.string ⟨#[]⟩, .string ⟨#[]⟩]), false⟩), (104, ⟨.slice 9, 1, 24, some (.slice none 0 0), false⟩), (111, ⟨.struct [(0, 22, false), (1, 46, false)], 2, 32, some (.agg #[.slice none 0 0, .int .i64 0]), false⟩)]
theorem tt_ok : TTOK Tryz.prog tt := TTOK.of_rows (by kernel_rfl)
theorem mix : Tryz.prog.follows .mixedOrders = true := by kernel_rfl
-- (*watchfire/crc.Table).fill
def sig59 : Sig := ⟨(.cons (.one (.ptrA (.cons (.c (.int .u32)) (.cons (.c (.int .i32)) (.cons (.c (.int .u32)) .nil))) (.int .u32) 256 (.cons (.c (.int .u64)) (.cons (.c (.int .u64)) .nil)))) .nil), .nil⟩
def F59_L877 : Arr
 [PT.int IntKind.i64,
 PT.optA
 (OTs.cons (OT.c (CT.int IntKind.u32))
 (OTs.cons (OT.c (CT.int IntKind.i32)) (OTs.cons (OT.c (CT.int IntKind.u32)) OTs.nil)))
 (CT.int IntKind.u32) (OTs.cons (OT.c (CT.int IntKind.u64)) (OTs.cons (OT.c (CT.int IntKind.u64)) OTs.nil))]
 (Option (Unit × Option ((UInt32 × Int32 × UInt32) × List UInt32 × UInt64 × UInt64))) →
 Arr
 [PT.int IntKind.i64, PT.int IntKind.u32, PT.int IntKind.i64, PT.int IntKind.i64,
 PT.optA
 (OTs.cons (OT.c (CT.int IntKind.u32))
 (OTs.cons (OT.c (CT.int IntKind.i32)) (OTs.cons (OT.c (CT.int IntKind.u32)) OTs.nil)))
 (CT.int IntKind.u32) (OTs.cons (OT.c (CT.int IntKind.u64)) (OTs.cons (OT.c (CT.int IntKind.u64)) OTs.nil))]
 (Option (Unit × Option ((UInt32 × Int32 × UInt32) × List UInt32 × UInt64 × UInt64))) →
 Int64 →
 UInt32 →
 Int64 →
 Int64 →
 Option ((UInt32 × Int32 × UInt32) × List UInt32 × UInt64 × UInt64) →
 Option (Unit × Option ((UInt32 × Int32 × UInt32) × List UInt32 × UInt64 × UInt64)) := fun
 (rec :
 Arr
 [PT.int IntKind.i64,
 PT.optA
 (OTs.cons (OT.c (CT.int IntKind.u32))
 (OTs.cons (OT.c (CT.int IntKind.i32)) (OTs.cons (OT.c (CT.int IntKind.u32)) OTs.nil)))
 (CT.int IntKind.u32) (OTs.cons (OT.c (CT.int IntKind.u64)) (OTs.cons (OT.c (CT.int IntKind.u64)) OTs.nil))]
 (Option (Unit × Option ((UInt32 × Int32 × UInt32) × List UInt32 × UInt64 × UInt64))))
 (rec_1 :
 Arr
 [PT.int IntKind.i64, PT.int IntKind.u32, PT.int IntKind.i64, PT.int IntKind.i64,
 PT.optA
 (OTs.cons (OT.c (CT.int IntKind.u32))
 (OTs.cons (OT.c (CT.int IntKind.i32)) (OTs.cons (OT.c (CT.int IntKind.u32)) OTs.nil)))
 (CT.int IntKind.u32) (OTs.cons (OT.c (CT.int IntKind.u64)) (OTs.cons (OT.c (CT.int IntKind.u64)) OTs.nil))]
 (Option (Unit × Option ((UInt32 × Int32 × UInt32) × List UInt32 × UInt64 × UInt64))))
 (i : Int64) (n_ : UInt32) (t_2 t_1_1 : Int64)
 (t_2_1 : Option ((UInt32 × Int32 × UInt32) × List UInt32 × UInt64 × UInt64)) =>
 oite (decide (t_1_1 < (8 : Int64)))
 (oite (decide (n_ &&& (1 : UInt32) = (1 : UInt32)))
 (rec_1 i (IK.shr IntKind.u32 n_ ↑(UInt64.toNat (1 : UInt64)) ^^^ (3988292384 : UInt32)) t_2 (t_1_1 + (1 : Int64))
 t_2_1)
 (rec_1 i (IK.shr IntKind.u32 n_ ↑(UInt64.toNat (1 : UInt64))) t_2 (t_1_1 + (1 : Int64)) t_2_1))
 (obind t_2_1 fun (x_1 : (UInt32 × Int32 × UInt32) × List UInt32 × UInt64 × UInt64) =>
 oite (decide ((0 : Int) ≤ Int64.toInt i))
 (oite (Nat.blt (Int.toNat (Int64.toInt i)) (256 : Nat))
 (oite (Nat.blt (Int.toNat (Int64.toInt i) * (1 : Nat)) (List.length (Prod.fst (Prod.snd x_1))))
 (rec (t_2 + (1 : Int64))
 (some
 ((Prod.fst (Prod.fst x_1), Prod.fst (Prod.snd (Prod.fst x_1)), Prod.snd (Prod.snd (Prod.fst x_1))),
 List.set (Prod.fst (Prod.snd x_1)) (Int.toNat (Int64.toInt i) * (1 : Nat)) n_,
 Prod.fst (Prod.snd (Prod.snd x_1)), Prod.snd (Prod.snd (Prod.snd x_1)))))
 none)
 none)
 none)
def F59_R877 : Arr
 [PT.int IntKind.i64,
 PT.optA
 (OTs.cons (OT.c (CT.int IntKind.u32))
 (OTs.cons (OT.c (CT.int IntKind.i32)) (OTs.cons (OT.c (CT.int IntKind.u32)) OTs.nil)))
 (CT.int IntKind.u32) (OTs.cons (OT.c (CT.int IntKind.u64)) (OTs.cons (OT.c (CT.int IntKind.u64)) OTs.nil))]
 (Option (Unit × Option ((UInt32 × Int32 × UInt32) × List UInt32 × UInt64 × UInt64))) →
 Nat →
 PT.T (PT.int IntKind.i64) →
 UInt32 →
 Int64 →
 Int64 →
 Option ((UInt32 × Int32 × UInt32) × List UInt32 × UInt64 × UInt64) →
 Option (Unit × Option ((UInt32 × Int32 × UInt32) × List UInt32 × UInt64 × UInt64)) := fun
 (rec :
 Arr
 [PT.int IntKind.i64,
 PT.optA
 (OTs.cons (OT.c (CT.int IntKind.u32))
 (OTs.cons (OT.c (CT.int IntKind.i32)) (OTs.cons (OT.c (CT.int IntKind.u32)) OTs.nil)))
 (CT.int IntKind.u32) (OTs.cons (OT.c (CT.int IntKind.u64)) (OTs.cons (OT.c (CT.int IntKind.u64)) OTs.nil))]
 (Option (Unit × Option ((UInt32 × Int32 × UInt32) × List UInt32 × UInt64 × UInt64)))) =>
 ofixA (877 : Nat)
 [PT.int IntKind.i64, PT.int IntKind.u32, PT.int IntKind.i64, PT.int IntKind.i64,
 PT.optA
 (OTs.cons (OT.c (CT.int IntKind.u32))
 (OTs.cons (OT.c (CT.int IntKind.i32)) (OTs.cons (OT.c (CT.int IntKind.u32)) OTs.nil)))
 (CT.int IntKind.u32) (OTs.cons (OT.c (CT.int IntKind.u64)) (OTs.cons (OT.c (CT.int IntKind.u64)) OTs.nil))]
 (F59_L877 rec)
def F59_L3 : Nat →
 Arr
 [PT.int IntKind.i64,
 PT.optA
 (OTs.cons (OT.c (CT.int IntKind.u32))
 (OTs.cons (OT.c (CT.int IntKind.i32)) (OTs.cons (OT.c (CT.int IntKind.u32)) OTs.nil)))
 (CT.int IntKind.u32) (OTs.cons (OT.c (CT.int IntKind.u64)) (OTs.cons (OT.c (CT.int IntKind.u64)) OTs.nil))]
 (Option (Unit × Option ((UInt32 × Int32 × UInt32) × List UInt32 × UInt64 × UInt64))) →
 Int64 →
 Option ((UInt32 × Int32 × UInt32) × List UInt32 × UInt64 × UInt64) →
 Option (Unit × Option ((UInt32 × Int32 × UInt32) × List UInt32 × UInt64 × UInt64)) := fun (n : Nat)
 (rec :
 Arr
 [PT.int IntKind.i64,
 PT.optA
 (OTs.cons (OT.c (CT.int IntKind.u32))
 (OTs.cons (OT.c (CT.int IntKind.i32)) (OTs.cons (OT.c (CT.int IntKind.u32)) OTs.nil)))
 (CT.int IntKind.u32) (OTs.cons (OT.c (CT.int IntKind.u64)) (OTs.cons (OT.c (CT.int IntKind.u64)) OTs.nil))]
 (Option (Unit × Option ((UInt32 × Int32 × UInt32) × List UInt32 × UInt64 × UInt64))))
 (t : Int64) (t_1 : Option ((UInt32 × Int32 × UInt32) × List UInt32 × UInt64 × UInt64)) =>
 oite (decide (t < (256 : Int64))) (F59_R877 rec n t (UInt32.ofInt (Int64.toInt t)) t (0 : Int64) t_1)
 (some ((), t_1))
def F59_R3 : Nat →
 Nat →
 PT.T (PT.int IntKind.i64) →
 Option ((UInt32 × Int32 × UInt32) × List UInt32 × UInt64 × UInt64) →
 Option (Unit × Option ((UInt32 × Int32 × UInt32) × List UInt32 × UInt64 × UInt64)) := fun (n : Nat) =>
 ofixA (3 : Nat)
 [PT.int IntKind.i64,
 PT.optA
 (OTs.cons (OT.c (CT.int IntKind.u32))
 (OTs.cons (OT.c (CT.int IntKind.i32)) (OTs.cons (OT.c (CT.int IntKind.u32)) OTs.nil)))
 (CT.int IntKind.u32) (OTs.cons (OT.c (CT.int IntKind.u64)) (OTs.cons (OT.c (CT.int IntKind.u64)) OTs.nil))]
 (F59_L3 n)
def F59 : Nat →
 Option ((UInt32 × Int32 × UInt32) × List UInt32 × UInt64 × UInt64) →
 Option (Unit × Option ((UInt32 × Int32 × UInt32) × List UInt32 × UInt64 × UInt64)) := fun (n : Nat) (x : Option ((UInt32 × Int32 × UInt32) × List UInt32 × UInt64 × UInt64)) => F59_R3 n n (0 : Int64) x
theorem F59_R877_s (rec : Arr [PT.int IntKind.i64, PT.optA (OTs.cons (OT.c (CT.int IntKind.u32)) (OTs.cons (OT.c (CT.int IntKind.i32)) (OTs.cons (OT.c (CT.int IntKind.u32)) OTs.nil))) (CT.int IntKind.u32) (OTs.cons (OT.c (CT.int IntKind.u64)) (OTs.cons (OT.c (CT.int IntKind.u64)) OTs.nil))] (Option (Unit × Option ((UInt32 × Int32 × UInt32) × List UInt32 × UInt64 × UInt64)))) (m_ : Nat) : F59_R877 rec (m_ + 1) = F59_L877 rec (F59_R877 rec m_) := rfl
theorem F59_R3_s (n : Nat) (m_ : Nat) : F59_R3 n (m_ + 1) = F59_L3 n (F59_R3 n m_) := rfl
theorem ok59 (n : Nat) : FunOK Tryz.prog ⟨59, sig59, F59 n⟩ :=
 fun_ok (hints := ⟨[], [(3, ⟨[(0, .one (.own 0)), (4, .one (.int .i64))], [(0, .foldA (.cons (.c (.int .u32)) (.cons (.c (.int .i32)) (.cons (.c (.int .u32)) .nil))) (.int .u32) 256 (.cons (.c (.int .u64)) (.cons (.c (.int .u64)) .nil)))], 1⟩), (877, ⟨[(0, .one (.own 0)), (2, .one (.int .i64)), (3, .one (.int .u32)), (4, .one (.int .i64)), (9, .one (.int .i64))], [(0, .foldA (.cons (.c (.int .u32)) (.cons (.c (.int .i32)) (.cons (.c (.int .u32)) .nil))) (.int .u32) 256 (.cons (.c (.int .u64)) (.cons (.c (.int .u64)) .nil)))], 1⟩)]⟩) (fuel := n) (c := Tryz.f59.body.getD .skip) (rs := Tryz.f59.results.toList) tt_ok mix (FsOK.nil) Tryz.func59 (by kernel_rfl) (by kernel_rfl) rfl (by kernel_rfl) rfl rfl (by kernel_rfl)
end Go.Proofs.YtgknjddbbehboaaGreat
