/- What the functions of this seat compute, found by walking their code symbolically: each F is what the walk finds, each ok says that the Go function keeps it as a contract. Printed by a program of this repo's. -/
import Derived.Test.YtgknjddbbehboaaProg
import Derived.KernelRfl
import Derived.Test.YtgknjddbbehboaaSxClone
open Go Go.Sx
namespace Go.Proofs.Ytgknjddbbehboaa
set_option maxRecDepth 100000
set_option linter.unusedVariables false
def tt : TT := [(2, ⟨.int .i64, 1, 8, some (.int .i64 0), false⟩), (3, ⟨.int .i64, 1, 8, some (.int .i64 0), false⟩), (4, ⟨.bool, 1, 1, some (.bool false), false⟩), (5, ⟨.int .u8, 1, 1, some (.int .u8 0), false⟩), (9, ⟨.str, 1, 16, some (.string ⟨#[]⟩), false⟩), (21, ⟨.int .i32, 1, 4, some (.int .i32 0), false⟩), (22, ⟨.int .u16, 1, 2, some (.int .u16 0), false⟩), (23, ⟨.int .u64, 1, 8, some (.int .u64 0), false⟩), (25, ⟨.struct [(0, 4, false), (1, 5, false), (2, 5, false), (3, 5, false), (4, 22, false), (5, 22, false), (6, 22, false), (7, 5, false), (8, 5, false), (9, 5, false), (10, 4, false)], 11, 14, some (.agg #[.bool false, .int .u8 0, .int .u8 0, .int .u8 0, .int .u16 0, .int .u16 0, .int .u16 0, .int .u8 0, .int .u8 0, .int .u8 0, .bool false]), false⟩), (27, ⟨.struct [(0, 5, false), (1, 5, false), (2, 5, false), (3, 22, false), (4, 22, false), (5, 22, false), (6, 22, false), (7, 23, false), (8, 25, false)], 19, 40, some (.agg #[.int .u8 0, .int .u8 0, .int .u8 0, .int .u16 0, .int .u16 0, .int .u16 0, .int .u16 0, .int .u64 0, .bool false, .int .u8 0, .int .u8 0, .int .u8 0, .int .u16 0, .int .u16 0, .int .u16 0, .int .u8 0, .int .u8 0, .int .u8 0, .bool false]), false⟩), (29, ⟨.slice 98, 1, 24, some (.slice none 0 0), false⟩), (30, ⟨.int .u8, 1, 1, some (.int .u8 0), false⟩), (32, ⟨.struct [(0, 5, false), (1, 23, false), (2, 23, false), (3, 9, false), (4, 29, false), (5, 30, false), (6, 5, false), (7, 2, false), (8, 5, false)], 9, 88, some (.agg #[.int .u8 0, .int .u64 0, .int .u64 0, .string ⟨#[]⟩, .slice none 0 0, .int .u8 0, .int .u8 0, .int .i64 0, .int .u8 0]), false⟩), (34, ⟨.struct [(0, 5, false), (1, 23, false), (2, 23, false)], 3, 24, some (.agg #[.int .u8 0, .int .u64 0, .int .u64 0]), false⟩), (36, ⟨.struct [(0, 4, false), (1, 32, false), (10, 34, false)], 13, 120, some (.agg #[.bool false, .int .u8 0, .int .u64 0, .int .u64 0, .string ⟨#[]⟩, .slice none 0 0, .int .u8 0, .int .u8 0, .int .i64 0, .int .u8 0, .int .u8 0, .int .u64 0, .int .u64 0]), false⟩), (38, ⟨.struct [(0, 5, false), (1, 5, false), (2, 5, false), (3, 23, false), (4, 23, false), (5, 36, false), (18, 23, false), (19, 23, false), (20, 23, false)], 21, 168, some (.agg #[.int .u8 0, .int .u8 0, .int .u8 0, .int .u64 0, .int .u64 0, .bool false, .int .u8 0, .int .u64 0, .int .u64 0, .string ⟨#[]⟩, .slice none 0 0, .int .u8 0, .int .u8 0, .int .i64 0, .int .u8 0, .int .u8 0, .int .u64 0, .int .u64 0, .int .u64 0, .int .u64 0, .int .u64 0]), false⟩), (41, ⟨.slice 5, 1, 24, some (.slice none 0 0), false⟩), (44, ⟨.ptr 77, 1, 8, some (.pointer none), false⟩), (46, ⟨.int .i64, 1, 8, some (.int .i64 0), false⟩), (57, ⟨.slice 23, 1, 24, some (.slice none 0 0), false⟩), (59, ⟨.int .u32, 1, 4, some (.int .u32 0), false⟩), (62, ⟨.struct [], 0, 0, some (.agg #[]), false⟩), (63, ⟨.struct [], 0, 0, some (.agg #[]), false⟩), (65, ⟨.struct [(0, 63, true), (0, 59, false)], 1, 4, some (.agg #[.int .u32 0]), false⟩), (67, ⟨.struct [(0, 21, false), (1, 59, false)], 2, 8, some (.agg #[.int .i32 0, .int .u32 0]), false⟩), (69, ⟨.struct [(0, 62, true), (0, 67, false)], 2, 8, some (.agg #[.int .i32 0, .int .u32 0]), false⟩), (71, ⟨.struct [(0, 62, true), (0, 65, false), (1, 69, false)], 3, 12, some (.agg #[.int .u32 0, .int .i32 0, .int .u32 0]), false⟩), (72, ⟨.arr 256 59, 256, 1024, some (.agg #[.int .u32 0, .int .u32 0, .int .u32 0, .int .u32 0, .int .u32 0, .int .u32 0, .int .u32 0, .int .u32 0, .int .u32 0, .int .u32 0, .int .u32 0, .int .u32 0, .int .u32 0, .int .u32 0, .int .u32 0, .int .u32 0, .int .u32 0, .int .u32 0, .int .u32 0, .int .u32 0, .int .u32 0, .int .u32 0, .int .u32 0, .int .u32 0, .int .u32 0, .int .u32 0, .int .u32 0, .int .u32 0, .int .u32 0, .int .u32 0, .int .u32 0, .int .u32 0, .int .u32 0, .int .u32 0, .int .u32 0, .int .u32 0, .int .u32 0, .int .u32 0, .int .u32 0, .int .u32 0, .int .u32 0, .int .u32 0, .int .u32 0, .int .u32 0, .int .u32 0, .int .u32 0, .int .u32 0, .int .u32 0, .int .u32 0, .int .u32 0, .int .u32 0, .int .u32 0, .int .u32 0, .int .u32 0, .int .u32 0, .int .u32 0, .int .u32 0, .int .u32 0, .int .u32 0, .int .u32 0, .int .u32 0, .int .u32 0, .int .u32 0, .int .u32 0, .int .u32 0, .int .u32 0, .int .u32 0, .int .u32 0, .int .u32 0, .int .u32 0, .int .u32 0, .int .u32 0, .int .u32 0, .int .u32 0, .int .u32 0, .int .u32 0, .int .u32 0, .int .u32 0, .int .u32 0, .int .u32 0, .int .u32 0, .int .u32 0, .int .u32 0, .int .u32 0, .int .u32 0, .int .u32 0, .int .u32 0, .int .u32 0, .int .u32 0, .int .u32 0, .int .u32 0, .int .u32 0, .int .u32 0, .int .u32 0, .int .u32 0, .int .u32 0, .int .u32 0, .int .u32 0, .int .u32 0, .int .u32 0, .int .u32 0, .int .u32 0, .int .u32 0, .int .u32 0, .int .u32 0, .int .u32 0, .int .u32 0, .int .u32 0, .int .u32 0, .int .u32 0, .int .u32 0, .int .u32 0, .int .u32 0, .int .u32 0, .int .u32 0, .int .u32 0, .int .u32 0, .int .u32 0, .int .u32 0, .int .u32 0, .int .u32 0, .int .u32 0, .int .u32 0, .int .u32 0, .int .u32 0, .int .u32 0, .int .u32 0, .int .u32 0, .int .u32 0, .int .u32 0, .int .u32 0, .int .u32 0, .int .u32 0, .int .u32 0, .int .u32 0, .int .u32 0, .int .u32 0, .int .u32 0, .int .u32 0, .int .u32 0, .int .u32 0, .int .u32 0, .int .u32 0, .int .u32 0, .int .u32 0, .int .u32 0, .int .u32 0, .int .u32 0, .int .u32 0, .int .u32 0, .int .u32 0, .int .u32 0, .int .u32 0, .int .u32 0, .int .u32 0, .int .u32 0, .int .u32 0, .int .u32 0, .int .u32 0, .int .u32 0, .int .u32 0, .int .u32 0, .int .u32 0, .int .u32 0, .int .u32 0, .int .u32 0, .int .u32 0, .int .u32 0, .int .u32 0, .int .u32 0, .int .u32 0, .int .u32 0, .int .u32 0, .int .u32 0, .int .u32 0, .int .u32 0, .int .u32 0, .int .u32 0, .int .u32 0, .int .u32 0, .int .u32 0, .int .u32 0, .int .u32 0, .int .u32 0, .int .u32 0, .int .u32 0, .int .u32 0, .int .u32 0, .int .u32 0, .int .u32 0, .int .u32 0, .int .u32 0, .int .u32 0, .int .u32 0, .int .u32 0, .int .u32 0, .int .u32 0, .int .u32 0, .int .u32 0, .int .u32 0, .int .u32 0, .int .u32 0, .int .u32 0, .int .u32 0, .int .u32 0, .int .u32 0, .int .u32 0, .int .u32 0, .int .u32 0, .int .u32 0, .int .u32 0, .int .u32 0, .int .u32 0, .int .u32 0, .int .u32 0, .int .u32 0, .int .u32 0, .int .u32 0, .int .u32 0, .int .u32 0, .int .u32 0, .int .u32 0, .int .u32 0, .int .u32 0, .int .u32 0, .int .u32 0, .int .u32 0, .int .u32 0, .int .u32 0, .int .u32 0, .int .u32 0, .int .u32 0, .int .u32 0, .int .u32 0, .int .u32 0, .int .u32 0, .int .u32 0, .int .u32 0, .int .u32 0, .int .u32 0, .int .u32 0, .int .u32 0, .int .u32 0, .int .u32 0, .int .u32 0, .int .u32 0, .int .u32 0, .int .u32 0, .int .u32 0, .int .u32 0, .int .u32 0, .int .u32 0, .int .u32 0, .int .u32 0, .int .u32 0, .int .u32 0]), false⟩), (73, ⟨.struct [], 0, 0, some (.agg #[]), false⟩), (75, ⟨.struct [(0, 63, true), (0, 73, true), (0, 23, false)], 1, 8, some (.agg #[.int .u64 0]), false⟩), (77, ⟨.struct [(0, 71, false), (3, 72, false), (259, 75, false), (260, 75, false)], 261, 1056, some (.agg #[.int .u32 0, .int .i32 0, .int .u32 0, .int .u32 0, .int .u32 0, .int .u32 0, .int .u32 0, .int .u32 0, .int .u32 0, .int .u32 0, .int .u32 0, .int .u32 0, .int .u32 0, .int .u32 0, .int .u32 0, .int .u32 0, .int .u32 0, .int .u32 0, .int .u32 0, .int .u32 0, .int .u32 0, .int .u32 0, .int .u32 0, .int .u32 0, .int .u32 0, .int .u32 0, .int .u32 0, .int .u32 0, .int .u32 0, .int .u32 0, .int .u32 0, .int .u32 0, .int .u32 0, .int .u32 0, .int .u32 0, .int .u32 0, .int .u32 0, .int .u32 0, .int .u32 0, .int .u32 0, .int .u32 0, .int .u32 0, .int .u32 0, .int .u32 0, .int .u32 0, .int .u32 0, .int .u32 0, .int .u32 0, .int .u32 0, .int .u32 0, .int .u32 0, .int .u32 0, .int .u32 0, .int .u32 0, .int .u32 0, .int .u32 0, .int .u32 0, .int .u32 0, .int .u32 0, .int .u32 0, .int .u32 0, .int .u32 0, .int .u32 0, .int .u32 0, .int .u32 0, .int .u32 0, .int .u32 0, .int .u32 0, .int .u32 0, .int .u32 0, .int .u32 0, .int .u32 0, .int .u32 0, .int .u32 0, .int .u32 0, .int .u32 0, .int .u32 0, .int .u32 0, .int .u32 0, .int .u32 0, .int .u32 0, .int .u32 0, .int .u32 0, .int .u32 0, .int .u32 0, .int .u32 0, .int .u32 0, .int .u32 0, .int .u32 0, .int .u32 0, .int .u32 0, .int .u32 0, .int .u32 0, .int .u32 0, .int .u32 0, .int .u32 0, .int .u32 0, .int .u32 0, .int .u32 0, .int .u32 0, .int .u32 0, .int .u32 0, .int .u32 0, .int .u32 0, .int .u32 0, .int .u32 0, .int .u32 0, .int .u32 0, .int .u32 0, .int .u32 0, .int .u32 0, .int .u32 0, .int .u32 0, .int .u32 0, .int .u32 0, .int .u32 0, .int .u32 0, .int .u32 0, .int .u32 0, .int .u32 0, .int .u32 0, .int .u32 0, .int .u32 0, .int .u32 0, .int .u32 0, .int .u32 0, .int .u32 0, .int .u32 0, .int .u32 0, .int .u32 0, .int .u32 0, .int .u32 0, .int .u32 0, .int .u32 0, .int .u32 0, .int .u32 0, .int .u32 0, .int .u32 0, .int .u32 0, .int .u32 0, .int .u32 0, .int .u32 0, .int .u32 0, .int .u32 0, .int .u32 0, .int .u32 0, .int .u32 0, .int .u32 0, .int .u32 0, .int .u32 0, .int .u32 0, .int .u32 0, .int .u32 0, .int .u32 0, .int .u32 0, .int .u32 0, .int .u32 0, .int .u32 0, .int .u32 0, .int .u32 0, .int .u32 0, .int .u32 0, .int .u32 0, .int .u32 0, .int .u32 0, .int .u32 0, .int .u32 0, .int .u32 0, .int .u32 0, .int .u32 0, .int .u32 0, .int .u32 0, .int .u32 0, .int .u32 0, .int .u32 0, .int .u32 0, .int .u32 0, .int .u32 0, .int .u32 0, .int .u32 0, .int .u32 0, .int .u32 0, .int .u32 0, .int .u32 0, .int .u32 0, .int .u32 0, .int .u32 0, .int .u32 0, .int .u32 0, .int .u32 0, .int .u32 0, .int .u32 0, .int .u32 0, .int .u32 0, .int .u32 0, .int .u32 0, .int .u32 0, .int .u32 0, .int .u32 0, .int .u32 0, .int .u32 0, .int .u32 0, .int .u32 0, .int .u32 0, .int .u32 0, .int .u32 0, .int .u32 0, .int .u32 0, .int .u32 0, .int .u32 0, .int .u32 0, .int .u32 0, .int .u32 0, .int .u32 0, .int .u32 0, .int .u32 0, .int .u32 0, .int .u32 0, .int .u32 0, .int .u32 0, .int .u32 0, .int .u32 0, .int .u32 0, .int .u32 0, .int .u32 0, .int .u32 0, .int .u32 0, .int .u32 0, .int .u32 0, .int .u32 0, .int .u32 0, .int .u32 0, .int .u32 0, .int .u32 0, .int .u32 0, .int .u32 0, .int .u32 0, .int .u32 0, .int .u32 0, .int .u32 0, .int .u32 0, .int .u32 0, .int .u32 0, .int .u32 0, .int .u32 0, .int .u32 0, .int .u32 0, .int .u32 0, .int .u32 0, .int .u32 0, .int .u32 0, .int .u32 0, .int .u32 0, .int .u32 0, .int .u32 0, .int .u32 0, .int .u32 0, .int .u32 0, .int .u32 0, .int .u64 0, .int .u64 0]), false⟩), (80, ⟨.struct [(0, 41, false)], 1, 24, some (.agg #[.slice none 0 0]), false⟩), (84, ⟨.ptr 80, 1, 8, some (.pointer none), false⟩), (89, ⟨.ptr 114, 1, 8, some (.pointer none), false⟩), (96, ⟨.slice 9, 1, 24, some (.slice none 0 0), false⟩), (98, ⟨.struct [(0, 9, false), (1, 9, false)], 2, 32, some (.agg #[.string ⟨#[]⟩, .string ⟨#[]⟩]), false⟩), (109, ⟨.arr 4 5, 4, 4, some (.agg #[.int .u8 0, .int .u8 0, .int .u8 0, .int .u8 0]), false⟩), (114, ⟨.struct [(0, 41, false), (1, 46, false)], 2, 32, some (.agg #[.slice none 0 0, .int .i64 0]), false⟩), (120, ⟨.slice 41, 1, 24, some (.slice none 0 0), false⟩)]
theorem tt_ok : TTOK Try.prog tt := TTOK.of_rows (by kernel_rfl)
theorem mix : Try.prog.follows .mixedOrders = true := by kernel_rfl
-- (*watchfire/crc.Table).fill
def sig63 : Sig := ⟨(.cons (.one (.ptrA (.cons (.c (.int .u32)) (.cons (.c (.int .i32)) (.cons (.c (.int .u32)) .nil))) (.int .u32) 256 (.cons (.c (.int .u64)) (.cons (.c (.int .u64)) .nil)))) .nil), .nil⟩
def F63_L877 : Arr
    [PT.int IntKind.i64,
      PT.optA
        (OTs.cons (OT.c (CT.int IntKind.u32))
          (OTs.cons (OT.c (CT.int IntKind.i32)) (OTs.cons (OT.c (CT.int IntKind.u32)) OTs.nil)))
        (CT.int IntKind.u32) (OTs.cons (OT.c (CT.int IntKind.u64)) (OTs.cons (OT.c (CT.int IntKind.u64)) OTs.nil))]
    (Option (Unit × Option ((UInt32 × Int32 × UInt32) × List UInt32 × UInt64 × UInt64))) →
  Arr
      [PT.int IntKind.i64, PT.int IntKind.u32, PT.int IntKind.i64, PT.int IntKind.i64,
        PT.optA
          (OTs.cons (OT.c (CT.int IntKind.u32))
            (OTs.cons (OT.c (CT.int IntKind.i32)) (OTs.cons (OT.c (CT.int IntKind.u32)) OTs.nil)))
          (CT.int IntKind.u32) (OTs.cons (OT.c (CT.int IntKind.u64)) (OTs.cons (OT.c (CT.int IntKind.u64)) OTs.nil))]
      (Option (Unit × Option ((UInt32 × Int32 × UInt32) × List UInt32 × UInt64 × UInt64))) →
    Int64 →
      UInt32 →
        Int64 →
          Int64 →
            Option ((UInt32 × Int32 × UInt32) × List UInt32 × UInt64 × UInt64) →
              Option (Unit × Option ((UInt32 × Int32 × UInt32) × List UInt32 × UInt64 × UInt64)) := fun
    (rec :
      Arr
        [PT.int IntKind.i64,
          PT.optA
            (OTs.cons (OT.c (CT.int IntKind.u32))
              (OTs.cons (OT.c (CT.int IntKind.i32)) (OTs.cons (OT.c (CT.int IntKind.u32)) OTs.nil)))
            (CT.int IntKind.u32) (OTs.cons (OT.c (CT.int IntKind.u64)) (OTs.cons (OT.c (CT.int IntKind.u64)) OTs.nil))]
        (Option (Unit × Option ((UInt32 × Int32 × UInt32) × List UInt32 × UInt64 × UInt64))))
    (rec_1 :
      Arr
        [PT.int IntKind.i64, PT.int IntKind.u32, PT.int IntKind.i64, PT.int IntKind.i64,
          PT.optA
            (OTs.cons (OT.c (CT.int IntKind.u32))
              (OTs.cons (OT.c (CT.int IntKind.i32)) (OTs.cons (OT.c (CT.int IntKind.u32)) OTs.nil)))
            (CT.int IntKind.u32) (OTs.cons (OT.c (CT.int IntKind.u64)) (OTs.cons (OT.c (CT.int IntKind.u64)) OTs.nil))]
        (Option (Unit × Option ((UInt32 × Int32 × UInt32) × List UInt32 × UInt64 × UInt64))))
    (i : Int64) (n_ : UInt32) (t_2 t_1_1 : Int64)
    (t_2_1 : Option ((UInt32 × Int32 × UInt32) × List UInt32 × UInt64 × UInt64)) =>
  oite (decide (t_1_1 < (8 : Int64)))
    (oite (decide (n_ &&& (1 : UInt32) = (1 : UInt32)))
      (rec_1 i (IK.shr IntKind.u32 n_ ↑(UInt64.toNat (1 : UInt64)) ^^^ (3988292384 : UInt32)) t_2 (t_1_1 + (1 : Int64))
        t_2_1)
      (rec_1 i (IK.shr IntKind.u32 n_ ↑(UInt64.toNat (1 : UInt64))) t_2 (t_1_1 + (1 : Int64)) t_2_1))
    (obind t_2_1 fun (x_1 : (UInt32 × Int32 × UInt32) × List UInt32 × UInt64 × UInt64) =>
      oite (decide ((0 : Int) ≤ Int64.toInt i))
        (oite (Nat.blt (Int.toNat (Int64.toInt i)) (256 : Nat))
          (oite (Nat.blt (Int.toNat (Int64.toInt i) * (1 : Nat)) (List.length (Prod.fst (Prod.snd x_1))))
            (rec (t_2 + (1 : Int64))
              (some
                ((Prod.fst (Prod.fst x_1), Prod.fst (Prod.snd (Prod.fst x_1)), Prod.snd (Prod.snd (Prod.fst x_1))),
                  List.set (Prod.fst (Prod.snd x_1)) (Int.toNat (Int64.toInt i) * (1 : Nat)) n_,
                  Prod.fst (Prod.snd (Prod.snd x_1)), Prod.snd (Prod.snd (Prod.snd x_1)))))
            none)
          none)
        none)
def F63_R877 : Arr
    [PT.int IntKind.i64,
      PT.optA
        (OTs.cons (OT.c (CT.int IntKind.u32))
          (OTs.cons (OT.c (CT.int IntKind.i32)) (OTs.cons (OT.c (CT.int IntKind.u32)) OTs.nil)))
        (CT.int IntKind.u32) (OTs.cons (OT.c (CT.int IntKind.u64)) (OTs.cons (OT.c (CT.int IntKind.u64)) OTs.nil))]
    (Option (Unit × Option ((UInt32 × Int32 × UInt32) × List UInt32 × UInt64 × UInt64))) →
  Nat →
    PT.T (PT.int IntKind.i64) →
      UInt32 →
        Int64 →
          Int64 →
            Option ((UInt32 × Int32 × UInt32) × List UInt32 × UInt64 × UInt64) →
              Option (Unit × Option ((UInt32 × Int32 × UInt32) × List UInt32 × UInt64 × UInt64)) := fun
    (rec :
      Arr
        [PT.int IntKind.i64,
          PT.optA
            (OTs.cons (OT.c (CT.int IntKind.u32))
              (OTs.cons (OT.c (CT.int IntKind.i32)) (OTs.cons (OT.c (CT.int IntKind.u32)) OTs.nil)))
            (CT.int IntKind.u32) (OTs.cons (OT.c (CT.int IntKind.u64)) (OTs.cons (OT.c (CT.int IntKind.u64)) OTs.nil))]
        (Option (Unit × Option ((UInt32 × Int32 × UInt32) × List UInt32 × UInt64 × UInt64)))) =>
  ofixA (877 : Nat)
    [PT.int IntKind.i64, PT.int IntKind.u32, PT.int IntKind.i64, PT.int IntKind.i64,
      PT.optA
        (OTs.cons (OT.c (CT.int IntKind.u32))
          (OTs.cons (OT.c (CT.int IntKind.i32)) (OTs.cons (OT.c (CT.int IntKind.u32)) OTs.nil)))
        (CT.int IntKind.u32) (OTs.cons (OT.c (CT.int IntKind.u64)) (OTs.cons (OT.c (CT.int IntKind.u64)) OTs.nil))]
    (F63_L877 rec)
def F63_L3 : Nat →
  Arr
      [PT.int IntKind.i64,
        PT.optA
          (OTs.cons (OT.c (CT.int IntKind.u32))
            (OTs.cons (OT.c (CT.int IntKind.i32)) (OTs.cons (OT.c (CT.int IntKind.u32)) OTs.nil)))
          (CT.int IntKind.u32) (OTs.cons (OT.c (CT.int IntKind.u64)) (OTs.cons (OT.c (CT.int IntKind.u64)) OTs.nil))]
      (Option (Unit × Option ((UInt32 × Int32 × UInt32) × List UInt32 × UInt64 × UInt64))) →
    Int64 →
      Option ((UInt32 × Int32 × UInt32) × List UInt32 × UInt64 × UInt64) →
        Option (Unit × Option ((UInt32 × Int32 × UInt32) × List UInt32 × UInt64 × UInt64)) := fun (n : Nat)
    (rec :
      Arr
        [PT.int IntKind.i64,
          PT.optA
            (OTs.cons (OT.c (CT.int IntKind.u32))
              (OTs.cons (OT.c (CT.int IntKind.i32)) (OTs.cons (OT.c (CT.int IntKind.u32)) OTs.nil)))
            (CT.int IntKind.u32) (OTs.cons (OT.c (CT.int IntKind.u64)) (OTs.cons (OT.c (CT.int IntKind.u64)) OTs.nil))]
        (Option (Unit × Option ((UInt32 × Int32 × UInt32) × List UInt32 × UInt64 × UInt64))))
    (t : Int64) (t_1 : Option ((UInt32 × Int32 × UInt32) × List UInt32 × UInt64 × UInt64)) =>
  oite (decide (t < (256 : Int64))) (F63_R877 rec n t (UInt32.ofInt (Int64.toInt t)) t (0 : Int64) t_1)
    (some ((), t_1))
def F63_R3 : Nat →
  Nat →
    PT.T (PT.int IntKind.i64) →
      Option ((UInt32 × Int32 × UInt32) × List UInt32 × UInt64 × UInt64) →
        Option (Unit × Option ((UInt32 × Int32 × UInt32) × List UInt32 × UInt64 × UInt64)) := fun (n : Nat) =>
  ofixA (3 : Nat)
    [PT.int IntKind.i64,
      PT.optA
        (OTs.cons (OT.c (CT.int IntKind.u32))
          (OTs.cons (OT.c (CT.int IntKind.i32)) (OTs.cons (OT.c (CT.int IntKind.u32)) OTs.nil)))
        (CT.int IntKind.u32) (OTs.cons (OT.c (CT.int IntKind.u64)) (OTs.cons (OT.c (CT.int IntKind.u64)) OTs.nil))]
    (F63_L3 n)
def F63 : Nat →
  Option ((UInt32 × Int32 × UInt32) × List UInt32 × UInt64 × UInt64) →
    Option (Unit × Option ((UInt32 × Int32 × UInt32) × List UInt32 × UInt64 × UInt64)) := fun (n : Nat) (x : Option ((UInt32 × Int32 × UInt32) × List UInt32 × UInt64 × UInt64)) => F63_R3 n n (0 : Int64) x
theorem F63_R877_s (rec : Arr [PT.int IntKind.i64, PT.optA (OTs.cons (OT.c (CT.int IntKind.u32)) (OTs.cons (OT.c (CT.int IntKind.i32)) (OTs.cons (OT.c (CT.int IntKind.u32)) OTs.nil))) (CT.int IntKind.u32) (OTs.cons (OT.c (CT.int IntKind.u64)) (OTs.cons (OT.c (CT.int IntKind.u64)) OTs.nil))] (Option (Unit × Option ((UInt32 × Int32 × UInt32) × List UInt32 × UInt64 × UInt64)))) (m_ : Nat) : F63_R877 rec (m_ + 1) = F63_L877 rec (F63_R877 rec m_) := rfl
theorem F63_R3_s (n : Nat) (m_ : Nat) : F63_R3 n (m_ + 1) = F63_L3 n (F63_R3 n m_) := rfl
theorem ok63 (n : Nat) : FunOK Try.prog ⟨63, sig63, F63 n⟩ :=
  fun_ok (hints := ⟨[], [(3, ⟨[(0, .one (.own 0)), (4, .one (.int .i64))], [(0, .foldA (.cons (.c (.int .u32)) (.cons (.c (.int .i32)) (.cons (.c (.int .u32)) .nil))) (.int .u32) 256 (.cons (.c (.int .u64)) (.cons (.c (.int .u64)) .nil)))], 1⟩), (877, ⟨[(0, .one (.own 0)), (2, .one (.int .i64)), (3, .one (.int .u32)), (4, .one (.int .i64)), (9, .one (.int .i64))], [(0, .foldA (.cons (.c (.int .u32)) (.cons (.c (.int .i32)) (.cons (.c (.int .u32)) .nil))) (.int .u32) 256 (.cons (.c (.int .u64)) (.cons (.c (.int .u64)) .nil)))], 1⟩)]⟩) (fuel := n) (c := Try.f63.body.getD .skip) (rs := Try.f63.results.toList) tt_ok mix (FsOK.nil) Try.func63 (by kernel_rfl) (by kernel_rfl) rfl (by kernel_rfl) rfl rfl (by kernel_rfl)
end Go.Proofs.Ytgknjddbbehboaa
