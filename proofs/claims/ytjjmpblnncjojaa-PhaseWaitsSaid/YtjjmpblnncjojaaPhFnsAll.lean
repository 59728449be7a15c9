/- What the functions of this seat compute, found by walking their code symbolically: each F is what the walk finds, each ok says that the Go function keeps it as a contract. Printed by a program of this repo's. -/
import Derived.Test.YtjjmpblnncjojaaProg
import Derived.KernelRfl
import Derived.Test.YtjjmpblnncjojaaSxFun
open Go Go.Sx
namespace Go.Proofs.Ytjjmpblnncjojaa
set_option maxRecDepth 100000
set_option linter.unusedVariables false
def tt : TT := [  (2, ⟨.int .i64, 1, 8, some (.int .i64 0), false⟩),
  (3, ⟨.int .i64, 1, 8, some (.int .i64 0), false⟩),
  (4, ⟨.bool, 1, 1, some (.bool false), false⟩),
  (5, ⟨.int .u8, 1, 1, some (.int .u8 0), false⟩),
  (6, ⟨.int .u8, 1, 1, some (.int .u8 0), false⟩),
  (7, ⟨.struct [(0, 2, false), (1, 3, false), (2, 4, false), (3, 6, false)], 4, 24, some (.agg #[.int .i64 0, .int .i64 0, .bool false, .int .u8 0]), false⟩),
  (8, ⟨.struct [(0, 2, false), (1, 3, false), (2, 4, false), (3, 6, false)], 4, 24, some (.agg #[.int .i64 0, .int .i64 0, .bool false, .int .u8 0]), false⟩),
  (9, ⟨.str, 1, 16, some (.string ⟨#[]⟩), false⟩),
  (10, ⟨.str, 1, 16, some (.string ⟨#[]⟩), false⟩),
  (11, ⟨.str, 1, 16, some (.string ⟨#[]⟩), false⟩),
  (12, ⟨.int .u64, 1, 8, some (.int .u64 0), false⟩),
  (13, ⟨.struct [(0, 9, false), (1, 12, false)], 2, 24, some (.agg #[.string ⟨#[]⟩, .int .u64 0]), true⟩),
  (14, ⟨.struct [(0, 9, false), (1, 12, false)], 2, 24, some (.agg #[.string ⟨#[]⟩, .int .u64 0]), true⟩),
  (15, ⟨.ptr 48, 1, 8, some (.pointer none), false⟩),
  (16, ⟨.ptr 51, 1, 8, some (.pointer none), false⟩),
  (17, ⟨.ptr 60, 1, 8, some (.pointer none), false⟩),
  (18, ⟨.struct [(0, 17, false)], 1, 8, some (.agg #[.pointer none]), true⟩),
  (19, ⟨.struct [(0, 17, false)], 1, 8, some (.agg #[.pointer none]), true⟩),
  (20, ⟨.iface true, 1, 16, some (.nilIface), false⟩),
  (21, ⟨.int .i32, 1, 4, some (.int .i32 0), false⟩),
  (22, ⟨.slice 4, 1, 24, some (.slice none 0 0), false⟩),
  (24, ⟨.int .u64, 1, 8, some (.int .u64 0), false⟩),
  (25, ⟨.struct [(0, 24, false), (1, 24, false)], 2, 16, some (.agg #[.int .u64 0, .int .u64 0]), false⟩),
  (26, ⟨.struct [(0, 24, false), (1, 24, false)], 2, 16, some (.agg #[.int .u64 0, .int .u64 0]), false⟩),
  (27, ⟨.int .u8, 1, 1, some (.int .u8 0), false⟩),
  (28, ⟨.struct [(0, 27, false), (1, 24, false), (2, 24, false), (3, 2, false)], 4, 32, some (.agg #[.int .u8 0, .int .u64 0, .int .u64 0, .int .i64 0]), false⟩),
  (29, ⟨.struct [(0, 27, false), (1, 24, false), (2, 24, false), (3, 2, false)], 4, 32, some (.agg #[.int .u8 0, .int .u64 0, .int .u64 0, .int .i64 0]), false⟩),
  (32, ⟨.slice 38, 1, 24, some (.slice none 0 0), false⟩),
  (34, ⟨.struct [(0, 3, false), (1, 24, false), (2, 24, false), (3, 2, false)], 4, 32, some (.agg #[.int .i64 0, .int .u64 0, .int .u64 0, .int .i64 0]), false⟩),
  (35, ⟨.struct [(0, 3, false), (1, 24, false), (2, 24, false), (3, 2, false)], 4, 32, some (.agg #[.int .i64 0, .int .u64 0, .int .u64 0, .int .i64 0]), false⟩),
  (37, ⟨.struct [(0, 5, false), (1, 4, false), (2, 2, false)], 3, 16, some (.agg #[.int .u8 0, .bool false, .int .i64 0]), false⟩),
  (38, ⟨.struct [(0, 5, false), (1, 4, false), (2, 2, false)], 3, 16, some (.agg #[.int .u8 0, .bool false, .int .i64 0]), false⟩),
  (41, ⟨.int .u32, 1, 4, some (.int .u32 0), false⟩),
  (43, ⟨.int .i64, 1, 8, some (.int .i64 0), false⟩),
  (47, ⟨.struct [(0, 17, false), (1, 17, false), (2, 17, false), (3, 9, false)], 4, 40, some (.agg #[.pointer none, .pointer none, .pointer none, .string ⟨#[]⟩]), true⟩),
  (48, ⟨.struct [(0, 17, false), (1, 17, false), (2, 17, false), (3, 9, false)], 4, 40, some (.agg #[.pointer none, .pointer none, .pointer none, .string ⟨#[]⟩]), true⟩),
  (49, ⟨.arr 0 16, 0, 0, some (.agg #[]), false⟩),
  (50, ⟨.struct [(0, 49, true)], 0, 0, some (.agg #[]), true⟩),
  (51, ⟨.struct [(0, 49, true)], 0, 0, some (.agg #[]), true⟩),
  (53, ⟨.int .u8, 1, 1, some (.int .u8 0), false⟩),
  (54, ⟨.int .u8, 1, 1, some (.int .u8 0), false⟩),
  (56, ⟨.ptr 5, 1, 8, some (.pointer none), false⟩),
  (57, ⟨.int .i32, 1, 4, some (.int .i32 0), false⟩),
  (58, ⟨.int .i32, 1, 4, some (.int .i32 0), false⟩),
  (59, ⟨.struct [(0, 12, false), (1, 12, false), (2, 41, false), (3, 53, false), (4, 5, false), (5, 5, false), (6, 54, false), (7, 55, false), (8, 56, false), (9, 57, false), (10, 58, false)], 11, 48, some (.agg #[.int .u64 0, .int .u64 0, .int .u32 0, .int .u8 0, .int .u8 0, .int .u8 0, .int .u8 0, .nilFunc, .pointer none, .int .i32 0, .int .i32 0]), true⟩),
  (60, ⟨.struct [(0, 12, false), (1, 12, false), (2, 41, false), (3, 53, false), (4, 5, false), (5, 5, false), (6, 54, false), (7, 55, false), (8, 56, false), (9, 57, false), (10, 58, false)], 11, 48, some (.agg #[.int .u64 0, .int .u64 0, .int .u32 0, .int .u8 0, .int .u8 0, .int .u8 0, .int .u8 0, .nilFunc, .pointer none, .int .i32 0, .int .i32 0]), true⟩)]
theorem tt_ok : TTOK Try.prog tt := TTOK.of_rows (by kernel_rfl)
theorem mix : Try.prog.follows .mixedOrders = true := by kernel_rfl
def wS : CTs := .cons (.int .u64) (.cons (.int .u64) .nil)
def phS : CTs := .cons (.int .u8) (.cons (.int .u64) (.cons (.int .u64) (.cons (.int .i64) .nil)))
def reS : CTs := .cons (.int .i64) (.cons (.int .u64) (.cons (.int .u64) (.cons (.int .i64) .nil)))
def sig8 : Sig := ⟨.cons (.agg phS) (.cons (.agg wS) (.cons (.one (.c (.int .u64))) (.cons (.one (.c .bool)) (.cons (.one (.c (.int .i64))) (.nil))))), .cons (.agg phS) (.nil)⟩
def F8 : Nat →
  (UInt8 × UInt64 × UInt64 × Int64) × (UInt64 × UInt64) × UInt64 × Bool × Int64 →
    Option ((UInt8 × UInt64 × UInt64 × Int64) × Unit) := fun (n : Nat) (x : (UInt8 × UInt64 × UInt64 × Int64) × (UInt64 × UInt64) × UInt64 × Bool × Int64) =>
  oite (Prod.fst (Prod.snd (Prod.snd (Prod.snd x))))
    (oite (decide (Prod.fst (Prod.fst x) = (2 : UInt8)))
      (oite (!Prod.fst (Prod.snd (Prod.snd (Prod.snd x))))
        (oite (decide (Prod.fst (Prod.snd (Prod.snd x)) < Prod.fst (Prod.snd (Prod.snd x))))
          (some
            (((0 : UInt8), Prod.fst (Prod.snd (Prod.snd x)), Prod.fst (Prod.snd (Prod.snd x)),
                Prod.snd (Prod.snd (Prod.snd (Prod.snd x)))),
              ()))
          (oite
            (decide
              (Prod.snd (Prod.fst (Prod.snd x)) ≤ Prod.fst (Prod.snd (Prod.snd x)) - Prod.fst (Prod.snd (Prod.snd x))))
            (some
              (((0 : UInt8), Prod.fst (Prod.snd (Prod.snd x)), Prod.fst (Prod.snd (Prod.snd x)),
                  Prod.snd (Prod.snd (Prod.snd (Prod.snd x)))),
                ()))
            (some
              ((Prod.fst (Prod.fst x), Prod.fst (Prod.snd (Prod.fst x)), Prod.fst (Prod.snd (Prod.snd x)),
                  Prod.snd (Prod.snd (Prod.snd (Prod.snd x)))),
                ()))))
        (some
          ((Prod.fst (Prod.fst x), Prod.fst (Prod.snd (Prod.fst x)), Prod.fst (Prod.snd (Prod.snd x)),
              Prod.snd (Prod.snd (Prod.snd (Prod.snd x)))),
            ())))
      (oite (!Prod.fst (Prod.snd (Prod.snd (Prod.snd x))))
        (oite (decide (Prod.fst (Prod.fst x) = (0 : UInt8)))
          (some
            ((Prod.fst (Prod.fst x), Prod.fst (Prod.snd (Prod.fst x)), Prod.fst (Prod.snd (Prod.snd x)),
                Prod.snd (Prod.snd (Prod.snd (Prod.snd x)))),
              ()))
          (some
            (((0 : UInt8), Prod.fst (Prod.snd (Prod.snd x)), Prod.fst (Prod.snd (Prod.snd x)),
                Prod.snd (Prod.snd (Prod.snd (Prod.snd x)))),
              ())))
        (oite (!decide (Prod.fst (Prod.fst x) = (1 : UInt8)))
          (oite (decide (Prod.fst (Prod.snd (Prod.snd x)) ≤ Prod.fst (Prod.snd (Prod.snd x))))
            (oite
              (decide
                (Prod.fst (Prod.fst (Prod.snd x)) ≤
                  Prod.fst (Prod.snd (Prod.snd x)) - Prod.fst (Prod.snd (Prod.snd x))))
              (some
                (((2 : UInt8), Prod.fst (Prod.snd (Prod.snd x)), Prod.fst (Prod.snd (Prod.snd x)),
                    Prod.snd (Prod.snd (Prod.snd (Prod.snd x)))),
                  ()))
              (some
                (((1 : UInt8), Prod.fst (Prod.snd (Prod.snd x)), Prod.fst (Prod.snd (Prod.snd x)),
                    Prod.snd (Prod.snd (Prod.snd (Prod.snd x)))),
                  ())))
            (some
              (((1 : UInt8), Prod.fst (Prod.snd (Prod.snd x)), Prod.fst (Prod.snd (Prod.snd x)),
                  Prod.snd (Prod.snd (Prod.snd (Prod.snd x)))),
                ())))
          (oite (decide (Prod.fst (Prod.snd (Prod.fst x)) ≤ Prod.fst (Prod.snd (Prod.snd x))))
            (oite
              (decide
                (Prod.fst (Prod.fst (Prod.snd x)) ≤
                  Prod.fst (Prod.snd (Prod.snd x)) - Prod.fst (Prod.snd (Prod.fst x))))
              (some
                (((2 : UInt8), Prod.fst (Prod.snd (Prod.snd x)), Prod.fst (Prod.snd (Prod.snd x)),
                    Prod.snd (Prod.snd (Prod.snd (Prod.snd x)))),
                  ()))
              (some
                ((Prod.fst (Prod.fst x), Prod.fst (Prod.snd (Prod.fst x)), Prod.fst (Prod.snd (Prod.snd x)),
                    Prod.snd (Prod.snd (Prod.snd (Prod.snd x)))),
                  ())))
            (some
              ((Prod.fst (Prod.fst x), Prod.fst (Prod.snd (Prod.fst x)), Prod.fst (Prod.snd (Prod.snd x)),
                  Prod.snd (Prod.snd (Prod.snd (Prod.snd x)))),
                ()))))))
    (oite (decide (Prod.fst (Prod.fst x) = (2 : UInt8)))
      (oite (!Prod.fst (Prod.snd (Prod.snd (Prod.snd x))))
        (oite (decide (Prod.fst (Prod.snd (Prod.snd x)) < Prod.fst (Prod.snd (Prod.snd (Prod.fst x)))))
          (some
            (((0 : UInt8), Prod.fst (Prod.snd (Prod.snd x)), Prod.fst (Prod.snd (Prod.snd (Prod.fst x))),
                Prod.snd (Prod.snd (Prod.snd (Prod.snd x)))),
              ()))
          (oite
            (decide
              (Prod.snd (Prod.fst (Prod.snd x)) ≤
                Prod.fst (Prod.snd (Prod.snd x)) - Prod.fst (Prod.snd (Prod.snd (Prod.fst x)))))
            (some
              (((0 : UInt8), Prod.fst (Prod.snd (Prod.snd x)), Prod.fst (Prod.snd (Prod.snd (Prod.fst x))),
                  Prod.snd (Prod.snd (Prod.snd (Prod.snd x)))),
                ()))
            (some
              ((Prod.fst (Prod.fst x), Prod.fst (Prod.snd (Prod.fst x)), Prod.fst (Prod.snd (Prod.snd (Prod.fst x))),
                  Prod.snd (Prod.snd (Prod.snd (Prod.fst x)))),
                ()))))
        (some
          ((Prod.fst (Prod.fst x), Prod.fst (Prod.snd (Prod.fst x)), Prod.fst (Prod.snd (Prod.snd (Prod.fst x))),
              Prod.snd (Prod.snd (Prod.snd (Prod.fst x)))),
            ())))
      (oite (!Prod.fst (Prod.snd (Prod.snd (Prod.snd x))))
        (oite (decide (Prod.fst (Prod.fst x) = (0 : UInt8)))
          (some
            ((Prod.fst (Prod.fst x), Prod.fst (Prod.snd (Prod.fst x)), Prod.fst (Prod.snd (Prod.snd (Prod.fst x))),
                Prod.snd (Prod.snd (Prod.snd (Prod.fst x)))),
              ()))
          (some
            (((0 : UInt8), Prod.fst (Prod.snd (Prod.snd x)), Prod.fst (Prod.snd (Prod.snd (Prod.fst x))),
                Prod.snd (Prod.snd (Prod.snd (Prod.snd x)))),
              ())))
        (oite (!decide (Prod.fst (Prod.fst x) = (1 : UInt8)))
          (oite (decide (Prod.fst (Prod.snd (Prod.snd x)) ≤ Prod.fst (Prod.snd (Prod.snd x))))
            (oite
              (decide
                (Prod.fst (Prod.fst (Prod.snd x)) ≤
                  Prod.fst (Prod.snd (Prod.snd x)) - Prod.fst (Prod.snd (Prod.snd x))))
              (some
                (((2 : UInt8), Prod.fst (Prod.snd (Prod.snd x)), Prod.fst (Prod.snd (Prod.snd (Prod.fst x))),
                    Prod.snd (Prod.snd (Prod.snd (Prod.fst x)))),
                  ()))
              (some
                (((1 : UInt8), Prod.fst (Prod.snd (Prod.snd x)), Prod.fst (Prod.snd (Prod.snd (Prod.fst x))),
                    Prod.snd (Prod.snd (Prod.snd (Prod.fst x)))),
                  ())))
            (some
              (((1 : UInt8), Prod.fst (Prod.snd (Prod.snd x)), Prod.fst (Prod.snd (Prod.snd (Prod.fst x))),
                  Prod.snd (Prod.snd (Prod.snd (Prod.fst x)))),
                ())))
          (oite (decide (Prod.fst (Prod.snd (Prod.fst x)) ≤ Prod.fst (Prod.snd (Prod.snd x))))
            (oite
              (decide
                (Prod.fst (Prod.fst (Prod.snd x)) ≤
                  Prod.fst (Prod.snd (Prod.snd x)) - Prod.fst (Prod.snd (Prod.fst x))))
              (some
                (((2 : UInt8), Prod.fst (Prod.snd (Prod.snd x)), Prod.fst (Prod.snd (Prod.snd (Prod.fst x))),
                    Prod.snd (Prod.snd (Prod.snd (Prod.fst x)))),
                  ()))
              (some
                ((Prod.fst (Prod.fst x), Prod.fst (Prod.snd (Prod.fst x)), Prod.fst (Prod.snd (Prod.snd (Prod.fst x))),
                    Prod.snd (Prod.snd (Prod.snd (Prod.fst x)))),
                  ())))
            (some
              ((Prod.fst (Prod.fst x), Prod.fst (Prod.snd (Prod.fst x)), Prod.fst (Prod.snd (Prod.snd (Prod.fst x))),
                  Prod.snd (Prod.snd (Prod.snd (Prod.fst x)))),
                ()))))))
theorem ok8 (n : Nat) : FunOK Try.prog ⟨8, sig8, F8 n⟩ :=
  fun_ok (hints := ⟨[], []⟩) (fuel := n) (c := Try.f8.body.getD .skip) (rs := Try.f8.results.toList) tt_ok mix (FsOK.nil) Try.func8 (by kernel_rfl) (by kernel_rfl) rfl (by kernel_rfl) rfl rfl (by kernel_rfl)
def sig9 : Sig := ⟨.cons (.agg phS) (.nil), .cons (.one (.c .bool)) (.nil)⟩
def F9 : Nat → UInt8 × UInt64 × UInt64 × Int64 → Option (Bool × Unit) := fun (n : Nat) (x : UInt8 × UInt64 × UInt64 × Int64) => some (decide (Prod.fst x = (2 : UInt8)), ())
theorem ok9 (n : Nat) : FunOK Try.prog ⟨9, sig9, F9 n⟩ :=
  fun_ok (hints := ⟨[], []⟩) (fuel := n) (c := Try.f9.body.getD .skip) (rs := Try.f9.results.toList) tt_ok mix (FsOK.nil) Try.func9 (by kernel_rfl) (by kernel_rfl) rfl (by kernel_rfl) rfl rfl (by kernel_rfl)
def sig7 : Sig := ⟨.nil, .cons (.one (.c .bool)) (.nil)⟩
def F7 : Nat → Unit → Option (Bool × Unit) := fun (n : Nat) (x : Unit) =>
  ofixA
    [PT.int IntKind.u64, PT.int IntKind.u64, PT.int IntKind.u64, PT.int IntKind.u8, PT.int IntKind.u64,
      PT.int IntKind.u64, PT.int IntKind.i64]
    (fun
        (rec :
          Arr
            [PT.int IntKind.u64, PT.int IntKind.u64, PT.int IntKind.u64, PT.int IntKind.u8, PT.int IntKind.u64,
              PT.int IntKind.u64, PT.int IntKind.i64]
            (Option (Bool × Unit)))
        (x_1 x_2 x_3 : UInt64) (x_4 : UInt8) (x_5 x_6 : UInt64) (x_7 : Int64) =>
      oite (decide (x_1 < (3 : UInt64)))
        (obind (F8 n ((x_4, x_5, x_6, x_7), (x_2, x_3), x_1 + (1 : UInt64), true, (7 : Int64)))
          fun (x_8 : (UInt8 × UInt64 × UInt64 × Int64) × Unit) =>
          rec (x_1 + (1 : UInt64)) x_2 x_3 (Prod.fst (Prod.fst x_8)) (Prod.fst (Prod.snd (Prod.fst x_8)))
            (Prod.fst (Prod.snd (Prod.snd (Prod.fst x_8)))) (Prod.snd (Prod.snd (Prod.snd (Prod.fst x_8)))))
        (obind (F8 n ((x_4, x_5, x_6, x_7), (x_2, x_3), (4 : UInt64), false, (0 : Int64)))
          fun (x_8 : (UInt8 × UInt64 × UInt64 × Int64) × Unit) =>
          obind (F9 n (x_4, x_5, x_6, x_7)) fun (x_9 : Bool × Unit) =>
            oite (Prod.fst x_9)
              (oite (decide (x_5 = (3 : UInt64)))
                (oite (decide (Prod.fst (Prod.fst x_8) = (0 : UInt8)))
                  (some (decide (Prod.fst (Prod.snd (Prod.fst x_8)) = (4 : UInt64)), ()))
                  (some (false, ())))
                (some (false, ())))
              (some (false, ()))))
    n (0 : UInt64) (2 : UInt64) (0 : UInt64) (0 : UInt8) (0 : UInt64) (0 : UInt64) (0 : Int64)
theorem ok7 (n : Nat) : FunOK Try.prog ⟨7, sig7, F7 n⟩ :=
  fun_ok (hints := ⟨[], [(61, ⟨[(1, .one (.own 0)), (2, .one (.own 1)), (6, .one (.int .u64))], [(0, .cells [.int .u64, .int .u64]), (1, .cells [.int .u8, .int .u64, .int .u64, .int .i64])], 2⟩)]⟩) (fuel := n) (c := Try.f7.body.getD .skip) (rs := Try.f7.results.toList) tt_ok mix (FsOK.cons (ok8 n) (FsOK.cons (ok9 n) (FsOK.nil))) Try.func7 (by kernel_rfl) (by kernel_rfl) rfl (by kernel_rfl) rfl rfl (by kernel_rfl)
def sig11 : Sig := ⟨.cons (.agg phS) (.nil), .cons (.agg reS) (.nil)⟩
def F11 : Nat → UInt8 × UInt64 × UInt64 × Int64 → Option ((Int64 × UInt64 × UInt64 × Int64) × Unit) := fun (n : Nat) (x : UInt8 × UInt64 × UInt64 × Int64) =>
  some
    ((Int64.ofInt ↑(UInt8.toNat (Prod.fst x)), Prod.fst (Prod.snd x), Prod.fst (Prod.snd (Prod.snd x)),
        Prod.snd (Prod.snd (Prod.snd x))),
      ())
theorem ok11 (n : Nat) : FunOK Try.prog ⟨11, sig11, F11 n⟩ :=
  fun_ok (hints := ⟨[], []⟩) (fuel := n) (c := Try.f11.body.getD .skip) (rs := Try.f11.results.toList) tt_ok mix (FsOK.nil) Try.func11 (by kernel_rfl) (by kernel_rfl) rfl (by kernel_rfl) rfl rfl (by kernel_rfl)
def sig12 : Sig := ⟨.cons (.agg reS) (.cons (.one (.c (.int .u64))) (.cons (.one (.c (.int .u64))) (.cons (.one (.c (.int .u64))) (.cons (.one (.c .bool)) (.cons (.one (.c (.int .i64))) (.nil)))))), .cons (.agg reS) (.nil)⟩
def F12 : Nat →
  (Int64 × UInt64 × UInt64 × Int64) × UInt64 × UInt64 × UInt64 × Bool × Int64 →
    Option ((Int64 × UInt64 × UInt64 × Int64) × Unit) := fun (n : Nat) (x : (Int64 × UInt64 × UInt64 × Int64) × UInt64 × UInt64 × UInt64 × Bool × Int64) =>
  oite (Prod.fst (Prod.snd (Prod.snd (Prod.snd (Prod.snd x)))))
    (oite (decide (Prod.fst (Prod.fst x) = (2 : Int64)))
      (some
        ((Prod.fst (Prod.fst x), Prod.fst (Prod.snd (Prod.fst x)), Prod.fst (Prod.snd (Prod.snd (Prod.snd x))),
            Prod.snd (Prod.snd (Prod.snd (Prod.snd (Prod.snd x))))),
          ()))
      (oite (!decide (Prod.fst (Prod.fst x) = (1 : Int64)))
        (oite (decide (Prod.fst (Prod.snd (Prod.snd (Prod.snd x))) ≤ Prod.fst (Prod.snd (Prod.snd (Prod.snd x)))))
          (oite
            (decide
              (Prod.fst (Prod.snd x) ≤
                Prod.fst (Prod.snd (Prod.snd (Prod.snd x))) - Prod.fst (Prod.snd (Prod.snd (Prod.snd x)))))
            (some
              (((2 : Int64), Prod.fst (Prod.snd (Prod.snd (Prod.snd x))), Prod.fst (Prod.snd (Prod.snd (Prod.snd x))),
                  Prod.snd (Prod.snd (Prod.snd (Prod.snd (Prod.snd x))))),
                ()))
            (some
              (((1 : Int64), Prod.fst (Prod.snd (Prod.snd (Prod.snd x))), Prod.fst (Prod.snd (Prod.snd (Prod.snd x))),
                  Prod.snd (Prod.snd (Prod.snd (Prod.snd (Prod.snd x))))),
                ())))
          (some
            (((1 : Int64), Prod.fst (Prod.snd (Prod.snd (Prod.snd x))), Prod.fst (Prod.snd (Prod.snd (Prod.snd x))),
                Prod.snd (Prod.snd (Prod.snd (Prod.snd (Prod.snd x))))),
              ())))
        (oite (decide (Prod.fst (Prod.snd (Prod.fst x)) ≤ Prod.fst (Prod.snd (Prod.snd (Prod.snd x)))))
          (oite
            (decide
              (Prod.fst (Prod.snd x) ≤ Prod.fst (Prod.snd (Prod.snd (Prod.snd x))) - Prod.fst (Prod.snd (Prod.fst x))))
            (some
              (((2 : Int64), Prod.fst (Prod.snd (Prod.snd (Prod.snd x))), Prod.fst (Prod.snd (Prod.snd (Prod.snd x))),
                  Prod.snd (Prod.snd (Prod.snd (Prod.snd (Prod.snd x))))),
                ()))
            (some
              ((Prod.fst (Prod.fst x), Prod.fst (Prod.snd (Prod.fst x)), Prod.fst (Prod.snd (Prod.snd (Prod.snd x))),
                  Prod.snd (Prod.snd (Prod.snd (Prod.snd (Prod.snd x))))),
                ())))
          (some
            ((Prod.fst (Prod.fst x), Prod.fst (Prod.snd (Prod.fst x)), Prod.fst (Prod.snd (Prod.snd (Prod.snd x))),
                Prod.snd (Prod.snd (Prod.snd (Prod.snd (Prod.snd x))))),
              ())))))
    (oite (decide (Prod.fst (Prod.fst x) = (0 : Int64)))
      (some
        ((Prod.fst (Prod.fst x), Prod.fst (Prod.snd (Prod.fst x)), Prod.fst (Prod.snd (Prod.snd (Prod.fst x))),
            Prod.snd (Prod.snd (Prod.snd (Prod.fst x)))),
          ()))
      (oite (decide (Prod.fst (Prod.fst x) = (2 : Int64)))
        (oite (decide (Prod.fst (Prod.snd (Prod.snd (Prod.fst x))) ≤ Prod.fst (Prod.snd (Prod.snd (Prod.snd x)))))
          (oite
            (decide
              (Prod.fst (Prod.snd (Prod.snd (Prod.snd x))) - Prod.fst (Prod.snd (Prod.snd (Prod.fst x))) <
                Prod.fst (Prod.snd (Prod.snd x))))
            (some
              ((Prod.fst (Prod.fst x), Prod.fst (Prod.snd (Prod.fst x)), Prod.fst (Prod.snd (Prod.snd (Prod.fst x))),
                  Prod.snd (Prod.snd (Prod.snd (Prod.fst x)))),
                ()))
            (some
              (((0 : Int64), Prod.fst (Prod.snd (Prod.snd (Prod.snd x))), Prod.fst (Prod.snd (Prod.snd (Prod.fst x))),
                  Prod.snd (Prod.snd (Prod.snd (Prod.snd (Prod.snd x))))),
                ())))
          (some
            (((0 : Int64), Prod.fst (Prod.snd (Prod.snd (Prod.snd x))), Prod.fst (Prod.snd (Prod.snd (Prod.fst x))),
                Prod.snd (Prod.snd (Prod.snd (Prod.snd (Prod.snd x))))),
              ())))
        (some
          (((0 : Int64), Prod.fst (Prod.snd (Prod.snd (Prod.snd x))), Prod.fst (Prod.snd (Prod.snd (Prod.fst x))),
              Prod.snd (Prod.snd (Prod.snd (Prod.snd (Prod.snd x))))),
            ()))))
theorem ok12 (n : Nat) : FunOK Try.prog ⟨12, sig12, F12 n⟩ :=
  fun_ok (hints := ⟨[], []⟩) (fuel := n) (c := Try.f12.body.getD .skip) (rs := Try.f12.results.toList) tt_ok mix (FsOK.nil) Try.func12 (by kernel_rfl) (by kernel_rfl) rfl (by kernel_rfl) rfl rfl (by kernel_rfl)
def sig13 : Sig := ⟨.cons (.agg wS) (.nil), .cons (.one (.c (.int .i64))) (.nil)⟩
def F13 : Nat → UInt64 × UInt64 → Option (Int64 × Unit) := fun (n : Nat) (x : UInt64 × UInt64) =>
  oite (decide ((1048576 : UInt64) < Prod.fst x)) (some ((6 : Int64), ()))
    (oite (decide ((1048576 : UInt64) < Prod.snd x)) (some ((6 : Int64), ())) (some ((0 : Int64), ())))
theorem ok13 (n : Nat) : FunOK Try.prog ⟨13, sig13, F13 n⟩ :=
  fun_ok (hints := ⟨[], []⟩) (fuel := n) (c := Try.f13.body.getD .skip) (rs := Try.f13.results.toList) tt_ok mix (FsOK.nil) Try.func13 (by kernel_rfl) (by kernel_rfl) rfl (by kernel_rfl) rfl rfl (by kernel_rfl)
def sig6 : Sig := ⟨.cons (.agg phS) (.cons (.agg wS) (.cons (.one (.c (.int .u64))) (.cons (.one (.c .bool)) (.cons (.one (.c (.int .i64))) (.nil))))), .cons (.one (.c .bool)) (.nil)⟩
def F6 : Nat → (UInt8 × UInt64 × UInt64 × Int64) × (UInt64 × UInt64) × UInt64 × Bool × Int64 → Option (Bool × Unit) := fun (n : Nat) (x : (UInt8 × UInt64 × UInt64 × Int64) × (UInt64 × UInt64) × UInt64 × Bool × Int64) =>
  obind (F7 n ()) fun (x_1 : Bool × Unit) =>
    oite (!Prod.fst x_1) (some (false, ()))
      (obind
        (F8 n
          ((Prod.fst (Prod.fst x) % (3 : UInt8), Prod.fst (Prod.snd (Prod.fst x)),
              Prod.fst (Prod.snd (Prod.snd (Prod.fst x))), Prod.snd (Prod.snd (Prod.snd (Prod.fst x)))),
            (Prod.fst (Prod.fst (Prod.snd x)), Prod.snd (Prod.fst (Prod.snd x))), Prod.fst (Prod.snd (Prod.snd x)),
            Prod.fst (Prod.snd (Prod.snd (Prod.snd x))), Prod.snd (Prod.snd (Prod.snd (Prod.snd x)))))
        fun (x_2 : (UInt8 × UInt64 × UInt64 × Int64) × Unit) =>
        oite (decide ((1048576 : UInt64) < Prod.fst (Prod.fst (Prod.snd x))))
          (obind
            (F11 n
              (Prod.fst (Prod.fst x_2), Prod.fst (Prod.snd (Prod.fst x_2)),
                Prod.fst (Prod.snd (Prod.snd (Prod.fst x_2))), Prod.snd (Prod.snd (Prod.snd (Prod.fst x_2)))))
            fun (x_3 : (Int64 × UInt64 × UInt64 × Int64) × Unit) =>
            obind
              (F11 n
                (Prod.fst (Prod.fst x) % (3 : UInt8), Prod.fst (Prod.snd (Prod.fst x)),
                  Prod.fst (Prod.snd (Prod.snd (Prod.fst x))), Prod.snd (Prod.snd (Prod.snd (Prod.fst x)))))
              fun (x_4 : (Int64 × UInt64 × UInt64 × Int64) × Unit) =>
              obind
                (F12 n
                  ((Prod.fst (Prod.fst x_4), Prod.fst (Prod.snd (Prod.fst x_4)),
                      Prod.fst (Prod.snd (Prod.snd (Prod.fst x_4))), Prod.snd (Prod.snd (Prod.snd (Prod.fst x_4)))),
                    Prod.fst (Prod.fst (Prod.snd x)), Prod.snd (Prod.fst (Prod.snd x)),
                    Prod.fst (Prod.snd (Prod.snd x)), Prod.fst (Prod.snd (Prod.snd (Prod.snd x))),
                    Prod.snd (Prod.snd (Prod.snd (Prod.snd x)))))
                fun (x_5 : (Int64 × UInt64 × UInt64 × Int64) × Unit) =>
                oite
                  (decide (Prod.fst (Prod.fst x_3) = Prod.fst (Prod.fst x_5)) &&
                    (decide (Prod.fst (Prod.snd (Prod.fst x_3)) = Prod.fst (Prod.snd (Prod.fst x_5))) &&
                      (decide
                          (Prod.fst (Prod.snd (Prod.snd (Prod.fst x_3))) =
                            Prod.fst (Prod.snd (Prod.snd (Prod.fst x_5)))) &&
                        (decide
                            (Prod.snd (Prod.snd (Prod.snd (Prod.fst x_3))) =
                              Prod.snd (Prod.snd (Prod.snd (Prod.fst x_5)))) &&
                          true))))
                  (obind (F13 n (Prod.fst (Prod.fst (Prod.snd x)), Prod.snd (Prod.fst (Prod.snd x))))
                    fun (x_6 : Int64 × Unit) => some (decide (Prod.fst x_6 = (6 : Int64)), ()))
                  (some (false, ())))
          (oite (decide ((1048576 : UInt64) < Prod.snd (Prod.fst (Prod.snd x))))
            (obind
              (F11 n
                (Prod.fst (Prod.fst x_2), Prod.fst (Prod.snd (Prod.fst x_2)),
                  Prod.fst (Prod.snd (Prod.snd (Prod.fst x_2))), Prod.snd (Prod.snd (Prod.snd (Prod.fst x_2)))))
              fun (x_3 : (Int64 × UInt64 × UInt64 × Int64) × Unit) =>
              obind
                (F11 n
                  (Prod.fst (Prod.fst x) % (3 : UInt8), Prod.fst (Prod.snd (Prod.fst x)),
                    Prod.fst (Prod.snd (Prod.snd (Prod.fst x))), Prod.snd (Prod.snd (Prod.snd (Prod.fst x)))))
                fun (x_4 : (Int64 × UInt64 × UInt64 × Int64) × Unit) =>
                obind
                  (F12 n
                    ((Prod.fst (Prod.fst x_4), Prod.fst (Prod.snd (Prod.fst x_4)),
                        Prod.fst (Prod.snd (Prod.snd (Prod.fst x_4))), Prod.snd (Prod.snd (Prod.snd (Prod.fst x_4)))),
                      Prod.fst (Prod.fst (Prod.snd x)), Prod.snd (Prod.fst (Prod.snd x)),
                      Prod.fst (Prod.snd (Prod.snd x)), Prod.fst (Prod.snd (Prod.snd (Prod.snd x))),
                      Prod.snd (Prod.snd (Prod.snd (Prod.snd x)))))
                  fun (x_5 : (Int64 × UInt64 × UInt64 × Int64) × Unit) =>
                  oite
                    (decide (Prod.fst (Prod.fst x_3) = Prod.fst (Prod.fst x_5)) &&
                      (decide (Prod.fst (Prod.snd (Prod.fst x_3)) = Prod.fst (Prod.snd (Prod.fst x_5))) &&
                        (decide
                            (Prod.fst (Prod.snd (Prod.snd (Prod.fst x_3))) =
                              Prod.fst (Prod.snd (Prod.snd (Prod.fst x_5)))) &&
                          (decide
                              (Prod.snd (Prod.snd (Prod.snd (Prod.fst x_3))) =
                                Prod.snd (Prod.snd (Prod.snd (Prod.fst x_5)))) &&
                            true))))
                    (obind (F13 n (Prod.fst (Prod.fst (Prod.snd x)), Prod.snd (Prod.fst (Prod.snd x))))
                      fun (x_6 : Int64 × Unit) => some (decide (Prod.fst x_6 = (6 : Int64)), ()))
                    (some (false, ())))
            (obind
              (F11 n
                (Prod.fst (Prod.fst x_2), Prod.fst (Prod.snd (Prod.fst x_2)),
                  Prod.fst (Prod.snd (Prod.snd (Prod.fst x_2))), Prod.snd (Prod.snd (Prod.snd (Prod.fst x_2)))))
              fun (x_3 : (Int64 × UInt64 × UInt64 × Int64) × Unit) =>
              obind
                (F11 n
                  (Prod.fst (Prod.fst x) % (3 : UInt8), Prod.fst (Prod.snd (Prod.fst x)),
                    Prod.fst (Prod.snd (Prod.snd (Prod.fst x))), Prod.snd (Prod.snd (Prod.snd (Prod.fst x)))))
                fun (x_4 : (Int64 × UInt64 × UInt64 × Int64) × Unit) =>
                obind
                  (F12 n
                    ((Prod.fst (Prod.fst x_4), Prod.fst (Prod.snd (Prod.fst x_4)),
                        Prod.fst (Prod.snd (Prod.snd (Prod.fst x_4))), Prod.snd (Prod.snd (Prod.snd (Prod.fst x_4)))),
                      Prod.fst (Prod.fst (Prod.snd x)), Prod.snd (Prod.fst (Prod.snd x)),
                      Prod.fst (Prod.snd (Prod.snd x)), Prod.fst (Prod.snd (Prod.snd (Prod.snd x))),
                      Prod.snd (Prod.snd (Prod.snd (Prod.snd x)))))
                  fun (x_5 : (Int64 × UInt64 × UInt64 × Int64) × Unit) =>
                  oite
                    (decide (Prod.fst (Prod.fst x_3) = Prod.fst (Prod.fst x_5)) &&
                      (decide (Prod.fst (Prod.snd (Prod.fst x_3)) = Prod.fst (Prod.snd (Prod.fst x_5))) &&
                        (decide
                            (Prod.fst (Prod.snd (Prod.snd (Prod.fst x_3))) =
                              Prod.fst (Prod.snd (Prod.snd (Prod.fst x_5)))) &&
                          (decide
                              (Prod.snd (Prod.snd (Prod.snd (Prod.fst x_3))) =
                                Prod.snd (Prod.snd (Prod.snd (Prod.fst x_5)))) &&
                            true))))
                    (obind (F13 n (Prod.fst (Prod.fst (Prod.snd x)), Prod.snd (Prod.fst (Prod.snd x))))
                      fun (x_6 : Int64 × Unit) => some (decide (Prod.fst x_6 = (0 : Int64)), ()))
                    (some (false, ())))))
theorem ok6 (n : Nat) : FunOK Try.prog ⟨6, sig6, F6 n⟩ :=
  fun_ok (hints := ⟨[], []⟩) (fuel := n) (c := Try.f6.body.getD .skip) (rs := Try.f6.results.toList) tt_ok mix (FsOK.cons (ok7 n) (FsOK.cons (ok8 n) (FsOK.cons (ok11 n) (FsOK.cons (ok12 n) (FsOK.cons (ok13 n) (FsOK.nil)))))) Try.func6 (by kernel_rfl) (by kernel_rfl) rfl (by kernel_rfl) rfl rfl (by kernel_rfl)
def sig10 : Sig := ⟨.cons (.one (.c (.int .u64))) (.cons (.one (.c (.int .i64))) (.nil)), .cons (.agg phS) (.nil)⟩
def F10 : Nat → UInt64 × Int64 → Option ((UInt8 × UInt64 × UInt64 × Int64) × Unit) := fun (n : Nat) (x : UInt64 × Int64) => some (((2 : UInt8), Prod.fst x, Prod.fst x, Prod.snd x), ())
theorem ok10 (n : Nat) : FunOK Try.prog ⟨10, sig10, F10 n⟩ :=
  fun_ok (hints := ⟨[], []⟩) (fuel := n) (c := Try.f10.body.getD .skip) (rs := Try.f10.results.toList) tt_ok mix (FsOK.nil) Try.func10 (by kernel_rfl) (by kernel_rfl) rfl (by kernel_rfl) rfl rfl (by kernel_rfl)
def sig5 : Sig := ⟨.cons (.one (.c (.int .u32))) (.cons (.one (.c (.int .i64))) (.cons (.one (.c (.int .u8))) (.cons (.one (.c (.int .u8))) (.cons (.one (.c (.int .u64))) (.nil))))), .cons (.one (.c .bool)) (.nil)⟩
def F5 : Nat → UInt32 × Int64 × UInt8 × UInt8 × UInt64 → Option (Bool × Unit) := fun (n : Nat) (x : UInt32 × Int64 × UInt8 × UInt8 × UInt64) =>
  obind (F7 n ()) fun (x_1 : Bool × Unit) =>
    oite (!Prod.fst x_1) (some (false, ()))
      (obind (F10 n (UInt64.ofInt ↑(UInt32.toNat (Prod.fst x)), Prod.fst (Prod.snd x)))
        fun (x_2 : (UInt8 × UInt64 × UInt64 × Int64) × Unit) =>
        obind
          (F9 n
            (Prod.fst (Prod.fst x_2), Prod.fst (Prod.snd (Prod.fst x_2)), Prod.fst (Prod.snd (Prod.snd (Prod.fst x_2))),
              Prod.snd (Prod.snd (Prod.snd (Prod.fst x_2)))))
          fun (x_3 : Bool × Unit) =>
          oite (!Prod.fst x_3) (some (false, ()))
            (oite (!decide (Prod.snd (Prod.snd (Prod.snd (Prod.fst x_2))) = Prod.fst (Prod.snd x)))
              (some (false, ()))
              (oite (!decide (Prod.fst (Prod.snd (Prod.fst x_2)) = UInt64.ofInt ↑(UInt32.toNat (Prod.fst x))))
                (some (false, ()))
                (ofixA
                  [PT.int IntKind.u32, PT.int IntKind.i64, PT.int IntKind.u64, PT.int IntKind.u64, PT.int IntKind.u64,
                    PT.int IntKind.u64, PT.int IntKind.u64, PT.int IntKind.u8, PT.int IntKind.u64, PT.int IntKind.u64,
                    PT.int IntKind.i64]
                  (fun
                      (rec :
                        Arr
                          [PT.int IntKind.u32, PT.int IntKind.i64, PT.int IntKind.u64, PT.int IntKind.u64,
                            PT.int IntKind.u64, PT.int IntKind.u64, PT.int IntKind.u64, PT.int IntKind.u8,
                            PT.int IntKind.u64, PT.int IntKind.u64, PT.int IntKind.i64]
                          (Option (Bool × Unit)))
                      (x_4 : UInt32) (x_5 : Int64) (x_6 x_7 x_8 x_9 x_10 : UInt64) (x_11 : UInt8) (x_12 x_13 : UInt64)
                      (x_14 : Int64) =>
                    oite (decide (x_8 < x_7))
                      (obind
                        (F8 n
                          ((x_11, x_12, x_13, x_14), (x_9, x_10), UInt64.ofInt ↑(UInt32.toNat x_4) + x_8, false,
                            (0 : Int64)))
                        fun (x_15 : (UInt8 × UInt64 × UInt64 × Int64) × Unit) =>
                        obind
                          (F9 n
                            (Prod.fst (Prod.fst x_15), Prod.fst (Prod.snd (Prod.fst x_15)),
                              Prod.fst (Prod.snd (Prod.snd (Prod.fst x_15))),
                              Prod.snd (Prod.snd (Prod.snd (Prod.fst x_15)))))
                          fun (x_16 : Bool × Unit) =>
                          oite (!Prod.fst x_16 == decide (x_8 < x_10)) (some (false, ()))
                            (rec x_4 x_5 x_6 x_7 (x_8 + (1 : UInt64)) x_9 x_10 (Prod.fst (Prod.fst x_15))
                              (Prod.fst (Prod.snd (Prod.fst x_15))) (Prod.fst (Prod.snd (Prod.snd (Prod.fst x_15))))
                              (Prod.snd (Prod.snd (Prod.snd (Prod.fst x_15))))))
                      (obind (F10 n (UInt64.ofInt ↑(UInt32.toNat x_4), x_5))
                        fun (x_15 : (UInt8 × UInt64 × UInt64 × Int64) × Unit) =>
                        obind
                          (F8 n
                            ((Prod.fst (Prod.fst x_15), Prod.fst (Prod.snd (Prod.fst x_15)),
                                Prod.fst (Prod.snd (Prod.snd (Prod.fst x_15))),
                                Prod.snd (Prod.snd (Prod.snd (Prod.fst x_15)))),
                              (x_9, x_10), UInt64.ofInt ↑(UInt32.toNat x_4) + (1 : UInt64) + x_6 % (1000 : UInt64),
                              true, (9 : Int64)))
                          fun (x_16 : (UInt8 × UInt64 × UInt64 × Int64) × Unit) =>
                          obind
                            (F9 n
                              (Prod.fst (Prod.fst x_16), Prod.fst (Prod.snd (Prod.fst x_16)),
                                Prod.fst (Prod.snd (Prod.snd (Prod.fst x_16))),
                                Prod.snd (Prod.snd (Prod.snd (Prod.fst x_16)))))
                            fun (x_17 : Bool × Unit) =>
                            oite (Prod.fst x_17)
                              (oite (decide (Prod.snd (Prod.snd (Prod.snd (Prod.fst x_16))) = (9 : Int64)))
                                (some
                                  (decide (Prod.fst (Prod.snd (Prod.fst x_16)) = UInt64.ofInt ↑(UInt32.toNat x_4)),
                                    ()))
                                (some (false, ())))
                              (some (false, ()))))
                  n (Prod.fst x) (Prod.fst (Prod.snd x)) (Prod.snd (Prod.snd (Prod.snd (Prod.snd x))))
                  (UInt64.ofInt ↑(UInt8.toNat (Prod.fst (Prod.snd (Prod.snd (Prod.snd x))) % (40 : UInt8))))
                  (0 : UInt64) (1 : UInt64)
                  (UInt64.ofInt ↑(UInt8.toNat (Prod.fst (Prod.snd (Prod.snd x)) % (20 : UInt8))))
                  (Prod.fst (Prod.fst x_2)) (Prod.fst (Prod.snd (Prod.fst x_2)))
                  (Prod.fst (Prod.snd (Prod.snd (Prod.fst x_2)))) (Prod.snd (Prod.snd (Prod.snd (Prod.fst x_2))))))))
theorem ok5 (n : Nat) : FunOK Try.prog ⟨5, sig5, F5 n⟩ :=
  fun_ok (hints := ⟨[], [(253, ⟨[(0, .one (.int .u32)), (1, .one (.int .i64)), (4, .one (.int .u64)), (11, .one (.own 0)), (12, .one (.own 1)), (43, .one (.int .u64)), (44, .one (.int .u64))], [(0, .cells [.int .u64, .int .u64]), (1, .cells [.int .u8, .int .u64, .int .u64, .int .i64])], 2⟩)]⟩) (fuel := n) (c := Try.f5.body.getD .skip) (rs := Try.f5.results.toList) tt_ok mix (FsOK.cons (ok7 n) (FsOK.cons (ok8 n) (FsOK.cons (ok9 n) (FsOK.cons (ok10 n) (FsOK.nil))))) Try.func5 (by kernel_rfl) (by kernel_rfl) rfl (by kernel_rfl) rfl rfl (by kernel_rfl)
def sig3 : Sig := ⟨.cons (.one (.c (.int .u8))) (.cons (.one (.c (.int .u8))) (.cons (.one (.c (.ro (.cons .bool .nil)))) (.nil))), .cons (.one (.c .bool)) (.nil)⟩
def F3 : Nat → UInt8 × UInt8 × List Bool → Option (Bool × Unit) := fun (n : Nat) (x : UInt8 × UInt8 × List Bool) =>
  obind (F7 n ()) fun (x_1 : Bool × Unit) =>
    oite (!Prod.fst x_1) (some (false, ()))
      (oite (decide ((120 : Int64) < Int64.ofInt ↑(List.length (Prod.snd (Prod.snd x))))) (some (true, ()))
        (ofixA
          [PT.int IntKind.i64, PT.int IntKind.i64, PT.bool, PT.list (CTs.cons CT.bool CTs.nil), PT.int IntKind.i64,
            PT.int IntKind.i64, PT.int IntKind.u64, PT.int IntKind.u64, PT.int IntKind.u8, PT.int IntKind.u64,
            PT.int IntKind.u64, PT.int IntKind.i64]
          (fun
              (rec :
                Arr
                  [PT.int IntKind.i64, PT.int IntKind.i64, PT.bool, PT.list (CTs.cons CT.bool CTs.nil),
                    PT.int IntKind.i64, PT.int IntKind.i64, PT.int IntKind.u64, PT.int IntKind.u64, PT.int IntKind.u8,
                    PT.int IntKind.u64, PT.int IntKind.u64, PT.int IntKind.i64]
                  (Option (Bool × Unit)))
              (x_2 x_3 : Int64) (x_4 : Bool) (x_5 : List Bool) (x_6 x_7 : Int64) (x_8 x_9 : UInt64) (x_10 : UInt8)
              (x_11 x_12 : UInt64) (x_13 : Int64) =>
            oite (decide (x_7 < x_6))
              (obind (at? x_5 (Int64.toInt x_7)) fun (x_14 : Bool) =>
                obind (F8 n ((x_10, x_11, x_12, x_13), (x_8, x_9), UInt64.ofInt (Int64.toInt x_7), x_14, (1 : Int64)))
                  fun (x_15 : (UInt8 × UInt64 × UInt64 × Int64) × Unit) =>
                  oite x_14
                    (oite x_4
                      (obind
                        (F9 n
                          (Prod.fst (Prod.fst x_15), Prod.fst (Prod.snd (Prod.fst x_15)),
                            Prod.fst (Prod.snd (Prod.snd (Prod.fst x_15))),
                            Prod.snd (Prod.snd (Prod.snd (Prod.fst x_15)))))
                        fun (x_16 : Bool × Unit) =>
                        oite (!Prod.fst x_16 == true) (some (false, ()))
                          (rec (x_2 + (1 : Int64)) (0 : Int64) true x_5 x_6 (x_7 + (1 : Int64)) x_8 x_9
                            (Prod.fst (Prod.fst x_15)) (Prod.fst (Prod.snd (Prod.fst x_15)))
                            (Prod.fst (Prod.snd (Prod.snd (Prod.fst x_15))))
                            (Prod.snd (Prod.snd (Prod.snd (Prod.fst x_15))))))
                      (obind
                        (F9 n
                          (Prod.fst (Prod.fst x_15), Prod.fst (Prod.snd (Prod.fst x_15)),
                            Prod.fst (Prod.snd (Prod.snd (Prod.fst x_15))),
                            Prod.snd (Prod.snd (Prod.snd (Prod.fst x_15)))))
                        fun (x_16 : Bool × Unit) =>
                        oite (!Prod.fst x_16 == decide (Int64.ofInt ↑(UInt64.toNat x_8) < x_2 + (1 : Int64)))
                          (some (false, ()))
                          (rec (x_2 + (1 : Int64)) (0 : Int64)
                            (decide (Int64.ofInt ↑(UInt64.toNat x_8) < x_2 + (1 : Int64))) x_5 x_6 (x_7 + (1 : Int64))
                            x_8 x_9 (Prod.fst (Prod.fst x_15)) (Prod.fst (Prod.snd (Prod.fst x_15)))
                            (Prod.fst (Prod.snd (Prod.snd (Prod.fst x_15))))
                            (Prod.snd (Prod.snd (Prod.snd (Prod.fst x_15)))))))
                    (oite x_4
                      (obind
                        (F9 n
                          (Prod.fst (Prod.fst x_15), Prod.fst (Prod.snd (Prod.fst x_15)),
                            Prod.fst (Prod.snd (Prod.snd (Prod.fst x_15))),
                            Prod.snd (Prod.snd (Prod.snd (Prod.fst x_15)))))
                        fun (x_16 : Bool × Unit) =>
                        oite (!Prod.fst x_16 == decide (x_3 + (1 : Int64) < Int64.ofInt ↑(UInt64.toNat x_9)))
                          (some (false, ()))
                          (rec (0 : Int64) (x_3 + (1 : Int64))
                            (decide (x_3 + (1 : Int64) < Int64.ofInt ↑(UInt64.toNat x_9))) x_5 x_6 (x_7 + (1 : Int64))
                            x_8 x_9 (Prod.fst (Prod.fst x_15)) (Prod.fst (Prod.snd (Prod.fst x_15)))
                            (Prod.fst (Prod.snd (Prod.snd (Prod.fst x_15))))
                            (Prod.snd (Prod.snd (Prod.snd (Prod.fst x_15))))))
                      (obind
                        (F9 n
                          (Prod.fst (Prod.fst x_15), Prod.fst (Prod.snd (Prod.fst x_15)),
                            Prod.fst (Prod.snd (Prod.snd (Prod.fst x_15))),
                            Prod.snd (Prod.snd (Prod.snd (Prod.fst x_15)))))
                        fun (x_16 : Bool × Unit) =>
                        oite (!Prod.fst x_16 == false) (some (false, ()))
                          (rec (0 : Int64) (x_3 + (1 : Int64)) false x_5 x_6 (x_7 + (1 : Int64)) x_8 x_9
                            (Prod.fst (Prod.fst x_15)) (Prod.fst (Prod.snd (Prod.fst x_15)))
                            (Prod.fst (Prod.snd (Prod.snd (Prod.fst x_15))))
                            (Prod.snd (Prod.snd (Prod.snd (Prod.fst x_15))))))))
              (some (true, ())))
          n (0 : Int64) (0 : Int64) false (Prod.snd (Prod.snd x)) (Int64.ofInt ↑(List.length (Prod.snd (Prod.snd x))))
          (0 : Int64) (UInt64.ofInt ↑(UInt8.toNat (Prod.fst x % (10 : UInt8))))
          (UInt64.ofInt ↑(UInt8.toNat (Prod.fst (Prod.snd x) % (10 : UInt8)))) (0 : UInt8) (0 : UInt64) (0 : UInt64)
          (0 : Int64)))
theorem ok3 (n : Nat) : FunOK Try.prog ⟨3, sig3, F3 n⟩ :=
  fun_ok (hints := ⟨[], [(1021, ⟨[(7, .one (.own 0)), (8, .one (.own 1)), (9, .one (.int .i64)), (10, .one (.int .i64)), (11, .one .bool), (26, .one (.ro (.cons .bool .nil))), (27, .one (.int .i64)), (28, .one (.int .i64))], [(0, .cells [.int .u64, .int .u64]), (1, .cells [.int .u8, .int .u64, .int .u64, .int .i64])], 2⟩)]⟩) (fuel := n) (c := Try.f3.body.getD .skip) (rs := Try.f3.results.toList) tt_ok mix (FsOK.cons (ok7 n) (FsOK.cons (ok8 n) (FsOK.cons (ok9 n) (FsOK.nil)))) Try.func3 (by kernel_rfl) (by kernel_rfl) rfl (by kernel_rfl) rfl rfl (by kernel_rfl)
def sig4 : Sig := ⟨.cons (.one (.c (.int .u8))) (.cons (.one (.c (.int .u8))) (.cons (.one (.c .bool)) (.cons (.one (.c (.int .u64))) (.cons (.one (.c (.ro (.cons (.int .u8) (.cons .bool (.cons (.int .i64) .nil)))))) (.nil))))), .cons (.one (.c .bool)) (.nil)⟩
def F4 : Nat → UInt8 × UInt8 × Bool × UInt64 × List (UInt8 × Bool × Int64) → Option (Bool × Unit) := fun (n : Nat) (x : UInt8 × UInt8 × Bool × UInt64 × List (UInt8 × Bool × Int64)) =>
  obind (F7 n ()) fun (x_1 : Bool × Unit) =>
    oite (!Prod.fst x_1) (some (false, ()))
      (oite (Prod.fst (Prod.snd (Prod.snd x)))
        (obind (F10 n (Prod.fst (Prod.snd (Prod.snd (Prod.snd x))) % (100 : UInt64), (5 : Int64)))
          fun (x_2 : (UInt8 × UInt64 × UInt64 × Int64) × Unit) =>
          obind
            (F11 n
              (Prod.fst (Prod.fst x_2), Prod.fst (Prod.snd (Prod.fst x_2)),
                Prod.fst (Prod.snd (Prod.snd (Prod.fst x_2))), Prod.snd (Prod.snd (Prod.snd (Prod.fst x_2)))))
            fun (x_3 : (Int64 × UInt64 × UInt64 × Int64) × Unit) =>
            ofixA
              [PT.int IntKind.u64,
                PT.list (CTs.cons (CT.int IntKind.u8) (CTs.cons CT.bool (CTs.cons (CT.int IntKind.i64) CTs.nil))),
                PT.int IntKind.i64, PT.int IntKind.i64, PT.int IntKind.u64, PT.int IntKind.u64, PT.int IntKind.u8,
                PT.int IntKind.u64, PT.int IntKind.u64, PT.int IntKind.i64, PT.int IntKind.i64, PT.int IntKind.u64,
                PT.int IntKind.u64, PT.int IntKind.i64]
              (fun
                  (rec :
                    Arr
                      [PT.int IntKind.u64,
                        PT.list
                          (CTs.cons (CT.int IntKind.u8) (CTs.cons CT.bool (CTs.cons (CT.int IntKind.i64) CTs.nil))),
                        PT.int IntKind.i64, PT.int IntKind.i64, PT.int IntKind.u64, PT.int IntKind.u64,
                        PT.int IntKind.u8, PT.int IntKind.u64, PT.int IntKind.u64, PT.int IntKind.i64,
                        PT.int IntKind.i64, PT.int IntKind.u64, PT.int IntKind.u64, PT.int IntKind.i64]
                      (Option (Bool × Unit)))
                  (x_4 : UInt64) (x_5 : List (UInt8 × Bool × Int64)) (x_6 x_7 : Int64) (x_8 x_9 : UInt64) (x_10 : UInt8)
                  (x_11 x_12 : UInt64) (x_13 x_14 : Int64) (x_15 x_16 : UInt64) (x_17 : Int64) =>
                oite (decide (x_7 < x_6))
                  (obind (at? x_5 (Int64.toInt x_7)) fun (x_18 : UInt8 × Bool × Int64) =>
                    oite (decide ((100 : Int64) < x_7)) (some (true, ()))
                      (obind
                        (F8 n
                          ((x_10, x_11, x_12, x_13), (x_8, x_9),
                            x_4 + UInt64.ofInt ↑(UInt8.toNat (Prod.fst x_18 % (5 : UInt8))), Prod.fst (Prod.snd x_18),
                            Prod.snd (Prod.snd x_18)))
                        fun (x_19 : (UInt8 × UInt64 × UInt64 × Int64) × Unit) =>
                        obind
                          (F12 n
                            ((x_14, x_15, x_16, x_17), x_8, x_9,
                              x_4 + UInt64.ofInt ↑(UInt8.toNat (Prod.fst x_18 % (5 : UInt8))), Prod.fst (Prod.snd x_18),
                              Prod.snd (Prod.snd x_18)))
                          fun (x_20 : (Int64 × UInt64 × UInt64 × Int64) × Unit) =>
                          obind
                            (F11 n
                              (Prod.fst (Prod.fst x_19), Prod.fst (Prod.snd (Prod.fst x_19)),
                                Prod.fst (Prod.snd (Prod.snd (Prod.fst x_19))),
                                Prod.snd (Prod.snd (Prod.snd (Prod.fst x_19)))))
                            fun (x_21 : (Int64 × UInt64 × UInt64 × Int64) × Unit) =>
                            oite
                              (!(decide (Prod.fst (Prod.fst x_21) = Prod.fst (Prod.fst x_20)) &&
                                  (decide (Prod.fst (Prod.snd (Prod.fst x_21)) = Prod.fst (Prod.snd (Prod.fst x_20))) &&
                                    (decide
                                        (Prod.fst (Prod.snd (Prod.snd (Prod.fst x_21))) =
                                          Prod.fst (Prod.snd (Prod.snd (Prod.fst x_20)))) &&
                                      (decide
                                          (Prod.snd (Prod.snd (Prod.snd (Prod.fst x_21))) =
                                            Prod.snd (Prod.snd (Prod.snd (Prod.fst x_20)))) &&
                                        true)))))
                              (some (false, ()))
                              (obind
                                (F9 n
                                  (Prod.fst (Prod.fst x_19), Prod.fst (Prod.snd (Prod.fst x_19)),
                                    Prod.fst (Prod.snd (Prod.snd (Prod.fst x_19))),
                                    Prod.snd (Prod.snd (Prod.snd (Prod.fst x_19)))))
                                fun (x_22 : Bool × Unit) =>
                                oite (!Prod.fst x_22 == decide (Prod.fst (Prod.fst x_19) = (2 : UInt8)))
                                  (some (false, ()))
                                  (rec (x_4 + UInt64.ofInt ↑(UInt8.toNat (Prod.fst x_18 % (5 : UInt8)))) x_5 x_6
                                    (x_7 + (1 : Int64)) x_8 x_9 (Prod.fst (Prod.fst x_19))
                                    (Prod.fst (Prod.snd (Prod.fst x_19)))
                                    (Prod.fst (Prod.snd (Prod.snd (Prod.fst x_19))))
                                    (Prod.snd (Prod.snd (Prod.snd (Prod.fst x_19)))) (Prod.fst (Prod.fst x_20))
                                    (Prod.fst (Prod.snd (Prod.fst x_20)))
                                    (Prod.fst (Prod.snd (Prod.snd (Prod.fst x_20))))
                                    (Prod.snd (Prod.snd (Prod.snd (Prod.fst x_20))))))))
                  (some (true, ())))
              n (Prod.fst (Prod.snd (Prod.snd (Prod.snd x))) % (100 : UInt64))
              (Prod.snd (Prod.snd (Prod.snd (Prod.snd x))))
              (Int64.ofInt ↑(List.length (Prod.snd (Prod.snd (Prod.snd (Prod.snd x)))))) (0 : Int64)
              (UInt64.ofInt ↑(UInt8.toNat (Prod.fst x % (12 : UInt8))))
              (UInt64.ofInt ↑(UInt8.toNat (Prod.fst (Prod.snd x) % (12 : UInt8)))) (Prod.fst (Prod.fst x_2))
              (Prod.fst (Prod.snd (Prod.fst x_2))) (Prod.fst (Prod.snd (Prod.snd (Prod.fst x_2))))
              (Prod.snd (Prod.snd (Prod.snd (Prod.fst x_2)))) (Prod.fst (Prod.fst x_3))
              (Prod.fst (Prod.snd (Prod.fst x_3))) (Prod.fst (Prod.snd (Prod.snd (Prod.fst x_3))))
              (Prod.snd (Prod.snd (Prod.snd (Prod.fst x_3)))))
        (obind (F11 n ((0 : UInt8), (0 : UInt64), (0 : UInt64), (0 : Int64)))
          fun (x_2 : (Int64 × UInt64 × UInt64 × Int64) × Unit) =>
          ofixA
            [PT.int IntKind.u64,
              PT.list (CTs.cons (CT.int IntKind.u8) (CTs.cons CT.bool (CTs.cons (CT.int IntKind.i64) CTs.nil))),
              PT.int IntKind.i64, PT.int IntKind.i64, PT.int IntKind.u64, PT.int IntKind.u64, PT.int IntKind.u8,
              PT.int IntKind.u64, PT.int IntKind.u64, PT.int IntKind.i64, PT.int IntKind.i64, PT.int IntKind.u64,
              PT.int IntKind.u64, PT.int IntKind.i64]
            (fun
                (rec :
                  Arr
                    [PT.int IntKind.u64,
                      PT.list (CTs.cons (CT.int IntKind.u8) (CTs.cons CT.bool (CTs.cons (CT.int IntKind.i64) CTs.nil))),
                      PT.int IntKind.i64, PT.int IntKind.i64, PT.int IntKind.u64, PT.int IntKind.u64, PT.int IntKind.u8,
                      PT.int IntKind.u64, PT.int IntKind.u64, PT.int IntKind.i64, PT.int IntKind.i64,
                      PT.int IntKind.u64, PT.int IntKind.u64, PT.int IntKind.i64]
                    (Option (Bool × Unit)))
                (x_3 : UInt64) (x_4 : List (UInt8 × Bool × Int64)) (x_5 x_6 : Int64) (x_7 x_8 : UInt64) (x_9 : UInt8)
                (x_10 x_11 : UInt64) (x_12 x_13 : Int64) (x_14 x_15 : UInt64) (x_16 : Int64) =>
              oite (decide (x_6 < x_5))
                (obind (at? x_4 (Int64.toInt x_6)) fun (x_17 : UInt8 × Bool × Int64) =>
                  oite (decide ((100 : Int64) < x_6)) (some (true, ()))
                    (obind
                      (F8 n
                        ((x_9, x_10, x_11, x_12), (x_7, x_8),
                          x_3 + UInt64.ofInt ↑(UInt8.toNat (Prod.fst x_17 % (5 : UInt8))), Prod.fst (Prod.snd x_17),
                          Prod.snd (Prod.snd x_17)))
                      fun (x_18 : (UInt8 × UInt64 × UInt64 × Int64) × Unit) =>
                      obind
                        (F12 n
                          ((x_13, x_14, x_15, x_16), x_7, x_8,
                            x_3 + UInt64.ofInt ↑(UInt8.toNat (Prod.fst x_17 % (5 : UInt8))), Prod.fst (Prod.snd x_17),
                            Prod.snd (Prod.snd x_17)))
                        fun (x_19 : (Int64 × UInt64 × UInt64 × Int64) × Unit) =>
                        obind
                          (F11 n
                            (Prod.fst (Prod.fst x_18), Prod.fst (Prod.snd (Prod.fst x_18)),
                              Prod.fst (Prod.snd (Prod.snd (Prod.fst x_18))),
                              Prod.snd (Prod.snd (Prod.snd (Prod.fst x_18)))))
                          fun (x_20 : (Int64 × UInt64 × UInt64 × Int64) × Unit) =>
                          oite
                            (!(decide (Prod.fst (Prod.fst x_20) = Prod.fst (Prod.fst x_19)) &&
                                (decide (Prod.fst (Prod.snd (Prod.fst x_20)) = Prod.fst (Prod.snd (Prod.fst x_19))) &&
                                  (decide
                                      (Prod.fst (Prod.snd (Prod.snd (Prod.fst x_20))) =
                                        Prod.fst (Prod.snd (Prod.snd (Prod.fst x_19)))) &&
                                    (decide
                                        (Prod.snd (Prod.snd (Prod.snd (Prod.fst x_20))) =
                                          Prod.snd (Prod.snd (Prod.snd (Prod.fst x_19)))) &&
                                      true)))))
                            (some (false, ()))
                            (obind
                              (F9 n
                                (Prod.fst (Prod.fst x_18), Prod.fst (Prod.snd (Prod.fst x_18)),
                                  Prod.fst (Prod.snd (Prod.snd (Prod.fst x_18))),
                                  Prod.snd (Prod.snd (Prod.snd (Prod.fst x_18)))))
                              fun (x_21 : Bool × Unit) =>
                              oite (!Prod.fst x_21 == decide (Prod.fst (Prod.fst x_18) = (2 : UInt8)))
                                (some (false, ()))
                                (rec (x_3 + UInt64.ofInt ↑(UInt8.toNat (Prod.fst x_17 % (5 : UInt8)))) x_4 x_5
                                  (x_6 + (1 : Int64)) x_7 x_8 (Prod.fst (Prod.fst x_18))
                                  (Prod.fst (Prod.snd (Prod.fst x_18))) (Prod.fst (Prod.snd (Prod.snd (Prod.fst x_18))))
                                  (Prod.snd (Prod.snd (Prod.snd (Prod.fst x_18)))) (Prod.fst (Prod.fst x_19))
                                  (Prod.fst (Prod.snd (Prod.fst x_19))) (Prod.fst (Prod.snd (Prod.snd (Prod.fst x_19))))
                                  (Prod.snd (Prod.snd (Prod.snd (Prod.fst x_19))))))))
                (some (true, ())))
            n (Prod.fst (Prod.snd (Prod.snd (Prod.snd x))) % (100 : UInt64))
            (Prod.snd (Prod.snd (Prod.snd (Prod.snd x))))
            (Int64.ofInt ↑(List.length (Prod.snd (Prod.snd (Prod.snd (Prod.snd x)))))) (0 : Int64)
            (UInt64.ofInt ↑(UInt8.toNat (Prod.fst x % (12 : UInt8))))
            (UInt64.ofInt ↑(UInt8.toNat (Prod.fst (Prod.snd x) % (12 : UInt8)))) (0 : UInt8) (0 : UInt64) (0 : UInt64)
            (0 : Int64) (Prod.fst (Prod.fst x_2)) (Prod.fst (Prod.snd (Prod.fst x_2)))
            (Prod.fst (Prod.snd (Prod.snd (Prod.fst x_2)))) (Prod.snd (Prod.snd (Prod.snd (Prod.fst x_2))))))
theorem ok4 (n : Nat) : FunOK Try.prog ⟨4, sig4, F4 n⟩ :=
  fun_ok (hints := ⟨[], [(1021, ⟨[(11, .one (.own 0)), (12, .one (.own 1)), (13, .one (.int .u64)), (14, .one (.own 2)), (33, .one (.ro (.cons (.int .u8) (.cons .bool (.cons (.int .i64) .nil))))), (34, .one (.int .i64)), (35, .one (.int .i64))], [(0, .cells [.int .u64, .int .u64]), (1, .cells [.int .u8, .int .u64, .int .u64, .int .i64]), (2, .cells [.int .i64, .int .u64, .int .u64, .int .i64])], 3⟩)]⟩) (fuel := n) (c := Try.f4.body.getD .skip) (rs := Try.f4.results.toList) tt_ok mix (FsOK.cons (ok7 n) (FsOK.cons (ok8 n) (FsOK.cons (ok9 n) (FsOK.cons (ok10 n) (FsOK.cons (ok11 n) (FsOK.cons (ok12 n) (FsOK.nil))))))) Try.func4 (by kernel_rfl) (by kernel_rfl) rfl (by kernel_rfl) rfl rfl (by kernel_rfl)
end Go.Proofs.Ytjjmpblnncjojaa
