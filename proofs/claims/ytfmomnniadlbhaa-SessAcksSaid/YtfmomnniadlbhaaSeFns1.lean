/- What the functions of this seat compute, found by walking their code symbolically: each F is what the walk finds, each ok says that the Go function keeps it as a contract. Printed by a program of this repo's. -/
import Derived.Test.YtfmomnniadlbhaaProg
import Derived.KernelRfl
import Derived.Test.YtfmomnniadlbhaaSxFun
open Go Go.Sx
namespace Go.Proofs.Ytfmomnniadlbhaa
set_option maxRecDepth 100000
set_option linter.unusedVariables false
def tt : TT := [(2, ⟨.int .i64, 1, 8, some (.int .i64 0), false⟩), (3, ⟨.int .i64, 1, 8, some (.int .i64 0), false⟩), (4, ⟨.bool, 1, 1, some (.bool false), false⟩), (5, ⟨.int .u8, 1, 1, some (.int .u8 0), false⟩), (9, ⟨.str, 1, 16, some (.string ⟨#[]⟩), false⟩), (21, ⟨.int .i32, 1, 4, some (.int .i32 0), false⟩), (22, ⟨.int .u64, 1, 8, some (.int .u64 0), false⟩), (23, ⟨.slice 144, 1, 24, some (.slice none 0 0), false⟩), (24, ⟨.int .u8, 1, 1, some (.int .u8 0), false⟩), (26, ⟨.struct [(0, 5, false), (1, 22, false), (2, 22, false), (3, 9, false), (4, 23, false), (5, 24, false), (6, 5, false), (7, 2, false), (8, 5, false)], 9, 88, some (.agg #[.int .u8 0, .int .u64 0, .int .u64 0, .string ⟨#[]⟩, .slice none 0 0, .int .u8 0, .int .u8 0, .int .i64 0, .int .u8 0]), false⟩), (28, ⟨.struct [(0, 5, false), (1, 22, false), (2, 22, false)], 3, 24, some (.agg #[.int .u8 0, .int .u64 0, .int .u64 0]), false⟩), (30, ⟨.struct [(0, 4, false), (1, 26, false), (10, 28, false)], 13, 120, some (.agg #[.bool false, .int .u8 0, .int .u64 0, .int .u64 0, .string ⟨#[]⟩, .slice none 0 0, .int .u8 0, .int .u8 0, .int .i64 0, .int .u8 0, .int .u8 0, .int .u64 0, .int .u64 0]), false⟩), (32, ⟨.struct [(0, 5, false), (1, 5, false), (2, 5, false), (3, 22, false), (4, 22, false), (5, 30, false), (18, 22, false), (19, 22, false), (20, 22, false)], 21, 168, some (.agg #[.int .u8 0, .int .u8 0, .int .u8 0, .int .u64 0, .int .u64 0, .bool false, .int .u8 0, .int .u64 0, .int .u64 0, .string ⟨#[]⟩, .slice none 0 0, .int .u8 0, .int .u8 0, .int .i64 0, .int .u8 0, .int .u8 0, .int .u64 0, .int .u64 0, .int .u64 0, .int .u64 0, .int .u64 0]), false⟩), (33, ⟨.slice 5, 1, 24, some (.slice none 0 0), false⟩), (35, ⟨.ptr 95, 1, 8, some (.pointer none), false⟩), (36, ⟨.int .i64, 1, 8, some (.int .i64 0), false⟩), (40, ⟨.struct [(0, 3, false), (1, 22, false), (2, 22, false)], 3, 24, some (.agg #[.int .i64 0, .int .u64 0, .int .u64 0]), false⟩), (45, ⟨.ptr 99, 1, 8, some (.pointer none), false⟩), (48, ⟨.ptr 102, 1, 8, some (.pointer none), false⟩), (51, ⟨.ptr 104, 1, 8, some (.pointer none), false⟩), (59, ⟨.slice 32, 1, 24, some (.slice none 0 0), false⟩), (65, ⟨.int .u16, 1, 2, some (.int .u16 0), false⟩), (66, ⟨.slice 72, 1, 24, some (.slice none 0 0), false⟩), (67, ⟨.ptr 80, 1, 8, some (.pointer none), false⟩), (70, ⟨.struct [(0, 4, false), (1, 5, false), (2, 5, false), (3, 5, false), (4, 65, false), (5, 65, false), (6, 65, false), (7, 5, false), (8, 5, false), (9, 5, false), (10, 4, false)], 11, 14, some (.agg #[.bool false, .int .u8 0, .int .u8 0, .int .u8 0, .int .u16 0, .int .u16 0, .int .u16 0, .int .u8 0, .int .u8 0, .int .u8 0, .bool false]), false⟩), (72, ⟨.struct [(0, 5, false), (1, 70, false), (12, 5, false)], 13, 18, some (.agg #[.int .u8 0, .bool false, .int .u8 0, .int .u8 0, .int .u8 0, .int .u16 0, .int .u16 0, .int .u16 0, .int .u8 0, .int .u8 0, .int .u8 0, .bool false, .int .u8 0]), false⟩), (75, ⟨.ptr 122, 1, 8, some (.pointer none), false⟩), (76, ⟨.arr 2 22, 2, 16, some (.agg #[.int .u64 0, .int .u64 0]), false⟩), (77, ⟨.slice 30, 1, 24, some (.slice none 0 0), false⟩), (78, ⟨.arr 4 22, 4, 32, some (.agg #[.int .u64 0, .int .u64 0, .int .u64 0, .int .u64 0]), false⟩), (80, ⟨.struct [(0, 40, false), (3, 75, false), (4, 35, false), (5, 51, false), (6, 76, false), (8, 22, false), (9, 59, false), (10, 77, false), (11, 77, false), (12, 78, false), (16, 3, false)], 17, 184, some (.agg #[.int .i64 0, .int .u64 0, .int .u64 0, .pointer none, .pointer none, .pointer none, .int .u64 0, .int .u64 0, .int .u64 0, .slice none 0 0, .slice none 0 0, .slice none 0 0, .int .u64 0, .int .u64 0, .int .u64 0, .int .u64 0, .int .i64 0]), false⟩), (86, ⟨.slice 111, 1, 24, some (.slice none 0 0), false⟩), (90, ⟨.slice 93, 1, 24, some (.slice none 0 0), false⟩), (93, ⟨.struct [(0, 22, false), (1, 30, false)], 14, 128, some (.agg #[.int .u64 0, .bool false, .int .u8 0, .int .u64 0, .int .u64 0, .string ⟨#[]⟩, .slice none 0 0, .int .u8 0, .int .u8 0, .int .i64 0, .int .u8 0, .int .u8 0, .int .u64 0, .int .u64 0]), false⟩), (95, ⟨.struct [(0, 5, false), (1, 5, false), (2, 40, false), (5, 22, false), (6, 22, false), (7, 22, false), (8, 45, false)], 9, 64, some (.agg #[.int .u8 0, .int .u8 0, .int .i64 0, .int .u64 0, .int .u64 0, .int .u64 0, .int .u64 0, .int .u64 0, .pointer none]), false⟩), (99, ⟨.struct [(0, 3, false), (1, 22, false), (2, 22, false), (3, 22, false), (4, 22, false), (5, 86, false), (6, 22, false), (7, 22, false)], 8, 80, some (.agg #[.int .i64 0, .int .u64 0, .int .u64 0, .int .u64 0, .int .u64 0, .slice none 0 0, .int .u64 0, .int .u64 0]), false⟩), (100, ⟨.map 22 30, 1, 8, some (.map none), false⟩), (102, ⟨.struct [(0, 3, false), (1, 22, false), (2, 100, false), (3, 22, false)], 4, 32, some (.agg #[.int .i64 0, .int .u64 0, .map none, .int .u64 0]), false⟩), (104, ⟨.struct [(0, 5, false), (1, 5, false), (2, 3, false), (3, 22, false), (4, 22, false), (5, 48, false)], 6, 40, some (.agg #[.int .u8 0, .int .u8 0, .int .i64 0, .int .u64 0, .int .u64 0, .pointer none]), false⟩), (111, ⟨.struct [(0, 22, false), (1, 22, false), (2, 22, false), (3, 22, false), (4, 4, false), (5, 4, false)], 6, 40, some (.agg #[.int .u64 0, .int .u64 0, .int .u64 0, .int .u64 0, .bool false, .bool false]), false⟩), (120, ⟨.arr 32 22, 32, 256, some (.agg #[.int .u64 0, .int .u64 0, .int .u64 0, .int .u64 0, .int .u64 0, .int .u64 0, .int .u64 0, .int .u64 0, .int .u64 0, .int .u64 0, .int .u64 0, .int .u64 0, .int .u64 0, .int .u64 0, .int .u64 0, .int .u64 0, .int .u64 0, .int .u64 0, .int .u64 0, .int .u64 0, .int .u64 0, .int .u64 0, .int .u64 0, .int .u64 0, .int .u64 0, .int .u64 0, .int .u64 0, .int .u64 0, .int .u64 0, .int .u64 0, .int .u64 0, .int .u64 0]), false⟩), (122, ⟨.struct [(0, 3, false), (1, 3, false), (2, 22, false), (3, 22, false), (4, 90, false), (5, 120, false), (37, 22, false)], 38, 320, some (.agg #[.int .i64 0, .int .i64 0, .int .u64 0, .int .u64 0, .slice none 0 0, .int .u64 0, .int .u64 0, .int .u64 0, .int .u64 0, .int .u64 0, .int .u64 0, .int .u64 0, .int .u64 0, .int .u64 0, .int .u64 0, .int .u64 0, .int .u64 0, .int .u64 0, .int .u64 0, .int .u64 0, .int .u64 0, .int .u64 0, .int .u64 0, .int .u64 0, .int .u64 0, .int .u64 0, .int .u64 0, .int .u64 0, .int .u64 0, .int .u64 0, .int .u64 0, .int .u64 0, .int .u64 0, .int .u64 0, .int .u64 0, .int .u64 0, .int .u64 0, .int .u64 0]), false⟩), (142, ⟨.slice 9, 1, 24, some (.slice none 0 0), false⟩), (144, ⟨.struct [(0, 9, false), (1, 9, false)], 2, 32, some (.agg #[.string ⟨#[]⟩, .string ⟨#[]⟩]), false⟩), (152, ⟨.struct [(0, 33, false)], 1, 24, some (.agg #[.slice none 0 0]), false⟩), (154, ⟨.ptr 152, 1, 8, some (.pointer none), false⟩)]
theorem tt_ok : TTOK Try.prog tt := TTOK.of_rows (by kernel_rfl)
theorem mix : Try.prog.follows .mixedOrders = true := by kernel_rfl
-- watchfire/send.New
def sig12 : Sig := ⟨(.cons (.one (.c (.int .i64))) (.cons (.one (.c (.int .u64))) (.cons (.one (.c (.int .u64))) .nil))), (.cons (.one (.ptr (.cons (.c (.int .i64)) (.cons (.c (.int .u64)) (.cons (.c (.int .u64)) (.cons (.c (.int .u64)) (.cons (.c (.int .u64)) (.cons (.row (.cons (.int .u64) (.cons (.int .u64) (.cons (.int .u64) (.cons (.int .u64) (.cons .bool (.cons .bool .nil))))))) (.cons (.c (.int .u64)) (.cons (.c (.int .u64)) .nil)))))))))) (.cons (.one (.c (.int .i64))) .nil))⟩
def F12 : Nat →
  Int64 × UInt64 × UInt64 →
    Option
      ((Option
            (Int64 ×
              UInt64 ×
                UInt64 × UInt64 × UInt64 × List (UInt64 × UInt64 × UInt64 × UInt64 × Bool × Bool) × UInt64 × UInt64) ×
          Int64) ×
        Unit) := fun (n : Nat) (x : Int64 × UInt64 × UInt64) =>
  oite (decide (Prod.fst x < (1 : Int64))) (some ((none, (19 : Int64)), ()))
    (oite (decide ((64 : Int64) < Prod.fst x)) (some ((none, (19 : Int64)), ()))
      (oite (decide (Prod.fst (Prod.snd x) < (1 : UInt64))) (some ((none, (6 : Int64)), ()))
        (oite (decide (Prod.snd (Prod.snd x) < Prod.fst (Prod.snd x))) (some ((none, (6 : Int64)), ()))
          (oite (decide ((1048576 : UInt64) < Prod.snd (Prod.snd x))) (some ((none, (6 : Int64)), ()))
            (some
              ((some
                    (Prod.fst x, Prod.fst (Prod.snd x), Prod.snd (Prod.snd x), (0 : UInt64), (1 : UInt64), [],
                      (0 : UInt64), (0 : UInt64)),
                  (0 : Int64)),
                ()))))))
theorem ok12 (n : Nat) : FunOK Try.prog ⟨12, sig12, F12 n⟩ :=
  fun_ok (hints := ⟨[], []⟩) (fuel := n) (c := Try.f12.body.getD .skip) (rs := Try.f12.results.toList) tt_ok mix (FsOK.nil) Try.func12 (by kernel_rfl) (by kernel_rfl) rfl (by kernel_rfl) rfl rfl (by kernel_rfl)
-- (watchfire/sess.Times).Check
def sig16 : Sig := ⟨(.cons (.agg (.cons (.int .i64) (.cons (.int .u64) (.cons (.int .u64) .nil)))) .nil), (.cons (.one (.c (.int .i64))) .nil)⟩
def F16 : Nat → Int64 × UInt64 × UInt64 → Option (Int64 × Unit) := fun (n : Nat) (x : Int64 × UInt64 × UInt64) =>
  obind (F12 n (Prod.fst x, Prod.fst (Prod.snd x), Prod.snd (Prod.snd x)))
    fun
      (x_1 :
        (Option
              (Int64 ×
                UInt64 ×
                  UInt64 × UInt64 × UInt64 × List (UInt64 × UInt64 × UInt64 × UInt64 × Bool × Bool) × UInt64 × UInt64) ×
            Int64) ×
          Unit) =>
    some (Prod.snd (Prod.fst x_1), ())
theorem ok16 (n : Nat) : FunOK Try.prog ⟨16, sig16, F16 n⟩ :=
  fun_ok (hints := ⟨[], []⟩) (fuel := n) (c := Try.f16.body.getD .skip) (rs := Try.f16.results.toList) tt_ok mix (FsOK.cons (ok12 n) (FsOK.nil)) Try.func16 (by kernel_rfl) (by kernel_rfl) rfl (by kernel_rfl) rfl rfl (by kernel_rfl)
-- (*watchfire/sess.Out).Restart
def sig18 : Sig := ⟨(.cons (.one (.ptr (.cons (.c (.int .u8)) (.cons (.c (.int .u8)) (.cons (.c (.int .i64)) (.cons (.c (.int .u64)) (.cons (.c (.int .u64)) (.cons (.c (.int .u64)) (.cons (.c (.int .u64)) (.cons (.c (.int .u64)) (.cons (.ptr (.cons (.c (.int .i64)) (.cons (.c (.int .u64)) (.cons (.c (.int .u64)) (.cons (.c (.int .u64)) (.cons (.c (.int .u64)) (.cons (.row (.cons (.int .u64) (.cons (.int .u64) (.cons (.int .u64) (.cons (.int .u64) (.cons .bool (.cons .bool .nil))))))) (.cons (.c (.int .u64)) (.cons (.c (.int .u64)) .nil))))))))) .nil))))))))))) .nil), (.cons (.one (.c (.int .i64))) .nil)⟩
def F18 : Nat →
  Option
      (UInt8 ×
        UInt8 ×
          Int64 ×
            UInt64 ×
              UInt64 ×
                UInt64 ×
                  UInt64 ×
                    UInt64 ×
                      Option
                        (Int64 ×
                          UInt64 ×
                            UInt64 ×
                              UInt64 ×
                                UInt64 × List (UInt64 × UInt64 × UInt64 × UInt64 × Bool × Bool) × UInt64 × UInt64)) →
    Option
      (Int64 ×
        Option
          (UInt8 ×
            UInt8 ×
              Int64 ×
                UInt64 ×
                  UInt64 ×
                    UInt64 ×
                      UInt64 ×
                        UInt64 ×
                          Option
                            (Int64 ×
                              UInt64 ×
                                UInt64 ×
                                  UInt64 ×
                                    UInt64 × List (UInt64 × UInt64 × UInt64 × UInt64 × Bool × Bool) × UInt64 × UInt64))) := fun (n : Nat)
    (x :
      Option
        (UInt8 ×
          UInt8 ×
            Int64 ×
              UInt64 ×
                UInt64 ×
                  UInt64 ×
                    UInt64 ×
                      UInt64 ×
                        Option
                          (Int64 ×
                            UInt64 ×
                              UInt64 ×
                                UInt64 ×
                                  UInt64 ×
                                    List (UInt64 × UInt64 × UInt64 × UInt64 × Bool × Bool) × UInt64 × UInt64))) =>
  oelim x (some ((1 : Int64), none))
    fun
      (x_1 :
        UInt8 ×
          UInt8 ×
            Int64 ×
              UInt64 ×
                UInt64 ×
                  UInt64 ×
                    UInt64 ×
                      UInt64 ×
                        Option
                          (Int64 ×
                            UInt64 ×
                              UInt64 ×
                                UInt64 ×
                                  UInt64 × List (UInt64 × UInt64 × UInt64 × UInt64 × Bool × Bool) × UInt64 × UInt64)) =>
    oite
      (decide
        ((1048576 : UInt64) ≤
          Prod.fst (Prod.snd (Prod.snd (Prod.snd (Prod.snd (Prod.snd (Prod.snd x_1)))))) + (1 : UInt64)))
      (some
        ((18 : Int64),
          some
            (Prod.fst x_1, Prod.fst (Prod.snd x_1), Prod.fst (Prod.snd (Prod.snd x_1)),
              Prod.fst (Prod.snd (Prod.snd (Prod.snd x_1))), Prod.fst (Prod.snd (Prod.snd (Prod.snd (Prod.snd x_1)))),
              Prod.fst (Prod.snd (Prod.snd (Prod.snd (Prod.snd (Prod.snd x_1))))),
              Prod.fst (Prod.snd (Prod.snd (Prod.snd (Prod.snd (Prod.snd (Prod.snd x_1)))))),
              Prod.fst (Prod.snd (Prod.snd (Prod.snd (Prod.snd (Prod.snd (Prod.snd (Prod.snd x_1))))))),
              Prod.snd (Prod.snd (Prod.snd (Prod.snd (Prod.snd (Prod.snd (Prod.snd (Prod.snd x_1))))))))))
      (obind
        (F12 n
          (Prod.fst (Prod.snd (Prod.snd x_1)), Prod.fst (Prod.snd (Prod.snd (Prod.snd x_1))),
            Prod.fst (Prod.snd (Prod.snd (Prod.snd (Prod.snd x_1))))))
        fun
          (x_2 :
            (Option
                  (Int64 ×
                    UInt64 ×
                      UInt64 ×
                        UInt64 × UInt64 × List (UInt64 × UInt64 × UInt64 × UInt64 × Bool × Bool) × UInt64 × UInt64) ×
                Int64) ×
              Unit) =>
        some
          (Prod.snd (Prod.fst x_2),
            some
              (Prod.fst x_1, Prod.fst (Prod.snd x_1), Prod.fst (Prod.snd (Prod.snd x_1)),
                Prod.fst (Prod.snd (Prod.snd (Prod.snd x_1))), Prod.fst (Prod.snd (Prod.snd (Prod.snd (Prod.snd x_1)))),
                Prod.fst (Prod.snd (Prod.snd (Prod.snd (Prod.snd (Prod.snd x_1))))),
                Prod.fst (Prod.snd (Prod.snd (Prod.snd (Prod.snd (Prod.snd (Prod.snd x_1)))))) + (1 : UInt64),
                Prod.fst (Prod.snd (Prod.snd (Prod.snd (Prod.snd (Prod.snd (Prod.snd (Prod.snd x_1))))))),
                Prod.fst (Prod.fst x_2))))
theorem ok18 (n : Nat) : FunOK Try.prog ⟨18, sig18, F18 n⟩ :=
  fun_ok (hints := ⟨[], []⟩) (fuel := n) (c := Try.f18.body.getD .skip) (rs := Try.f18.results.toList) tt_ok mix (FsOK.cons (ok12 n) (FsOK.nil)) Try.func18 (by kernel_rfl) (by kernel_rfl) rfl (by kernel_rfl) rfl rfl (by kernel_rfl)
-- watchfire/sess.NewOut
def sig9 : Sig := ⟨(.cons (.one (.c (.int .u8))) (.cons (.one (.c (.int .u8))) (.cons (.one (.c (.int .u64))) (.cons (.agg (.cons (.int .i64) (.cons (.int .u64) (.cons (.int .u64) .nil)))) .nil)))), (.cons (.one (.ptr (.cons (.c (.int .u8)) (.cons (.c (.int .u8)) (.cons (.c (.int .i64)) (.cons (.c (.int .u64)) (.cons (.c (.int .u64)) (.cons (.c (.int .u64)) (.cons (.c (.int .u64)) (.cons (.c (.int .u64)) (.cons (.ptr (.cons (.c (.int .i64)) (.cons (.c (.int .u64)) (.cons (.c (.int .u64)) (.cons (.c (.int .u64)) (.cons (.c (.int .u64)) (.cons (.row (.cons (.int .u64) (.cons (.int .u64) (.cons (.int .u64) (.cons (.int .u64) (.cons .bool (.cons .bool .nil))))))) (.cons (.c (.int .u64)) (.cons (.c (.int .u64)) .nil))))))))) .nil))))))))))) (.cons (.one (.c (.int .i64))) .nil))⟩
def F9 : Nat →
  UInt8 × UInt8 × UInt64 × Int64 × UInt64 × UInt64 →
    Option
      ((Option
            (UInt8 ×
              UInt8 ×
                Int64 ×
                  UInt64 ×
                    UInt64 ×
                      UInt64 ×
                        UInt64 ×
                          UInt64 ×
                            Option
                              (Int64 ×
                                UInt64 ×
                                  UInt64 ×
                                    UInt64 ×
                                      UInt64 ×
                                        List (UInt64 × UInt64 × UInt64 × UInt64 × Bool × Bool) × UInt64 × UInt64)) ×
          Int64) ×
        Unit) := fun (n : Nat) (x : UInt8 × UInt8 × UInt64 × Int64 × UInt64 × UInt64) =>
  oite (decide ((32 : UInt8) ≤ Prod.fst x)) (some ((none, (20 : Int64)), ()))
    (oite (decide ((32 : UInt8) ≤ Prod.fst (Prod.snd x))) (some ((none, (20 : Int64)), ()))
      (oite (decide (Prod.fst x = Prod.fst (Prod.snd x))) (some ((none, (20 : Int64)), ()))
        (oite (decide (Prod.fst (Prod.snd (Prod.snd x)) < (1 : UInt64))) (some ((none, (6 : Int64)), ()))
          (oite (decide ((1048576 : UInt64) ≤ Prod.fst (Prod.snd (Prod.snd x))))
            (some ((none, (6 : Int64)), ()))
            (obind
              (F16 n
                (Prod.fst (Prod.snd (Prod.snd (Prod.snd x))), Prod.fst (Prod.snd (Prod.snd (Prod.snd (Prod.snd x)))),
                  Prod.snd (Prod.snd (Prod.snd (Prod.snd (Prod.snd x))))))
              fun (x_1 : Int64 × Unit) =>
              oite (!decide (Prod.fst x_1 = (0 : Int64))) (some ((none, Prod.fst x_1), ()))
                (obind
                  (F18 n
                    (some
                      (Prod.fst x, Prod.fst (Prod.snd x), Prod.fst (Prod.snd (Prod.snd (Prod.snd x))),
                        Prod.fst (Prod.snd (Prod.snd (Prod.snd (Prod.snd x)))),
                        Prod.snd (Prod.snd (Prod.snd (Prod.snd (Prod.snd x)))), Prod.fst (Prod.snd (Prod.snd x)),
                        (0 : UInt64), (0 : UInt64), none)))
                  fun
                    (x_2 :
                      Int64 ×
                        Option
                          (UInt8 ×
                            UInt8 ×
                              Int64 ×
                                UInt64 ×
                                  UInt64 ×
                                    UInt64 ×
                                      UInt64 ×
                                        UInt64 ×
                                          Option
                                            (Int64 ×
                                              UInt64 ×
                                                UInt64 ×
                                                  UInt64 ×
                                                    UInt64 ×
                                                      List (UInt64 × UInt64 × UInt64 × UInt64 × Bool × Bool) ×
                                                        UInt64 × UInt64))) =>
                  some ((Prod.snd x_2, Prod.fst x_2), ())))))))
theorem ok9 (n : Nat) : FunOK Try.prog ⟨9, sig9, F9 n⟩ :=
  fun_ok (hints := ⟨[], []⟩) (fuel := n) (c := Try.f9.body.getD .skip) (rs := Try.f9.results.toList) tt_ok mix (FsOK.cons (ok16 n) (FsOK.cons (ok18 n) (FsOK.nil))) Try.func9 (by kernel_rfl) (by kernel_rfl) rfl (by kernel_rfl) rfl rfl (by kernel_rfl)
-- (*watchfire/sess.Out).Epoch
def sig11 : Sig := ⟨(.cons (.one (.ptr (.cons (.c (.int .u8)) (.cons (.c (.int .u8)) (.cons (.c (.int .i64)) (.cons (.c (.int .u64)) (.cons (.c (.int .u64)) (.cons (.c (.int .u64)) (.cons (.c (.int .u64)) (.cons (.c (.int .u64)) (.cons (.ptr (.cons (.c (.int .i64)) (.cons (.c (.int .u64)) (.cons (.c (.int .u64)) (.cons (.c (.int .u64)) (.cons (.c (.int .u64)) (.cons (.row (.cons (.int .u64) (.cons (.int .u64) (.cons (.int .u64) (.cons (.int .u64) (.cons .bool (.cons .bool .nil))))))) (.cons (.c (.int .u64)) (.cons (.c (.int .u64)) .nil))))))))) .nil))))))))))) .nil), (.cons (.one (.c (.int .u64))) .nil)⟩
def F11 : Nat →
  Option
      (UInt8 ×
        UInt8 ×
          Int64 ×
            UInt64 ×
              UInt64 ×
                UInt64 ×
                  UInt64 ×
                    UInt64 ×
                      Option
                        (Int64 ×
                          UInt64 ×
                            UInt64 ×
                              UInt64 ×
                                UInt64 × List (UInt64 × UInt64 × UInt64 × UInt64 × Bool × Bool) × UInt64 × UInt64)) →
    Option
      (UInt64 ×
        Option
          (UInt8 ×
            UInt8 ×
              Int64 ×
                UInt64 ×
                  UInt64 ×
                    UInt64 ×
                      UInt64 ×
                        UInt64 ×
                          Option
                            (Int64 ×
                              UInt64 ×
                                UInt64 ×
                                  UInt64 ×
                                    UInt64 × List (UInt64 × UInt64 × UInt64 × UInt64 × Bool × Bool) × UInt64 × UInt64))) := fun (n : Nat)
    (x :
      Option
        (UInt8 ×
          UInt8 ×
            Int64 ×
              UInt64 ×
                UInt64 ×
                  UInt64 ×
                    UInt64 ×
                      UInt64 ×
                        Option
                          (Int64 ×
                            UInt64 ×
                              UInt64 ×
                                UInt64 ×
                                  UInt64 ×
                                    List (UInt64 × UInt64 × UInt64 × UInt64 × Bool × Bool) × UInt64 × UInt64))) =>
  oelim x (some ((0 : UInt64), none))
    fun
      (x_1 :
        UInt8 ×
          UInt8 ×
            Int64 ×
              UInt64 ×
                UInt64 ×
                  UInt64 ×
                    UInt64 ×
                      UInt64 ×
                        Option
                          (Int64 ×
                            UInt64 ×
                              UInt64 ×
                                UInt64 ×
                                  UInt64 × List (UInt64 × UInt64 × UInt64 × UInt64 × Bool × Bool) × UInt64 × UInt64)) =>
    some
      (IK.shl IntKind.u64 (Prod.fst (Prod.snd (Prod.snd (Prod.snd (Prod.snd (Prod.snd x_1))))))
            ↑(UInt64.toNat (20 : UInt64)) |||
          Prod.fst (Prod.snd (Prod.snd (Prod.snd (Prod.snd (Prod.snd (Prod.snd x_1)))))),
        some
          (Prod.fst x_1, Prod.fst (Prod.snd x_1), Prod.fst (Prod.snd (Prod.snd x_1)),
            Prod.fst (Prod.snd (Prod.snd (Prod.snd x_1))), Prod.fst (Prod.snd (Prod.snd (Prod.snd (Prod.snd x_1)))),
            Prod.fst (Prod.snd (Prod.snd (Prod.snd (Prod.snd (Prod.snd x_1))))),
            Prod.fst (Prod.snd (Prod.snd (Prod.snd (Prod.snd (Prod.snd (Prod.snd x_1)))))),
            Prod.fst (Prod.snd (Prod.snd (Prod.snd (Prod.snd (Prod.snd (Prod.snd (Prod.snd x_1))))))),
            Prod.snd (Prod.snd (Prod.snd (Prod.snd (Prod.snd (Prod.snd (Prod.snd (Prod.snd x_1)))))))))
theorem ok11 (n : Nat) : FunOK Try.prog ⟨11, sig11, F11 n⟩ :=
  fun_ok (hints := ⟨[], []⟩) (fuel := n) (c := Try.f11.body.getD .skip) (rs := Try.f11.results.toList) tt_ok mix (FsOK.nil) Try.func11 (by kernel_rfl) (by kernel_rfl) rfl (by kernel_rfl) rfl rfl (by kernel_rfl)
-- watchfire/watchfirelaw12.Awake
def sig8 : Sig := ⟨.nil, (.cons (.one (.c .bool)) .nil)⟩
def F8 : Nat → Unit → Option (Bool × Unit) := fun (n : Nat) (x : Unit) =>
  obind (F9 n ((1 : UInt8), (0 : UInt8), (2 : UInt64), (3 : Int64), (1 : UInt64), (4 : UInt64)))
    fun
      (x_1 :
        (Option
              (UInt8 ×
                UInt8 ×
                  Int64 ×
                    UInt64 ×
                      UInt64 ×
                        UInt64 ×
                          UInt64 ×
                            UInt64 ×
                              Option
                                (Int64 ×
                                  UInt64 ×
                                    UInt64 ×
                                      UInt64 ×
                                        UInt64 ×
                                          List (UInt64 × UInt64 × UInt64 × UInt64 × Bool × Bool) × UInt64 × UInt64)) ×
            Int64) ×
          Unit) =>
    oite (decide (Prod.snd (Prod.fst x_1) = (0 : Int64)))
      (obind (F11 n (Prod.fst (Prod.fst x_1)))
        fun
          (x_2 :
            UInt64 ×
              Option
                (UInt8 ×
                  UInt8 ×
                    Int64 ×
                      UInt64 ×
                        UInt64 ×
                          UInt64 ×
                            UInt64 ×
                              UInt64 ×
                                Option
                                  (Int64 ×
                                    UInt64 ×
                                      UInt64 ×
                                        UInt64 ×
                                          UInt64 ×
                                            List (UInt64 × UInt64 × UInt64 × UInt64 × Bool × Bool) ×
                                              UInt64 × UInt64))) =>
        some (decide (Prod.fst x_2 = (2097153 : UInt64)), ()))
      (some (false, ()))
theorem ok8 (n : Nat) : FunOK Try.prog ⟨8, sig8, F8 n⟩ :=
  fun_ok (hints := ⟨[], []⟩) (fuel := n) (c := Try.f8.body.getD .skip) (rs := Try.f8.results.toList) tt_ok mix (FsOK.cons (ok9 n) (FsOK.cons (ok11 n) (FsOK.nil))) Try.func8 (by kernel_rfl) (by kernel_rfl) rfl (by kernel_rfl) rfl rfl (by kernel_rfl)
-- watchfire/send.behind[watchfire/send.Flight]
def sig51 : Sig := ⟨(.cons (.one (.c (.ro (.cons (.int .u64) (.cons (.int .u64) (.cons (.int .u64) (.cons (.int .u64) (.cons .bool (.cons .bool .nil))))))))) (.cons (.one (.c (.int .i64))) .nil)), (.cons (.one (.row (.cons (.int .u64) (.cons (.int .u64) (.cons (.int .u64) (.cons (.int .u64) (.cons .bool (.cons .bool .nil)))))))) .nil)⟩
def F51 : Nat →
  List (UInt64 × UInt64 × UInt64 × UInt64 × Bool × Bool) × Int64 →
    Option (List (UInt64 × UInt64 × UInt64 × UInt64 × Bool × Bool) × Unit) := fun (n : Nat) (x : List (UInt64 × UInt64 × UInt64 × UInt64 × Bool × Bool) × Int64) =>
  oite
    (decide ((0 : Int) ≤ Int64.toInt (Prod.snd x)) &&
      Nat.ble (Int.toNat (Int64.toInt (Prod.snd x))) (List.length (Prod.fst x)))
    (oite
      (Nat.ble
        ((0 : Nat) +
          List.length
            (List.drop (Int.toNat (Int64.toInt (Prod.snd x))) (List.take (List.length (Prod.fst x)) (Prod.fst x))))
        (4294967296 : Nat))
      (some
        ([] ++ List.drop (Int.toNat (Int64.toInt (Prod.snd x))) (List.take (List.length (Prod.fst x)) (Prod.fst x)),
          ()))
      none)
    none
theorem ok51 (n : Nat) : FunOK Try.prog ⟨51, sig51, F51 n⟩ :=
  fun_ok (hints := ⟨[], []⟩) (fuel := n) (c := Try.f51.body.getD .skip) (rs := Try.f51.results.toList) tt_ok mix (FsOK.nil) Try.func51 (by kernel_rfl) (by kernel_rfl) rfl (by kernel_rfl) rfl rfl (by kernel_rfl)
-- (*watchfire/send.Sender).Ack
def sig35 : Sig := ⟨(.cons (.one (.ptr (.cons (.c (.int .i64)) (.cons (.c (.int .u64)) (.cons (.c (.int .u64)) (.cons (.c (.int .u64)) (.cons (.c (.int .u64)) (.cons (.row (.cons (.int .u64) (.cons (.int .u64) (.cons (.int .u64) (.cons (.int .u64) (.cons .bool (.cons .bool .nil))))))) (.cons (.c (.int .u64)) (.cons (.c (.int .u64)) .nil)))))))))) (.cons (.one (.c (.int .u64))) (.cons (.one (.c (.int .u64))) .nil))), (.cons (.one (.c (.int .u64))) (.cons (.one (.c (.int .i64))) .nil))⟩
def F35_J31 : UInt64 →
  Int64 →
    UInt64 →
      UInt64 →
        UInt64 →
          UInt64 →
            UInt64 →
              UInt64 →
                List (UInt64 × UInt64 × UInt64 × UInt64 × Bool × Bool) →
                  Option
                    ((UInt64 × Int64) ×
                      Option
                        (Int64 ×
                          UInt64 ×
                            UInt64 ×
                              UInt64 ×
                                UInt64 × List (UInt64 × UInt64 × UInt64 × UInt64 × Bool × Bool) × UInt64 × UInt64)) := fun (index : UInt64) (s0_1 : Int64) (s1_1 s2_1 s3_1 s4_1 s6_1 s7_1 : UInt64)
    (sl_1 : List (UInt64 × UInt64 × UInt64 × UInt64 × Bool × Bool)) =>
  oite (decide ((0 : Int64) < Int64.ofInt ↑(List.length sl_1)))
    (oite (Nat.blt (Int.toNat (Int64.toInt (0 : Int64))) (List.length sl_1))
      (obind sl_1[Int.toNat (Int64.toInt (0 : Int64))]? fun (x_2 : UInt64 × UInt64 × UInt64 × UInt64 × Bool × Bool) =>
        some
          ((index, (0 : Int64)),
            some
              (s0_1, s1_1, s2_1, s3_1, s4_1,
                List.set sl_1 (Int.toNat (Int64.toInt (0 : Int64)))
                  (Prod.fst x_2, Prod.fst (Prod.snd x_2), Prod.fst (Prod.snd (Prod.snd x_2)),
                    Prod.fst (Prod.snd (Prod.snd (Prod.snd x_2))),
                    Prod.fst (Prod.snd (Prod.snd (Prod.snd (Prod.snd x_2)))), false),
                s6_1, s7_1)))
      none)
    (some ((index, (0 : Int64)), some (s0_1, s1_1, s2_1, s3_1, s4_1, sl_1, s6_1, s7_1)))
def F35_L62 : Nat →
  Arr
      [PT.int IntKind.u64, PT.int IntKind.i64, PT.int IntKind.u64, PT.int IntKind.u64, PT.int IntKind.u64,
        PT.int IntKind.u64, PT.int IntKind.u64, PT.int IntKind.u64,
        PT.list
          (CTs.cons (CT.int IntKind.u64)
            (CTs.cons (CT.int IntKind.u64)
              (CTs.cons (CT.int IntKind.u64)
                (CTs.cons (CT.int IntKind.u64) (CTs.cons CT.bool (CTs.cons CT.bool CTs.nil))))))]
      (Option
        ((UInt64 × Int64) ×
          Option
            (Int64 ×
              UInt64 ×
                UInt64 × UInt64 × UInt64 × List (UInt64 × UInt64 × UInt64 × UInt64 × Bool × Bool) × UInt64 × UInt64))) →
    Arr
        [PT.int IntKind.u64, PT.int IntKind.u64, PT.int IntKind.i64, PT.int IntKind.u64, PT.int IntKind.u64,
          PT.int IntKind.u64, PT.int IntKind.u64, PT.int IntKind.u64, PT.int IntKind.u64,
          PT.list
            (CTs.cons (CT.int IntKind.u64)
              (CTs.cons (CT.int IntKind.u64)
                (CTs.cons (CT.int IntKind.u64)
                  (CTs.cons (CT.int IntKind.u64) (CTs.cons CT.bool (CTs.cons CT.bool CTs.nil))))))]
        (Option
          ((UInt64 × Int64) ×
            Option
              (Int64 ×
                UInt64 ×
                  UInt64 ×
                    UInt64 × UInt64 × List (UInt64 × UInt64 × UInt64 × UInt64 × Bool × Bool) × UInt64 × UInt64))) →
      UInt64 →
        UInt64 →
          Int64 →
            UInt64 →
              UInt64 →
                UInt64 →
                  UInt64 →
                    UInt64 →
                      UInt64 →
                        List (UInt64 × UInt64 × UInt64 × UInt64 × Bool × Bool) →
                          Option
                            ((UInt64 × Int64) ×
                              Option
                                (Int64 ×
                                  UInt64 ×
                                    UInt64 ×
                                      UInt64 ×
                                        UInt64 ×
                                          List (UInt64 × UInt64 × UInt64 × UInt64 × Bool × Bool) × UInt64 × UInt64)) := fun (n : Nat)
    (J :
      Arr
        [PT.int IntKind.u64, PT.int IntKind.i64, PT.int IntKind.u64, PT.int IntKind.u64, PT.int IntKind.u64,
          PT.int IntKind.u64, PT.int IntKind.u64, PT.int IntKind.u64,
          PT.list
            (CTs.cons (CT.int IntKind.u64)
              (CTs.cons (CT.int IntKind.u64)
                (CTs.cons (CT.int IntKind.u64)
                  (CTs.cons (CT.int IntKind.u64) (CTs.cons CT.bool (CTs.cons CT.bool CTs.nil))))))]
        (Option
          ((UInt64 × Int64) ×
            Option
              (Int64 ×
                UInt64 ×
                  UInt64 ×
                    UInt64 × UInt64 × List (UInt64 × UInt64 × UInt64 × UInt64 × Bool × Bool) × UInt64 × UInt64))))
    (rec_1 :
      Arr
        [PT.int IntKind.u64, PT.int IntKind.u64, PT.int IntKind.i64, PT.int IntKind.u64, PT.int IntKind.u64,
          PT.int IntKind.u64, PT.int IntKind.u64, PT.int IntKind.u64, PT.int IntKind.u64,
          PT.list
            (CTs.cons (CT.int IntKind.u64)
              (CTs.cons (CT.int IntKind.u64)
                (CTs.cons (CT.int IntKind.u64)
                  (CTs.cons (CT.int IntKind.u64) (CTs.cons CT.bool (CTs.cons CT.bool CTs.nil))))))]
        (Option
          ((UInt64 × Int64) ×
            Option
              (Int64 ×
                UInt64 ×
                  UInt64 ×
                    UInt64 × UInt64 × List (UInt64 × UInt64 × UInt64 × UInt64 × Bool × Bool) × UInt64 × UInt64))))
    (cum_1 index : UInt64) (s0_1 : Int64) (s1_1 s2_1 s3_1 s4_1 s6_1 s7_1 : UInt64)
    (sl_1 : List (UInt64 × UInt64 × UInt64 × UInt64 × Bool × Bool)) =>
  oite (decide ((0 : Int64) < Int64.ofInt ↑(List.length sl_1)))
    (oite (Nat.blt (Int.toNat (Int64.toInt (0 : Int64))) (List.length sl_1))
      (obind sl_1[Int.toNat (Int64.toInt (0 : Int64))]? fun (x_2 : UInt64 × UInt64 × UInt64 × UInt64 × Bool × Bool) =>
        oite (decide (Prod.fst x_2 ≤ cum_1))
          (oite (Nat.blt (Int.toNat (Int64.toInt (0 : Int64))) (List.length sl_1))
            (obind sl_1[Int.toNat (Int64.toInt (0 : Int64))]?
              fun (x_3 : UInt64 × UInt64 × UInt64 × UInt64 × Bool × Bool) =>
              oite (Nat.blt (Int.toNat (Int64.toInt (0 : Int64))) (List.length sl_1))
                (obind sl_1[Int.toNat (Int64.toInt (0 : Int64))]?
                  fun (x_4 : UInt64 × UInt64 × UInt64 × UInt64 × Bool × Bool) =>
                  obind (F51 n (sl_1, (1 : Int64)))
                    fun (x_5 : List (UInt64 × UInt64 × UInt64 × UInt64 × Bool × Bool) × Unit) =>
                    rec_1 cum_1 (Prod.fst (Prod.snd x_3)) s0_1 s1_1 s2_1 (Prod.fst x_4) s4_1 s6_1 s7_1 (Prod.fst x_5))
                none)
            none)
          (J index s0_1 s1_1 s2_1 s3_1 s4_1 s6_1 s7_1 sl_1))
      none)
    (J index s0_1 s1_1 s2_1 s3_1 s4_1 s6_1 s7_1 sl_1)
def F35_R62 : Nat →
  Arr
      [PT.int IntKind.u64, PT.int IntKind.i64, PT.int IntKind.u64, PT.int IntKind.u64, PT.int IntKind.u64,
        PT.int IntKind.u64, PT.int IntKind.u64, PT.int IntKind.u64,
        PT.list
          (CTs.cons (CT.int IntKind.u64)
            (CTs.cons (CT.int IntKind.u64)
              (CTs.cons (CT.int IntKind.u64)
                (CTs.cons (CT.int IntKind.u64) (CTs.cons CT.bool (CTs.cons CT.bool CTs.nil))))))]
      (Option
        ((UInt64 × Int64) ×
          Option
            (Int64 ×
              UInt64 ×
                UInt64 × UInt64 × UInt64 × List (UInt64 × UInt64 × UInt64 × UInt64 × Bool × Bool) × UInt64 × UInt64))) →
    Nat →
      PT.T (PT.int IntKind.u64) →
        UInt64 →
          Int64 →
            UInt64 →
              UInt64 →
                UInt64 →
                  UInt64 →
                    UInt64 →
                      UInt64 →
                        List (UInt64 × UInt64 × UInt64 × UInt64 × Bool × Bool) →
                          Option
                            ((UInt64 × Int64) ×
                              Option
                                (Int64 ×
                                  UInt64 ×
                                    UInt64 ×
                                      UInt64 ×
                                        UInt64 ×
                                          List (UInt64 × UInt64 × UInt64 × UInt64 × Bool × Bool) × UInt64 × UInt64)) := fun (n : Nat)
    (J :
      Arr
        [PT.int IntKind.u64, PT.int IntKind.i64, PT.int IntKind.u64, PT.int IntKind.u64, PT.int IntKind.u64,
          PT.int IntKind.u64, PT.int IntKind.u64, PT.int IntKind.u64,
          PT.list
            (CTs.cons (CT.int IntKind.u64)
              (CTs.cons (CT.int IntKind.u64)
                (CTs.cons (CT.int IntKind.u64)
                  (CTs.cons (CT.int IntKind.u64) (CTs.cons CT.bool (CTs.cons CT.bool CTs.nil))))))]
        (Option
          ((UInt64 × Int64) ×
            Option
              (Int64 ×
                UInt64 ×
                  UInt64 ×
                    UInt64 × UInt64 × List (UInt64 × UInt64 × UInt64 × UInt64 × Bool × Bool) × UInt64 × UInt64)))) =>
  ofixA (62 : Nat)
    [PT.int IntKind.u64, PT.int IntKind.u64, PT.int IntKind.i64, PT.int IntKind.u64, PT.int IntKind.u64,
      PT.int IntKind.u64, PT.int IntKind.u64, PT.int IntKind.u64, PT.int IntKind.u64,
      PT.list
        (CTs.cons (CT.int IntKind.u64)
          (CTs.cons (CT.int IntKind.u64)
            (CTs.cons (CT.int IntKind.u64)
              (CTs.cons (CT.int IntKind.u64) (CTs.cons CT.bool (CTs.cons CT.bool CTs.nil))))))]
    (F35_L62 n J)
def F35_L29 : Nat →
  Arr
      [PT.int IntKind.u64, PT.int IntKind.u64, PT.int IntKind.i64, PT.int IntKind.i64, PT.int IntKind.i64,
        PT.int IntKind.u64, PT.int IntKind.u64, PT.int IntKind.u64, PT.int IntKind.u64, PT.int IntKind.u64,
        PT.int IntKind.u64,
        PT.list
          (CTs.cons (CT.int IntKind.u64)
            (CTs.cons (CT.int IntKind.u64)
              (CTs.cons (CT.int IntKind.u64)
                (CTs.cons (CT.int IntKind.u64) (CTs.cons CT.bool (CTs.cons CT.bool CTs.nil))))))]
      (Option
        ((UInt64 × Int64) ×
          Option
            (Int64 ×
              UInt64 ×
                UInt64 × UInt64 × UInt64 × List (UInt64 × UInt64 × UInt64 × UInt64 × Bool × Bool) × UInt64 × UInt64))) →
    UInt64 →
      UInt64 →
        Int64 →
          Int64 →
            Int64 →
              UInt64 →
                UInt64 →
                  UInt64 →
                    UInt64 →
                      UInt64 →
                        UInt64 →
                          List (UInt64 × UInt64 × UInt64 × UInt64 × Bool × Bool) →
                            Option
                              ((UInt64 × Int64) ×
                                Option
                                  (Int64 ×
                                    UInt64 ×
                                      UInt64 ×
                                        UInt64 ×
                                          UInt64 ×
                                            List (UInt64 × UInt64 × UInt64 × UInt64 × Bool × Bool) × UInt64 × UInt64)) := fun (n : Nat)
    (rec :
      Arr
        [PT.int IntKind.u64, PT.int IntKind.u64, PT.int IntKind.i64, PT.int IntKind.i64, PT.int IntKind.i64,
          PT.int IntKind.u64, PT.int IntKind.u64, PT.int IntKind.u64, PT.int IntKind.u64, PT.int IntKind.u64,
          PT.int IntKind.u64,
          PT.list
            (CTs.cons (CT.int IntKind.u64)
              (CTs.cons (CT.int IntKind.u64)
                (CTs.cons (CT.int IntKind.u64)
                  (CTs.cons (CT.int IntKind.u64) (CTs.cons CT.bool (CTs.cons CT.bool CTs.nil))))))]
        (Option
          ((UInt64 × Int64) ×
            Option
              (Int64 ×
                UInt64 ×
                  UInt64 ×
                    UInt64 × UInt64 × List (UInt64 × UInt64 × UInt64 × UInt64 × Bool × Bool) × UInt64 × UInt64))))
    (cum bits : UInt64) (t t_1 s0 : Int64) (s1 s2 s3 s4 s6 s7 : UInt64)
    (sl : List (UInt64 × UInt64 × UInt64 × UInt64 × Bool × Bool)) =>
  oite (decide (t_1 < t))
    (oite (decide ((0 : Int) ≤ Int64.toInt t_1) && Nat.blt (Int.toNat (Int64.toInt t_1)) (List.length sl))
      (obind sl[Int.toNat (Int64.toInt t_1)]? fun (x_2 : UInt64 × UInt64 × UInt64 × UInt64 × Bool × Bool) =>
        oite (decide (Prod.fst x_2 ≤ cum))
          (obind sl[Int.toNat (Int64.toInt t_1)]? fun (x_3 : UInt64 × UInt64 × UInt64 × UInt64 × Bool × Bool) =>
            rec cum bits t (t_1 + (1 : Int64)) s0 s1 s2 s3 s4 s6 s7
              (List.set sl (Int.toNat (Int64.toInt t_1))
                (Prod.fst x_3, Prod.fst (Prod.snd x_3), Prod.fst (Prod.snd (Prod.snd x_3)),
                  Prod.fst (Prod.snd (Prod.snd (Prod.snd x_3))),
                  Prod.fst (Prod.snd (Prod.snd (Prod.snd (Prod.snd x_3)))), true)))
          (obind sl[Int.toNat (Int64.toInt t_1)]? fun (x_3 : UInt64 × UInt64 × UInt64 × UInt64 × Bool × Bool) =>
            oite (decide (cum + (2 : UInt64) ≤ Prod.fst x_3))
              (obind sl[Int.toNat (Int64.toInt t_1)]? fun (x_4 : UInt64 × UInt64 × UInt64 × UInt64 × Bool × Bool) =>
                oite (decide (Prod.fst x_4 - cum - (2 : UInt64) < (64 : UInt64)))
                  (obind sl[Int.toNat (Int64.toInt t_1)]? fun (x_5 : UInt64 × UInt64 × UInt64 × UInt64 × Bool × Bool) =>
                    oite
                      (decide
                        (IK.shr IntKind.u64 bits ↑(UInt64.toNat (Prod.fst x_5 - cum - (2 : UInt64))) &&& (1 : UInt64) =
                          (1 : UInt64)))
                      (obind sl[Int.toNat (Int64.toInt t_1)]?
                        fun (x_6 : UInt64 × UInt64 × UInt64 × UInt64 × Bool × Bool) =>
                        rec cum bits t (t_1 + (1 : Int64)) s0 s1 s2 s3 s4 s6 s7
                          (List.set sl (Int.toNat (Int64.toInt t_1))
                            (Prod.fst x_6, Prod.fst (Prod.snd x_6), Prod.fst (Prod.snd (Prod.snd x_6)),
                              Prod.fst (Prod.snd (Prod.snd (Prod.snd x_6))),
                              Prod.fst (Prod.snd (Prod.snd (Prod.snd (Prod.snd x_6)))), true)))
                      (rec cum bits t (t_1 + (1 : Int64)) s0 s1 s2 s3 s4 s6 s7 sl))
                  (rec cum bits t (t_1 + (1 : Int64)) s0 s1 s2 s3 s4 s6 s7 sl))
              (rec cum bits t (t_1 + (1 : Int64)) s0 s1 s2 s3 s4 s6 s7 sl)))
      none)
    (ojoinA (31 : Nat)
      [PT.int IntKind.u64, PT.int IntKind.i64, PT.int IntKind.u64, PT.int IntKind.u64, PT.int IntKind.u64,
        PT.int IntKind.u64, PT.int IntKind.u64, PT.int IntKind.u64,
        PT.list
          (CTs.cons (CT.int IntKind.u64)
            (CTs.cons (CT.int IntKind.u64)
              (CTs.cons (CT.int IntKind.u64)
                (CTs.cons (CT.int IntKind.u64) (CTs.cons CT.bool (CTs.cons CT.bool CTs.nil))))))]
      (fun
          (J :
            Arr
              [PT.int IntKind.u64, PT.int IntKind.i64, PT.int IntKind.u64, PT.int IntKind.u64, PT.int IntKind.u64,
                PT.int IntKind.u64, PT.int IntKind.u64, PT.int IntKind.u64,
                PT.list
                  (CTs.cons (CT.int IntKind.u64)
                    (CTs.cons (CT.int IntKind.u64)
                      (CTs.cons (CT.int IntKind.u64)
                        (CTs.cons (CT.int IntKind.u64) (CTs.cons CT.bool (CTs.cons CT.bool CTs.nil))))))]
              (Option
                ((UInt64 × Int64) ×
                  Option
                    (Int64 ×
                      UInt64 ×
                        UInt64 ×
                          UInt64 ×
                            UInt64 × List (UInt64 × UInt64 × UInt64 × UInt64 × Bool × Bool) × UInt64 × UInt64)))) =>
        F35_R62 n J n cum (0 : UInt64) s0 s1 s2 s3 s4 s6 s7 sl)
      F35_J31)
def F35_R29 : Nat →
  Nat →
    PT.T (PT.int IntKind.u64) →
      UInt64 →
        Int64 →
          Int64 →
            Int64 →
              UInt64 →
                UInt64 →
                  UInt64 →
                    UInt64 →
                      UInt64 →
                        UInt64 →
                          List (UInt64 × UInt64 × UInt64 × UInt64 × Bool × Bool) →
                            Option
                              ((UInt64 × Int64) ×
                                Option
                                  (Int64 ×
                                    UInt64 ×
                                      UInt64 ×
                                        UInt64 ×
                                          UInt64 ×
                                            List (UInt64 × UInt64 × UInt64 × UInt64 × Bool × Bool) × UInt64 × UInt64)) := fun (n : Nat) =>
  ofixA (29 : Nat)
    [PT.int IntKind.u64, PT.int IntKind.u64, PT.int IntKind.i64, PT.int IntKind.i64, PT.int IntKind.i64,
      PT.int IntKind.u64, PT.int IntKind.u64, PT.int IntKind.u64, PT.int IntKind.u64, PT.int IntKind.u64,
      PT.int IntKind.u64,
      PT.list
        (CTs.cons (CT.int IntKind.u64)
          (CTs.cons (CT.int IntKind.u64)
            (CTs.cons (CT.int IntKind.u64)
              (CTs.cons (CT.int IntKind.u64) (CTs.cons CT.bool (CTs.cons CT.bool CTs.nil))))))]
    (F35_L29 n)
def F35 : Nat →
  Option
        (Int64 ×
          UInt64 ×
            UInt64 × UInt64 × UInt64 × List (UInt64 × UInt64 × UInt64 × UInt64 × Bool × Bool) × UInt64 × UInt64) ×
      UInt64 × UInt64 →
    Option
      ((UInt64 × Int64) ×
        Option
          (Int64 ×
            UInt64 ×
              UInt64 × UInt64 × UInt64 × List (UInt64 × UInt64 × UInt64 × UInt64 × Bool × Bool) × UInt64 × UInt64)) := fun (n : Nat)
    (x :
      Option
          (Int64 ×
            UInt64 ×
              UInt64 × UInt64 × UInt64 × List (UInt64 × UInt64 × UInt64 × UInt64 × Bool × Bool) × UInt64 × UInt64) ×
        UInt64 × UInt64) =>
  oelim (Prod.fst x) (some (((0 : UInt64), (1 : Int64)), none))
    fun
      (x_1 :
        Int64 ×
          UInt64 ×
            UInt64 × UInt64 × UInt64 × List (UInt64 × UInt64 × UInt64 × UInt64 × Bool × Bool) × UInt64 × UInt64) =>
    oite (decide (Prod.fst (Prod.snd (Prod.snd (Prod.snd (Prod.snd x_1)))) ≤ Prod.fst (Prod.snd x)))
      (some
        (((0 : UInt64), (6 : Int64)),
          some
            (Prod.fst x_1, Prod.fst (Prod.snd x_1), Prod.fst (Prod.snd (Prod.snd x_1)),
              Prod.fst (Prod.snd (Prod.snd (Prod.snd x_1))), Prod.fst (Prod.snd (Prod.snd (Prod.snd (Prod.snd x_1)))),
              Prod.fst (Prod.snd (Prod.snd (Prod.snd (Prod.snd (Prod.snd x_1))))),
              Prod.fst (Prod.snd (Prod.snd (Prod.snd (Prod.snd (Prod.snd (Prod.snd x_1)))))),
              Prod.snd (Prod.snd (Prod.snd (Prod.snd (Prod.snd (Prod.snd (Prod.snd x_1)))))))))
      (F35_R29 n n (Prod.fst (Prod.snd x)) (Prod.snd (Prod.snd x))
        (Int64.ofInt ↑(List.length (Prod.fst (Prod.snd (Prod.snd (Prod.snd (Prod.snd (Prod.snd x_1)))))))) (0 : Int64)
        (Prod.fst x_1) (Prod.fst (Prod.snd x_1)) (Prod.fst (Prod.snd (Prod.snd x_1)))
        (Prod.fst (Prod.snd (Prod.snd (Prod.snd x_1)))) (Prod.fst (Prod.snd (Prod.snd (Prod.snd (Prod.snd x_1)))))
        (Prod.fst (Prod.snd (Prod.snd (Prod.snd (Prod.snd (Prod.snd (Prod.snd x_1)))))))
        (Prod.snd (Prod.snd (Prod.snd (Prod.snd (Prod.snd (Prod.snd (Prod.snd x_1)))))))
        (Prod.fst (Prod.snd (Prod.snd (Prod.snd (Prod.snd (Prod.snd x_1)))))))
theorem F35_R62_s (n : Nat) (J : Arr [PT.int IntKind.u64, PT.int IntKind.i64, PT.int IntKind.u64, PT.int IntKind.u64, PT.int IntKind.u64, PT.int IntKind.u64, PT.int IntKind.u64, PT.int IntKind.u64, PT.list (CTs.cons (CT.int IntKind.u64) (CTs.cons (CT.int IntKind.u64) (CTs.cons (CT.int IntKind.u64) (CTs.cons (CT.int IntKind.u64) (CTs.cons CT.bool (CTs.cons CT.bool CTs.nil))))))] (Option ((UInt64 × Int64) × Option (Int64 × UInt64 × UInt64 × UInt64 × UInt64 × List (UInt64 × UInt64 × UInt64 × UInt64 × Bool × Bool) × UInt64 × UInt64)))) (m_ : Nat) : F35_R62 n J (m_ + 1) = F35_L62 n J (F35_R62 n J m_) := rfl
theorem F35_R29_s (n : Nat) (m_ : Nat) : F35_R29 n (m_ + 1) = F35_L29 n (F35_R29 n m_) := rfl
theorem ok35 (n : Nat) : FunOK Try.prog ⟨35, sig35, F35 n⟩ :=
  fun_ok (hints := ⟨[(31, ⟨[(0, .one (.own 0)), (10, .one (.int .u64))], [(0, .cells [.int .i64, .int .u64, .int .u64, .int .u64, .int .u64, .own 3, .int .u64, .int .u64]), (3, .row (.cons (.int .u64) (.cons (.int .u64) (.cons (.int .u64) (.cons (.int .u64) (.cons .bool (.cons .bool .nil)))))))], 4⟩)], [(29, ⟨[(0, .one (.own 0)), (1, .one (.int .u64)), (2, .one (.int .u64)), (25, .one (.int .i64)), (26, .one (.int .i64))], [(0, .cells [.int .i64, .int .u64, .int .u64, .int .u64, .int .u64, .own 3, .int .u64, .int .u64]), (3, .row (.cons (.int .u64) (.cons (.int .u64) (.cons (.int .u64) (.cons (.int .u64) (.cons .bool (.cons .bool .nil)))))))], 4⟩), (62, ⟨[(0, .one (.own 0)), (1, .one (.int .u64)), (10, .one (.int .u64))], [(0, .cells [.int .i64, .int .u64, .int .u64, .int .u64, .int .u64, .own 3, .int .u64, .int .u64]), (3, .row (.cons (.int .u64) (.cons (.int .u64) (.cons (.int .u64) (.cons (.int .u64) (.cons .bool (.cons .bool .nil)))))))], 4⟩)]⟩) (fuel := n) (c := Try.f35.body.getD .skip) (rs := Try.f35.results.toList) tt_ok mix (FsOK.cons (ok51 n) (FsOK.nil)) Try.func35 (by kernel_rfl) (by kernel_rfl) rfl (by kernel_rfl) rfl rfl (by kernel_rfl)
-- (*watchfire/sess.Out).Ack
def sig10 : Sig := ⟨(.cons (.one (.ptr (.cons (.c (.int .u8)) (.cons (.c (.int .u8)) (.cons (.c (.int .i64)) (.cons (.c (.int .u64)) (.cons (.c (.int .u64)) (.cons (.c (.int .u64)) (.cons (.c (.int .u64)) (.cons (.c (.int .u64)) (.cons (.ptr (.cons (.c (.int .i64)) (.cons (.c (.int .u64)) (.cons (.c (.int .u64)) (.cons (.c (.int .u64)) (.cons (.c (.int .u64)) (.cons (.row (.cons (.int .u64) (.cons (.int .u64) (.cons (.int .u64) (.cons (.int .u64) (.cons .bool (.cons .bool .nil))))))) (.cons (.c (.int .u64)) (.cons (.c (.int .u64)) .nil))))))))) .nil))))))))))) (.cons (.agg (.cons (.int .u8) (.cons (.int .u8) (.cons (.int .u8) (.cons (.int .u64) (.cons (.int .u64) (.cons .bool (.cons (.int .u8) (.cons (.int .u64) (.cons (.int .u64) (.cons .str (.cons (.ro (.cons .str (.cons .str .nil))) (.cons (.int .u8) (.cons (.int .u8) (.cons (.int .i64) (.cons (.int .u8) (.cons (.int .u8) (.cons (.int .u64) (.cons (.int .u64) (.cons (.int .u64) (.cons (.int .u64) (.cons (.int .u64) .nil)))))))))))))))))))))) .nil)), (.cons (.one (.c (.int .u64))) (.cons (.one (.c (.int .i64))) .nil))⟩
def F10_J3 : Nat →
  UInt8 →
    UInt8 →
      Int64 →
        UInt64 →
          UInt64 →
            UInt64 →
              UInt64 →
                UInt64 →
                  UInt8 →
                    UInt8 →
                      UInt8 →
                        UInt64 →
                          UInt64 →
                            Bool →
                              UInt8 →
                                UInt64 →
                                  UInt64 →
                                    List UInt8 →
                                      List (List UInt8 × List UInt8) →
                                        UInt8 →
                                          UInt8 →
                                            Int64 →
                                              UInt8 →
                                                UInt8 →
                                                  UInt64 →
                                                    UInt64 →
                                                      UInt64 →
                                                        UInt64 →
                                                          UInt64 →
                                                            Option
                                                                (Int64 ×
                                                                  UInt64 ×
                                                                    UInt64 ×
                                                                      UInt64 ×
                                                                        UInt64 ×
                                                                          List
                                                                              (UInt64 ×
                                                                                UInt64 ×
                                                                                  UInt64 × UInt64 × Bool × Bool) ×
                                                                            UInt64 × UInt64) →
                                                              Option
                                                                ((UInt64 × Int64) ×
                                                                  Option
                                                                    (UInt8 ×
                                                                      UInt8 ×
                                                                        Int64 ×
                                                                          UInt64 ×
                                                                            UInt64 ×
                                                                              UInt64 ×
                                                                                UInt64 ×
                                                                                  UInt64 ×
                                                                                    Option
                                                                                      (Int64 ×
                                                                                        UInt64 ×
                                                                                          UInt64 ×
                                                                                            UInt64 ×
                                                                                              UInt64 ×
                                                                                                List
                                                                                                    (UInt64 ×
                                                                                                      UInt64 ×
                                                                                                        UInt64 ×
                                                                                                          UInt64 ×
                                                                                                            Bool ×
                                                                                                              Bool) ×
                                                                                                  UInt64 × UInt64))) := fun (n : Nat) (o0 o1 : UInt8) (o2 : Int64) (o3 o4 o5 o6 o7 : UInt64) (f0 f1 f2 : UInt8) (f3 f4 : UInt64) (f5 : Bool)
    (f6 : UInt8) (f7 f8 : UInt64) (f9 : List UInt8) (f10 : List (List UInt8 × List UInt8)) (f11 f12 : UInt8)
    (f13 : Int64) (f14 f15 : UInt8) (f16 f17 f18 f19 f20 : UInt64)
    (ol :
      Option
        (Int64 ×
          UInt64 ×
            UInt64 × UInt64 × UInt64 × List (UInt64 × UInt64 × UInt64 × UInt64 × Bool × Bool) × UInt64 × UInt64)) =>
  obind (F35 n (ol, f18, f19))
    fun
      (x_1 :
        (UInt64 × Int64) ×
          Option
            (Int64 ×
              UInt64 ×
                UInt64 × UInt64 × UInt64 × List (UInt64 × UInt64 × UInt64 × UInt64 × Bool × Bool) × UInt64 × UInt64)) =>
    some ((Prod.fst (Prod.fst x_1), Prod.snd (Prod.fst x_1)), some (o0, o1, o2, o3, o4, o5, o6, f20, Prod.snd x_1))
def F10 : Nat →
  Option
        (UInt8 ×
          UInt8 ×
            Int64 ×
              UInt64 ×
                UInt64 ×
                  UInt64 ×
                    UInt64 ×
                      UInt64 ×
                        Option
                          (Int64 ×
                            UInt64 ×
                              UInt64 ×
                                UInt64 ×
                                  UInt64 × List (UInt64 × UInt64 × UInt64 × UInt64 × Bool × Bool) × UInt64 × UInt64)) ×
      UInt8 ×
        UInt8 ×
          UInt8 ×
            UInt64 ×
              UInt64 ×
                Bool ×
                  UInt8 ×
                    UInt64 ×
                      UInt64 ×
                        List UInt8 ×
                          List (List UInt8 × List UInt8) ×
                            UInt8 × UInt8 × Int64 × UInt8 × UInt8 × UInt64 × UInt64 × UInt64 × UInt64 × UInt64 →
    Option
      ((UInt64 × Int64) ×
        Option
          (UInt8 ×
            UInt8 ×
              Int64 ×
                UInt64 ×
                  UInt64 ×
                    UInt64 ×
                      UInt64 ×
                        UInt64 ×
                          Option
                            (Int64 ×
                              UInt64 ×
                                UInt64 ×
                                  UInt64 ×
                                    UInt64 × List (UInt64 × UInt64 × UInt64 × UInt64 × Bool × Bool) × UInt64 × UInt64))) := fun (n : Nat)
    (x :
      Option
          (UInt8 ×
            UInt8 ×
              Int64 ×
                UInt64 ×
                  UInt64 ×
                    UInt64 ×
                      UInt64 ×
                        UInt64 ×
                          Option
                            (Int64 ×
                              UInt64 ×
                                UInt64 ×
                                  UInt64 ×
                                    UInt64 ×
                                      List (UInt64 × UInt64 × UInt64 × UInt64 × Bool × Bool) × UInt64 × UInt64)) ×
        UInt8 ×
          UInt8 ×
            UInt8 ×
              UInt64 ×
                UInt64 ×
                  Bool ×
                    UInt8 ×
                      UInt64 ×
                        UInt64 ×
                          List UInt8 ×
                            List (List UInt8 × List UInt8) ×
                              UInt8 × UInt8 × Int64 × UInt8 × UInt8 × UInt64 × UInt64 × UInt64 × UInt64 × UInt64) =>
  ojoinA (3 : Nat)
    [PT.int IntKind.u8, PT.int IntKind.u8, PT.int IntKind.i64, PT.int IntKind.u64, PT.int IntKind.u64,
      PT.int IntKind.u64, PT.int IntKind.u64, PT.int IntKind.u64, PT.int IntKind.u8, PT.int IntKind.u8,
      PT.int IntKind.u8, PT.int IntKind.u64, PT.int IntKind.u64, PT.bool, PT.int IntKind.u8, PT.int IntKind.u64,
      PT.int IntKind.u64, PT.bytes, PT.list (CTs.cons CT.str (CTs.cons CT.str CTs.nil)), PT.int IntKind.u8,
      PT.int IntKind.u8, PT.int IntKind.i64, PT.int IntKind.u8, PT.int IntKind.u8, PT.int IntKind.u64,
      PT.int IntKind.u64, PT.int IntKind.u64, PT.int IntKind.u64, PT.int IntKind.u64,
      PT.opt
        (OTs.cons (OT.c (CT.int IntKind.i64))
          (OTs.cons (OT.c (CT.int IntKind.u64))
            (OTs.cons (OT.c (CT.int IntKind.u64))
              (OTs.cons (OT.c (CT.int IntKind.u64))
                (OTs.cons (OT.c (CT.int IntKind.u64))
                  (OTs.cons
                    (OT.row
                      (CTs.cons (CT.int IntKind.u64)
                        (CTs.cons (CT.int IntKind.u64)
                          (CTs.cons (CT.int IntKind.u64)
                            (CTs.cons (CT.int IntKind.u64) (CTs.cons CT.bool (CTs.cons CT.bool CTs.nil)))))))
                    (OTs.cons (OT.c (CT.int IntKind.u64)) (OTs.cons (OT.c (CT.int IntKind.u64)) OTs.nil))))))))]
    (fun
        (J :
          Arr
            [PT.int IntKind.u8, PT.int IntKind.u8, PT.int IntKind.i64, PT.int IntKind.u64, PT.int IntKind.u64,
              PT.int IntKind.u64, PT.int IntKind.u64, PT.int IntKind.u64, PT.int IntKind.u8, PT.int IntKind.u8,
              PT.int IntKind.u8, PT.int IntKind.u64, PT.int IntKind.u64, PT.bool, PT.int IntKind.u8, PT.int IntKind.u64,
              PT.int IntKind.u64, PT.bytes, PT.list (CTs.cons CT.str (CTs.cons CT.str CTs.nil)), PT.int IntKind.u8,
              PT.int IntKind.u8, PT.int IntKind.i64, PT.int IntKind.u8, PT.int IntKind.u8, PT.int IntKind.u64,
              PT.int IntKind.u64, PT.int IntKind.u64, PT.int IntKind.u64, PT.int IntKind.u64,
              PT.opt
                (OTs.cons (OT.c (CT.int IntKind.i64))
                  (OTs.cons (OT.c (CT.int IntKind.u64))
                    (OTs.cons (OT.c (CT.int IntKind.u64))
                      (OTs.cons (OT.c (CT.int IntKind.u64))
                        (OTs.cons (OT.c (CT.int IntKind.u64))
                          (OTs.cons
                            (OT.row
                              (CTs.cons (CT.int IntKind.u64)
                                (CTs.cons (CT.int IntKind.u64)
                                  (CTs.cons (CT.int IntKind.u64)
                                    (CTs.cons (CT.int IntKind.u64) (CTs.cons CT.bool (CTs.cons CT.bool CTs.nil)))))))
                            (OTs.cons (OT.c (CT.int IntKind.u64)) (OTs.cons (OT.c (CT.int IntKind.u64)) OTs.nil))))))))]
            (Option
              ((UInt64 × Int64) ×
                Option
                  (UInt8 ×
                    UInt8 ×
                      Int64 ×
                        UInt64 ×
                          UInt64 ×
                            UInt64 ×
                              UInt64 ×
                                UInt64 ×
                                  Option
                                    (Int64 ×
                                      UInt64 ×
                                        UInt64 ×
                                          UInt64 ×
                                            UInt64 ×
                                              List (UInt64 × UInt64 × UInt64 × UInt64 × Bool × Bool) ×
                                                UInt64 × UInt64))))) =>
      oelim (Prod.fst x) (some (((0 : UInt64), (1 : Int64)), none))
        fun
          (x_1 :
            UInt8 ×
              UInt8 ×
                Int64 ×
                  UInt64 ×
                    UInt64 ×
                      UInt64 ×
                        UInt64 ×
                          UInt64 ×
                            Option
                              (Int64 ×
                                UInt64 ×
                                  UInt64 ×
                                    UInt64 ×
                                      UInt64 ×
                                        List (UInt64 × UInt64 × UInt64 × UInt64 × Bool × Bool) × UInt64 × UInt64)) =>
        oite (!decide (Prod.fst (Prod.snd x) = (2 : UInt8)))
          (some
            (((0 : UInt64), (12 : Int64)),
              some
                (Prod.fst x_1, Prod.fst (Prod.snd x_1), Prod.fst (Prod.snd (Prod.snd x_1)),
                  Prod.fst (Prod.snd (Prod.snd (Prod.snd x_1))),
                  Prod.fst (Prod.snd (Prod.snd (Prod.snd (Prod.snd x_1)))),
                  Prod.fst (Prod.snd (Prod.snd (Prod.snd (Prod.snd (Prod.snd x_1))))),
                  Prod.fst (Prod.snd (Prod.snd (Prod.snd (Prod.snd (Prod.snd (Prod.snd x_1)))))),
                  Prod.fst (Prod.snd (Prod.snd (Prod.snd (Prod.snd (Prod.snd (Prod.snd (Prod.snd x_1))))))),
                  Prod.snd (Prod.snd (Prod.snd (Prod.snd (Prod.snd (Prod.snd (Prod.snd (Prod.snd x_1))))))))))
          (oite (!decide (Prod.fst (Prod.snd (Prod.snd x)) = Prod.fst (Prod.snd x_1)))
            (some
              (((0 : UInt64), (21 : Int64)),
                some
                  (Prod.fst x_1, Prod.fst (Prod.snd x_1), Prod.fst (Prod.snd (Prod.snd x_1)),
                    Prod.fst (Prod.snd (Prod.snd (Prod.snd x_1))),
                    Prod.fst (Prod.snd (Prod.snd (Prod.snd (Prod.snd x_1)))),
                    Prod.fst (Prod.snd (Prod.snd (Prod.snd (Prod.snd (Prod.snd x_1))))),
                    Prod.fst (Prod.snd (Prod.snd (Prod.snd (Prod.snd (Prod.snd (Prod.snd x_1)))))),
                    Prod.fst (Prod.snd (Prod.snd (Prod.snd (Prod.snd (Prod.snd (Prod.snd (Prod.snd x_1))))))),
                    Prod.snd (Prod.snd (Prod.snd (Prod.snd (Prod.snd (Prod.snd (Prod.snd (Prod.snd x_1))))))))))
            (oite (!decide (Prod.fst (Prod.snd (Prod.snd (Prod.snd x))) = Prod.fst x_1))
              (some
                (((0 : UInt64), (21 : Int64)),
                  some
                    (Prod.fst x_1, Prod.fst (Prod.snd x_1), Prod.fst (Prod.snd (Prod.snd x_1)),
                      Prod.fst (Prod.snd (Prod.snd (Prod.snd x_1))),
                      Prod.fst (Prod.snd (Prod.snd (Prod.snd (Prod.snd x_1)))),
                      Prod.fst (Prod.snd (Prod.snd (Prod.snd (Prod.snd (Prod.snd x_1))))),
                      Prod.fst (Prod.snd (Prod.snd (Prod.snd (Prod.snd (Prod.snd (Prod.snd x_1)))))),
                      Prod.fst (Prod.snd (Prod.snd (Prod.snd (Prod.snd (Prod.snd (Prod.snd (Prod.snd x_1))))))),
                      Prod.snd (Prod.snd (Prod.snd (Prod.snd (Prod.snd (Prod.snd (Prod.snd (Prod.snd x_1))))))))))
              (obind
                (F11 n
                  (some
                    (Prod.fst x_1, Prod.fst (Prod.snd x_1), Prod.fst (Prod.snd (Prod.snd x_1)),
                      Prod.fst (Prod.snd (Prod.snd (Prod.snd x_1))),
                      Prod.fst (Prod.snd (Prod.snd (Prod.snd (Prod.snd x_1)))),
                      Prod.fst (Prod.snd (Prod.snd (Prod.snd (Prod.snd (Prod.snd x_1))))),
                      Prod.fst (Prod.snd (Prod.snd (Prod.snd (Prod.snd (Prod.snd (Prod.snd x_1)))))),
                      Prod.fst (Prod.snd (Prod.snd (Prod.snd (Prod.snd (Prod.snd (Prod.snd (Prod.snd x_1))))))),
                      Prod.snd (Prod.snd (Prod.snd (Prod.snd (Prod.snd (Prod.snd (Prod.snd (Prod.snd x_1))))))))))
                fun
                  (x_2 :
                    UInt64 ×
                      Option
                        (UInt8 ×
                          UInt8 ×
                            Int64 ×
                              UInt64 ×
                                UInt64 ×
                                  UInt64 ×
                                    UInt64 ×
                                      UInt64 ×
                                        Option
                                          (Int64 ×
                                            UInt64 ×
                                              UInt64 ×
                                                UInt64 ×
                                                  UInt64 ×
                                                    List (UInt64 × UInt64 × UInt64 × UInt64 × Bool × Bool) ×
                                                      UInt64 × UInt64))) =>
                oite (!decide (Prod.fst (Prod.snd (Prod.snd (Prod.snd (Prod.snd x)))) = Prod.fst x_2))
                  (some (((0 : UInt64), (17 : Int64)), Prod.snd x_2))
                  (obind (Prod.snd x_2)
                    fun
                      (x_3 :
                        UInt8 ×
                          UInt8 ×
                            Int64 ×
                              UInt64 ×
                                UInt64 ×
                                  UInt64 ×
                                    UInt64 ×
                                      UInt64 ×
                                        Option
                                          (Int64 ×
                                            UInt64 ×
                                              UInt64 ×
                                                UInt64 ×
                                                  UInt64 ×
                                                    List (UInt64 × UInt64 × UInt64 × UInt64 × Bool × Bool) ×
                                                      UInt64 × UInt64)) =>
                    oite
                      (decide
                        (Prod.snd
                            (Prod.snd
                              (Prod.snd
                                (Prod.snd
                                  (Prod.snd
                                    (Prod.snd
                                      (Prod.snd
                                        (Prod.snd
                                          (Prod.snd
                                            (Prod.snd
                                              (Prod.snd
                                                (Prod.snd
                                                  (Prod.snd
                                                    (Prod.snd
                                                      (Prod.snd
                                                        (Prod.snd
                                                          (Prod.snd
                                                            (Prod.snd
                                                              (Prod.snd (Prod.snd (Prod.snd x)))))))))))))))))))) <
                          Prod.fst (Prod.snd (Prod.snd (Prod.snd (Prod.snd (Prod.snd (Prod.snd (Prod.snd x_3)))))))))
                      (some
                        (((0 : UInt64), (17 : Int64)),
                          some
                            (Prod.fst x_3, Prod.fst (Prod.snd x_3), Prod.fst (Prod.snd (Prod.snd x_3)),
                              Prod.fst (Prod.snd (Prod.snd (Prod.snd x_3))),
                              Prod.fst (Prod.snd (Prod.snd (Prod.snd (Prod.snd x_3)))),
                              Prod.fst (Prod.snd (Prod.snd (Prod.snd (Prod.snd (Prod.snd x_3))))),
                              Prod.fst (Prod.snd (Prod.snd (Prod.snd (Prod.snd (Prod.snd (Prod.snd x_3)))))),
                              Prod.fst (Prod.snd (Prod.snd (Prod.snd (Prod.snd (Prod.snd (Prod.snd (Prod.snd x_3))))))),
                              Prod.snd
                                (Prod.snd (Prod.snd (Prod.snd (Prod.snd (Prod.snd (Prod.snd (Prod.snd x_3))))))))))
                      (oite
                        (!decide
                            (Prod.fst (Prod.snd (Prod.snd (Prod.snd (Prod.snd (Prod.snd (Prod.snd (Prod.snd x_3))))))) =
                              (0 : UInt64)))
                        (oite
                          (decide
                            (Prod.fst (Prod.snd (Prod.snd (Prod.snd (Prod.snd (Prod.snd (Prod.snd (Prod.snd x_3))))))) <
                              Prod.snd
                                (Prod.snd
                                  (Prod.snd
                                    (Prod.snd
                                      (Prod.snd
                                        (Prod.snd
                                          (Prod.snd
                                            (Prod.snd
                                              (Prod.snd
                                                (Prod.snd
                                                  (Prod.snd
                                                    (Prod.snd
                                                      (Prod.snd
                                                        (Prod.snd
                                                          (Prod.snd
                                                            (Prod.snd
                                                              (Prod.snd
                                                                (Prod.snd
                                                                  (Prod.snd (Prod.snd (Prod.snd x))))))))))))))))))))))
                          (obind
                            (F18 n
                              (some
                                (Prod.fst x_3, Prod.fst (Prod.snd x_3), Prod.fst (Prod.snd (Prod.snd x_3)),
                                  Prod.fst (Prod.snd (Prod.snd (Prod.snd x_3))),
                                  Prod.fst (Prod.snd (Prod.snd (Prod.snd (Prod.snd x_3)))),
                                  Prod.fst (Prod.snd (Prod.snd (Prod.snd (Prod.snd (Prod.snd x_3))))),
                                  Prod.fst (Prod.snd (Prod.snd (Prod.snd (Prod.snd (Prod.snd (Prod.snd x_3)))))),
                                  Prod.snd
                                    (Prod.snd
                                      (Prod.snd
                                        (Prod.snd
                                          (Prod.snd
                                            (Prod.snd
                                              (Prod.snd
                                                (Prod.snd
                                                  (Prod.snd
                                                    (Prod.snd
                                                      (Prod.snd
                                                        (Prod.snd
                                                          (Prod.snd
                                                            (Prod.snd
                                                              (Prod.snd
                                                                (Prod.snd
                                                                  (Prod.snd
                                                                    (Prod.snd
                                                                      (Prod.snd
                                                                        (Prod.snd (Prod.snd x)))))))))))))))))))),
                                  Prod.snd
                                    (Prod.snd (Prod.snd (Prod.snd (Prod.snd (Prod.snd (Prod.snd (Prod.snd x_3))))))))))
                            fun
                              (x_4 :
                                Int64 ×
                                  Option
                                    (UInt8 ×
                                      UInt8 ×
                                        Int64 ×
                                          UInt64 ×
                                            UInt64 ×
                                              UInt64 ×
                                                UInt64 ×
                                                  UInt64 ×
                                                    Option
                                                      (Int64 ×
                                                        UInt64 ×
                                                          UInt64 ×
                                                            UInt64 ×
                                                              UInt64 ×
                                                                List (UInt64 × UInt64 × UInt64 × UInt64 × Bool × Bool) ×
                                                                  UInt64 × UInt64))) =>
                            oite (!decide (Prod.fst x_4 = (0 : Int64)))
                              (some (((0 : UInt64), Prod.fst x_4), Prod.snd x_4))
                              (some (((0 : UInt64), (18 : Int64)), Prod.snd x_4)))
                          (J (Prod.fst x_3) (Prod.fst (Prod.snd x_3)) (Prod.fst (Prod.snd (Prod.snd x_3)))
                            (Prod.fst (Prod.snd (Prod.snd (Prod.snd x_3))))
                            (Prod.fst (Prod.snd (Prod.snd (Prod.snd (Prod.snd x_3)))))
                            (Prod.fst (Prod.snd (Prod.snd (Prod.snd (Prod.snd (Prod.snd x_3))))))
                            (Prod.fst (Prod.snd (Prod.snd (Prod.snd (Prod.snd (Prod.snd (Prod.snd x_3)))))))
                            (Prod.fst (Prod.snd (Prod.snd (Prod.snd (Prod.snd (Prod.snd (Prod.snd (Prod.snd x_3))))))))
                            (Prod.fst (Prod.snd x)) (Prod.fst (Prod.snd (Prod.snd x)))
                            (Prod.fst (Prod.snd (Prod.snd (Prod.snd x))))
                            (Prod.fst (Prod.snd (Prod.snd (Prod.snd (Prod.snd x)))))
                            (Prod.fst (Prod.snd (Prod.snd (Prod.snd (Prod.snd (Prod.snd x))))))
                            (Prod.fst (Prod.snd (Prod.snd (Prod.snd (Prod.snd (Prod.snd (Prod.snd x)))))))
                            (Prod.fst (Prod.snd (Prod.snd (Prod.snd (Prod.snd (Prod.snd (Prod.snd (Prod.snd x))))))))
                            (Prod.fst
                              (Prod.snd (Prod.snd (Prod.snd (Prod.snd (Prod.snd (Prod.snd (Prod.snd (Prod.snd x)))))))))
                            (Prod.fst
                              (Prod.snd
                                (Prod.snd
                                  (Prod.snd (Prod.snd (Prod.snd (Prod.snd (Prod.snd (Prod.snd (Prod.snd x))))))))))
                            (Prod.fst
                              (Prod.snd
                                (Prod.snd
                                  (Prod.snd
                                    (Prod.snd (Prod.snd (Prod.snd (Prod.snd (Prod.snd (Prod.snd (Prod.snd x)))))))))))
                            (Prod.fst
                              (Prod.snd
                                (Prod.snd
                                  (Prod.snd
                                    (Prod.snd
                                      (Prod.snd
                                        (Prod.snd (Prod.snd (Prod.snd (Prod.snd (Prod.snd (Prod.snd x))))))))))))
                            (Prod.fst
                              (Prod.snd
                                (Prod.snd
                                  (Prod.snd
                                    (Prod.snd
                                      (Prod.snd
                                        (Prod.snd
                                          (Prod.snd (Prod.snd (Prod.snd (Prod.snd (Prod.snd (Prod.snd x)))))))))))))
                            (Prod.fst
                              (Prod.snd
                                (Prod.snd
                                  (Prod.snd
                                    (Prod.snd
                                      (Prod.snd
                                        (Prod.snd
                                          (Prod.snd
                                            (Prod.snd (Prod.snd (Prod.snd (Prod.snd (Prod.snd (Prod.snd x))))))))))))))
                            (Prod.fst
                              (Prod.snd
                                (Prod.snd
                                  (Prod.snd
                                    (Prod.snd
                                      (Prod.snd
                                        (Prod.snd
                                          (Prod.snd
                                            (Prod.snd
                                              (Prod.snd
                                                (Prod.snd (Prod.snd (Prod.snd (Prod.snd (Prod.snd x)))))))))))))))
                            (Prod.fst
                              (Prod.snd
                                (Prod.snd
                                  (Prod.snd
                                    (Prod.snd
                                      (Prod.snd
                                        (Prod.snd
                                          (Prod.snd
                                            (Prod.snd
                                              (Prod.snd
                                                (Prod.snd
                                                  (Prod.snd (Prod.snd (Prod.snd (Prod.snd (Prod.snd x))))))))))))))))
                            (Prod.fst
                              (Prod.snd
                                (Prod.snd
                                  (Prod.snd
                                    (Prod.snd
                                      (Prod.snd
                                        (Prod.snd
                                          (Prod.snd
                                            (Prod.snd
                                              (Prod.snd
                                                (Prod.snd
                                                  (Prod.snd
                                                    (Prod.snd (Prod.snd (Prod.snd (Prod.snd (Prod.snd x)))))))))))))))))
                            (Prod.fst
                              (Prod.snd
                                (Prod.snd
                                  (Prod.snd
                                    (Prod.snd
                                      (Prod.snd
                                        (Prod.snd
                                          (Prod.snd
                                            (Prod.snd
                                              (Prod.snd
                                                (Prod.snd
                                                  (Prod.snd
                                                    (Prod.snd
                                                      (Prod.snd
                                                        (Prod.snd (Prod.snd (Prod.snd (Prod.snd x))))))))))))))))))
                            (Prod.fst
                              (Prod.snd
                                (Prod.snd
                                  (Prod.snd
                                    (Prod.snd
                                      (Prod.snd
                                        (Prod.snd
                                          (Prod.snd
                                            (Prod.snd
                                              (Prod.snd
                                                (Prod.snd
                                                  (Prod.snd
                                                    (Prod.snd
                                                      (Prod.snd
                                                        (Prod.snd
                                                          (Prod.snd (Prod.snd (Prod.snd (Prod.snd x)))))))))))))))))))
                            (Prod.fst
                              (Prod.snd
                                (Prod.snd
                                  (Prod.snd
                                    (Prod.snd
                                      (Prod.snd
                                        (Prod.snd
                                          (Prod.snd
                                            (Prod.snd
                                              (Prod.snd
                                                (Prod.snd
                                                  (Prod.snd
                                                    (Prod.snd
                                                      (Prod.snd
                                                        (Prod.snd
                                                          (Prod.snd
                                                            (Prod.snd
                                                              (Prod.snd (Prod.snd (Prod.snd x))))))))))))))))))))
                            (Prod.fst
                              (Prod.snd
                                (Prod.snd
                                  (Prod.snd
                                    (Prod.snd
                                      (Prod.snd
                                        (Prod.snd
                                          (Prod.snd
                                            (Prod.snd
                                              (Prod.snd
                                                (Prod.snd
                                                  (Prod.snd
                                                    (Prod.snd
                                                      (Prod.snd
                                                        (Prod.snd
                                                          (Prod.snd
                                                            (Prod.snd
                                                              (Prod.snd
                                                                (Prod.snd (Prod.snd (Prod.snd x)))))))))))))))))))))
                            (Prod.snd
                              (Prod.snd
                                (Prod.snd
                                  (Prod.snd
                                    (Prod.snd
                                      (Prod.snd
                                        (Prod.snd
                                          (Prod.snd
                                            (Prod.snd
                                              (Prod.snd
                                                (Prod.snd
                                                  (Prod.snd
                                                    (Prod.snd
                                                      (Prod.snd
                                                        (Prod.snd
                                                          (Prod.snd
                                                            (Prod.snd
                                                              (Prod.snd
                                                                (Prod.snd (Prod.snd (Prod.snd x)))))))))))))))))))))
                            (Prod.snd
                              (Prod.snd (Prod.snd (Prod.snd (Prod.snd (Prod.snd (Prod.snd (Prod.snd x_3))))))))))
                        (J (Prod.fst x_3) (Prod.fst (Prod.snd x_3)) (Prod.fst (Prod.snd (Prod.snd x_3)))
                          (Prod.fst (Prod.snd (Prod.snd (Prod.snd x_3))))
                          (Prod.fst (Prod.snd (Prod.snd (Prod.snd (Prod.snd x_3)))))
                          (Prod.fst (Prod.snd (Prod.snd (Prod.snd (Prod.snd (Prod.snd x_3))))))
                          (Prod.fst (Prod.snd (Prod.snd (Prod.snd (Prod.snd (Prod.snd (Prod.snd x_3)))))))
                          (Prod.fst (Prod.snd (Prod.snd (Prod.snd (Prod.snd (Prod.snd (Prod.snd (Prod.snd x_3))))))))
                          (Prod.fst (Prod.snd x)) (Prod.fst (Prod.snd (Prod.snd x)))
                          (Prod.fst (Prod.snd (Prod.snd (Prod.snd x))))
                          (Prod.fst (Prod.snd (Prod.snd (Prod.snd (Prod.snd x)))))
                          (Prod.fst (Prod.snd (Prod.snd (Prod.snd (Prod.snd (Prod.snd x))))))
                          (Prod.fst (Prod.snd (Prod.snd (Prod.snd (Prod.snd (Prod.snd (Prod.snd x)))))))
                          (Prod.fst (Prod.snd (Prod.snd (Prod.snd (Prod.snd (Prod.snd (Prod.snd (Prod.snd x))))))))
                          (Prod.fst
                            (Prod.snd (Prod.snd (Prod.snd (Prod.snd (Prod.snd (Prod.snd (Prod.snd (Prod.snd x)))))))))
                          (Prod.fst
                            (Prod.snd
                              (Prod.snd
                                (Prod.snd (Prod.snd (Prod.snd (Prod.snd (Prod.snd (Prod.snd (Prod.snd x))))))))))
                          (Prod.fst
                            (Prod.snd
                              (Prod.snd
                                (Prod.snd
                                  (Prod.snd (Prod.snd (Prod.snd (Prod.snd (Prod.snd (Prod.snd (Prod.snd x)))))))))))
                          (Prod.fst
                            (Prod.snd
                              (Prod.snd
                                (Prod.snd
                                  (Prod.snd
                                    (Prod.snd (Prod.snd (Prod.snd (Prod.snd (Prod.snd (Prod.snd (Prod.snd x))))))))))))
                          (Prod.fst
                            (Prod.snd
                              (Prod.snd
                                (Prod.snd
                                  (Prod.snd
                                    (Prod.snd
                                      (Prod.snd
                                        (Prod.snd (Prod.snd (Prod.snd (Prod.snd (Prod.snd (Prod.snd x)))))))))))))
                          (Prod.fst
                            (Prod.snd
                              (Prod.snd
                                (Prod.snd
                                  (Prod.snd
                                    (Prod.snd
                                      (Prod.snd
                                        (Prod.snd
                                          (Prod.snd (Prod.snd (Prod.snd (Prod.snd (Prod.snd (Prod.snd x))))))))))))))
                          (Prod.fst
                            (Prod.snd
                              (Prod.snd
                                (Prod.snd
                                  (Prod.snd
                                    (Prod.snd
                                      (Prod.snd
                                        (Prod.snd
                                          (Prod.snd
                                            (Prod.snd (Prod.snd (Prod.snd (Prod.snd (Prod.snd (Prod.snd x)))))))))))))))
                          (Prod.fst
                            (Prod.snd
                              (Prod.snd
                                (Prod.snd
                                  (Prod.snd
                                    (Prod.snd
                                      (Prod.snd
                                        (Prod.snd
                                          (Prod.snd
                                            (Prod.snd
                                              (Prod.snd
                                                (Prod.snd (Prod.snd (Prod.snd (Prod.snd (Prod.snd x))))))))))))))))
                          (Prod.fst
                            (Prod.snd
                              (Prod.snd
                                (Prod.snd
                                  (Prod.snd
                                    (Prod.snd
                                      (Prod.snd
                                        (Prod.snd
                                          (Prod.snd
                                            (Prod.snd
                                              (Prod.snd
                                                (Prod.snd
                                                  (Prod.snd (Prod.snd (Prod.snd (Prod.snd (Prod.snd x)))))))))))))))))
                          (Prod.fst
                            (Prod.snd
                              (Prod.snd
                                (Prod.snd
                                  (Prod.snd
                                    (Prod.snd
                                      (Prod.snd
                                        (Prod.snd
                                          (Prod.snd
                                            (Prod.snd
                                              (Prod.snd
                                                (Prod.snd
                                                  (Prod.snd
                                                    (Prod.snd
                                                      (Prod.snd (Prod.snd (Prod.snd (Prod.snd x))))))))))))))))))
                          (Prod.fst
                            (Prod.snd
                              (Prod.snd
                                (Prod.snd
                                  (Prod.snd
                                    (Prod.snd
                                      (Prod.snd
                                        (Prod.snd
                                          (Prod.snd
                                            (Prod.snd
                                              (Prod.snd
                                                (Prod.snd
                                                  (Prod.snd
                                                    (Prod.snd
                                                      (Prod.snd
                                                        (Prod.snd (Prod.snd (Prod.snd (Prod.snd x)))))))))))))))))))
                          (Prod.fst
                            (Prod.snd
                              (Prod.snd
                                (Prod.snd
                                  (Prod.snd
                                    (Prod.snd
                                      (Prod.snd
                                        (Prod.snd
                                          (Prod.snd
                                            (Prod.snd
                                              (Prod.snd
                                                (Prod.snd
                                                  (Prod.snd
                                                    (Prod.snd
                                                      (Prod.snd
                                                        (Prod.snd
                                                          (Prod.snd (Prod.snd (Prod.snd (Prod.snd x))))))))))))))))))))
                          (Prod.fst
                            (Prod.snd
                              (Prod.snd
                                (Prod.snd
                                  (Prod.snd
                                    (Prod.snd
                                      (Prod.snd
                                        (Prod.snd
                                          (Prod.snd
                                            (Prod.snd
                                              (Prod.snd
                                                (Prod.snd
                                                  (Prod.snd
                                                    (Prod.snd
                                                      (Prod.snd
                                                        (Prod.snd
                                                          (Prod.snd
                                                            (Prod.snd
                                                              (Prod.snd (Prod.snd (Prod.snd x)))))))))))))))))))))
                          (Prod.snd
                            (Prod.snd
                              (Prod.snd
                                (Prod.snd
                                  (Prod.snd
                                    (Prod.snd
                                      (Prod.snd
                                        (Prod.snd
                                          (Prod.snd
                                            (Prod.snd
                                              (Prod.snd
                                                (Prod.snd
                                                  (Prod.snd
                                                    (Prod.snd
                                                      (Prod.snd
                                                        (Prod.snd
                                                          (Prod.snd
                                                            (Prod.snd
                                                              (Prod.snd (Prod.snd (Prod.snd x)))))))))))))))))))))
                          (Prod.snd
                            (Prod.snd (Prod.snd (Prod.snd (Prod.snd (Prod.snd (Prod.snd (Prod.snd x_3)))))))))))))))
    (F10_J3 n)
theorem ok10 (n : Nat) : FunOK Try.prog ⟨10, sig10, F10 n⟩ :=
  fun_ok (hints := ⟨[(3, ⟨[(0, .one (.own 0)), (3, .one (.own 2))], [(0, .cells [.int .u8, .int .u8, .int .i64, .int .u64, .int .u64, .int .u64, .int .u64, .int .u64, .own 3]), (2, .cells [.int .u8, .int .u8, .int .u8, .int .u64, .int .u64, .bool, .int .u8, .int .u64, .int .u64, .str, .ro (.cons .str (.cons .str .nil)), .int .u8, .int .u8, .int .i64, .int .u8, .int .u8, .int .u64, .int .u64, .int .u64, .int .u64, .int .u64]), (3, .fold (.cons (.c (.int .i64)) (.cons (.c (.int .u64)) (.cons (.c (.int .u64)) (.cons (.c (.int .u64)) (.cons (.c (.int .u64)) (.cons (.row (.cons (.int .u64) (.cons (.int .u64) (.cons (.int .u64) (.cons (.int .u64) (.cons .bool (.cons .bool .nil))))))) (.cons (.c (.int .u64)) (.cons (.c (.int .u64)) .nil)))))))))], 4⟩)], []⟩) (fuel := n) (c := Try.f10.body.getD .skip) (rs := Try.f10.results.toList) tt_ok mix (FsOK.cons (ok11 n) (FsOK.cons (ok18 n) (FsOK.cons (ok35 n) (FsOK.nil)))) Try.func10 (by kernel_rfl) (by kernel_rfl) rfl (by kernel_rfl) rfl rfl (by kernel_rfl)
-- watchfire/watchfirelaw12.SessAcks
def sig3 : Sig := ⟨(.cons (.agg (.cons (.int .u8) (.cons (.int .u8) (.cons (.int .u8) (.cons (.int .u64) (.cons (.int .u64) (.cons .bool (.cons (.int .u8) (.cons (.int .u64) (.cons (.int .u64) (.cons .str (.cons (.ro (.cons .str (.cons .str .nil))) (.cons (.int .u8) (.cons (.int .u8) (.cons (.int .i64) (.cons (.int .u8) (.cons (.int .u8) (.cons (.int .u64) (.cons (.int .u64) (.cons (.int .u64) (.cons (.int .u64) (.cons (.int .u64) .nil)))))))))))))))))))))) (.cons (.one (.c (.int .u8))) (.cons (.one (.c (.ro (.cons (.int .u8) .nil)))) .nil))), (.cons (.one (.c .bool)) .nil)⟩
def F3_J523631 : Nat →
  Arr
      [PT.int IntKind.u64, PT.int IntKind.u64, PT.list (CTs.cons (CT.int IntKind.u8) CTs.nil), PT.int IntKind.i64,
        PT.int IntKind.i64,
        PT.opt
          (OTs.cons (OT.c (CT.int IntKind.u8))
            (OTs.cons (OT.c (CT.int IntKind.u8))
              (OTs.cons (OT.c (CT.int IntKind.i64))
                (OTs.cons (OT.c (CT.int IntKind.u64))
                  (OTs.cons (OT.c (CT.int IntKind.u64))
                    (OTs.cons (OT.c (CT.int IntKind.u64))
                      (OTs.cons (OT.c (CT.int IntKind.u64))
                        (OTs.cons (OT.c (CT.int IntKind.u64))
                          (OTs.cons
                            (OT.ptr
                              (OTs.cons (OT.c (CT.int IntKind.i64))
                                (OTs.cons (OT.c (CT.int IntKind.u64))
                                  (OTs.cons (OT.c (CT.int IntKind.u64))
                                    (OTs.cons (OT.c (CT.int IntKind.u64))
                                      (OTs.cons (OT.c (CT.int IntKind.u64))
                                        (OTs.cons
                                          (OT.row
                                            (CTs.cons (CT.int IntKind.u64)
                                              (CTs.cons (CT.int IntKind.u64)
                                                (CTs.cons (CT.int IntKind.u64)
                                                  (CTs.cons (CT.int IntKind.u64)
                                                    (CTs.cons CT.bool (CTs.cons CT.bool CTs.nil)))))))
                                          (OTs.cons (OT.c (CT.int IntKind.u64))
                                            (OTs.cons (OT.c (CT.int IntKind.u64)) OTs.nil)))))))))
                            OTs.nil)))))))))]
      (Option (Bool × Unit)) →
    UInt64 →
      UInt64 →
        Int64 →
          Int64 →
            List UInt8 →
              Int64 →
                Int64 →
                  Option
                      (UInt8 ×
                        UInt8 ×
                          Int64 ×
                            UInt64 ×
                              UInt64 ×
                                UInt64 ×
                                  UInt64 ×
                                    UInt64 ×
                                      Option
                                        (Int64 ×
                                          UInt64 ×
                                            UInt64 ×
                                              UInt64 ×
                                                UInt64 ×
                                                  List (UInt64 × UInt64 × UInt64 × UInt64 × Bool × Bool) ×
                                                    UInt64 × UInt64)) →
                    Option (Bool × Unit) := fun (n : Nat)
    (rec :
      Arr
        [PT.int IntKind.u64, PT.int IntKind.u64, PT.list (CTs.cons (CT.int IntKind.u8) CTs.nil), PT.int IntKind.i64,
          PT.int IntKind.i64,
          PT.opt
            (OTs.cons (OT.c (CT.int IntKind.u8))
              (OTs.cons (OT.c (CT.int IntKind.u8))
                (OTs.cons (OT.c (CT.int IntKind.i64))
                  (OTs.cons (OT.c (CT.int IntKind.u64))
                    (OTs.cons (OT.c (CT.int IntKind.u64))
                      (OTs.cons (OT.c (CT.int IntKind.u64))
                        (OTs.cons (OT.c (CT.int IntKind.u64))
                          (OTs.cons (OT.c (CT.int IntKind.u64))
                            (OTs.cons
                              (OT.ptr
                                (OTs.cons (OT.c (CT.int IntKind.i64))
                                  (OTs.cons (OT.c (CT.int IntKind.u64))
                                    (OTs.cons (OT.c (CT.int IntKind.u64))
                                      (OTs.cons (OT.c (CT.int IntKind.u64))
                                        (OTs.cons (OT.c (CT.int IntKind.u64))
                                          (OTs.cons
                                            (OT.row
                                              (CTs.cons (CT.int IntKind.u64)
                                                (CTs.cons (CT.int IntKind.u64)
                                                  (CTs.cons (CT.int IntKind.u64)
                                                    (CTs.cons (CT.int IntKind.u64)
                                                      (CTs.cons CT.bool (CTs.cons CT.bool CTs.nil)))))))
                                            (OTs.cons (OT.c (CT.int IntKind.u64))
                                              (OTs.cons (OT.c (CT.int IntKind.u64)) OTs.nil)))))))))
                              OTs.nil)))))))))]
        (Option (Bool × Unit)))
    (seen_1 session_1 : UInt64) (e want : Int64) (t_3 : List UInt8) (t_1_1 t_2_1 : Int64)
    (o_1 :
      Option
        (UInt8 ×
          UInt8 ×
            Int64 ×
              UInt64 ×
                UInt64 ×
                  UInt64 ×
                    UInt64 ×
                      UInt64 ×
                        Option
                          (Int64 ×
                            UInt64 ×
                              UInt64 ×
                                UInt64 ×
                                  UInt64 ×
                                    List (UInt64 × UInt64 × UInt64 × UInt64 × Bool × Bool) × UInt64 × UInt64))) =>
  oite (!decide (e = want)) (some (false, ()))
    (obind (F11 n o_1)
      fun
        (x_7 :
          UInt64 ×
            Option
              (UInt8 ×
                UInt8 ×
                  Int64 ×
                    UInt64 ×
                      UInt64 ×
                        UInt64 ×
                          UInt64 ×
                            UInt64 ×
                              Option
                                (Int64 ×
                                  UInt64 ×
                                    UInt64 ×
                                      UInt64 ×
                                        UInt64 ×
                                          List (UInt64 × UInt64 × UInt64 × UInt64 × Bool × Bool) × UInt64 × UInt64))) =>
      oite (!decide (Prod.fst x_7 = (3145728 : UInt64) ||| session_1)) (some (false, ()))
        (rec seen_1 session_1 t_3 t_1_1 (t_2_1 + (1 : Int64)) (Prod.snd x_7)))
def F3_L2045 : Nat →
  Arr
      [PT.int IntKind.u64, PT.int IntKind.u64, PT.list (CTs.cons (CT.int IntKind.u8) CTs.nil), PT.int IntKind.i64,
        PT.int IntKind.i64,
        PT.opt
          (OTs.cons (OT.c (CT.int IntKind.u8))
            (OTs.cons (OT.c (CT.int IntKind.u8))
              (OTs.cons (OT.c (CT.int IntKind.i64))
                (OTs.cons (OT.c (CT.int IntKind.u64))
                  (OTs.cons (OT.c (CT.int IntKind.u64))
                    (OTs.cons (OT.c (CT.int IntKind.u64))
                      (OTs.cons (OT.c (CT.int IntKind.u64))
                        (OTs.cons (OT.c (CT.int IntKind.u64))
                          (OTs.cons
                            (OT.ptr
                              (OTs.cons (OT.c (CT.int IntKind.i64))
                                (OTs.cons (OT.c (CT.int IntKind.u64))
                                  (OTs.cons (OT.c (CT.int IntKind.u64))
                                    (OTs.cons (OT.c (CT.int IntKind.u64))
                                      (OTs.cons (OT.c (CT.int IntKind.u64))
                                        (OTs.cons
                                          (OT.row
                                            (CTs.cons (CT.int IntKind.u64)
                                              (CTs.cons (CT.int IntKind.u64)
                                                (CTs.cons (CT.int IntKind.u64)
                                                  (CTs.cons (CT.int IntKind.u64)
                                                    (CTs.cons CT.bool (CTs.cons CT.bool CTs.nil)))))))
                                          (OTs.cons (OT.c (CT.int IntKind.u64))
                                            (OTs.cons (OT.c (CT.int IntKind.u64)) OTs.nil)))))))))
                            OTs.nil)))))))))]
      (Option (Bool × Unit)) →
    UInt64 →
      UInt64 →
        List UInt8 →
          Int64 →
            Int64 →
              Option
                  (UInt8 ×
                    UInt8 ×
                      Int64 ×
                        UInt64 ×
                          UInt64 ×
                            UInt64 ×
                              UInt64 ×
                                UInt64 ×
                                  Option
                                    (Int64 ×
                                      UInt64 ×
                                        UInt64 ×
                                          UInt64 ×
                                            UInt64 ×
                                              List (UInt64 × UInt64 × UInt64 × UInt64 × Bool × Bool) ×
                                                UInt64 × UInt64)) →
                Option (Bool × Unit) := fun (n : Nat)
    (rec :
      Arr
        [PT.int IntKind.u64, PT.int IntKind.u64, PT.list (CTs.cons (CT.int IntKind.u8) CTs.nil), PT.int IntKind.i64,
          PT.int IntKind.i64,
          PT.opt
            (OTs.cons (OT.c (CT.int IntKind.u8))
              (OTs.cons (OT.c (CT.int IntKind.u8))
                (OTs.cons (OT.c (CT.int IntKind.i64))
                  (OTs.cons (OT.c (CT.int IntKind.u64))
                    (OTs.cons (OT.c (CT.int IntKind.u64))
                      (OTs.cons (OT.c (CT.int IntKind.u64))
                        (OTs.cons (OT.c (CT.int IntKind.u64))
                          (OTs.cons (OT.c (CT.int IntKind.u64))
                            (OTs.cons
                              (OT.ptr
                                (OTs.cons (OT.c (CT.int IntKind.i64))
                                  (OTs.cons (OT.c (CT.int IntKind.u64))
                                    (OTs.cons (OT.c (CT.int IntKind.u64))
                                      (OTs.cons (OT.c (CT.int IntKind.u64))
                                        (OTs.cons (OT.c (CT.int IntKind.u64))
                                          (OTs.cons
                                            (OT.row
                                              (CTs.cons (CT.int IntKind.u64)
                                                (CTs.cons (CT.int IntKind.u64)
                                                  (CTs.cons (CT.int IntKind.u64)
                                                    (CTs.cons (CT.int IntKind.u64)
                                                      (CTs.cons CT.bool (CTs.cons CT.bool CTs.nil)))))))
                                            (OTs.cons (OT.c (CT.int IntKind.u64))
                                              (OTs.cons (OT.c (CT.int IntKind.u64)) OTs.nil)))))))))
                              OTs.nil)))))))))]
        (Option (Bool × Unit)))
    (seen session : UInt64) (t : List UInt8) (t_1 t_2 : Int64)
    (o :
      Option
        (UInt8 ×
          UInt8 ×
            Int64 ×
              UInt64 ×
                UInt64 ×
                  UInt64 ×
                    UInt64 ×
                      UInt64 ×
                        Option
                          (Int64 ×
                            UInt64 ×
                              UInt64 ×
                                UInt64 ×
                                  UInt64 ×
                                    List (UInt64 × UInt64 × UInt64 × UInt64 × Bool × Bool) × UInt64 × UInt64))) =>
  oite (decide (t_2 < t_1))
    (obind (at? t (Int64.toInt t_2)) fun (x_5 : UInt8) =>
      obind
        (F10 n
          (o, (2 : UInt8), (0 : UInt8), (1 : UInt8), (3145728 : UInt64) ||| session, (0 : UInt64), false, (0 : UInt8),
            (0 : UInt64), (0 : UInt64), [], [], (0 : UInt8), (0 : UInt8), (0 : Int64), (0 : UInt8), (0 : UInt8),
            (0 : UInt64), (0 : UInt64), (0 : UInt64), (0 : UInt64),
            (1 : UInt64) + UInt64.ofInt ↑(UInt8.toNat (x_5 % (6 : UInt8)))))
        fun
          (x_6 :
            (UInt64 × Int64) ×
              Option
                (UInt8 ×
                  UInt8 ×
                    Int64 ×
                      UInt64 ×
                        UInt64 ×
                          UInt64 ×
                            UInt64 ×
                              UInt64 ×
                                Option
                                  (Int64 ×
                                    UInt64 ×
                                      UInt64 ×
                                        UInt64 ×
                                          UInt64 ×
                                            List (UInt64 × UInt64 × UInt64 × UInt64 × Bool × Bool) ×
                                              UInt64 × UInt64))) =>
        ojoinA (523631 : Nat)
          [PT.int IntKind.u64, PT.int IntKind.u64, PT.int IntKind.i64, PT.int IntKind.i64,
            PT.list (CTs.cons (CT.int IntKind.u8) CTs.nil), PT.int IntKind.i64, PT.int IntKind.i64,
            PT.opt
              (OTs.cons (OT.c (CT.int IntKind.u8))
                (OTs.cons (OT.c (CT.int IntKind.u8))
                  (OTs.cons (OT.c (CT.int IntKind.i64))
                    (OTs.cons (OT.c (CT.int IntKind.u64))
                      (OTs.cons (OT.c (CT.int IntKind.u64))
                        (OTs.cons (OT.c (CT.int IntKind.u64))
                          (OTs.cons (OT.c (CT.int IntKind.u64))
                            (OTs.cons (OT.c (CT.int IntKind.u64))
                              (OTs.cons
                                (OT.ptr
                                  (OTs.cons (OT.c (CT.int IntKind.i64))
                                    (OTs.cons (OT.c (CT.int IntKind.u64))
                                      (OTs.cons (OT.c (CT.int IntKind.u64))
                                        (OTs.cons (OT.c (CT.int IntKind.u64))
                                          (OTs.cons (OT.c (CT.int IntKind.u64))
                                            (OTs.cons
                                              (OT.row
                                                (CTs.cons (CT.int IntKind.u64)
                                                  (CTs.cons (CT.int IntKind.u64)
                                                    (CTs.cons (CT.int IntKind.u64)
                                                      (CTs.cons (CT.int IntKind.u64)
                                                        (CTs.cons CT.bool (CTs.cons CT.bool CTs.nil)))))))
                                              (OTs.cons (OT.c (CT.int IntKind.u64))
                                                (OTs.cons (OT.c (CT.int IntKind.u64)) OTs.nil)))))))))
                                OTs.nil)))))))))]
          (fun
              (J :
                Arr
                  [PT.int IntKind.u64, PT.int IntKind.u64, PT.int IntKind.i64, PT.int IntKind.i64,
                    PT.list (CTs.cons (CT.int IntKind.u8) CTs.nil), PT.int IntKind.i64, PT.int IntKind.i64,
                    PT.opt
                      (OTs.cons (OT.c (CT.int IntKind.u8))
                        (OTs.cons (OT.c (CT.int IntKind.u8))
                          (OTs.cons (OT.c (CT.int IntKind.i64))
                            (OTs.cons (OT.c (CT.int IntKind.u64))
                              (OTs.cons (OT.c (CT.int IntKind.u64))
                                (OTs.cons (OT.c (CT.int IntKind.u64))
                                  (OTs.cons (OT.c (CT.int IntKind.u64))
                                    (OTs.cons (OT.c (CT.int IntKind.u64))
                                      (OTs.cons
                                        (OT.ptr
                                          (OTs.cons (OT.c (CT.int IntKind.i64))
                                            (OTs.cons (OT.c (CT.int IntKind.u64))
                                              (OTs.cons (OT.c (CT.int IntKind.u64))
                                                (OTs.cons (OT.c (CT.int IntKind.u64))
                                                  (OTs.cons (OT.c (CT.int IntKind.u64))
                                                    (OTs.cons
                                                      (OT.row
                                                        (CTs.cons (CT.int IntKind.u64)
                                                          (CTs.cons (CT.int IntKind.u64)
                                                            (CTs.cons (CT.int IntKind.u64)
                                                              (CTs.cons (CT.int IntKind.u64)
                                                                (CTs.cons CT.bool (CTs.cons CT.bool CTs.nil)))))))
                                                      (OTs.cons (OT.c (CT.int IntKind.u64))
                                                        (OTs.cons (OT.c (CT.int IntKind.u64)) OTs.nil)))))))))
                                        OTs.nil)))))))))]
                  (Option (Bool × Unit))) =>
            oite (decide ((1 : UInt64) + UInt64.ofInt ↑(UInt8.toNat (x_5 % (6 : UInt8))) < seen))
              (J seen session (Prod.snd (Prod.fst x_6)) (17 : Int64) t t_1 t_2 (Prod.snd x_6))
              (oite (decide ((0 : UInt64) < seen))
                (oite (decide (seen < (1 : UInt64) + UInt64.ofInt ↑(UInt8.toNat (x_5 % (6 : UInt8)))))
                  (J ((1 : UInt64) + UInt64.ofInt ↑(UInt8.toNat (x_5 % (6 : UInt8)))) (session + (1 : UInt64))
                    (Prod.snd (Prod.fst x_6)) (18 : Int64) t t_1 t_2 (Prod.snd x_6))
                  (J ((1 : UInt64) + UInt64.ofInt ↑(UInt8.toNat (x_5 % (6 : UInt8)))) session (Prod.snd (Prod.fst x_6))
                    (0 : Int64) t t_1 t_2 (Prod.snd x_6)))
                (J ((1 : UInt64) + UInt64.ofInt ↑(UInt8.toNat (x_5 % (6 : UInt8)))) session (Prod.snd (Prod.fst x_6))
                  (0 : Int64) t t_1 t_2 (Prod.snd x_6))))
          (F3_J523631 n rec))
    (some (true, ()))
def F3_R2045 : Nat →
  Nat →
    PT.T (PT.int IntKind.u64) →
      UInt64 →
        List UInt8 →
          Int64 →
            Int64 →
              Option
                  (UInt8 ×
                    UInt8 ×
                      Int64 ×
                        UInt64 ×
                          UInt64 ×
                            UInt64 ×
                              UInt64 ×
                                UInt64 ×
                                  Option
                                    (Int64 ×
                                      UInt64 ×
                                        UInt64 ×
                                          UInt64 ×
                                            UInt64 ×
                                              List (UInt64 × UInt64 × UInt64 × UInt64 × Bool × Bool) ×
                                                UInt64 × UInt64)) →
                Option (Bool × Unit) := fun (n : Nat) =>
  ofixA (2045 : Nat)
    [PT.int IntKind.u64, PT.int IntKind.u64, PT.list (CTs.cons (CT.int IntKind.u8) CTs.nil), PT.int IntKind.i64,
      PT.int IntKind.i64,
      PT.opt
        (OTs.cons (OT.c (CT.int IntKind.u8))
          (OTs.cons (OT.c (CT.int IntKind.u8))
            (OTs.cons (OT.c (CT.int IntKind.i64))
              (OTs.cons (OT.c (CT.int IntKind.u64))
                (OTs.cons (OT.c (CT.int IntKind.u64))
                  (OTs.cons (OT.c (CT.int IntKind.u64))
                    (OTs.cons (OT.c (CT.int IntKind.u64))
                      (OTs.cons (OT.c (CT.int IntKind.u64))
                        (OTs.cons
                          (OT.ptr
                            (OTs.cons (OT.c (CT.int IntKind.i64))
                              (OTs.cons (OT.c (CT.int IntKind.u64))
                                (OTs.cons (OT.c (CT.int IntKind.u64))
                                  (OTs.cons (OT.c (CT.int IntKind.u64))
                                    (OTs.cons (OT.c (CT.int IntKind.u64))
                                      (OTs.cons
                                        (OT.row
                                          (CTs.cons (CT.int IntKind.u64)
                                            (CTs.cons (CT.int IntKind.u64)
                                              (CTs.cons (CT.int IntKind.u64)
                                                (CTs.cons (CT.int IntKind.u64)
                                                  (CTs.cons CT.bool (CTs.cons CT.bool CTs.nil)))))))
                                        (OTs.cons (OT.c (CT.int IntKind.u64))
                                          (OTs.cons (OT.c (CT.int IntKind.u64)) OTs.nil)))))))))
                          OTs.nil)))))))))]
    (F3_L2045 n)
def F3_J63 : Nat → List UInt8 → Option (Bool × Unit) := fun (n : Nat) (lives : List UInt8) =>
  obind (F9 n ((1 : UInt8), (0 : UInt8), (3 : UInt64), (4 : Int64), (1 : UInt64), (2 : UInt64)))
    fun
      (x_4 :
        (Option
              (UInt8 ×
                UInt8 ×
                  Int64 ×
                    UInt64 ×
                      UInt64 ×
                        UInt64 ×
                          UInt64 ×
                            UInt64 ×
                              Option
                                (Int64 ×
                                  UInt64 ×
                                    UInt64 ×
                                      UInt64 ×
                                        UInt64 ×
                                          List (UInt64 × UInt64 × UInt64 × UInt64 × Bool × Bool) × UInt64 × UInt64)) ×
            Int64) ×
          Unit) =>
    F3_R2045 n n (0 : UInt64) (1 : UInt64) lives (Int64.ofInt ↑(List.length lives)) (0 : Int64)
      (Prod.fst (Prod.fst x_4))
def F3 : Nat →
  (UInt8 ×
        UInt8 ×
          UInt8 ×
            UInt64 ×
              UInt64 ×
                Bool ×
                  UInt8 ×
                    UInt64 ×
                      UInt64 ×
                        List UInt8 ×
                          List (List UInt8 × List UInt8) ×
                            UInt8 × UInt8 × Int64 × UInt8 × UInt8 × UInt64 × UInt64 × UInt64 × UInt64 × UInt64) ×
      UInt8 × List UInt8 →
    Option (Bool × Unit) := fun (n : Nat)
    (x :
      (UInt8 ×
          UInt8 ×
            UInt8 ×
              UInt64 ×
                UInt64 ×
                  Bool ×
                    UInt8 ×
                      UInt64 ×
                        UInt64 ×
                          List UInt8 ×
                            List (List UInt8 × List UInt8) ×
                              UInt8 × UInt8 × Int64 × UInt8 × UInt8 × UInt64 × UInt64 × UInt64 × UInt64 × UInt64) ×
        UInt8 × List UInt8) =>
  obind (F8 n ()) fun (x_1 : Bool × Unit) =>
    oite (!Prod.fst x_1) (some (false, ()))
      (oite
        (decide
          ((12 : Int64) <
            Int64.ofInt
              ↑(List.length
                  (Prod.fst
                    (Prod.snd
                      (Prod.snd
                        (Prod.snd
                          (Prod.snd
                            (Prod.snd (Prod.snd (Prod.snd (Prod.snd (Prod.snd (Prod.snd (Prod.fst x)))))))))))))))
        (some (true, ()))
        (oite (decide ((10 : Int64) < Int64.ofInt ↑(List.length (Prod.snd (Prod.snd x))))) (some (true, ()))
          (obind (F9 n ((1 : UInt8), (0 : UInt8), (3 : UInt64), (4 : Int64), (1 : UInt64), (2 : UInt64)))
            fun
              (x_2 :
                (Option
                      (UInt8 ×
                        UInt8 ×
                          Int64 ×
                            UInt64 ×
                              UInt64 ×
                                UInt64 ×
                                  UInt64 ×
                                    UInt64 ×
                                      Option
                                        (Int64 ×
                                          UInt64 ×
                                            UInt64 ×
                                              UInt64 ×
                                                UInt64 ×
                                                  List (UInt64 × UInt64 × UInt64 × UInt64 × Bool × Bool) ×
                                                    UInt64 × UInt64)) ×
                    Int64) ×
                  Unit) =>
            obind
              (F10 n
                (Prod.fst (Prod.fst x_2), Prod.fst (Prod.fst x), Prod.fst (Prod.snd (Prod.fst x)),
                  Prod.fst (Prod.snd (Prod.snd (Prod.fst x))), Prod.fst (Prod.snd (Prod.snd (Prod.snd (Prod.fst x)))),
                  Prod.fst (Prod.snd (Prod.snd (Prod.snd (Prod.snd (Prod.fst x))))),
                  Prod.fst (Prod.snd (Prod.snd (Prod.snd (Prod.snd (Prod.snd (Prod.fst x)))))),
                  Prod.fst (Prod.snd (Prod.snd (Prod.snd (Prod.snd (Prod.snd (Prod.snd (Prod.fst x))))))),
                  Prod.fst (Prod.snd (Prod.snd (Prod.snd (Prod.snd (Prod.snd (Prod.snd (Prod.snd (Prod.fst x)))))))),
                  Prod.fst
                    (Prod.snd
                      (Prod.snd (Prod.snd (Prod.snd (Prod.snd (Prod.snd (Prod.snd (Prod.snd (Prod.fst x))))))))),
                  Prod.fst
                    (Prod.snd
                      (Prod.snd
                        (Prod.snd (Prod.snd (Prod.snd (Prod.snd (Prod.snd (Prod.snd (Prod.snd (Prod.fst x)))))))))),
                  Prod.fst
                    (Prod.snd
                      (Prod.snd
                        (Prod.snd
                          (Prod.snd (Prod.snd (Prod.snd (Prod.snd (Prod.snd (Prod.snd (Prod.snd (Prod.fst x))))))))))),
                  Prod.fst
                    (Prod.snd
                      (Prod.snd
                        (Prod.snd
                          (Prod.snd
                            (Prod.snd
                              (Prod.snd (Prod.snd (Prod.snd (Prod.snd (Prod.snd (Prod.snd (Prod.fst x)))))))))))),
                  Prod.fst
                    (Prod.snd
                      (Prod.snd
                        (Prod.snd
                          (Prod.snd
                            (Prod.snd
                              (Prod.snd
                                (Prod.snd (Prod.snd (Prod.snd (Prod.snd (Prod.snd (Prod.snd (Prod.fst x))))))))))))),
                  Prod.fst
                    (Prod.snd
                      (Prod.snd
                        (Prod.snd
                          (Prod.snd
                            (Prod.snd
                              (Prod.snd
                                (Prod.snd
                                  (Prod.snd (Prod.snd (Prod.snd (Prod.snd (Prod.snd (Prod.snd (Prod.fst x)))))))))))))),
                  Prod.fst
                    (Prod.snd
                      (Prod.snd
                        (Prod.snd
                          (Prod.snd
                            (Prod.snd
                              (Prod.snd
                                (Prod.snd
                                  (Prod.snd
                                    (Prod.snd
                                      (Prod.snd (Prod.snd (Prod.snd (Prod.snd (Prod.snd (Prod.fst x))))))))))))))),
                  Prod.fst
                    (Prod.snd
                      (Prod.snd
                        (Prod.snd
                          (Prod.snd
                            (Prod.snd
                              (Prod.snd
                                (Prod.snd
                                  (Prod.snd
                                    (Prod.snd
                                      (Prod.snd
                                        (Prod.snd (Prod.snd (Prod.snd (Prod.snd (Prod.snd (Prod.fst x)))))))))))))))),
                  Prod.fst
                    (Prod.snd
                      (Prod.snd
                        (Prod.snd
                          (Prod.snd
                            (Prod.snd
                              (Prod.snd
                                (Prod.snd
                                  (Prod.snd
                                    (Prod.snd
                                      (Prod.snd
                                        (Prod.snd
                                          (Prod.snd
                                            (Prod.snd (Prod.snd (Prod.snd (Prod.snd (Prod.fst x))))))))))))))))),
                  Prod.fst
                    (Prod.snd
                      (Prod.snd
                        (Prod.snd
                          (Prod.snd
                            (Prod.snd
                              (Prod.snd
                                (Prod.snd
                                  (Prod.snd
                                    (Prod.snd
                                      (Prod.snd
                                        (Prod.snd
                                          (Prod.snd
                                            (Prod.snd
                                              (Prod.snd (Prod.snd (Prod.snd (Prod.snd (Prod.fst x)))))))))))))))))),
                  Prod.fst
                    (Prod.snd
                      (Prod.snd
                        (Prod.snd
                          (Prod.snd
                            (Prod.snd
                              (Prod.snd
                                (Prod.snd
                                  (Prod.snd
                                    (Prod.snd
                                      (Prod.snd
                                        (Prod.snd
                                          (Prod.snd
                                            (Prod.snd
                                              (Prod.snd
                                                (Prod.snd (Prod.snd (Prod.snd (Prod.snd (Prod.fst x))))))))))))))))))),
                  Prod.fst
                    (Prod.snd
                      (Prod.snd
                        (Prod.snd
                          (Prod.snd
                            (Prod.snd
                              (Prod.snd
                                (Prod.snd
                                  (Prod.snd
                                    (Prod.snd
                                      (Prod.snd
                                        (Prod.snd
                                          (Prod.snd
                                            (Prod.snd
                                              (Prod.snd
                                                (Prod.snd
                                                  (Prod.snd
                                                    (Prod.snd (Prod.snd (Prod.snd (Prod.fst x)))))))))))))))))))),
                  Prod.snd
                    (Prod.snd
                      (Prod.snd
                        (Prod.snd
                          (Prod.snd
                            (Prod.snd
                              (Prod.snd
                                (Prod.snd
                                  (Prod.snd
                                    (Prod.snd
                                      (Prod.snd
                                        (Prod.snd
                                          (Prod.snd
                                            (Prod.snd
                                              (Prod.snd
                                                (Prod.snd
                                                  (Prod.snd
                                                    (Prod.snd (Prod.snd (Prod.snd (Prod.fst x))))))))))))))))))))))
              fun
                (x_3 :
                  (UInt64 × Int64) ×
                    Option
                      (UInt8 ×
                        UInt8 ×
                          Int64 ×
                            UInt64 ×
                              UInt64 ×
                                UInt64 ×
                                  UInt64 ×
                                    UInt64 ×
                                      Option
                                        (Int64 ×
                                          UInt64 ×
                                            UInt64 ×
                                              UInt64 ×
                                                UInt64 ×
                                                  List (UInt64 × UInt64 × UInt64 × UInt64 × Bool × Bool) ×
                                                    UInt64 × UInt64))) =>
              ojoinA (63 : Nat) [PT.list (CTs.cons (CT.int IntKind.u8) CTs.nil)]
                (fun (J : Arr [PT.list (CTs.cons (CT.int IntKind.u8) CTs.nil)] (Option (Bool × Unit))) =>
                  oite (!decide (Prod.fst (Prod.fst x) = (2 : UInt8)))
                    (oite (!decide (Prod.snd (Prod.fst x_3) = (12 : Int64))) (some (false, ()))
                      (J (Prod.snd (Prod.snd x))))
                    (oite (!decide (Prod.fst (Prod.snd (Prod.fst x)) = (0 : UInt8)))
                      (oite (!decide (Prod.snd (Prod.fst x_3) = (21 : Int64))) (some (false, ()))
                        (J (Prod.snd (Prod.snd x))))
                      (oite (!decide (Prod.fst (Prod.snd (Prod.snd (Prod.fst x))) = (1 : UInt8)))
                        (oite (!decide (Prod.snd (Prod.fst x_3) = (21 : Int64))) (some (false, ()))
                          (J (Prod.snd (Prod.snd x))))
                        (oite (!decide (Prod.fst (Prod.snd (Prod.snd (Prod.snd (Prod.fst x)))) = (3145729 : UInt64)))
                          (oite (!decide (Prod.snd (Prod.fst x_3) = (17 : Int64))) (some (false, ()))
                            (J (Prod.snd (Prod.snd x))))
                          (J (Prod.snd (Prod.snd x)))))))
                (F3_J63 n))))
theorem F3_R2045_s (n : Nat) (m_ : Nat) : F3_R2045 n (m_ + 1) = F3_L2045 n (F3_R2045 n m_) := rfl
theorem ok3 (n : Nat) : FunOK Try.prog ⟨3, sig3, F3 n⟩ :=
  fun_ok (hints := ⟨[(63, ⟨[(2, .one (.ro (.cons (.int .u8) .nil)))], [], 3⟩), (523631, ⟨[(7, .one (.own 3)), (11, .one (.int .u64)), (12, .one (.int .u64)), (17, .one (.int .i64)), (18, .one (.int .i64)), (71, .one (.ro (.cons (.int .u8) .nil))), (72, .one (.int .i64)), (73, .one (.int .i64))], [(3, .fold (.cons (.c (.int .u8)) (.cons (.c (.int .u8)) (.cons (.c (.int .i64)) (.cons (.c (.int .u64)) (.cons (.c (.int .u64)) (.cons (.c (.int .u64)) (.cons (.c (.int .u64)) (.cons (.c (.int .u64)) (.cons (.ptr (.cons (.c (.int .i64)) (.cons (.c (.int .u64)) (.cons (.c (.int .u64)) (.cons (.c (.int .u64)) (.cons (.c (.int .u64)) (.cons (.row (.cons (.int .u64) (.cons (.int .u64) (.cons (.int .u64) (.cons (.int .u64) (.cons .bool (.cons .bool .nil))))))) (.cons (.c (.int .u64)) (.cons (.c (.int .u64)) .nil))))))))) .nil))))))))))], 4⟩)], [(2045, ⟨[(7, .one (.own 3)), (11, .one (.int .u64)), (12, .one (.int .u64)), (71, .one (.ro (.cons (.int .u8) .nil))), (72, .one (.int .i64)), (73, .one (.int .i64))], [(3, .fold (.cons (.c (.int .u8)) (.cons (.c (.int .u8)) (.cons (.c (.int .i64)) (.cons (.c (.int .u64)) (.cons (.c (.int .u64)) (.cons (.c (.int .u64)) (.cons (.c (.int .u64)) (.cons (.c (.int .u64)) (.cons (.ptr (.cons (.c (.int .i64)) (.cons (.c (.int .u64)) (.cons (.c (.int .u64)) (.cons (.c (.int .u64)) (.cons (.c (.int .u64)) (.cons (.row (.cons (.int .u64) (.cons (.int .u64) (.cons (.int .u64) (.cons (.int .u64) (.cons .bool (.cons .bool .nil))))))) (.cons (.c (.int .u64)) (.cons (.c (.int .u64)) .nil))))))))) .nil))))))))))], 4⟩)]⟩) (fuel := n) (c := Try.f3.body.getD .skip) (rs := Try.f3.results.toList) tt_ok mix (FsOK.cons (ok8 n) (FsOK.cons (ok9 n) (FsOK.cons (ok10 n) (FsOK.cons (ok11 n) (FsOK.nil))))) Try.func3 (by kernel_rfl) (by kernel_rfl) rfl (by kernel_rfl) rfl rfl (by kernel_rfl)
end Go.Proofs.Ytfmomnniadlbhaa
