/- What the functions of this seat compute, found by walking their code symbolically: each F is what the walk finds, each ok says that the Go function keeps it as a contract. Printed by a program of this repo's. -/
import Derived.Test.YtllfmmonieelpaaProg
import Derived.KernelRfl
import Derived.Test.YtllfmmonieelpaaSxClone
open Go Go.Sx
namespace Go.Proofs.Ytllfmmonieelpaa
set_option maxRecDepth 100000
set_option linter.unusedVariables false
def tt : TT := [(2, ⟨.int .i64, 1, 8, some (.int .i64 0), false⟩), (3, ⟨.int .i64, 1, 8, some (.int .i64 0), false⟩), (4, ⟨.bool, 1, 1, some (.bool false), false⟩), (5, ⟨.int .u8, 1, 1, some (.int .u8 0), false⟩), (9, ⟨.str, 1, 16, some (.string ⟨#[]⟩), false⟩), (21, ⟨.int .i32, 1, 4, some (.int .i32 0), false⟩), (22, ⟨.int .u16, 1, 2, some (.int .u16 0), false⟩), (24, ⟨.struct [(0, 4, false), (1, 5, false), (2, 5, false), (3, 5, false), (4, 22, false), (5, 22, false), (6, 22, false), (7, 5, false), (8, 5, false), (9, 5, false), (10, 4, false)], 11, 14, some (.agg #[.bool false, .int .u8 0, .int .u8 0, .int .u8 0, .int .u16 0, .int .u16 0, .int .u16 0, .int .u8 0, .int .u8 0, .int .u8 0, .bool false]), false⟩), (26, ⟨.ptr 72, 1, 8, some (.pointer none), false⟩), (27, ⟨.int .i64, 1, 8, some (.int .i64 0), false⟩), (30, ⟨.int .u64, 1, 8, some (.int .u64 0), false⟩), (31, ⟨.slice 42, 1, 24, some (.slice none 0 0), false⟩), (32, ⟨.int .u8, 1, 1, some (.int .u8 0), false⟩), (34, ⟨.struct [(0, 5, false), (1, 30, false), (2, 30, false), (3, 9, false), (4, 31, false), (5, 32, false), (6, 5, false), (7, 2, false), (8, 5, false)], 9, 88, some (.agg #[.int .u8 0, .int .u64 0, .int .u64 0, .string ⟨#[]⟩, .slice none 0 0, .int .u8 0, .int .u8 0, .int .i64 0, .int .u8 0]), false⟩), (36, ⟨.struct [(0, 5, false), (1, 30, false), (2, 30, false)], 3, 24, some (.agg #[.int .u8 0, .int .u64 0, .int .u64 0]), false⟩), (38, ⟨.struct [(0, 4, false), (1, 34, false), (10, 36, false)], 13, 120, some (.agg #[.bool false, .int .u8 0, .int .u64 0, .int .u64 0, .string ⟨#[]⟩, .slice none 0 0, .int .u8 0, .int .u8 0, .int .i64 0, .int .u8 0, .int .u8 0, .int .u64 0, .int .u64 0]), false⟩), (42, ⟨.struct [(0, 9, false), (1, 9, false)], 2, 32, some (.agg #[.string ⟨#[]⟩, .string ⟨#[]⟩]), false⟩), (47, ⟨.slice 53, 1, 24, some (.slice none 0 0), false⟩), (48, ⟨.ptr 51, 1, 8, some (.pointer none), false⟩), (49, ⟨.slice 63, 1, 24, some (.slice none 0 0), false⟩), (51, ⟨.struct [(0, 3, false), (1, 30, false), (2, 30, false), (3, 49, false)], 4, 48, some (.agg #[.int .i64 0, .int .u64 0, .int .u64 0, .slice none 0 0]), false⟩), (53, ⟨.struct [(0, 5, false), (1, 30, false), (2, 24, false), (13, 38, false), (26, 4, false)], 27, 160, some (.agg #[.int .u8 0, .int .u64 0, .bool false, .int .u8 0, .int .u8 0, .int .u8 0, .int .u16 0, .int .u16 0, .int .u16 0, .int .u8 0, .int .u8 0, .int .u8 0, .bool false, .bool false, .int .u8 0, .int .u64 0, .int .u64 0, .string ⟨#[]⟩, .slice none 0 0, .int .u8 0, .int .u8 0, .int .i64 0, .int .u8 0, .int .u8 0, .int .u64 0, .int .u64 0, .bool false]), false⟩), (63, ⟨.struct [(0, 30, false), (1, 38, false)], 14, 128, some (.agg #[.int .u64 0, .bool false, .int .u8 0, .int .u64 0, .int .u64 0, .string ⟨#[]⟩, .slice none 0 0, .int .u8 0, .int .u8 0, .int .i64 0, .int .u8 0, .int .u8 0, .int .u64 0, .int .u64 0]), false⟩), (66, ⟨.slice 5, 1, 24, some (.slice none 0 0), false⟩), (70, ⟨.map 30 38, 1, 8, some (.map none), false⟩), (72, ⟨.struct [(0, 3, false), (1, 30, false), (2, 70, false), (3, 30, false)], 4, 32, some (.agg #[.int .i64 0, .int .u64 0, .map none, .int .u64 0]), false⟩), (74, ⟨.slice 9, 1, 24, some (.slice none 0 0), false⟩)]
theorem tt_ok : TTOK Try.prog tt := TTOK.of_rows (by kernel_rfl)
theorem mix : Try.prog.follows .mixedOrders = true := by kernel_rfl
-- watchfire/recv.New
def sig8 : Sig := ⟨(.cons (.one (.c (.int .i64))) .nil), (.cons (.one (.ptr (.cons (.c (.int .i64)) (.cons (.c (.int .u64)) (.cons (.map (.one (.int .u64)) (.agg (.cons .bool (.cons (.int .u8) (.cons (.int .u64) (.cons (.int .u64) (.cons .str (.cons (.ro (.cons .str (.cons .str .nil))) (.cons (.int .u8) (.cons (.int .u8) (.cons (.int .i64) (.cons (.int .u8) (.cons (.int .u8) (.cons (.int .u64) (.cons (.int .u64) .nil))))))))))))))) (.cons (.c (.int .u64)) .nil)))))) (.cons (.one (.c (.int .i64))) .nil))⟩
def F8 : Nat →
  Int64 →
    Option
      ((Option
            (Int64 ×
              UInt64 ×
                List
                    (UInt64 ×
                      Bool ×
                        UInt8 ×
                          UInt64 ×
                            UInt64 ×
                              List UInt8 ×
                                List (List UInt8 × List UInt8) ×
                                  UInt8 × UInt8 × Int64 × UInt8 × UInt8 × UInt64 × UInt64) ×
                  UInt64) ×
          Int64) ×
        Unit) := fun (n : Nat) (x : Int64) =>
  oite (decide (x < (1 : Int64))) (some ((none, (19 : Int64)), ()))
    (oite (decide ((64 : Int64) < x)) (some ((none, (19 : Int64)), ()))
      (some ((some (x, (1 : UInt64), [], (0 : UInt64)), (0 : Int64)), ())))
theorem ok8 (n : Nat) : FunOK Try.prog ⟨8, sig8, F8 n⟩ :=
  fun_ok (hints := ⟨[], []⟩) (fuel := n) (c := Try.f8.body.getD .skip) (rs := Try.f8.results.toList) tt_ok mix (FsOK.nil) Try.func8 (by kernel_rfl) (by kernel_rfl) rfl (by kernel_rfl) rfl rfl (by kernel_rfl)
-- watchfire/item.Gap
def sig21 : Sig := ⟨(.cons (.one (.c (.int .u8))) (.cons (.one (.c (.int .u64))) (.cons (.one (.c (.int .u64))) .nil))), (.cons (.oagg (.cons (.c .bool) (.cons (.c (.int .u8)) (.cons (.c (.int .u64)) (.cons (.c (.int .u64)) (.cons (.c .str) (.cons (.row (.cons .str (.cons .str .nil))) (.cons (.c (.int .u8)) (.cons (.c (.int .u8)) (.cons (.c (.int .i64)) (.cons (.c (.int .u8)) (.cons (.c (.int .u8)) (.cons (.c (.int .u64)) (.cons (.c (.int .u64)) .nil)))))))))))))) .nil)⟩
def F21 : Nat →
  UInt8 × UInt64 × UInt64 →
    Option
      ((Bool ×
          UInt8 ×
            UInt64 ×
              UInt64 ×
                List UInt8 × List (List UInt8 × List UInt8) × UInt8 × UInt8 × Int64 × UInt8 × UInt8 × UInt64 × UInt64) ×
        Unit) := fun (n : Nat) (x : UInt8 × UInt64 × UInt64) =>
  some
    ((true, (0 : UInt8), (0 : UInt64), (0 : UInt64), [], [], (0 : UInt8), (0 : UInt8), (0 : Int64), (0 : UInt8),
        Prod.fst x, Prod.fst (Prod.snd x), Prod.snd (Prod.snd x)),
      ())
theorem ok21 (n : Nat) : FunOK Try.prog ⟨21, sig21, F21 n⟩ :=
  fun_ok (hints := ⟨[], []⟩) (fuel := n) (c := Try.f21.body.getD .skip) (rs := Try.f21.results.toList) tt_ok mix (FsOK.nil) Try.func21 (by kernel_rfl) (by kernel_rfl) rfl (by kernel_rfl) rfl rfl (by kernel_rfl)
-- watchfire/item.Of
def sig22 : Sig := ⟨(.cons (.mv (.cons (.c (.int .u8)) (.cons (.c (.int .u64)) (.cons (.c (.int .u64)) (.cons (.c .str) (.cons (.row (.cons .str (.cons .str .nil))) (.cons (.c (.int .u8)) (.cons (.c (.int .u8)) (.cons (.c (.int .i64)) (.cons (.c (.int .u8)) .nil)))))))))) .nil), (.cons (.oagg (.cons (.c .bool) (.cons (.c (.int .u8)) (.cons (.c (.int .u64)) (.cons (.c (.int .u64)) (.cons (.c .str) (.cons (.row (.cons .str (.cons .str .nil))) (.cons (.c (.int .u8)) (.cons (.c (.int .u8)) (.cons (.c (.int .i64)) (.cons (.c (.int .u8)) (.cons (.c (.int .u8)) (.cons (.c (.int .u64)) (.cons (.c (.int .u64)) .nil)))))))))))))) .nil)⟩
def F22 : Nat →
  UInt8 × UInt64 × UInt64 × List UInt8 × List (List UInt8 × List UInt8) × UInt8 × UInt8 × Int64 × UInt8 →
    Option
      ((Bool ×
          UInt8 ×
            UInt64 ×
              UInt64 ×
                List UInt8 × List (List UInt8 × List UInt8) × UInt8 × UInt8 × Int64 × UInt8 × UInt8 × UInt64 × UInt64) ×
        Unit) := fun (n : Nat)
    (x : UInt8 × UInt64 × UInt64 × List UInt8 × List (List UInt8 × List UInt8) × UInt8 × UInt8 × Int64 × UInt8) =>
  some
    ((false, Prod.fst x, Prod.fst (Prod.snd x), Prod.fst (Prod.snd (Prod.snd x)),
        Prod.fst (Prod.snd (Prod.snd (Prod.snd x))), Prod.fst (Prod.snd (Prod.snd (Prod.snd (Prod.snd x)))),
        Prod.fst (Prod.snd (Prod.snd (Prod.snd (Prod.snd (Prod.snd x))))),
        Prod.fst (Prod.snd (Prod.snd (Prod.snd (Prod.snd (Prod.snd (Prod.snd x)))))),
        Prod.fst (Prod.snd (Prod.snd (Prod.snd (Prod.snd (Prod.snd (Prod.snd (Prod.snd x))))))),
        Prod.snd (Prod.snd (Prod.snd (Prod.snd (Prod.snd (Prod.snd (Prod.snd (Prod.snd x))))))), (0 : UInt8),
        (0 : UInt64), (0 : UInt64)),
      ())
theorem ok22 (n : Nat) : FunOK Try.prog ⟨22, sig22, F22 n⟩ :=
  fun_ok (hints := ⟨[], []⟩) (fuel := n) (c := Try.f22.body.getD .skip) (rs := Try.f22.results.toList) tt_ok mix (FsOK.nil) Try.func22 (by kernel_rfl) (by kernel_rfl) rfl (by kernel_rfl) rfl rfl (by kernel_rfl)
-- (watchfire/watchfirelaw04.Small).Item
def sig9 : Sig := ⟨(.cons (.agg (.cons .bool (.cons (.int .u8) (.cons (.int .u8) (.cons (.int .u8) (.cons (.int .u16) (.cons (.int .u16) (.cons (.int .u16) (.cons (.int .u8) (.cons (.int .u8) (.cons (.int .u8) (.cons .bool .nil)))))))))))) .nil), (.cons (.oagg (.cons (.c .bool) (.cons (.c (.int .u8)) (.cons (.c (.int .u64)) (.cons (.c (.int .u64)) (.cons (.c .str) (.cons (.row (.cons .str (.cons .str .nil))) (.cons (.c (.int .u8)) (.cons (.c (.int .u8)) (.cons (.c (.int .i64)) (.cons (.c (.int .u8)) (.cons (.c (.int .u8)) (.cons (.c (.int .u64)) (.cons (.c (.int .u64)) .nil)))))))))))))) .nil)⟩
def F9_L1021 : Nat →
  Arr
      [PT.int IntKind.u8, PT.int IntKind.u8, PT.bool, PT.int IntKind.u8, PT.int IntKind.u8, PT.int IntKind.u8,
        PT.int IntKind.u16, PT.int IntKind.u16, PT.int IntKind.u16, PT.int IntKind.u8, PT.int IntKind.u8,
        PT.int IntKind.u8, PT.bool, PT.bool, PT.int IntKind.u8, PT.int IntKind.u64, PT.int IntKind.u64, PT.bytes,
        PT.int IntKind.u8, PT.int IntKind.u8, PT.int IntKind.i64, PT.int IntKind.u8, PT.int IntKind.u8,
        PT.int IntKind.u64, PT.int IntKind.u64, PT.int IntKind.u8, PT.int IntKind.u64, PT.int IntKind.u64, PT.bytes,
        PT.int IntKind.u8, PT.int IntKind.u8, PT.int IntKind.i64, PT.int IntKind.u8,
        PT.list (CTs.cons CT.str (CTs.cons CT.str CTs.nil))]
      (Option
        ((Bool ×
            UInt8 ×
              UInt64 ×
                UInt64 ×
                  List UInt8 ×
                    List (List UInt8 × List UInt8) × UInt8 × UInt8 × Int64 × UInt8 × UInt8 × UInt64 × UInt64) ×
          Unit)) →
    UInt8 →
      UInt8 →
        Bool →
          UInt8 →
            UInt8 →
              UInt8 →
                UInt16 →
                  UInt16 →
                    UInt16 →
                      UInt8 →
                        UInt8 →
                          UInt8 →
                            Bool →
                              Bool →
                                UInt8 →
                                  UInt64 →
                                    UInt64 →
                                      List UInt8 →
                                        UInt8 →
                                          UInt8 →
                                            Int64 →
                                              UInt8 →
                                                UInt8 →
                                                  UInt64 →
                                                    UInt64 →
                                                      UInt8 →
                                                        UInt64 →
                                                          UInt64 →
                                                            List UInt8 →
                                                              UInt8 →
                                                                UInt8 →
                                                                  Int64 →
                                                                    UInt8 →
                                                                      List (List UInt8 × List UInt8) →
                                                                        Option
                                                                          ((Bool ×
                                                                              UInt8 ×
                                                                                UInt64 ×
                                                                                  UInt64 ×
                                                                                    List UInt8 ×
                                                                                      List (List UInt8 × List UInt8) ×
                                                                                        UInt8 ×
                                                                                          UInt8 ×
                                                                                            Int64 ×
                                                                                              UInt8 ×
                                                                                                UInt8 ×
                                                                                                  UInt64 × UInt64) ×
                                                                            Unit) := fun (n : Nat)
    (rec :
      Arr
        [PT.int IntKind.u8, PT.int IntKind.u8, PT.bool, PT.int IntKind.u8, PT.int IntKind.u8, PT.int IntKind.u8,
          PT.int IntKind.u16, PT.int IntKind.u16, PT.int IntKind.u16, PT.int IntKind.u8, PT.int IntKind.u8,
          PT.int IntKind.u8, PT.bool, PT.bool, PT.int IntKind.u8, PT.int IntKind.u64, PT.int IntKind.u64, PT.bytes,
          PT.int IntKind.u8, PT.int IntKind.u8, PT.int IntKind.i64, PT.int IntKind.u8, PT.int IntKind.u8,
          PT.int IntKind.u64, PT.int IntKind.u64, PT.int IntKind.u8, PT.int IntKind.u64, PT.int IntKind.u64, PT.bytes,
          PT.int IntKind.u8, PT.int IntKind.u8, PT.int IntKind.i64, PT.int IntKind.u8,
          PT.list (CTs.cons CT.str (CTs.cons CT.str CTs.nil))]
        (Option
          ((Bool ×
              UInt8 ×
                UInt64 ×
                  UInt64 ×
                    List UInt8 ×
                      List (List UInt8 × List UInt8) × UInt8 × UInt8 × Int64 × UInt8 × UInt8 × UInt64 × UInt64) ×
            Unit)))
    (t t_1 : UInt8) (s0_2 : Bool) (s1_2 s2_2 s3_2 : UInt8) (s4_2 s5_2 s6_2 : UInt16) (s7_2 s8_2 s9_2 : UInt8)
    (s10_2 t0_2 : Bool) (t1_2 : UInt8) (t2_2 t3_2 : UInt64) (t4_2 : List UInt8) (t6_2 t7_2 : UInt8) (t8_2 : Int64)
    (t9_2 t10_2 : UInt8) (t11_2 t12_2 : UInt64) (v0_2 : UInt8) (v1_2 v2_2 : UInt64) (v3_2 : List UInt8)
    (v5_2 v6_2 : UInt8) (v7_2 : Int64) (v8_2 : UInt8) (vl : List (List UInt8 × List UInt8)) =>
  oite (decide (t_1 < t))
    (oite
      (Nat.ble
        (List.length vl + List.length [([(97 : UInt8) + t_1], [(48 : UInt8) + s8_2 / (4 : UInt8) % (10 : UInt8)])])
        (4294967296 : Nat))
      (rec t (t_1 + (1 : UInt8)) s0_2 s1_2 s2_2 s3_2 s4_2 s5_2 s6_2 s7_2 s8_2 s9_2 s10_2 t0_2 t1_2 t2_2 t3_2 t4_2 t6_2
        t7_2 t8_2 t9_2 t10_2 t11_2 t12_2 v0_2 v1_2 v2_2 v3_2 v5_2 v6_2 v7_2 v8_2
        (vl ++ [([(97 : UInt8) + t_1], [(48 : UInt8) + s8_2 / (4 : UInt8) % (10 : UInt8)])]))
      none)
    (obind (F22 n (v0_2, v1_2, v2_2, v3_2, vl, v5_2, v6_2, v7_2, v8_2))
      fun
        (x_2 :
          (Bool ×
              UInt8 ×
                UInt64 ×
                  UInt64 ×
                    List UInt8 ×
                      List (List UInt8 × List UInt8) × UInt8 × UInt8 × Int64 × UInt8 × UInt8 × UInt64 × UInt64) ×
            Unit) =>
      some
        ((Prod.fst (Prod.fst x_2), Prod.fst (Prod.snd (Prod.fst x_2)), Prod.fst (Prod.snd (Prod.snd (Prod.fst x_2))),
            Prod.fst (Prod.snd (Prod.snd (Prod.snd (Prod.fst x_2)))),
            Prod.fst (Prod.snd (Prod.snd (Prod.snd (Prod.snd (Prod.fst x_2))))),
            Prod.fst (Prod.snd (Prod.snd (Prod.snd (Prod.snd (Prod.snd (Prod.fst x_2)))))),
            Prod.fst (Prod.snd (Prod.snd (Prod.snd (Prod.snd (Prod.snd (Prod.snd (Prod.fst x_2))))))),
            Prod.fst (Prod.snd (Prod.snd (Prod.snd (Prod.snd (Prod.snd (Prod.snd (Prod.snd (Prod.fst x_2)))))))),
            Prod.fst
              (Prod.snd (Prod.snd (Prod.snd (Prod.snd (Prod.snd (Prod.snd (Prod.snd (Prod.snd (Prod.fst x_2))))))))),
            Prod.fst
              (Prod.snd
                (Prod.snd (Prod.snd (Prod.snd (Prod.snd (Prod.snd (Prod.snd (Prod.snd (Prod.snd (Prod.fst x_2)))))))))),
            Prod.fst
              (Prod.snd
                (Prod.snd
                  (Prod.snd
                    (Prod.snd (Prod.snd (Prod.snd (Prod.snd (Prod.snd (Prod.snd (Prod.snd (Prod.fst x_2))))))))))),
            Prod.fst
              (Prod.snd
                (Prod.snd
                  (Prod.snd
                    (Prod.snd
                      (Prod.snd (Prod.snd (Prod.snd (Prod.snd (Prod.snd (Prod.snd (Prod.snd (Prod.fst x_2)))))))))))),
            Prod.snd
              (Prod.snd
                (Prod.snd
                  (Prod.snd
                    (Prod.snd
                      (Prod.snd (Prod.snd (Prod.snd (Prod.snd (Prod.snd (Prod.snd (Prod.snd (Prod.fst x_2))))))))))))),
          ()))
def F9_R1021 : Nat →
  Nat →
    PT.T (PT.int IntKind.u8) →
      UInt8 →
        Bool →
          UInt8 →
            UInt8 →
              UInt8 →
                UInt16 →
                  UInt16 →
                    UInt16 →
                      UInt8 →
                        UInt8 →
                          UInt8 →
                            Bool →
                              Bool →
                                UInt8 →
                                  UInt64 →
                                    UInt64 →
                                      List UInt8 →
                                        UInt8 →
                                          UInt8 →
                                            Int64 →
                                              UInt8 →
                                                UInt8 →
                                                  UInt64 →
                                                    UInt64 →
                                                      UInt8 →
                                                        UInt64 →
                                                          UInt64 →
                                                            List UInt8 →
                                                              UInt8 →
                                                                UInt8 →
                                                                  Int64 →
                                                                    UInt8 →
                                                                      List (List UInt8 × List UInt8) →
                                                                        Option
                                                                          ((Bool ×
                                                                              UInt8 ×
                                                                                UInt64 ×
                                                                                  UInt64 ×
                                                                                    List UInt8 ×
                                                                                      List (List UInt8 × List UInt8) ×
                                                                                        UInt8 ×
                                                                                          UInt8 ×
                                                                                            Int64 ×
                                                                                              UInt8 ×
                                                                                                UInt8 ×
                                                                                                  UInt64 × UInt64) ×
                                                                            Unit) := fun (n : Nat) =>
  ofixA (1021 : Nat)
    [PT.int IntKind.u8, PT.int IntKind.u8, PT.bool, PT.int IntKind.u8, PT.int IntKind.u8, PT.int IntKind.u8,
      PT.int IntKind.u16, PT.int IntKind.u16, PT.int IntKind.u16, PT.int IntKind.u8, PT.int IntKind.u8,
      PT.int IntKind.u8, PT.bool, PT.bool, PT.int IntKind.u8, PT.int IntKind.u64, PT.int IntKind.u64, PT.bytes,
      PT.int IntKind.u8, PT.int IntKind.u8, PT.int IntKind.i64, PT.int IntKind.u8, PT.int IntKind.u8,
      PT.int IntKind.u64, PT.int IntKind.u64, PT.int IntKind.u8, PT.int IntKind.u64, PT.int IntKind.u64, PT.bytes,
      PT.int IntKind.u8, PT.int IntKind.u8, PT.int IntKind.i64, PT.int IntKind.u8,
      PT.list (CTs.cons CT.str (CTs.cons CT.str CTs.nil))]
    (F9_L1021 n)
def F9_J127 : Nat →
  Bool →
    UInt8 →
      UInt8 →
        UInt8 →
          UInt16 →
            UInt16 →
              UInt16 →
                UInt8 →
                  UInt8 →
                    UInt8 →
                      Bool →
                        Bool →
                          UInt8 →
                            UInt64 →
                              UInt64 →
                                List UInt8 →
                                  UInt8 →
                                    UInt8 →
                                      Int64 →
                                        UInt8 →
                                          UInt8 →
                                            UInt64 →
                                              UInt64 →
                                                UInt8 →
                                                  UInt64 →
                                                    UInt64 →
                                                      List UInt8 →
                                                        UInt8 →
                                                          UInt8 →
                                                            Int64 →
                                                              UInt8 →
                                                                Option
                                                                  ((Bool ×
                                                                      UInt8 ×
                                                                        UInt64 ×
                                                                          UInt64 ×
                                                                            List UInt8 ×
                                                                              List (List UInt8 × List UInt8) ×
                                                                                UInt8 ×
                                                                                  UInt8 ×
                                                                                    Int64 ×
                                                                                      UInt8 × UInt8 × UInt64 × UInt64) ×
                                                                    Unit) := fun (n : Nat) (s0_1 : Bool) (s1_1 s2_1 s3_1 : UInt8) (s4_1 s5_1 s6_1 : UInt16) (s7_1 s8_1 s9_1 : UInt8)
    (s10_1 t0_1 : Bool) (t1_1 : UInt8) (t2_1 t3_1 : UInt64) (t4_1 : List UInt8) (t6_1 t7_1 : UInt8) (t8_1 : Int64)
    (t9_1 t10_1 : UInt8) (t11_1 t12_1 : UInt64) (v0_1 : UInt8) (v1_1 v2_1 : UInt64) (v3_1 : List UInt8)
    (v5_1 v6_1 : UInt8) (v7_1 : Int64) (v8_1 : UInt8) =>
  F9_R1021 n n (s8_1 % (4 : UInt8)) (0 : UInt8) s0_1 s1_1 s2_1 s3_1 s4_1 s5_1 s6_1 s7_1 s8_1 s9_1 s10_1 t0_1 t1_1 t2_1
    t3_1 t4_1 t6_1 t7_1 t8_1 t9_1 t10_1 t11_1 t12_1 v0_1 v1_1 v2_1 v3_1 v5_1 v6_1 v7_1 v8_1 []
def F9_J63 : Nat →
  Bool →
    UInt8 →
      UInt8 →
        UInt8 →
          UInt16 →
            UInt16 →
              UInt16 →
                UInt8 →
                  UInt8 →
                    UInt8 →
                      Bool →
                        Bool →
                          UInt8 →
                            UInt64 →
                              UInt64 →
                                List UInt8 →
                                  UInt8 →
                                    UInt8 →
                                      Int64 →
                                        UInt8 →
                                          UInt8 →
                                            UInt64 →
                                              UInt64 →
                                                UInt8 →
                                                  UInt64 →
                                                    UInt64 →
                                                      List UInt8 →
                                                        UInt8 →
                                                          UInt8 →
                                                            Int64 →
                                                              UInt8 →
                                                                Option
                                                                  ((Bool ×
                                                                      UInt8 ×
                                                                        UInt64 ×
                                                                          UInt64 ×
                                                                            List UInt8 ×
                                                                              List (List UInt8 × List UInt8) ×
                                                                                UInt8 ×
                                                                                  UInt8 ×
                                                                                    Int64 ×
                                                                                      UInt8 × UInt8 × UInt64 × UInt64) ×
                                                                    Unit) := fun (n : Nat) (s0 : Bool) (s1 s2 s3 : UInt8) (s4 s5 s6 : UInt16) (s7 s8 s9 : UInt8) (s10 t0 : Bool) (t1 : UInt8)
    (t2 t3 : UInt64) (t4 : List UInt8) (t6 t7 : UInt8) (t8 : Int64) (t9 t10 : UInt8) (t11 t12 : UInt64) (v0 : UInt8)
    (v1 v2 : UInt64) (v3 : List UInt8) (v5 v6 : UInt8) (v7 : Int64) (v8 : UInt8) =>
  ojoinA (127 : Nat)
    [PT.bool, PT.int IntKind.u8, PT.int IntKind.u8, PT.int IntKind.u8, PT.int IntKind.u16, PT.int IntKind.u16,
      PT.int IntKind.u16, PT.int IntKind.u8, PT.int IntKind.u8, PT.int IntKind.u8, PT.bool, PT.bool, PT.int IntKind.u8,
      PT.int IntKind.u64, PT.int IntKind.u64, PT.bytes, PT.int IntKind.u8, PT.int IntKind.u8, PT.int IntKind.i64,
      PT.int IntKind.u8, PT.int IntKind.u8, PT.int IntKind.u64, PT.int IntKind.u64, PT.int IntKind.u8,
      PT.int IntKind.u64, PT.int IntKind.u64, PT.bytes, PT.int IntKind.u8, PT.int IntKind.u8, PT.int IntKind.i64,
      PT.int IntKind.u8]
    (fun
        (J :
          Arr
            [PT.bool, PT.int IntKind.u8, PT.int IntKind.u8, PT.int IntKind.u8, PT.int IntKind.u16, PT.int IntKind.u16,
              PT.int IntKind.u16, PT.int IntKind.u8, PT.int IntKind.u8, PT.int IntKind.u8, PT.bool, PT.bool,
              PT.int IntKind.u8, PT.int IntKind.u64, PT.int IntKind.u64, PT.bytes, PT.int IntKind.u8, PT.int IntKind.u8,
              PT.int IntKind.i64, PT.int IntKind.u8, PT.int IntKind.u8, PT.int IntKind.u64, PT.int IntKind.u64,
              PT.int IntKind.u8, PT.int IntKind.u64, PT.int IntKind.u64, PT.bytes, PT.int IntKind.u8, PT.int IntKind.u8,
              PT.int IntKind.i64, PT.int IntKind.u8]
            (Option
              ((Bool ×
                  UInt8 ×
                    UInt64 ×
                      UInt64 ×
                        List UInt8 ×
                          List (List UInt8 × List UInt8) × UInt8 × UInt8 × Int64 × UInt8 × UInt8 × UInt64 × UInt64) ×
                Unit))) =>
      oite (decide (s3 % (8 : UInt8) = (7 : UInt8)))
        (J s0 s1 s2 s3 s4 s5 s6 s7 s8 s9 s10 t0 t1 t2 t3 t4 t6 t7 t8 t9 t10 t11 t12 v0 v1 v2
          [(111 : UInt8), (119 : UInt8), (110 : UInt8), (46 : UInt8), (120 : UInt8)] v5 v6 v7
          ((1 : UInt8) + s3 / (8 : UInt8) % (2 : UInt8)))
        (J s0 s1 s2 s3 s4 s5 s6 s7 s8 s9 s10 t0 t1 t2 t3 t4 t6 t7 t8 t9 t10 t11 t12 v0 v1 v2 v3 v5 v6 v7 v8))
    (F9_J127 n)
def F9 : Nat →
  Bool × UInt8 × UInt8 × UInt8 × UInt16 × UInt16 × UInt16 × UInt8 × UInt8 × UInt8 × Bool →
    Option
      ((Bool ×
          UInt8 ×
            UInt64 ×
              UInt64 ×
                List UInt8 × List (List UInt8 × List UInt8) × UInt8 × UInt8 × Int64 × UInt8 × UInt8 × UInt64 × UInt64) ×
        Unit) := fun (n : Nat) (x : Bool × UInt8 × UInt8 × UInt8 × UInt16 × UInt16 × UInt16 × UInt8 × UInt8 × UInt8 × Bool) =>
  oite (Prod.fst x)
    (obind
      (F21 n
        (Prod.fst (Prod.snd x) % (32 : UInt8),
          (1 : UInt64) + UInt64.ofInt ↑(UInt16.toNat (Prod.fst (Prod.snd (Prod.snd (Prod.snd (Prod.snd x)))))),
          (1 : UInt64) + UInt64.ofInt ↑(UInt16.toNat (Prod.fst (Prod.snd (Prod.snd (Prod.snd (Prod.snd x)))))) +
            UInt64.ofInt ↑(UInt16.toNat (Prod.fst (Prod.snd (Prod.snd (Prod.snd (Prod.snd (Prod.snd x)))))))))
      fun
        (x_1 :
          (Bool ×
              UInt8 ×
                UInt64 ×
                  UInt64 ×
                    List UInt8 ×
                      List (List UInt8 × List UInt8) × UInt8 × UInt8 × Int64 × UInt8 × UInt8 × UInt64 × UInt64) ×
            Unit) =>
      some
        ((Prod.fst (Prod.fst x_1), Prod.fst (Prod.snd (Prod.fst x_1)), Prod.fst (Prod.snd (Prod.snd (Prod.fst x_1))),
            Prod.fst (Prod.snd (Prod.snd (Prod.snd (Prod.fst x_1)))),
            Prod.fst (Prod.snd (Prod.snd (Prod.snd (Prod.snd (Prod.fst x_1))))),
            Prod.fst (Prod.snd (Prod.snd (Prod.snd (Prod.snd (Prod.snd (Prod.fst x_1)))))),
            Prod.fst (Prod.snd (Prod.snd (Prod.snd (Prod.snd (Prod.snd (Prod.snd (Prod.fst x_1))))))),
            Prod.fst (Prod.snd (Prod.snd (Prod.snd (Prod.snd (Prod.snd (Prod.snd (Prod.snd (Prod.fst x_1)))))))),
            Prod.fst
              (Prod.snd (Prod.snd (Prod.snd (Prod.snd (Prod.snd (Prod.snd (Prod.snd (Prod.snd (Prod.fst x_1))))))))),
            Prod.fst
              (Prod.snd
                (Prod.snd (Prod.snd (Prod.snd (Prod.snd (Prod.snd (Prod.snd (Prod.snd (Prod.snd (Prod.fst x_1)))))))))),
            Prod.fst
              (Prod.snd
                (Prod.snd
                  (Prod.snd
                    (Prod.snd (Prod.snd (Prod.snd (Prod.snd (Prod.snd (Prod.snd (Prod.snd (Prod.fst x_1))))))))))),
            Prod.fst
              (Prod.snd
                (Prod.snd
                  (Prod.snd
                    (Prod.snd
                      (Prod.snd (Prod.snd (Prod.snd (Prod.snd (Prod.snd (Prod.snd (Prod.snd (Prod.fst x_1)))))))))))),
            Prod.snd
              (Prod.snd
                (Prod.snd
                  (Prod.snd
                    (Prod.snd
                      (Prod.snd (Prod.snd (Prod.snd (Prod.snd (Prod.snd (Prod.snd (Prod.snd (Prod.fst x_1))))))))))))),
          ()))
    (oite
      (decide
          ((0 : Int) ≤
            ↑(UInt8.toNat
                (Prod.fst (Prod.snd (Prod.snd (Prod.snd (Prod.snd (Prod.snd (Prod.snd (Prod.snd x))))))) %
                  (4 : UInt8)))) &&
        Nat.blt
          (Int.toNat
            ↑(UInt8.toNat
                (Prod.fst (Prod.snd (Prod.snd (Prod.snd (Prod.snd (Prod.snd (Prod.snd (Prod.snd x))))))) %
                  (4 : UInt8))))
          (List.length
            [[(104 : UInt8), (111 : UInt8), (116 : UInt8)], [(99 : UInt8), (111 : UInt8), (108 : UInt8), (100 : UInt8)],
              [(100 : UInt8), (105 : UInt8), (115 : UInt8), (107 : UInt8), (46 : UInt8), (102 : UInt8), (117 : UInt8),
                (108 : UInt8), (108 : UInt8)],
              [(120 : UInt8)]]))
      (obind
        [[(104 : UInt8), (111 : UInt8), (116 : UInt8)], [(99 : UInt8), (111 : UInt8), (108 : UInt8), (100 : UInt8)],
            [(100 : UInt8), (105 : UInt8), (115 : UInt8), (107 : UInt8), (46 : UInt8), (102 : UInt8), (117 : UInt8),
              (108 : UInt8), (108 : UInt8)],
            [(120 :
                UInt8)]][Int.toNat
            ↑(UInt8.toNat
                (Prod.fst (Prod.snd (Prod.snd (Prod.snd (Prod.snd (Prod.snd (Prod.snd (Prod.snd x))))))) %
                  (4 : UInt8)))]?
        fun (x_1 : List UInt8) =>
        ojoinA (63 : Nat)
          [PT.bool, PT.int IntKind.u8, PT.int IntKind.u8, PT.int IntKind.u8, PT.int IntKind.u16, PT.int IntKind.u16,
            PT.int IntKind.u16, PT.int IntKind.u8, PT.int IntKind.u8, PT.int IntKind.u8, PT.bool, PT.bool,
            PT.int IntKind.u8, PT.int IntKind.u64, PT.int IntKind.u64, PT.bytes, PT.int IntKind.u8, PT.int IntKind.u8,
            PT.int IntKind.i64, PT.int IntKind.u8, PT.int IntKind.u8, PT.int IntKind.u64, PT.int IntKind.u64,
            PT.int IntKind.u8, PT.int IntKind.u64, PT.int IntKind.u64, PT.bytes, PT.int IntKind.u8, PT.int IntKind.u8,
            PT.int IntKind.i64, PT.int IntKind.u8]
          (fun
              (J :
                Arr
                  [PT.bool, PT.int IntKind.u8, PT.int IntKind.u8, PT.int IntKind.u8, PT.int IntKind.u16,
                    PT.int IntKind.u16, PT.int IntKind.u16, PT.int IntKind.u8, PT.int IntKind.u8, PT.int IntKind.u8,
                    PT.bool, PT.bool, PT.int IntKind.u8, PT.int IntKind.u64, PT.int IntKind.u64, PT.bytes,
                    PT.int IntKind.u8, PT.int IntKind.u8, PT.int IntKind.i64, PT.int IntKind.u8, PT.int IntKind.u8,
                    PT.int IntKind.u64, PT.int IntKind.u64, PT.int IntKind.u8, PT.int IntKind.u64, PT.int IntKind.u64,
                    PT.bytes, PT.int IntKind.u8, PT.int IntKind.u8, PT.int IntKind.i64, PT.int IntKind.u8]
                  (Option
                    ((Bool ×
                        UInt8 ×
                          UInt64 ×
                            UInt64 ×
                              List UInt8 ×
                                List (List UInt8 × List UInt8) ×
                                  UInt8 × UInt8 × Int64 × UInt8 × UInt8 × UInt64 × UInt64) ×
                      Unit))) =>
            oite
              (Prod.snd
                (Prod.snd (Prod.snd (Prod.snd (Prod.snd (Prod.snd (Prod.snd (Prod.snd (Prod.snd (Prod.snd x))))))))))
              (J (Prod.fst x) (Prod.fst (Prod.snd x)) (Prod.fst (Prod.snd (Prod.snd x)))
                (Prod.fst (Prod.snd (Prod.snd (Prod.snd x)))) (Prod.fst (Prod.snd (Prod.snd (Prod.snd (Prod.snd x)))))
                (Prod.fst (Prod.snd (Prod.snd (Prod.snd (Prod.snd (Prod.snd x))))))
                (Prod.fst (Prod.snd (Prod.snd (Prod.snd (Prod.snd (Prod.snd (Prod.snd x)))))))
                (Prod.fst (Prod.snd (Prod.snd (Prod.snd (Prod.snd (Prod.snd (Prod.snd (Prod.snd x))))))))
                (Prod.fst (Prod.snd (Prod.snd (Prod.snd (Prod.snd (Prod.snd (Prod.snd (Prod.snd (Prod.snd x)))))))))
                (Prod.fst
                  (Prod.snd (Prod.snd (Prod.snd (Prod.snd (Prod.snd (Prod.snd (Prod.snd (Prod.snd (Prod.snd x))))))))))
                (Prod.snd
                  (Prod.snd (Prod.snd (Prod.snd (Prod.snd (Prod.snd (Prod.snd (Prod.snd (Prod.snd (Prod.snd x))))))))))
                false (0 : UInt8) (0 : UInt64) (0 : UInt64) [] (0 : UInt8) (0 : UInt8) (0 : Int64) (0 : UInt8)
                (0 : UInt8) (0 : UInt64) (0 : UInt64) (Prod.fst (Prod.snd x) % (32 : UInt8))
                ((1 : UInt64) + UInt64.ofInt ↑(UInt16.toNat (Prod.fst (Prod.snd (Prod.snd (Prod.snd (Prod.snd x)))))))
                (UInt64.ofInt
                  ↑(UInt16.toNat (Prod.fst (Prod.snd (Prod.snd (Prod.snd (Prod.snd (Prod.snd (Prod.snd x)))))))))
                x_1 (2 : UInt8) (Prod.fst (Prod.snd (Prod.snd x)) % (8 : UInt8))
                (Int64.ofInt
                    ↑(UInt8.toNat
                        (Prod.fst
                          (Prod.snd
                            (Prod.snd
                              (Prod.snd (Prod.snd (Prod.snd (Prod.snd (Prod.snd (Prod.snd (Prod.snd x))))))))))) -
                  (100 : Int64))
                (0 : UInt8))
              (J (Prod.fst x) (Prod.fst (Prod.snd x)) (Prod.fst (Prod.snd (Prod.snd x)))
                (Prod.fst (Prod.snd (Prod.snd (Prod.snd x)))) (Prod.fst (Prod.snd (Prod.snd (Prod.snd (Prod.snd x)))))
                (Prod.fst (Prod.snd (Prod.snd (Prod.snd (Prod.snd (Prod.snd x))))))
                (Prod.fst (Prod.snd (Prod.snd (Prod.snd (Prod.snd (Prod.snd (Prod.snd x)))))))
                (Prod.fst (Prod.snd (Prod.snd (Prod.snd (Prod.snd (Prod.snd (Prod.snd (Prod.snd x))))))))
                (Prod.fst (Prod.snd (Prod.snd (Prod.snd (Prod.snd (Prod.snd (Prod.snd (Prod.snd (Prod.snd x)))))))))
                (Prod.fst
                  (Prod.snd (Prod.snd (Prod.snd (Prod.snd (Prod.snd (Prod.snd (Prod.snd (Prod.snd (Prod.snd x))))))))))
                (Prod.snd
                  (Prod.snd (Prod.snd (Prod.snd (Prod.snd (Prod.snd (Prod.snd (Prod.snd (Prod.snd (Prod.snd x))))))))))
                false (0 : UInt8) (0 : UInt64) (0 : UInt64) [] (0 : UInt8) (0 : UInt8) (0 : Int64) (0 : UInt8)
                (0 : UInt8) (0 : UInt64) (0 : UInt64) (Prod.fst (Prod.snd x) % (32 : UInt8))
                ((1 : UInt64) + UInt64.ofInt ↑(UInt16.toNat (Prod.fst (Prod.snd (Prod.snd (Prod.snd (Prod.snd x)))))))
                (UInt64.ofInt
                  ↑(UInt16.toNat (Prod.fst (Prod.snd (Prod.snd (Prod.snd (Prod.snd (Prod.snd (Prod.snd x)))))))))
                x_1 (0 : UInt8) (Prod.fst (Prod.snd (Prod.snd x)) % (8 : UInt8))
                (Int64.ofInt
                    ↑(UInt8.toNat
                        (Prod.fst
                          (Prod.snd
                            (Prod.snd
                              (Prod.snd (Prod.snd (Prod.snd (Prod.snd (Prod.snd (Prod.snd (Prod.snd x))))))))))) -
                  (100 : Int64))
                (0 : UInt8)))
          (F9_J63 n))
      none)
theorem F9_R1021_s (n : Nat) (m_ : Nat) : F9_R1021 n (m_ + 1) = F9_L1021 n (F9_R1021 n m_) := rfl
theorem ok9 (n : Nat) : FunOK Try.prog ⟨9, sig9, F9 n⟩ :=
  fun_ok (hints := ⟨[(63, ⟨[(1, .one (.own 1)), (2, .one (.own 2)), (5, .one (.own 3))], [(1, .cells [.bool, .int .u8, .int .u8, .int .u8, .int .u16, .int .u16, .int .u16, .int .u8, .int .u8, .int .u8, .bool]), (2, .cells [.bool, .int .u8, .int .u64, .int .u64, .str, .nils, .int .u8, .int .u8, .int .i64, .int .u8, .int .u8, .int .u64, .int .u64]), (3, .cells [.int .u8, .int .u64, .int .u64, .str, .nils, .int .u8, .int .u8, .int .i64, .int .u8])], 4⟩), (127, ⟨[(1, .one (.own 1)), (2, .one (.own 2)), (5, .one (.own 3))], [(1, .cells [.bool, .int .u8, .int .u8, .int .u8, .int .u16, .int .u16, .int .u16, .int .u8, .int .u8, .int .u8, .bool]), (2, .cells [.bool, .int .u8, .int .u64, .int .u64, .str, .nils, .int .u8, .int .u8, .int .i64, .int .u8, .int .u8, .int .u64, .int .u64]), (3, .cells [.int .u8, .int .u64, .int .u64, .str, .nils, .int .u8, .int .u8, .int .i64, .int .u8])], 4⟩)], [(1021, ⟨[(1, .one (.own 1)), (2, .one (.own 2)), (5, .one (.own 3)), (59, .one (.int .u8)), (60, .one (.int .u8))], [(1, .cells [.bool, .int .u8, .int .u8, .int .u8, .int .u16, .int .u16, .int .u16, .int .u8, .int .u8, .int .u8, .bool]), (2, .cells [.bool, .int .u8, .int .u64, .int .u64, .str, .nils, .int .u8, .int .u8, .int .i64, .int .u8, .int .u8, .int .u64, .int .u64]), (3, .cells [.int .u8, .int .u64, .int .u64, .str, .own 4, .int .u8, .int .u8, .int .i64, .int .u8]), (4, .row (.cons .str (.cons .str .nil)))], 5⟩)]⟩) (fuel := n) (c := Try.f9.body.getD .skip) (rs := Try.f9.results.toList) tt_ok mix (FsOK.cons (ok21 n) (FsOK.cons (ok22 n) (FsOK.nil))) Try.func9 (by kernel_rfl) (by kernel_rfl) rfl (by kernel_rfl) rfl rfl (by kernel_rfl)
-- (*watchfire/recv.Receiver).has
def sig23 : Sig := ⟨(.cons (.one (.ptr (.cons (.c (.int .i64)) (.cons (.c (.int .u64)) (.cons (.map (.one (.int .u64)) (.agg (.cons .bool (.cons (.int .u8) (.cons (.int .u64) (.cons (.int .u64) (.cons .str (.cons (.ro (.cons .str (.cons .str .nil))) (.cons (.int .u8) (.cons (.int .u8) (.cons (.int .i64) (.cons (.int .u8) (.cons (.int .u8) (.cons (.int .u64) (.cons (.int .u64) .nil))))))))))))))) (.cons (.c (.int .u64)) .nil)))))) (.cons (.one (.c (.int .u64))) .nil)), (.cons (.one (.c .bool)) .nil)⟩
def F23 : Nat →
  Option
        (Int64 ×
          UInt64 ×
            List
                (UInt64 ×
                  Bool ×
                    UInt8 ×
                      UInt64 ×
                        UInt64 ×
                          List UInt8 ×
                            List (List UInt8 × List UInt8) × UInt8 × UInt8 × Int64 × UInt8 × UInt8 × UInt64 × UInt64) ×
              UInt64) ×
      UInt64 →
    Option
      (Bool ×
        Option
          (Int64 ×
            UInt64 ×
              List
                  (UInt64 ×
                    Bool ×
                      UInt8 ×
                        UInt64 ×
                          UInt64 ×
                            List UInt8 ×
                              List (List UInt8 × List UInt8) ×
                                UInt8 × UInt8 × Int64 × UInt8 × UInt8 × UInt64 × UInt64) ×
                UInt64)) := fun (n : Nat)
    (x :
      Option
          (Int64 ×
            UInt64 ×
              List
                  (UInt64 ×
                    Bool ×
                      UInt8 ×
                        UInt64 ×
                          UInt64 ×
                            List UInt8 ×
                              List (List UInt8 × List UInt8) ×
                                UInt8 × UInt8 × Int64 × UInt8 × UInt8 × UInt64 × UInt64) ×
                UInt64) ×
        UInt64) =>
  obind (Prod.fst x)
    fun
      (x_1 :
        Int64 ×
          UInt64 ×
            List
                (UInt64 ×
                  Bool ×
                    UInt8 ×
                      UInt64 ×
                        UInt64 ×
                          List UInt8 ×
                            List (List UInt8 × List UInt8) × UInt8 × UInt8 × Int64 × UInt8 × UInt8 × UInt64 × UInt64) ×
              UInt64) =>
    some
      (Option.isSome
          (mget (VT.one (CT.int IntKind.u64))
            (VT.agg
              (CTs.cons CT.bool
                (CTs.cons (CT.int IntKind.u8)
                  (CTs.cons (CT.int IntKind.u64)
                    (CTs.cons (CT.int IntKind.u64)
                      (CTs.cons CT.str
                        (CTs.cons (CT.ro (CTs.cons CT.str (CTs.cons CT.str CTs.nil)))
                          (CTs.cons (CT.int IntKind.u8)
                            (CTs.cons (CT.int IntKind.u8)
                              (CTs.cons (CT.int IntKind.i64)
                                (CTs.cons (CT.int IntKind.u8)
                                  (CTs.cons (CT.int IntKind.u8)
                                    (CTs.cons (CT.int IntKind.u64) (CTs.cons (CT.int IntKind.u64) CTs.nil))))))))))))))
            (Prod.snd x) (Prod.fst (Prod.snd (Prod.snd x_1)))),
        some
          (Prod.fst x_1, Prod.fst (Prod.snd x_1), Prod.fst (Prod.snd (Prod.snd x_1)),
            Prod.snd (Prod.snd (Prod.snd x_1))))
theorem ok23 (n : Nat) : FunOK Try.prog ⟨23, sig23, F23 n⟩ :=
  fun_ok (hints := ⟨[], []⟩) (fuel := n) (c := Try.f23.body.getD .skip) (rs := Try.f23.results.toList) tt_ok mix (FsOK.nil) Try.func23 (by kernel_rfl) (by kernel_rfl) rfl (by kernel_rfl) rfl rfl (by kernel_rfl)
-- watchfire/item.number
def sig36 : Sig := ⟨(.cons (.one (.c (.int .u64))) .nil), (.cons (.one (.c .bool)) .nil)⟩
def F36 : Nat → UInt64 → Option (Bool × Unit) := fun (n : Nat) (x : UInt64) => some (decide (x ≤ (1099511627776 : UInt64)), ())
theorem ok36 (n : Nat) : FunOK Try.prog ⟨36, sig36, F36 n⟩ :=
  fun_ok (hints := ⟨[], []⟩) (fuel := n) (c := Try.f36.body.getD .skip) (rs := Try.f36.results.toList) tt_ok mix (FsOK.nil) Try.func36 (by kernel_rfl) (by kernel_rfl) rfl (by kernel_rfl) rfl rfl (by kernel_rfl)
-- watchfire/item.gap
def sig31 : Sig := ⟨(.cons (.agg (.cons (.int .u8) (.cons (.int .u64) (.cons (.int .u64) .nil)))) .nil), (.cons (.one (.c (.int .i64))) .nil)⟩
def F31 : Nat → UInt8 × UInt64 × UInt64 → Option (Int64 × Unit) := fun (n : Nat) (x : UInt8 × UInt64 × UInt64) =>
  oite (decide ((32 : UInt8) ≤ Prod.fst x)) (some ((6 : Int64), ()))
    (oite (decide (Prod.fst (Prod.snd x) < (1 : UInt64))) (some ((6 : Int64), ()))
      (oite (decide (Prod.snd (Prod.snd x) < Prod.fst (Prod.snd x))) (some ((6 : Int64), ()))
        (obind (F36 n (Prod.snd (Prod.snd x))) fun (x_1 : Bool × Unit) =>
          oite (!Prod.fst x_1) (some ((6 : Int64), ())) (some ((0 : Int64), ())))))
theorem ok31 (n : Nat) : FunOK Try.prog ⟨31, sig31, F31 n⟩ :=
  fun_ok (hints := ⟨[], []⟩) (fuel := n) (c := Try.f31.body.getD .skip) (rs := Try.f31.results.toList) tt_ok mix (FsOK.cons (ok36 n) (FsOK.nil)) Try.func31 (by kernel_rfl) (by kernel_rfl) rfl (by kernel_rfl) rfl rfl (by kernel_rfl)
-- watchfire/lab.word
def sig40 : Sig := ⟨(.cons (.one (.c .str)) (.cons (.one (.c (.int .i64))) (.cons (.one (.c .bool)) .nil))), (.cons (.one (.c .bool)) .nil)⟩
def F40_J471 : Arr [PT.bool, PT.bytes, PT.nat] (Option (Bool × Unit)) → Bool → Int32 → Bool → List UInt8 → Nat → Option (Bool × Unit) := fun (rec : Arr [PT.bool, PT.bytes, PT.nat] (Option (Bool × Unit))) (also_1 : Bool) (c : Int32) (t_1 : Bool)
    (t_1_1 : List UInt8) (x_2 : Nat) =>
  oite t_1 (rec also_1 t_1_1 x_2)
    (oite also_1
      (oite (decide ((48 : Int32) ≤ c))
        (oite (decide (c ≤ (57 : Int32))) (rec also_1 t_1_1 x_2)
          (oite (decide (c = (46 : Int32))) (rec also_1 t_1_1 x_2)
            (oite (decide (c = (95 : Int32))) (rec also_1 t_1_1 x_2)
              (oite (decide (c = (45 : Int32))) (rec also_1 t_1_1 x_2) (some (false, ()))))))
        (oite (decide (c = (46 : Int32))) (rec also_1 t_1_1 x_2)
          (oite (decide (c = (95 : Int32))) (rec also_1 t_1_1 x_2)
            (oite (decide (c = (45 : Int32))) (rec also_1 t_1_1 x_2) (some (false, ()))))))
      (some (false, ())))
def F40_L29 : Arr [PT.bool, PT.bytes, PT.nat] (Option (Bool × Unit)) → Bool → List UInt8 → Nat → Option (Bool × Unit) := fun (rec : Arr [PT.bool, PT.bytes, PT.nat] (Option (Bool × Unit))) (also : Bool) (t : List UInt8) (x_1 : Nat) =>
  oite (Nat.blt x_1 (List.length t))
    (ojoinA (471 : Nat) [PT.bool, PT.int IntKind.i32, PT.bool, PT.bytes, PT.nat]
      (fun (J : Arr [PT.bool, PT.int IntKind.i32, PT.bool, PT.bytes, PT.nat] (Option (Bool × Unit))) =>
        oite (decide ((97 : Int32) ≤ Int32.ofInt ↑(runeAt t x_1)))
          (J also (Int32.ofInt ↑(runeAt t x_1)) (decide (Int32.ofInt ↑(runeAt t x_1) ≤ (122 : Int32))) t
            (x_1 + runeLen t x_1))
          (J also (Int32.ofInt ↑(runeAt t x_1)) false t (x_1 + runeLen t x_1)))
      (F40_J471 rec))
    (some (true, ()))
def F40_R29 : Nat → PT.T PT.bool → List UInt8 → Nat → Option (Bool × Unit) := ofixA (29 : Nat) [PT.bool, PT.bytes, PT.nat] F40_L29
def F40 : Nat → List UInt8 × Int64 × Bool → Option (Bool × Unit) := fun (n : Nat) (x : List UInt8 × Int64 × Bool) =>
  oite (decide (Int64.ofInt ↑(List.length (Prod.fst x)) < (1 : Int64))) (some (false, ()))
    (oite (decide (Prod.fst (Prod.snd x) < Int64.ofInt ↑(List.length (Prod.fst x)))) (some (false, ()))
      (F40_R29 n (Prod.snd (Prod.snd x)) (Prod.fst x) (0 : Nat)))
theorem F40_R29_s  (m_ : Nat) : F40_R29  (m_ + 1) = F40_L29  (F40_R29  m_) := rfl
theorem ok40 (n : Nat) : FunOK Try.prog ⟨40, sig40, F40 n⟩ :=
  fun_ok (hints := ⟨[(471, ⟨[(2, .one (.bool)), (8, .one (.int .i32)), (19, .one (.own 3)), (23, .one (.bool))], [(3, .iter)], 4⟩)], [(29, ⟨[(2, .one (.bool)), (19, .one (.own 3))], [(3, .iter)], 4⟩)]⟩) (fuel := n) (c := Try.f40.body.getD .skip) (rs := Try.f40.results.toList) tt_ok mix (FsOK.nil) Try.func40 (by kernel_rfl) (by kernel_rfl) rfl (by kernel_rfl) rfl rfl (by kernel_rfl)
-- watchfire/lab.Name
def sig37 : Sig := ⟨(.cons (.one (.c .str)) .nil), (.cons (.one (.c .bool)) .nil)⟩
def F37 : Nat → List UInt8 → Option (Bool × Unit) := fun (n : Nat) (x : List UInt8) =>
  obind (F40 n (x, (12 : Int64), true)) fun (x_1 : Bool × Unit) =>
    oite (Prod.fst x_1)
      (obind (at? x (Int64.toInt (0 : Int64))) fun (x_2 : UInt8) =>
        oite (decide ((97 : UInt8) ≤ x_2))
          (obind (at? x (Int64.toInt (0 : Int64))) fun (x_3 : UInt8) => some (decide (x_3 ≤ (122 : UInt8)), ()))
          (some (false, ())))
      (some (false, ()))
theorem ok37 (n : Nat) : FunOK Try.prog ⟨37, sig37, F37 n⟩ :=
  fun_ok (hints := ⟨[], []⟩) (fuel := n) (c := Try.f37.body.getD .skip) (rs := Try.f37.results.toList) tt_ok mix (FsOK.cons (ok40 n) (FsOK.nil)) Try.func37 (by kernel_rfl) (by kernel_rfl) rfl (by kernel_rfl) rfl rfl (by kernel_rfl)
-- internal/stringslite.HasPrefix
def sig44 : Sig := ⟨(.cons (.one (.c .str)) (.cons (.one (.c .str)) .nil)), (.cons (.one (.c .bool)) .nil)⟩
def F44 : Nat → List UInt8 × List UInt8 → Option (Bool × Unit) := fun (n : Nat) (x : List UInt8 × List UInt8) =>
  oite (decide (Int64.ofInt ↑(List.length (Prod.snd x)) ≤ Int64.ofInt ↑(List.length (Prod.fst x))))
    (oite
      (decide ((0 : Int) ≤ Int64.toInt (Int64.ofInt ↑(List.length (Prod.snd x)))) &&
          Nat.ble (Int.toNat (Int64.toInt (Int64.ofInt ↑(List.length (Prod.snd x))))) (List.length (Prod.fst x)) &&
        true)
      (some
        (List.drop (0 : Nat)
              (List.take (Int.toNat (Int64.toInt (Int64.ofInt ↑(List.length (Prod.snd x))))) (Prod.fst x)) ==
            Prod.snd x,
          ()))
      none)
    (some (false, ()))
theorem ok44 (n : Nat) : FunOK Try.prog ⟨44, sig44, F44 n⟩ :=
  fun_ok (hints := ⟨[], []⟩) (fuel := n) (c := Try.f44.body.getD .skip) (rs := Try.f44.results.toList) tt_ok mix (FsOK.nil) Try.func44 (by kernel_rfl) (by kernel_rfl) rfl (by kernel_rfl) rfl rfl (by kernel_rfl)
-- strings.HasPrefix
def sig41 : Sig := ⟨(.cons (.one (.c .str)) (.cons (.one (.c .str)) .nil)), (.cons (.one (.c .bool)) .nil)⟩
def F41 : Nat → List UInt8 × List UInt8 → Option (Bool × Unit) := fun (n : Nat) (x : List UInt8 × List UInt8) =>
  obind (F44 n (Prod.fst x, Prod.snd x)) fun (x_1 : Bool × Unit) => some (Prod.fst x_1, ())
theorem ok41 (n : Nat) : FunOK Try.prog ⟨41, sig41, F41 n⟩ :=
  fun_ok (hints := ⟨[], []⟩) (fuel := n) (c := Try.f41.body.getD .skip) (rs := Try.f41.results.toList) tt_ok mix (FsOK.cons (ok44 n) (FsOK.nil)) Try.func41 (by kernel_rfl) (by kernel_rfl) rfl (by kernel_rfl) rfl rfl (by kernel_rfl)
-- watchfire/item.Own
def sig38 : Sig := ⟨(.cons (.one (.c .str)) .nil), (.cons (.one (.c .bool)) .nil)⟩
def F38 : Nat → List UInt8 → Option (Bool × Unit) := fun (n : Nat) (x : List UInt8) =>
  obind (F41 n (x, [(111 : UInt8), (119 : UInt8), (110 : UInt8), (46 : UInt8)])) fun (x_1 : Bool × Unit) =>
    some (Prod.fst x_1, ())
theorem ok38 (n : Nat) : FunOK Try.prog ⟨38, sig38, F38 n⟩ :=
  fun_ok (hints := ⟨[], []⟩) (fuel := n) (c := Try.f38.body.getD .skip) (rs := Try.f38.results.toList) tt_ok mix (FsOK.cons (ok41 n) (FsOK.nil)) Try.func38 (by kernel_rfl) (by kernel_rfl) rfl (by kernel_rfl) rfl rfl (by kernel_rfl)
-- watchfire/lab.Key
def sig42 : Sig := ⟨(.cons (.one (.c .str)) .nil), (.cons (.one (.c .bool)) .nil)⟩
def F42 : Nat → List UInt8 → Option (Bool × Unit) := fun (n : Nat) (x : List UInt8) =>
  obind (F40 n (x, (8 : Int64), false)) fun (x_1 : Bool × Unit) => some (Prod.fst x_1, ())
theorem ok42 (n : Nat) : FunOK Try.prog ⟨42, sig42, F42 n⟩ :=
  fun_ok (hints := ⟨[], []⟩) (fuel := n) (c := Try.f42.body.getD .skip) (rs := Try.f42.results.toList) tt_ok mix (FsOK.cons (ok40 n) (FsOK.nil)) Try.func42 (by kernel_rfl) (by kernel_rfl) rfl (by kernel_rfl) rfl rfl (by kernel_rfl)
-- watchfire/lab.Value
def sig43 : Sig := ⟨(.cons (.one (.c .str)) .nil), (.cons (.one (.c .bool)) .nil)⟩
def F43 : Nat → List UInt8 → Option (Bool × Unit) := fun (n : Nat) (x : List UInt8) =>
  obind (F40 n (x, (16 : Int64), true)) fun (x_1 : Bool × Unit) => some (Prod.fst x_1, ())
theorem ok43 (n : Nat) : FunOK Try.prog ⟨43, sig43, F43 n⟩ :=
  fun_ok (hints := ⟨[], []⟩) (fuel := n) (c := Try.f43.body.getD .skip) (rs := Try.f43.results.toList) tt_ok mix (FsOK.cons (ok40 n) (FsOK.nil)) Try.func43 (by kernel_rfl) (by kernel_rfl) rfl (by kernel_rfl) rfl rfl (by kernel_rfl)
-- watchfire/lab.Check
def sig39 : Sig := ⟨(.cons (.one (.c (.ro (.cons .str (.cons .str .nil))))) .nil), (.cons (.one (.c (.int .i64))) .nil)⟩
def F39_J3767 : Arr
    [PT.list (CTs.cons CT.str (CTs.cons CT.str CTs.nil)), PT.list (CTs.cons CT.str (CTs.cons CT.str CTs.nil)),
      PT.int IntKind.i64, PT.int IntKind.i64]
    (Option (Int64 × Unit)) →
  List (List UInt8 × List UInt8) →
    Int64 → List (List UInt8 × List UInt8) → Int64 → Int64 → Bool → List UInt8 → List UInt8 → Option (Int64 × Unit) := fun
    (rec :
      Arr
        [PT.list (CTs.cons CT.str (CTs.cons CT.str CTs.nil)), PT.list (CTs.cons CT.str (CTs.cons CT.str CTs.nil)),
          PT.int IntKind.i64, PT.int IntKind.i64]
        (Option (Int64 × Unit)))
    (l_1 : List (List UInt8 × List UInt8)) (i : Int64) (t_3 : List (List UInt8 × List UInt8)) (t_1_1 t_2_1 : Int64)
    (t_3_1 : Bool) (p0 p1 : List UInt8) =>
  oite t_3_1 (some ((7 : Int64), ()))
    (oite (decide ((0 : Int64) < i))
      (obind (at? l_1 (Int64.toInt (i - (1 : Int64)))) fun (x_4 : List UInt8 × List UInt8) =>
        oite (!(bytesLt (Prod.fst x_4) p0 || Prod.fst x_4 == p0)) (some ((9 : Int64), ()))
          (rec l_1 t_3 t_1_1 (t_2_1 + (1 : Int64))))
      (rec l_1 t_3 t_1_1 (t_2_1 + (1 : Int64))))
def F39_L29 : Nat →
  Arr
      [PT.list (CTs.cons CT.str (CTs.cons CT.str CTs.nil)), PT.list (CTs.cons CT.str (CTs.cons CT.str CTs.nil)),
        PT.int IntKind.i64, PT.int IntKind.i64]
      (Option (Int64 × Unit)) →
    List (List UInt8 × List UInt8) → List (List UInt8 × List UInt8) → Int64 → Int64 → Option (Int64 × Unit) := fun (n : Nat)
    (rec :
      Arr
        [PT.list (CTs.cons CT.str (CTs.cons CT.str CTs.nil)), PT.list (CTs.cons CT.str (CTs.cons CT.str CTs.nil)),
          PT.int IntKind.i64, PT.int IntKind.i64]
        (Option (Int64 × Unit)))
    (l t : List (List UInt8 × List UInt8)) (t_1 t_2 : Int64) =>
  oite (decide (t_2 < t_1))
    (obind (at? t (Int64.toInt t_2)) fun (x_1 : List UInt8 × List UInt8) =>
      obind (F42 n (Prod.fst x_1)) fun (x_2 : Bool × Unit) =>
        oite (!Prod.fst x_2) (some ((8 : Int64), ()))
          (obind (F43 n (Prod.snd x_1)) fun (x_3 : Bool × Unit) =>
            oite (!Prod.fst x_3) (some ((8 : Int64), ()))
              (ojoinA (3767 : Nat)
                [PT.list (CTs.cons CT.str (CTs.cons CT.str CTs.nil)), PT.int IntKind.i64,
                  PT.list (CTs.cons CT.str (CTs.cons CT.str CTs.nil)), PT.int IntKind.i64, PT.int IntKind.i64, PT.bool,
                  PT.bytes, PT.bytes]
                (fun
                    (J :
                      Arr
                        [PT.list (CTs.cons CT.str (CTs.cons CT.str CTs.nil)), PT.int IntKind.i64,
                          PT.list (CTs.cons CT.str (CTs.cons CT.str CTs.nil)), PT.int IntKind.i64, PT.int IntKind.i64,
                          PT.bool, PT.bytes, PT.bytes]
                        (Option (Int64 × Unit))) =>
                  oite (decide ((0 : Int64) < t_2))
                    (obind (at? l (Int64.toInt (t_2 - (1 : Int64)))) fun (x_4 : List UInt8 × List UInt8) =>
                      J l t_2 t t_1 t_2 (Prod.fst x_4 == Prod.fst x_1) (Prod.fst x_1) (Prod.snd x_1))
                    (J l t_2 t t_1 t_2 false (Prod.fst x_1) (Prod.snd x_1)))
                (F39_J3767 rec))))
    (some ((0 : Int64), ()))
def F39_R29 : Nat →
  Nat →
    PT.T (PT.list (CTs.cons CT.str (CTs.cons CT.str CTs.nil))) →
      List (List UInt8 × List UInt8) → Int64 → Int64 → Option (Int64 × Unit) := fun (n : Nat) =>
  ofixA (29 : Nat)
    [PT.list (CTs.cons CT.str (CTs.cons CT.str CTs.nil)), PT.list (CTs.cons CT.str (CTs.cons CT.str CTs.nil)),
      PT.int IntKind.i64, PT.int IntKind.i64]
    (F39_L29 n)
def F39 : Nat → List (List UInt8 × List UInt8) → Option (Int64 × Unit) := fun (n : Nat) (x : List (List UInt8 × List UInt8)) =>
  oite (decide ((8 : Int64) < Int64.ofInt ↑(List.length x))) (some ((5 : Int64), ()))
    (F39_R29 n n x x (Int64.ofInt ↑(List.length x)) (0 : Int64))
theorem F39_R29_s (n : Nat) (m_ : Nat) : F39_R29 n (m_ + 1) = F39_L29 n (F39_R29 n m_) := rfl
theorem ok39 (n : Nat) : FunOK Try.prog ⟨39, sig39, F39 n⟩ :=
  fun_ok (hints := ⟨[(3767, ⟨[(0, .one (.ro (.cons .str (.cons .str .nil)))), (3, .one (.int .i64)), (4, .one (.own 1)), (8, .one (.ro (.cons .str (.cons .str .nil)))), (9, .one (.int .i64)), (10, .one (.int .i64)), (26, .one (.bool))], [(1, .cells [.str, .str])], 2⟩)], [(29, ⟨[(0, .one (.ro (.cons .str (.cons .str .nil)))), (8, .one (.ro (.cons .str (.cons .str .nil)))), (9, .one (.int .i64)), (10, .one (.int .i64))], [], 1⟩)]⟩) (fuel := n) (c := Try.f39.body.getD .skip) (rs := Try.f39.results.toList) tt_ok mix (FsOK.cons (ok42 n) (FsOK.cons (ok43 n) (FsOK.nil))) Try.func39 (by kernel_rfl) (by kernel_rfl) rfl (by kernel_rfl) rfl rfl (by kernel_rfl)
-- watchfire/lab.Check
def sig1039 : Sig := ⟨(.cons (.one (.row (.cons .str (.cons .str .nil)))) .nil), (.cons (.one (.c (.int .i64))) .nil)⟩
def F1039_J3767 : Arr [PT.int IntKind.i64, PT.int IntKind.i64, PT.list (CTs.cons CT.str (CTs.cons CT.str CTs.nil))]
    (Option (Int64 × List (List UInt8 × List UInt8))) →
  Int64 →
    Int64 →
      Int64 →
        Bool →
          List (List UInt8 × List UInt8) → List UInt8 → List UInt8 → Option (Int64 × List (List UInt8 × List UInt8)) := fun
    (rec :
      Arr [PT.int IntKind.i64, PT.int IntKind.i64, PT.list (CTs.cons CT.str (CTs.cons CT.str CTs.nil))]
        (Option (Int64 × List (List UInt8 × List UInt8))))
    (i t_2 t_1_1 : Int64) (t_2_1 : Bool) (l_1 : List (List UInt8 × List UInt8)) (p0 p1 : List UInt8) =>
  oite t_2_1 (some ((7 : Int64), l_1))
    (oite (decide ((0 : Int64) < i))
      (oite
        (decide ((0 : Int) ≤ Int64.toInt (i - (1 : Int64))) &&
          Nat.blt (Int.toNat (Int64.toInt (i - (1 : Int64)))) (List.length l_1))
        (obind l_1[Int.toNat (Int64.toInt (i - (1 : Int64)))]? fun (x_4 : List UInt8 × List UInt8) =>
          oite (!(bytesLt (Prod.fst x_4) p0 || Prod.fst x_4 == p0)) (some ((9 : Int64), l_1))
            (rec t_2 (t_1_1 + (1 : Int64)) l_1))
        none)
      (rec t_2 (t_1_1 + (1 : Int64)) l_1))
def F1039_L29 : Nat →
  Arr [PT.int IntKind.i64, PT.int IntKind.i64, PT.list (CTs.cons CT.str (CTs.cons CT.str CTs.nil))]
      (Option (Int64 × List (List UInt8 × List UInt8))) →
    Int64 → Int64 → List (List UInt8 × List UInt8) → Option (Int64 × List (List UInt8 × List UInt8)) := fun (n : Nat)
    (rec :
      Arr [PT.int IntKind.i64, PT.int IntKind.i64, PT.list (CTs.cons CT.str (CTs.cons CT.str CTs.nil))]
        (Option (Int64 × List (List UInt8 × List UInt8))))
    (t t_1 : Int64) (l : List (List UInt8 × List UInt8)) =>
  oite (decide (t_1 < t))
    (oite (decide ((0 : Int) ≤ Int64.toInt t_1) && Nat.blt (Int.toNat (Int64.toInt t_1)) (List.length l))
      (obind l[Int.toNat (Int64.toInt t_1)]? fun (x_1 : List UInt8 × List UInt8) =>
        obind (F42 n (Prod.fst x_1)) fun (x_2 : Bool × Unit) =>
          oite (!Prod.fst x_2) (some ((8 : Int64), l))
            (obind (F43 n (Prod.snd x_1)) fun (x_3 : Bool × Unit) =>
              oite (!Prod.fst x_3) (some ((8 : Int64), l))
                (ojoinA (3767 : Nat)
                  [PT.int IntKind.i64, PT.int IntKind.i64, PT.int IntKind.i64, PT.bool,
                    PT.list (CTs.cons CT.str (CTs.cons CT.str CTs.nil)), PT.bytes, PT.bytes]
                  (fun
                      (J :
                        Arr
                          [PT.int IntKind.i64, PT.int IntKind.i64, PT.int IntKind.i64, PT.bool,
                            PT.list (CTs.cons CT.str (CTs.cons CT.str CTs.nil)), PT.bytes, PT.bytes]
                          (Option (Int64 × List (List UInt8 × List UInt8)))) =>
                    oite (decide ((0 : Int64) < t_1))
                      (oite
                        (decide ((0 : Int) ≤ Int64.toInt (t_1 - (1 : Int64))) &&
                          Nat.blt (Int.toNat (Int64.toInt (t_1 - (1 : Int64)))) (List.length l))
                        (obind l[Int.toNat (Int64.toInt (t_1 - (1 : Int64)))]? fun (x_4 : List UInt8 × List UInt8) =>
                          J t_1 t t_1 (Prod.fst x_4 == Prod.fst x_1) l (Prod.fst x_1) (Prod.snd x_1))
                        none)
                      (J t_1 t t_1 false l (Prod.fst x_1) (Prod.snd x_1)))
                  (F1039_J3767 rec))))
      none)
    (some ((0 : Int64), l))
def F1039_R29 : Nat →
  Nat →
    PT.T (PT.int IntKind.i64) → Int64 → List (List UInt8 × List UInt8) → Option (Int64 × List (List UInt8 × List UInt8)) := fun (n : Nat) =>
  ofixA (29 : Nat) [PT.int IntKind.i64, PT.int IntKind.i64, PT.list (CTs.cons CT.str (CTs.cons CT.str CTs.nil))]
    (F1039_L29 n)
def F1039 : Nat → List (List UInt8 × List UInt8) → Option (Int64 × List (List UInt8 × List UInt8)) := fun (n : Nat) (x : List (List UInt8 × List UInt8)) =>
  oite (decide ((8 : Int64) < Int64.ofInt ↑(List.length x))) (some ((5 : Int64), x))
    (F1039_R29 n n (Int64.ofInt ↑(List.length x)) (0 : Int64) x)
theorem F1039_R29_s (n : Nat) (m_ : Nat) : F1039_R29 n (m_ + 1) = F1039_L29 n (F1039_R29 n m_) := rfl
theorem ok1039 (n : Nat) : FunOK Try.prog ⟨39, sig1039, F1039 n⟩ :=
  fun_ok (hints := ⟨[(3767, ⟨[(0, .one (.own 0)), (3, .one (.int .i64)), (4, .one (.own 1)), (8, .one (.own 0)), (9, .one (.int .i64)), (10, .one (.int .i64)), (26, .one (.bool))], [(0, .row (.cons .str (.cons .str .nil))), (1, .cells [.str, .str])], 2⟩)], [(29, ⟨[(0, .one (.own 0)), (8, .one (.own 0)), (9, .one (.int .i64)), (10, .one (.int .i64))], [(0, .row (.cons .str (.cons .str .nil)))], 1⟩)]⟩) (fuel := n) (c := Try.f39.body.getD .skip) (rs := Try.f39.results.toList) tt_ok mix (FsOK.cons (ok42 n) (FsOK.cons (ok43 n) (FsOK.nil))) Try.func39 (by kernel_rfl) (by kernel_rfl) rfl (by kernel_rfl) rfl rfl (by kernel_rfl)
-- watchfire/item.event
def sig32 : Sig := ⟨(.cons (.agg (.cons (.int .u8) (.cons (.int .u64) (.cons (.int .u64) (.cons .str (.cons (.ro (.cons .str (.cons .str .nil))) (.cons (.int .u8) (.cons (.int .u8) (.cons (.int .i64) (.cons (.int .u8) .nil)))))))))) .nil), (.cons (.one (.c (.int .i64))) .nil)⟩
def F32_J111 : Nat →
  Bool →
    UInt8 →
      UInt64 →
        UInt64 → List UInt8 → List (List UInt8 × List UInt8) → UInt8 → UInt8 → Int64 → UInt8 → Option (Int64 × Unit) := fun (n : Nat) (t : Bool) (v0 : UInt8) (v1 v2 : UInt64) (v3 : List UInt8) (v4 : List (List UInt8 × List UInt8))
    (v5 v6 : UInt8) (v7 : Int64) (v8 : UInt8) =>
  oite t (some ((12 : Int64), ()))
    (obind (F38 n v3) fun (x_4 : Bool × Unit) =>
      oite (!(!decide (v8 = (0 : UInt8))) == Prod.fst x_4) (some ((27 : Int64), ()))
        (obind (F39 n v4) fun (x_5 : Int64 × Unit) => some (Prod.fst x_5, ())))
def F32 : Nat →
  UInt8 × UInt64 × UInt64 × List UInt8 × List (List UInt8 × List UInt8) × UInt8 × UInt8 × Int64 × UInt8 →
    Option (Int64 × Unit) := fun (n : Nat)
    (x : UInt8 × UInt64 × UInt64 × List UInt8 × List (List UInt8 × List UInt8) × UInt8 × UInt8 × Int64 × UInt8) =>
  oite (decide ((32 : UInt8) ≤ Prod.fst x)) (some ((6 : Int64), ()))
    (oite (decide (Prod.fst (Prod.snd x) < (1 : UInt64))) (some ((6 : Int64), ()))
      (obind (F36 n (Prod.fst (Prod.snd x))) fun (x_1 : Bool × Unit) =>
        oite (!Prod.fst x_1) (some ((6 : Int64), ()))
          (obind (F36 n (Prod.fst (Prod.snd (Prod.snd x)))) fun (x_2 : Bool × Unit) =>
            oite (!Prod.fst x_2) (some ((6 : Int64), ()))
              (oite
                (decide ((7 : UInt8) < Prod.fst (Prod.snd (Prod.snd (Prod.snd (Prod.snd (Prod.snd (Prod.snd x))))))))
                (some ((6 : Int64), ()))
                (obind (F37 n (Prod.fst (Prod.snd (Prod.snd (Prod.snd x))))) fun (x_3 : Bool × Unit) =>
                  oite (!Prod.fst x_3) (some ((8 : Int64), ()))
                    (ojoinA (111 : Nat)
                      [PT.bool, PT.int IntKind.u8, PT.int IntKind.u64, PT.int IntKind.u64, PT.bytes,
                        PT.list (CTs.cons CT.str (CTs.cons CT.str CTs.nil)), PT.int IntKind.u8, PT.int IntKind.u8,
                        PT.int IntKind.i64, PT.int IntKind.u8]
                      (fun
                          (J :
                            Arr
                              [PT.bool, PT.int IntKind.u8, PT.int IntKind.u64, PT.int IntKind.u64, PT.bytes,
                                PT.list (CTs.cons CT.str (CTs.cons CT.str CTs.nil)), PT.int IntKind.u8,
                                PT.int IntKind.u8, PT.int IntKind.i64, PT.int IntKind.u8]
                              (Option (Int64 × Unit))) =>
                        oite (!decide (Prod.fst (Prod.snd (Prod.snd (Prod.snd (Prod.snd (Prod.snd x))))) = (0 : UInt8)))
                          (oite
                            (!decide (Prod.fst (Prod.snd (Prod.snd (Prod.snd (Prod.snd (Prod.snd x))))) = (2 : UInt8)))
                            (J true (Prod.fst x) (Prod.fst (Prod.snd x)) (Prod.fst (Prod.snd (Prod.snd x)))
                              (Prod.fst (Prod.snd (Prod.snd (Prod.snd x))))
                              (Prod.fst (Prod.snd (Prod.snd (Prod.snd (Prod.snd x)))))
                              (Prod.fst (Prod.snd (Prod.snd (Prod.snd (Prod.snd (Prod.snd x))))))
                              (Prod.fst (Prod.snd (Prod.snd (Prod.snd (Prod.snd (Prod.snd (Prod.snd x)))))))
                              (Prod.fst (Prod.snd (Prod.snd (Prod.snd (Prod.snd (Prod.snd (Prod.snd (Prod.snd x))))))))
                              (Prod.snd (Prod.snd (Prod.snd (Prod.snd (Prod.snd (Prod.snd (Prod.snd (Prod.snd x)))))))))
                            (J
                              (decide
                                ((2 : UInt8) <
                                  Prod.snd
                                    (Prod.snd (Prod.snd (Prod.snd (Prod.snd (Prod.snd (Prod.snd (Prod.snd x)))))))))
                              (Prod.fst x) (Prod.fst (Prod.snd x)) (Prod.fst (Prod.snd (Prod.snd x)))
                              (Prod.fst (Prod.snd (Prod.snd (Prod.snd x))))
                              (Prod.fst (Prod.snd (Prod.snd (Prod.snd (Prod.snd x)))))
                              (Prod.fst (Prod.snd (Prod.snd (Prod.snd (Prod.snd (Prod.snd x))))))
                              (Prod.fst (Prod.snd (Prod.snd (Prod.snd (Prod.snd (Prod.snd (Prod.snd x)))))))
                              (Prod.fst (Prod.snd (Prod.snd (Prod.snd (Prod.snd (Prod.snd (Prod.snd (Prod.snd x))))))))
                              (Prod.snd
                                (Prod.snd (Prod.snd (Prod.snd (Prod.snd (Prod.snd (Prod.snd (Prod.snd x))))))))))
                          (J
                            (decide
                              ((2 : UInt8) <
                                Prod.snd
                                  (Prod.snd (Prod.snd (Prod.snd (Prod.snd (Prod.snd (Prod.snd (Prod.snd x)))))))))
                            (Prod.fst x) (Prod.fst (Prod.snd x)) (Prod.fst (Prod.snd (Prod.snd x)))
                            (Prod.fst (Prod.snd (Prod.snd (Prod.snd x))))
                            (Prod.fst (Prod.snd (Prod.snd (Prod.snd (Prod.snd x)))))
                            (Prod.fst (Prod.snd (Prod.snd (Prod.snd (Prod.snd (Prod.snd x))))))
                            (Prod.fst (Prod.snd (Prod.snd (Prod.snd (Prod.snd (Prod.snd (Prod.snd x)))))))
                            (Prod.fst (Prod.snd (Prod.snd (Prod.snd (Prod.snd (Prod.snd (Prod.snd (Prod.snd x))))))))
                            (Prod.snd (Prod.snd (Prod.snd (Prod.snd (Prod.snd (Prod.snd (Prod.snd (Prod.snd x))))))))))
                      (F32_J111 n)))))))
theorem ok32 (n : Nat) : FunOK Try.prog ⟨32, sig32, F32 n⟩ :=
  fun_ok (hints := ⟨[(111, ⟨[(1, .one (.own 1)), (34, .one (.bool))], [(1, .cells [.int .u8, .int .u64, .int .u64, .str, .ro (.cons .str (.cons .str .nil)), .int .u8, .int .u8, .int .i64, .int .u8])], 2⟩)], []⟩) (fuel := n) (c := Try.f32.body.getD .skip) (rs := Try.f32.results.toList) tt_ok mix (FsOK.cons (ok36 n) (FsOK.cons (ok37 n) (FsOK.cons (ok38 n) (FsOK.cons (ok1039 n) (FsOK.cons (ok39 n) (FsOK.nil)))))) Try.func32 (by kernel_rfl) (by kernel_rfl) rfl (by kernel_rfl) rfl rfl (by kernel_rfl)
-- watchfire/item.event
def sig1032 : Sig := ⟨(.cons (.oagg (.cons (.c (.int .u8)) (.cons (.c (.int .u64)) (.cons (.c (.int .u64)) (.cons (.c .str) (.cons (.row (.cons .str (.cons .str .nil))) (.cons (.c (.int .u8)) (.cons (.c (.int .u8)) (.cons (.c (.int .i64)) (.cons (.c (.int .u8)) .nil)))))))))) .nil), (.cons (.one (.c (.int .i64))) .nil)⟩
def F1032_J111 : Nat →
  Bool →
    List (List UInt8 × List UInt8) →
      UInt8 →
        UInt64 → UInt64 → List UInt8 → UInt8 → UInt8 → Int64 → UInt8 → Option (Int64 × List (List UInt8 × List UInt8)) := fun (n : Nat) (t : Bool) (vl : List (List UInt8 × List UInt8)) (v0 : UInt8) (v1 v2 : UInt64) (v3 : List UInt8)
    (v5 v6 : UInt8) (v7 : Int64) (v8 : UInt8) =>
  oite t (some ((12 : Int64), vl))
    (obind (F38 n v3) fun (x_4 : Bool × Unit) =>
      oite (!(!decide (v8 = (0 : UInt8))) == Prod.fst x_4) (some ((27 : Int64), vl))
        (obind (F1039 n vl) fun (x_5 : Int64 × List (List UInt8 × List UInt8)) => some (Prod.fst x_5, Prod.snd x_5)))
def F1032 : Nat →
  UInt8 × UInt64 × UInt64 × List UInt8 × List (List UInt8 × List UInt8) × UInt8 × UInt8 × Int64 × UInt8 →
    Option (Int64 × List (List UInt8 × List UInt8)) := fun (n : Nat)
    (x : UInt8 × UInt64 × UInt64 × List UInt8 × List (List UInt8 × List UInt8) × UInt8 × UInt8 × Int64 × UInt8) =>
  oite (decide ((32 : UInt8) ≤ Prod.fst x)) (some ((6 : Int64), Prod.fst (Prod.snd (Prod.snd (Prod.snd (Prod.snd x))))))
    (oite (decide (Prod.fst (Prod.snd x) < (1 : UInt64)))
      (some ((6 : Int64), Prod.fst (Prod.snd (Prod.snd (Prod.snd (Prod.snd x))))))
      (obind (F36 n (Prod.fst (Prod.snd x))) fun (x_1 : Bool × Unit) =>
        oite (!Prod.fst x_1) (some ((6 : Int64), Prod.fst (Prod.snd (Prod.snd (Prod.snd (Prod.snd x))))))
          (obind (F36 n (Prod.fst (Prod.snd (Prod.snd x)))) fun (x_2 : Bool × Unit) =>
            oite (!Prod.fst x_2) (some ((6 : Int64), Prod.fst (Prod.snd (Prod.snd (Prod.snd (Prod.snd x))))))
              (oite
                (decide ((7 : UInt8) < Prod.fst (Prod.snd (Prod.snd (Prod.snd (Prod.snd (Prod.snd (Prod.snd x))))))))
                (some ((6 : Int64), Prod.fst (Prod.snd (Prod.snd (Prod.snd (Prod.snd x))))))
                (obind (F37 n (Prod.fst (Prod.snd (Prod.snd (Prod.snd x))))) fun (x_3 : Bool × Unit) =>
                  oite (!Prod.fst x_3) (some ((8 : Int64), Prod.fst (Prod.snd (Prod.snd (Prod.snd (Prod.snd x))))))
                    (ojoinA (111 : Nat)
                      [PT.bool, PT.list (CTs.cons CT.str (CTs.cons CT.str CTs.nil)), PT.int IntKind.u8,
                        PT.int IntKind.u64, PT.int IntKind.u64, PT.bytes, PT.int IntKind.u8, PT.int IntKind.u8,
                        PT.int IntKind.i64, PT.int IntKind.u8]
                      (fun
                          (J :
                            Arr
                              [PT.bool, PT.list (CTs.cons CT.str (CTs.cons CT.str CTs.nil)), PT.int IntKind.u8,
                                PT.int IntKind.u64, PT.int IntKind.u64, PT.bytes, PT.int IntKind.u8, PT.int IntKind.u8,
                                PT.int IntKind.i64, PT.int IntKind.u8]
                              (Option (Int64 × List (List UInt8 × List UInt8)))) =>
                        oite (!decide (Prod.fst (Prod.snd (Prod.snd (Prod.snd (Prod.snd (Prod.snd x))))) = (0 : UInt8)))
                          (oite
                            (!decide (Prod.fst (Prod.snd (Prod.snd (Prod.snd (Prod.snd (Prod.snd x))))) = (2 : UInt8)))
                            (J true (Prod.fst (Prod.snd (Prod.snd (Prod.snd (Prod.snd x))))) (Prod.fst x)
                              (Prod.fst (Prod.snd x)) (Prod.fst (Prod.snd (Prod.snd x)))
                              (Prod.fst (Prod.snd (Prod.snd (Prod.snd x))))
                              (Prod.fst (Prod.snd (Prod.snd (Prod.snd (Prod.snd (Prod.snd x))))))
                              (Prod.fst (Prod.snd (Prod.snd (Prod.snd (Prod.snd (Prod.snd (Prod.snd x)))))))
                              (Prod.fst (Prod.snd (Prod.snd (Prod.snd (Prod.snd (Prod.snd (Prod.snd (Prod.snd x))))))))
                              (Prod.snd (Prod.snd (Prod.snd (Prod.snd (Prod.snd (Prod.snd (Prod.snd (Prod.snd x)))))))))
                            (J
                              (decide
                                ((2 : UInt8) <
                                  Prod.snd
                                    (Prod.snd (Prod.snd (Prod.snd (Prod.snd (Prod.snd (Prod.snd (Prod.snd x)))))))))
                              (Prod.fst (Prod.snd (Prod.snd (Prod.snd (Prod.snd x))))) (Prod.fst x)
                              (Prod.fst (Prod.snd x)) (Prod.fst (Prod.snd (Prod.snd x)))
                              (Prod.fst (Prod.snd (Prod.snd (Prod.snd x))))
                              (Prod.fst (Prod.snd (Prod.snd (Prod.snd (Prod.snd (Prod.snd x))))))
                              (Prod.fst (Prod.snd (Prod.snd (Prod.snd (Prod.snd (Prod.snd (Prod.snd x)))))))
                              (Prod.fst (Prod.snd (Prod.snd (Prod.snd (Prod.snd (Prod.snd (Prod.snd (Prod.snd x))))))))
                              (Prod.snd
                                (Prod.snd (Prod.snd (Prod.snd (Prod.snd (Prod.snd (Prod.snd (Prod.snd x))))))))))
                          (J
                            (decide
                              ((2 : UInt8) <
                                Prod.snd
                                  (Prod.snd (Prod.snd (Prod.snd (Prod.snd (Prod.snd (Prod.snd (Prod.snd x)))))))))
                            (Prod.fst (Prod.snd (Prod.snd (Prod.snd (Prod.snd x))))) (Prod.fst x)
                            (Prod.fst (Prod.snd x)) (Prod.fst (Prod.snd (Prod.snd x)))
                            (Prod.fst (Prod.snd (Prod.snd (Prod.snd x))))
                            (Prod.fst (Prod.snd (Prod.snd (Prod.snd (Prod.snd (Prod.snd x))))))
                            (Prod.fst (Prod.snd (Prod.snd (Prod.snd (Prod.snd (Prod.snd (Prod.snd x)))))))
                            (Prod.fst (Prod.snd (Prod.snd (Prod.snd (Prod.snd (Prod.snd (Prod.snd (Prod.snd x))))))))
                            (Prod.snd (Prod.snd (Prod.snd (Prod.snd (Prod.snd (Prod.snd (Prod.snd (Prod.snd x))))))))))
                      (F1032_J111 n)))))))
theorem ok1032 (n : Nat) : FunOK Try.prog ⟨32, sig1032, F1032 n⟩ :=
  fun_ok (hints := ⟨[(111, ⟨[(1, .one (.own 10)), (34, .one (.bool))], [(4, .row (.cons .str (.cons .str .nil))), (10, .cells [.int .u8, .int .u64, .int .u64, .str, .own 4, .int .u8, .int .u8, .int .i64, .int .u8])], 11⟩)], []⟩) (fuel := n) (c := Try.f32.body.getD .skip) (rs := Try.f32.results.toList) tt_ok mix (FsOK.cons (ok36 n) (FsOK.cons (ok37 n) (FsOK.cons (ok38 n) (FsOK.cons (ok1039 n) (FsOK.cons (ok39 n) (FsOK.nil)))))) Try.func32 (by kernel_rfl) (by kernel_rfl) rfl (by kernel_rfl) rfl rfl (by kernel_rfl)
-- watchfire/item.Check
def sig24 : Sig := ⟨(.cons (.agg (.cons .bool (.cons (.int .u8) (.cons (.int .u64) (.cons (.int .u64) (.cons .str (.cons (.ro (.cons .str (.cons .str .nil))) (.cons (.int .u8) (.cons (.int .u8) (.cons (.int .i64) (.cons (.int .u8) (.cons (.int .u8) (.cons (.int .u64) (.cons (.int .u64) .nil)))))))))))))) .nil), (.cons (.one (.c (.int .i64))) .nil)⟩
def F24 : Nat →
  Bool ×
      UInt8 ×
        UInt64 ×
          UInt64 ×
            List UInt8 × List (List UInt8 × List UInt8) × UInt8 × UInt8 × Int64 × UInt8 × UInt8 × UInt64 × UInt64 →
    Option (Int64 × Unit) := fun (n : Nat)
    (x :
      Bool ×
        UInt8 ×
          UInt64 ×
            UInt64 ×
              List UInt8 × List (List UInt8 × List UInt8) × UInt8 × UInt8 × Int64 × UInt8 × UInt8 × UInt64 × UInt64) =>
  oite (Prod.fst x)
    (obind
      (F31 n
        (Prod.fst
            (Prod.snd
              (Prod.snd (Prod.snd (Prod.snd (Prod.snd (Prod.snd (Prod.snd (Prod.snd (Prod.snd (Prod.snd x)))))))))),
          Prod.fst
            (Prod.snd
              (Prod.snd
                (Prod.snd (Prod.snd (Prod.snd (Prod.snd (Prod.snd (Prod.snd (Prod.snd (Prod.snd (Prod.snd x))))))))))),
          Prod.snd
            (Prod.snd
              (Prod.snd
                (Prod.snd (Prod.snd (Prod.snd (Prod.snd (Prod.snd (Prod.snd (Prod.snd (Prod.snd (Prod.snd x)))))))))))))
      fun (x_1 : Int64 × Unit) => some (Prod.fst x_1, ()))
    (obind
      (F32 n
        (Prod.fst (Prod.snd x), Prod.fst (Prod.snd (Prod.snd x)), Prod.fst (Prod.snd (Prod.snd (Prod.snd x))),
          Prod.fst (Prod.snd (Prod.snd (Prod.snd (Prod.snd x)))),
          Prod.fst (Prod.snd (Prod.snd (Prod.snd (Prod.snd (Prod.snd x))))),
          Prod.fst (Prod.snd (Prod.snd (Prod.snd (Prod.snd (Prod.snd (Prod.snd x)))))),
          Prod.fst (Prod.snd (Prod.snd (Prod.snd (Prod.snd (Prod.snd (Prod.snd (Prod.snd x))))))),
          Prod.fst (Prod.snd (Prod.snd (Prod.snd (Prod.snd (Prod.snd (Prod.snd (Prod.snd (Prod.snd x)))))))),
          Prod.fst
            (Prod.snd (Prod.snd (Prod.snd (Prod.snd (Prod.snd (Prod.snd (Prod.snd (Prod.snd (Prod.snd x)))))))))))
      fun (x_1 : Int64 × Unit) => some (Prod.fst x_1, ()))
theorem ok24 (n : Nat) : FunOK Try.prog ⟨24, sig24, F24 n⟩ :=
  fun_ok (hints := ⟨[], []⟩) (fuel := n) (c := Try.f24.body.getD .skip) (rs := Try.f24.results.toList) tt_ok mix (FsOK.cons (ok31 n) (FsOK.cons (ok1032 n) (FsOK.cons (ok32 n) (FsOK.nil)))) Try.func24 (by kernel_rfl) (by kernel_rfl) rfl (by kernel_rfl) rfl rfl (by kernel_rfl)
-- watchfire/item.Check
def sig1024 : Sig := ⟨(.cons (.oagg (.cons (.c .bool) (.cons (.c (.int .u8)) (.cons (.c (.int .u64)) (.cons (.c (.int .u64)) (.cons (.c .str) (.cons (.row (.cons .str (.cons .str .nil))) (.cons (.c (.int .u8)) (.cons (.c (.int .u8)) (.cons (.c (.int .i64)) (.cons (.c (.int .u8)) (.cons (.c (.int .u8)) (.cons (.c (.int .u64)) (.cons (.c (.int .u64)) .nil)))))))))))))) .nil), (.cons (.one (.c (.int .i64))) .nil)⟩
def F1024 : Nat →
  Bool ×
      UInt8 ×
        UInt64 ×
          UInt64 ×
            List UInt8 × List (List UInt8 × List UInt8) × UInt8 × UInt8 × Int64 × UInt8 × UInt8 × UInt64 × UInt64 →
    Option (Int64 × List (List UInt8 × List UInt8)) := fun (n : Nat)
    (x :
      Bool ×
        UInt8 ×
          UInt64 ×
            UInt64 ×
              List UInt8 × List (List UInt8 × List UInt8) × UInt8 × UInt8 × Int64 × UInt8 × UInt8 × UInt64 × UInt64) =>
  oite (Prod.fst x)
    (obind
      (F31 n
        (Prod.fst
            (Prod.snd
              (Prod.snd (Prod.snd (Prod.snd (Prod.snd (Prod.snd (Prod.snd (Prod.snd (Prod.snd (Prod.snd x)))))))))),
          Prod.fst
            (Prod.snd
              (Prod.snd
                (Prod.snd (Prod.snd (Prod.snd (Prod.snd (Prod.snd (Prod.snd (Prod.snd (Prod.snd (Prod.snd x))))))))))),
          Prod.snd
            (Prod.snd
              (Prod.snd
                (Prod.snd (Prod.snd (Prod.snd (Prod.snd (Prod.snd (Prod.snd (Prod.snd (Prod.snd (Prod.snd x)))))))))))))
      fun (x_1 : Int64 × Unit) =>
      some (Prod.fst x_1, Prod.fst (Prod.snd (Prod.snd (Prod.snd (Prod.snd (Prod.snd x)))))))
    (obind
      (F1032 n
        (Prod.fst (Prod.snd x), Prod.fst (Prod.snd (Prod.snd x)), Prod.fst (Prod.snd (Prod.snd (Prod.snd x))),
          Prod.fst (Prod.snd (Prod.snd (Prod.snd (Prod.snd x)))),
          Prod.fst (Prod.snd (Prod.snd (Prod.snd (Prod.snd (Prod.snd x))))),
          Prod.fst (Prod.snd (Prod.snd (Prod.snd (Prod.snd (Prod.snd (Prod.snd x)))))),
          Prod.fst (Prod.snd (Prod.snd (Prod.snd (Prod.snd (Prod.snd (Prod.snd (Prod.snd x))))))),
          Prod.fst (Prod.snd (Prod.snd (Prod.snd (Prod.snd (Prod.snd (Prod.snd (Prod.snd (Prod.snd x)))))))),
          Prod.fst
            (Prod.snd (Prod.snd (Prod.snd (Prod.snd (Prod.snd (Prod.snd (Prod.snd (Prod.snd (Prod.snd x)))))))))))
      fun (x_1 : Int64 × List (List UInt8 × List UInt8)) => some (Prod.fst x_1, Prod.snd x_1))
theorem ok1024 (n : Nat) : FunOK Try.prog ⟨24, sig1024, F1024 n⟩ :=
  fun_ok (hints := ⟨[], []⟩) (fuel := n) (c := Try.f24.body.getD .skip) (rs := Try.f24.results.toList) tt_ok mix (FsOK.cons (ok31 n) (FsOK.cons (ok1032 n) (FsOK.cons (ok32 n) (FsOK.nil)))) Try.func24 (by kernel_rfl) (by kernel_rfl) rfl (by kernel_rfl) rfl rfl (by kernel_rfl)
-- watchfire/item.Clone
def sig25 : Sig := ⟨(.cons (.agg (.cons .bool (.cons (.int .u8) (.cons (.int .u64) (.cons (.int .u64) (.cons .str (.cons (.ro (.cons .str (.cons .str .nil))) (.cons (.int .u8) (.cons (.int .u8) (.cons (.int .i64) (.cons (.int .u8) (.cons (.int .u8) (.cons (.int .u64) (.cons (.int .u64) .nil)))))))))))))) .nil), (.cons (.oagg (.cons (.c .bool) (.cons (.c (.int .u8)) (.cons (.c (.int .u64)) (.cons (.c (.int .u64)) (.cons (.c .str) (.cons (.row (.cons .str (.cons .str .nil))) (.cons (.c (.int .u8)) (.cons (.c (.int .u8)) (.cons (.c (.int .i64)) (.cons (.c (.int .u8)) (.cons (.c (.int .u8)) (.cons (.c (.int .u64)) (.cons (.c (.int .u64)) .nil)))))))))))))) .nil)⟩
def F25 : Nat →
  Bool ×
      UInt8 ×
        UInt64 ×
          UInt64 ×
            List UInt8 × List (List UInt8 × List UInt8) × UInt8 × UInt8 × Int64 × UInt8 × UInt8 × UInt64 × UInt64 →
    Option
      ((Bool ×
          UInt8 ×
            UInt64 ×
              UInt64 ×
                List UInt8 × List (List UInt8 × List UInt8) × UInt8 × UInt8 × Int64 × UInt8 × UInt8 × UInt64 × UInt64) ×
        Unit) := fun (n : Nat)
    (x :
      Bool ×
        UInt8 ×
          UInt64 ×
            UInt64 ×
              List UInt8 × List (List UInt8 × List UInt8) × UInt8 × UInt8 × Int64 × UInt8 × UInt8 × UInt64 × UInt64) =>
  oite
    (Nat.ble ((0 : Nat) + List.length (Prod.fst (Prod.snd (Prod.snd (Prod.snd (Prod.snd (Prod.snd x)))))))
      (4294967296 : Nat))
    (some
      ((Prod.fst x, Prod.fst (Prod.snd x), Prod.fst (Prod.snd (Prod.snd x)),
          Prod.fst (Prod.snd (Prod.snd (Prod.snd x))), Prod.fst (Prod.snd (Prod.snd (Prod.snd (Prod.snd x)))),
          [] ++ Prod.fst (Prod.snd (Prod.snd (Prod.snd (Prod.snd (Prod.snd x))))),
          Prod.fst (Prod.snd (Prod.snd (Prod.snd (Prod.snd (Prod.snd (Prod.snd x)))))),
          Prod.fst (Prod.snd (Prod.snd (Prod.snd (Prod.snd (Prod.snd (Prod.snd (Prod.snd x))))))),
          Prod.fst (Prod.snd (Prod.snd (Prod.snd (Prod.snd (Prod.snd (Prod.snd (Prod.snd (Prod.snd x)))))))),
          Prod.fst (Prod.snd (Prod.snd (Prod.snd (Prod.snd (Prod.snd (Prod.snd (Prod.snd (Prod.snd (Prod.snd x))))))))),
          Prod.fst
            (Prod.snd
              (Prod.snd (Prod.snd (Prod.snd (Prod.snd (Prod.snd (Prod.snd (Prod.snd (Prod.snd (Prod.snd x)))))))))),
          Prod.fst
            (Prod.snd
              (Prod.snd
                (Prod.snd (Prod.snd (Prod.snd (Prod.snd (Prod.snd (Prod.snd (Prod.snd (Prod.snd (Prod.snd x))))))))))),
          Prod.snd
            (Prod.snd
              (Prod.snd
                (Prod.snd (Prod.snd (Prod.snd (Prod.snd (Prod.snd (Prod.snd (Prod.snd (Prod.snd (Prod.snd x)))))))))))),
        ()))
    none
theorem ok25 (n : Nat) : FunOK Try.prog ⟨25, sig25, F25 n⟩ :=
  fun_ok (hints := ⟨[], []⟩) (fuel := n) (c := Try.f25.body.getD .skip) (rs := Try.f25.results.toList) tt_ok mix (FsOK.nil) Try.func25 (by kernel_rfl) (by kernel_rfl) rfl (by kernel_rfl) rfl rfl (by kernel_rfl)
-- watchfire/item.Clone
def sig1025 : Sig := ⟨(.cons (.oagg (.cons (.c .bool) (.cons (.c (.int .u8)) (.cons (.c (.int .u64)) (.cons (.c (.int .u64)) (.cons (.c .str) (.cons (.row (.cons .str (.cons .str .nil))) (.cons (.c (.int .u8)) (.cons (.c (.int .u8)) (.cons (.c (.int .i64)) (.cons (.c (.int .u8)) (.cons (.c (.int .u8)) (.cons (.c (.int .u64)) (.cons (.c (.int .u64)) .nil)))))))))))))) .nil), (.cons (.oagg (.cons (.c .bool) (.cons (.c (.int .u8)) (.cons (.c (.int .u64)) (.cons (.c (.int .u64)) (.cons (.c .str) (.cons (.row (.cons .str (.cons .str .nil))) (.cons (.c (.int .u8)) (.cons (.c (.int .u8)) (.cons (.c (.int .i64)) (.cons (.c (.int .u8)) (.cons (.c (.int .u8)) (.cons (.c (.int .u64)) (.cons (.c (.int .u64)) .nil)))))))))))))) .nil)⟩
def F1025 : Nat →
  Bool ×
      UInt8 ×
        UInt64 ×
          UInt64 ×
            List UInt8 × List (List UInt8 × List UInt8) × UInt8 × UInt8 × Int64 × UInt8 × UInt8 × UInt64 × UInt64 →
    Option
      ((Bool ×
          UInt8 ×
            UInt64 ×
              UInt64 ×
                List UInt8 × List (List UInt8 × List UInt8) × UInt8 × UInt8 × Int64 × UInt8 × UInt8 × UInt64 × UInt64) ×
        List (List UInt8 × List UInt8)) := fun (n : Nat)
    (x :
      Bool ×
        UInt8 ×
          UInt64 ×
            UInt64 ×
              List UInt8 × List (List UInt8 × List UInt8) × UInt8 × UInt8 × Int64 × UInt8 × UInt8 × UInt64 × UInt64) =>
  oite
    (Nat.ble ((0 : Nat) + List.length (Prod.fst (Prod.snd (Prod.snd (Prod.snd (Prod.snd (Prod.snd x)))))))
      (4294967296 : Nat))
    (some
      ((Prod.fst x, Prod.fst (Prod.snd x), Prod.fst (Prod.snd (Prod.snd x)),
          Prod.fst (Prod.snd (Prod.snd (Prod.snd x))), Prod.fst (Prod.snd (Prod.snd (Prod.snd (Prod.snd x)))),
          [] ++ Prod.fst (Prod.snd (Prod.snd (Prod.snd (Prod.snd (Prod.snd x))))),
          Prod.fst (Prod.snd (Prod.snd (Prod.snd (Prod.snd (Prod.snd (Prod.snd x)))))),
          Prod.fst (Prod.snd (Prod.snd (Prod.snd (Prod.snd (Prod.snd (Prod.snd (Prod.snd x))))))),
          Prod.fst (Prod.snd (Prod.snd (Prod.snd (Prod.snd (Prod.snd (Prod.snd (Prod.snd (Prod.snd x)))))))),
          Prod.fst (Prod.snd (Prod.snd (Prod.snd (Prod.snd (Prod.snd (Prod.snd (Prod.snd (Prod.snd (Prod.snd x))))))))),
          Prod.fst
            (Prod.snd
              (Prod.snd (Prod.snd (Prod.snd (Prod.snd (Prod.snd (Prod.snd (Prod.snd (Prod.snd (Prod.snd x)))))))))),
          Prod.fst
            (Prod.snd
              (Prod.snd
                (Prod.snd (Prod.snd (Prod.snd (Prod.snd (Prod.snd (Prod.snd (Prod.snd (Prod.snd (Prod.snd x))))))))))),
          Prod.snd
            (Prod.snd
              (Prod.snd
                (Prod.snd (Prod.snd (Prod.snd (Prod.snd (Prod.snd (Prod.snd (Prod.snd (Prod.snd (Prod.snd x)))))))))))),
        Prod.fst (Prod.snd (Prod.snd (Prod.snd (Prod.snd (Prod.snd x)))))))
    none
theorem ok1025 (n : Nat) : FunOK Try.prog ⟨25, sig1025, F1025 n⟩ :=
  fun_ok (hints := ⟨[], []⟩) (fuel := n) (c := Try.f25.body.getD .skip) (rs := Try.f25.results.toList) tt_ok mix (FsOK.nil) Try.func25 (by kernel_rfl) (by kernel_rfl) rfl (by kernel_rfl) rfl rfl (by kernel_rfl)
-- (*watchfire/recv.Receiver).Take
def sig10 : Sig := ⟨(.cons (.one (.ptr (.cons (.c (.int .i64)) (.cons (.c (.int .u64)) (.cons (.map (.one (.int .u64)) (.agg (.cons .bool (.cons (.int .u8) (.cons (.int .u64) (.cons (.int .u64) (.cons .str (.cons (.ro (.cons .str (.cons .str .nil))) (.cons (.int .u8) (.cons (.int .u8) (.cons (.int .i64) (.cons (.int .u8) (.cons (.int .u8) (.cons (.int .u64) (.cons (.int .u64) .nil))))))))))))))) (.cons (.c (.int .u64)) .nil)))))) (.cons (.one (.c (.int .u64))) (.cons (.agg (.cons .bool (.cons (.int .u8) (.cons (.int .u64) (.cons (.int .u64) (.cons .str (.cons (.ro (.cons .str (.cons .str .nil))) (.cons (.int .u8) (.cons (.int .u8) (.cons (.int .i64) (.cons (.int .u8) (.cons (.int .u8) (.cons (.int .u64) (.cons (.int .u64) .nil)))))))))))))) .nil))), (.cons (.one (.c (.int .i64))) .nil)⟩
def F10_J27 : Nat →
  UInt64 →
    Bool →
      Option
          (Int64 ×
            UInt64 ×
              List
                  (UInt64 ×
                    Bool ×
                      UInt8 ×
                        UInt64 ×
                          UInt64 ×
                            List UInt8 ×
                              List (List UInt8 × List UInt8) ×
                                UInt8 × UInt8 × Int64 × UInt8 × UInt8 × UInt64 × UInt64) ×
                UInt64) →
        Bool →
          UInt8 →
            UInt64 →
              UInt64 →
                List UInt8 →
                  List (List UInt8 × List UInt8) →
                    UInt8 →
                      UInt8 →
                        Int64 →
                          UInt8 →
                            UInt8 →
                              UInt64 →
                                UInt64 →
                                  Option
                                    (Int64 ×
                                      Option
                                        (Int64 ×
                                          UInt64 ×
                                            List
                                                (UInt64 ×
                                                  Bool ×
                                                    UInt8 ×
                                                      UInt64 ×
                                                        UInt64 ×
                                                          List UInt8 ×
                                                            List (List UInt8 × List UInt8) ×
                                                              UInt8 × UInt8 × Int64 × UInt8 × UInt8 × UInt64 × UInt64) ×
                                              UInt64)) := fun (n : Nat) (seq : UInt64) (t : Bool)
    (r :
      Option
        (Int64 ×
          UInt64 ×
            List
                (UInt64 ×
                  Bool ×
                    UInt8 ×
                      UInt64 ×
                        UInt64 ×
                          List UInt8 ×
                            List (List UInt8 × List UInt8) × UInt8 × UInt8 × Int64 × UInt8 × UInt8 × UInt64 × UInt64) ×
              UInt64))
    (x0 : Bool) (x1 : UInt8) (x2 x3 : UInt64) (x4 : List UInt8) (x5 : List (List UInt8 × List UInt8)) (x6 x7 : UInt8)
    (x8 : Int64) (x9 x10 : UInt8) (x11 x12 : UInt64) =>
  oite t
    (obind r
      fun
        (x_2 :
          Int64 ×
            UInt64 ×
              List
                  (UInt64 ×
                    Bool ×
                      UInt8 ×
                        UInt64 ×
                          UInt64 ×
                            List UInt8 ×
                              List (List UInt8 × List UInt8) ×
                                UInt8 × UInt8 × Int64 × UInt8 × UInt8 × UInt64 × UInt64) ×
                UInt64) =>
      some
        ((17 : Int64),
          some
            (Prod.fst x_2, Prod.fst (Prod.snd x_2), Prod.fst (Prod.snd (Prod.snd x_2)),
              Prod.snd (Prod.snd (Prod.snd x_2)) + (1 : UInt64))))
    (obind r
      fun
        (x_2 :
          Int64 ×
            UInt64 ×
              List
                  (UInt64 ×
                    Bool ×
                      UInt8 ×
                        UInt64 ×
                          UInt64 ×
                            List UInt8 ×
                              List (List UInt8 × List UInt8) ×
                                UInt8 × UInt8 × Int64 × UInt8 × UInt8 × UInt64 × UInt64) ×
                UInt64) =>
      oite (decide (UInt64.ofInt (Int64.toInt (Prod.fst x_2)) ≤ seq - Prod.fst (Prod.snd x_2)))
        (some
          ((19 : Int64),
            some
              (Prod.fst x_2, Prod.fst (Prod.snd x_2), Prod.fst (Prod.snd (Prod.snd x_2)),
                Prod.snd (Prod.snd (Prod.snd x_2)))))
        (obind (F24 n (x0, x1, x2, x3, x4, x5, x6, x7, x8, x9, x10, x11, x12)) fun (x_3 : Int64 × Unit) =>
          oite (!decide (Prod.fst x_3 = (0 : Int64)))
            (some
              (Prod.fst x_3,
                some
                  (Prod.fst x_2, Prod.fst (Prod.snd x_2), Prod.fst (Prod.snd (Prod.snd x_2)),
                    Prod.snd (Prod.snd (Prod.snd x_2)))))
            (obind (F25 n (x0, x1, x2, x3, x4, x5, x6, x7, x8, x9, x10, x11, x12))
              fun
                (x_4 :
                  (Bool ×
                      UInt8 ×
                        UInt64 ×
                          UInt64 ×
                            List UInt8 ×
                              List (List UInt8 × List UInt8) ×
                                UInt8 × UInt8 × Int64 × UInt8 × UInt8 × UInt64 × UInt64) ×
                    Unit) =>
              some
                ((0 : Int64),
                  some
                    (Prod.fst x_2, Prod.fst (Prod.snd x_2),
                      mput (VT.one (CT.int IntKind.u64))
                        (VT.agg
                          (CTs.cons CT.bool
                            (CTs.cons (CT.int IntKind.u8)
                              (CTs.cons (CT.int IntKind.u64)
                                (CTs.cons (CT.int IntKind.u64)
                                  (CTs.cons CT.str
                                    (CTs.cons (CT.ro (CTs.cons CT.str (CTs.cons CT.str CTs.nil)))
                                      (CTs.cons (CT.int IntKind.u8)
                                        (CTs.cons (CT.int IntKind.u8)
                                          (CTs.cons (CT.int IntKind.i64)
                                            (CTs.cons (CT.int IntKind.u8)
                                              (CTs.cons (CT.int IntKind.u8)
                                                (CTs.cons (CT.int IntKind.u64)
                                                  (CTs.cons (CT.int IntKind.u64) CTs.nil))))))))))))))
                        seq
                        (Prod.fst (Prod.fst x_4), Prod.fst (Prod.snd (Prod.fst x_4)),
                          Prod.fst (Prod.snd (Prod.snd (Prod.fst x_4))),
                          Prod.fst (Prod.snd (Prod.snd (Prod.snd (Prod.fst x_4)))),
                          Prod.fst (Prod.snd (Prod.snd (Prod.snd (Prod.snd (Prod.fst x_4))))),
                          Prod.fst (Prod.snd (Prod.snd (Prod.snd (Prod.snd (Prod.snd (Prod.fst x_4)))))),
                          Prod.fst (Prod.snd (Prod.snd (Prod.snd (Prod.snd (Prod.snd (Prod.snd (Prod.fst x_4))))))),
                          Prod.fst
                            (Prod.snd (Prod.snd (Prod.snd (Prod.snd (Prod.snd (Prod.snd (Prod.snd (Prod.fst x_4)))))))),
                          Prod.fst
                            (Prod.snd
                              (Prod.snd
                                (Prod.snd (Prod.snd (Prod.snd (Prod.snd (Prod.snd (Prod.snd (Prod.fst x_4))))))))),
                          Prod.fst
                            (Prod.snd
                              (Prod.snd
                                (Prod.snd
                                  (Prod.snd (Prod.snd (Prod.snd (Prod.snd (Prod.snd (Prod.snd (Prod.fst x_4)))))))))),
                          Prod.fst
                            (Prod.snd
                              (Prod.snd
                                (Prod.snd
                                  (Prod.snd
                                    (Prod.snd
                                      (Prod.snd (Prod.snd (Prod.snd (Prod.snd (Prod.snd (Prod.fst x_4))))))))))),
                          Prod.fst
                            (Prod.snd
                              (Prod.snd
                                (Prod.snd
                                  (Prod.snd
                                    (Prod.snd
                                      (Prod.snd
                                        (Prod.snd (Prod.snd (Prod.snd (Prod.snd (Prod.snd (Prod.fst x_4)))))))))))),
                          Prod.snd
                            (Prod.snd
                              (Prod.snd
                                (Prod.snd
                                  (Prod.snd
                                    (Prod.snd
                                      (Prod.snd
                                        (Prod.snd (Prod.snd (Prod.snd (Prod.snd (Prod.snd (Prod.fst x_4)))))))))))))
                        (Prod.fst (Prod.snd (Prod.snd x_2))),
                      Prod.snd (Prod.snd (Prod.snd x_2)))))))
def F10 : Nat →
  Option
        (Int64 ×
          UInt64 ×
            List
                (UInt64 ×
                  Bool ×
                    UInt8 ×
                      UInt64 ×
                        UInt64 ×
                          List UInt8 ×
                            List (List UInt8 × List UInt8) × UInt8 × UInt8 × Int64 × UInt8 × UInt8 × UInt64 × UInt64) ×
              UInt64) ×
      UInt64 ×
        Bool ×
          UInt8 ×
            UInt64 ×
              UInt64 ×
                List UInt8 × List (List UInt8 × List UInt8) × UInt8 × UInt8 × Int64 × UInt8 × UInt8 × UInt64 × UInt64 →
    Option
      (Int64 ×
        Option
          (Int64 ×
            UInt64 ×
              List
                  (UInt64 ×
                    Bool ×
                      UInt8 ×
                        UInt64 ×
                          UInt64 ×
                            List UInt8 ×
                              List (List UInt8 × List UInt8) ×
                                UInt8 × UInt8 × Int64 × UInt8 × UInt8 × UInt64 × UInt64) ×
                UInt64)) := fun (n : Nat)
    (x :
      Option
          (Int64 ×
            UInt64 ×
              List
                  (UInt64 ×
                    Bool ×
                      UInt8 ×
                        UInt64 ×
                          UInt64 ×
                            List UInt8 ×
                              List (List UInt8 × List UInt8) ×
                                UInt8 × UInt8 × Int64 × UInt8 × UInt8 × UInt64 × UInt64) ×
                UInt64) ×
        UInt64 ×
          Bool ×
            UInt8 ×
              UInt64 ×
                UInt64 ×
                  List UInt8 ×
                    List (List UInt8 × List UInt8) × UInt8 × UInt8 × Int64 × UInt8 × UInt8 × UInt64 × UInt64) =>
  oelim (Prod.fst x) (some ((1 : Int64), none))
    fun
      (x_1 :
        Int64 ×
          UInt64 ×
            List
                (UInt64 ×
                  Bool ×
                    UInt8 ×
                      UInt64 ×
                        UInt64 ×
                          List UInt8 ×
                            List (List UInt8 × List UInt8) × UInt8 × UInt8 × Int64 × UInt8 × UInt8 × UInt64 × UInt64) ×
              UInt64) =>
    ojoinA (27 : Nat)
      [PT.int IntKind.u64, PT.bool,
        PT.opt
          (OTs.cons (OT.c (CT.int IntKind.i64))
            (OTs.cons (OT.c (CT.int IntKind.u64))
              (OTs.cons
                (OT.map (VT.one (CT.int IntKind.u64))
                  (VT.agg
                    (CTs.cons CT.bool
                      (CTs.cons (CT.int IntKind.u8)
                        (CTs.cons (CT.int IntKind.u64)
                          (CTs.cons (CT.int IntKind.u64)
                            (CTs.cons CT.str
                              (CTs.cons (CT.ro (CTs.cons CT.str (CTs.cons CT.str CTs.nil)))
                                (CTs.cons (CT.int IntKind.u8)
                                  (CTs.cons (CT.int IntKind.u8)
                                    (CTs.cons (CT.int IntKind.i64)
                                      (CTs.cons (CT.int IntKind.u8)
                                        (CTs.cons (CT.int IntKind.u8)
                                          (CTs.cons (CT.int IntKind.u64)
                                            (CTs.cons (CT.int IntKind.u64) CTs.nil)))))))))))))))
                (OTs.cons (OT.c (CT.int IntKind.u64)) OTs.nil)))),
        PT.bool, PT.int IntKind.u8, PT.int IntKind.u64, PT.int IntKind.u64, PT.bytes,
        PT.list (CTs.cons CT.str (CTs.cons CT.str CTs.nil)), PT.int IntKind.u8, PT.int IntKind.u8, PT.int IntKind.i64,
        PT.int IntKind.u8, PT.int IntKind.u8, PT.int IntKind.u64, PT.int IntKind.u64]
      (fun
          (J :
            Arr
              [PT.int IntKind.u64, PT.bool,
                PT.opt
                  (OTs.cons (OT.c (CT.int IntKind.i64))
                    (OTs.cons (OT.c (CT.int IntKind.u64))
                      (OTs.cons
                        (OT.map (VT.one (CT.int IntKind.u64))
                          (VT.agg
                            (CTs.cons CT.bool
                              (CTs.cons (CT.int IntKind.u8)
                                (CTs.cons (CT.int IntKind.u64)
                                  (CTs.cons (CT.int IntKind.u64)
                                    (CTs.cons CT.str
                                      (CTs.cons (CT.ro (CTs.cons CT.str (CTs.cons CT.str CTs.nil)))
                                        (CTs.cons (CT.int IntKind.u8)
                                          (CTs.cons (CT.int IntKind.u8)
                                            (CTs.cons (CT.int IntKind.i64)
                                              (CTs.cons (CT.int IntKind.u8)
                                                (CTs.cons (CT.int IntKind.u8)
                                                  (CTs.cons (CT.int IntKind.u64)
                                                    (CTs.cons (CT.int IntKind.u64) CTs.nil)))))))))))))))
                        (OTs.cons (OT.c (CT.int IntKind.u64)) OTs.nil)))),
                PT.bool, PT.int IntKind.u8, PT.int IntKind.u64, PT.int IntKind.u64, PT.bytes,
                PT.list (CTs.cons CT.str (CTs.cons CT.str CTs.nil)), PT.int IntKind.u8, PT.int IntKind.u8,
                PT.int IntKind.i64, PT.int IntKind.u8, PT.int IntKind.u8, PT.int IntKind.u64, PT.int IntKind.u64]
              (Option
                (Int64 ×
                  Option
                    (Int64 ×
                      UInt64 ×
                        List
                            (UInt64 ×
                              Bool ×
                                UInt8 ×
                                  UInt64 ×
                                    UInt64 ×
                                      List UInt8 ×
                                        List (List UInt8 × List UInt8) ×
                                          UInt8 × UInt8 × Int64 × UInt8 × UInt8 × UInt64 × UInt64) ×
                          UInt64)))) =>
        oite (decide (Prod.fst (Prod.snd x) < Prod.fst (Prod.snd x_1)))
          (J (Prod.fst (Prod.snd x)) true
            (some
              (Prod.fst x_1, Prod.fst (Prod.snd x_1), Prod.fst (Prod.snd (Prod.snd x_1)),
                Prod.snd (Prod.snd (Prod.snd x_1))))
            (Prod.fst (Prod.snd (Prod.snd x))) (Prod.fst (Prod.snd (Prod.snd (Prod.snd x))))
            (Prod.fst (Prod.snd (Prod.snd (Prod.snd (Prod.snd x)))))
            (Prod.fst (Prod.snd (Prod.snd (Prod.snd (Prod.snd (Prod.snd x))))))
            (Prod.fst (Prod.snd (Prod.snd (Prod.snd (Prod.snd (Prod.snd (Prod.snd x)))))))
            (Prod.fst (Prod.snd (Prod.snd (Prod.snd (Prod.snd (Prod.snd (Prod.snd (Prod.snd x))))))))
            (Prod.fst (Prod.snd (Prod.snd (Prod.snd (Prod.snd (Prod.snd (Prod.snd (Prod.snd (Prod.snd x)))))))))
            (Prod.fst
              (Prod.snd (Prod.snd (Prod.snd (Prod.snd (Prod.snd (Prod.snd (Prod.snd (Prod.snd (Prod.snd x))))))))))
            (Prod.fst
              (Prod.snd
                (Prod.snd (Prod.snd (Prod.snd (Prod.snd (Prod.snd (Prod.snd (Prod.snd (Prod.snd (Prod.snd x)))))))))))
            (Prod.fst
              (Prod.snd
                (Prod.snd
                  (Prod.snd
                    (Prod.snd (Prod.snd (Prod.snd (Prod.snd (Prod.snd (Prod.snd (Prod.snd (Prod.snd x))))))))))))
            (Prod.fst
              (Prod.snd
                (Prod.snd
                  (Prod.snd
                    (Prod.snd
                      (Prod.snd (Prod.snd (Prod.snd (Prod.snd (Prod.snd (Prod.snd (Prod.snd (Prod.snd x)))))))))))))
            (Prod.fst
              (Prod.snd
                (Prod.snd
                  (Prod.snd
                    (Prod.snd
                      (Prod.snd
                        (Prod.snd (Prod.snd (Prod.snd (Prod.snd (Prod.snd (Prod.snd (Prod.snd (Prod.snd x))))))))))))))
            (Prod.snd
              (Prod.snd
                (Prod.snd
                  (Prod.snd
                    (Prod.snd
                      (Prod.snd
                        (Prod.snd (Prod.snd (Prod.snd (Prod.snd (Prod.snd (Prod.snd (Prod.snd (Prod.snd x)))))))))))))))
          (obind
            (F23 n
              (some
                  (Prod.fst x_1, Prod.fst (Prod.snd x_1), Prod.fst (Prod.snd (Prod.snd x_1)),
                    Prod.snd (Prod.snd (Prod.snd x_1))),
                Prod.fst (Prod.snd x)))
            fun
              (x_2 :
                Bool ×
                  Option
                    (Int64 ×
                      UInt64 ×
                        List
                            (UInt64 ×
                              Bool ×
                                UInt8 ×
                                  UInt64 ×
                                    UInt64 ×
                                      List UInt8 ×
                                        List (List UInt8 × List UInt8) ×
                                          UInt8 × UInt8 × Int64 × UInt8 × UInt8 × UInt64 × UInt64) ×
                          UInt64)) =>
            J (Prod.fst (Prod.snd x)) (Prod.fst x_2) (Prod.snd x_2) (Prod.fst (Prod.snd (Prod.snd x)))
              (Prod.fst (Prod.snd (Prod.snd (Prod.snd x)))) (Prod.fst (Prod.snd (Prod.snd (Prod.snd (Prod.snd x)))))
              (Prod.fst (Prod.snd (Prod.snd (Prod.snd (Prod.snd (Prod.snd x))))))
              (Prod.fst (Prod.snd (Prod.snd (Prod.snd (Prod.snd (Prod.snd (Prod.snd x)))))))
              (Prod.fst (Prod.snd (Prod.snd (Prod.snd (Prod.snd (Prod.snd (Prod.snd (Prod.snd x))))))))
              (Prod.fst (Prod.snd (Prod.snd (Prod.snd (Prod.snd (Prod.snd (Prod.snd (Prod.snd (Prod.snd x)))))))))
              (Prod.fst
                (Prod.snd (Prod.snd (Prod.snd (Prod.snd (Prod.snd (Prod.snd (Prod.snd (Prod.snd (Prod.snd x))))))))))
              (Prod.fst
                (Prod.snd
                  (Prod.snd (Prod.snd (Prod.snd (Prod.snd (Prod.snd (Prod.snd (Prod.snd (Prod.snd (Prod.snd x)))))))))))
              (Prod.fst
                (Prod.snd
                  (Prod.snd
                    (Prod.snd
                      (Prod.snd (Prod.snd (Prod.snd (Prod.snd (Prod.snd (Prod.snd (Prod.snd (Prod.snd x))))))))))))
              (Prod.fst
                (Prod.snd
                  (Prod.snd
                    (Prod.snd
                      (Prod.snd
                        (Prod.snd (Prod.snd (Prod.snd (Prod.snd (Prod.snd (Prod.snd (Prod.snd (Prod.snd x)))))))))))))
              (Prod.fst
                (Prod.snd
                  (Prod.snd
                    (Prod.snd
                      (Prod.snd
                        (Prod.snd
                          (Prod.snd
                            (Prod.snd (Prod.snd (Prod.snd (Prod.snd (Prod.snd (Prod.snd (Prod.snd x))))))))))))))
              (Prod.snd
                (Prod.snd
                  (Prod.snd
                    (Prod.snd
                      (Prod.snd
                        (Prod.snd
                          (Prod.snd
                            (Prod.snd (Prod.snd (Prod.snd (Prod.snd (Prod.snd (Prod.snd (Prod.snd x))))))))))))))))
      (F10_J27 n)
theorem ok10 (n : Nat) : FunOK Try.prog ⟨10, sig10, F10 n⟩ :=
  fun_ok (hints := ⟨[(27, ⟨[(0, .one (.own 0)), (1, .one (.int .u64)), (5, .one (.own 3)), (11, .one (.bool))], [(0, .fold (.cons (.c (.int .i64)) (.cons (.c (.int .u64)) (.cons (.map (.one (.int .u64)) (.agg (.cons .bool (.cons (.int .u8) (.cons (.int .u64) (.cons (.int .u64) (.cons .str (.cons (.ro (.cons .str (.cons .str .nil))) (.cons (.int .u8) (.cons (.int .u8) (.cons (.int .i64) (.cons (.int .u8) (.cons (.int .u8) (.cons (.int .u64) (.cons (.int .u64) .nil))))))))))))))) (.cons (.c (.int .u64)) .nil))))), (3, .cells [.bool, .int .u8, .int .u64, .int .u64, .str, .ro (.cons .str (.cons .str .nil)), .int .u8, .int .u8, .int .i64, .int .u8, .int .u8, .int .u64, .int .u64])], 4⟩)], []⟩) (fuel := n) (c := Try.f10.body.getD .skip) (rs := Try.f10.results.toList) tt_ok mix (FsOK.cons (ok23 n) (FsOK.cons (ok1024 n) (FsOK.cons (ok24 n) (FsOK.cons (ok1025 n) (FsOK.cons (ok25 n) (FsOK.nil)))))) Try.func10 (by kernel_rfl) (by kernel_rfl) rfl (by kernel_rfl) rfl rfl (by kernel_rfl)
-- (*watchfire/recv.Receiver).Take
def sig1010 : Sig := ⟨(.cons (.one (.ptr (.cons (.c (.int .i64)) (.cons (.c (.int .u64)) (.cons (.map (.one (.int .u64)) (.agg (.cons .bool (.cons (.int .u8) (.cons (.int .u64) (.cons (.int .u64) (.cons .str (.cons (.ro (.cons .str (.cons .str .nil))) (.cons (.int .u8) (.cons (.int .u8) (.cons (.int .i64) (.cons (.int .u8) (.cons (.int .u8) (.cons (.int .u64) (.cons (.int .u64) .nil))))))))))))))) (.cons (.c (.int .u64)) .nil)))))) (.cons (.one (.c (.int .u64))) (.cons (.oagg (.cons (.c .bool) (.cons (.c (.int .u8)) (.cons (.c (.int .u64)) (.cons (.c (.int .u64)) (.cons (.c .str) (.cons (.row (.cons .str (.cons .str .nil))) (.cons (.c (.int .u8)) (.cons (.c (.int .u8)) (.cons (.c (.int .i64)) (.cons (.c (.int .u8)) (.cons (.c (.int .u8)) (.cons (.c (.int .u64)) (.cons (.c (.int .u64)) .nil)))))))))))))) .nil))), (.cons (.one (.c (.int .i64))) .nil)⟩
def F1010_J27 : Nat →
  UInt64 →
    Bool →
      Option
          (Int64 ×
            UInt64 ×
              List
                  (UInt64 ×
                    Bool ×
                      UInt8 ×
                        UInt64 ×
                          UInt64 ×
                            List UInt8 ×
                              List (List UInt8 × List UInt8) ×
                                UInt8 × UInt8 × Int64 × UInt8 × UInt8 × UInt64 × UInt64) ×
                UInt64) →
        List (List UInt8 × List UInt8) →
          Bool →
            UInt8 →
              UInt64 →
                UInt64 →
                  List UInt8 →
                    UInt8 →
                      UInt8 →
                        Int64 →
                          UInt8 →
                            UInt8 →
                              UInt64 →
                                UInt64 →
                                  Option
                                    (Int64 ×
                                      Option
                                          (Int64 ×
                                            UInt64 ×
                                              List
                                                  (UInt64 ×
                                                    Bool ×
                                                      UInt8 ×
                                                        UInt64 ×
                                                          UInt64 ×
                                                            List UInt8 ×
                                                              List (List UInt8 × List UInt8) ×
                                                                UInt8 ×
                                                                  UInt8 × Int64 × UInt8 × UInt8 × UInt64 × UInt64) ×
                                                UInt64) ×
                                        List (List UInt8 × List UInt8)) := fun (n : Nat) (seq : UInt64) (t : Bool)
    (r :
      Option
        (Int64 ×
          UInt64 ×
            List
                (UInt64 ×
                  Bool ×
                    UInt8 ×
                      UInt64 ×
                        UInt64 ×
                          List UInt8 ×
                            List (List UInt8 × List UInt8) × UInt8 × UInt8 × Int64 × UInt8 × UInt8 × UInt64 × UInt64) ×
              UInt64))
    (xl : List (List UInt8 × List UInt8)) (x0 : Bool) (x1 : UInt8) (x2 x3 : UInt64) (x4 : List UInt8) (x6 x7 : UInt8)
    (x8 : Int64) (x9 x10 : UInt8) (x11 x12 : UInt64) =>
  oite t
    (obind r
      fun
        (x_2 :
          Int64 ×
            UInt64 ×
              List
                  (UInt64 ×
                    Bool ×
                      UInt8 ×
                        UInt64 ×
                          UInt64 ×
                            List UInt8 ×
                              List (List UInt8 × List UInt8) ×
                                UInt8 × UInt8 × Int64 × UInt8 × UInt8 × UInt64 × UInt64) ×
                UInt64) =>
      some
        ((17 : Int64),
          some
            (Prod.fst x_2, Prod.fst (Prod.snd x_2), Prod.fst (Prod.snd (Prod.snd x_2)),
              Prod.snd (Prod.snd (Prod.snd x_2)) + (1 : UInt64)),
          xl))
    (obind r
      fun
        (x_2 :
          Int64 ×
            UInt64 ×
              List
                  (UInt64 ×
                    Bool ×
                      UInt8 ×
                        UInt64 ×
                          UInt64 ×
                            List UInt8 ×
                              List (List UInt8 × List UInt8) ×
                                UInt8 × UInt8 × Int64 × UInt8 × UInt8 × UInt64 × UInt64) ×
                UInt64) =>
      oite (decide (UInt64.ofInt (Int64.toInt (Prod.fst x_2)) ≤ seq - Prod.fst (Prod.snd x_2)))
        (some
          ((19 : Int64),
            some
              (Prod.fst x_2, Prod.fst (Prod.snd x_2), Prod.fst (Prod.snd (Prod.snd x_2)),
                Prod.snd (Prod.snd (Prod.snd x_2))),
            xl))
        (obind (F1024 n (x0, x1, x2, x3, x4, xl, x6, x7, x8, x9, x10, x11, x12))
          fun (x_3 : Int64 × List (List UInt8 × List UInt8)) =>
          oite (!decide (Prod.fst x_3 = (0 : Int64)))
            (some
              (Prod.fst x_3,
                some
                  (Prod.fst x_2, Prod.fst (Prod.snd x_2), Prod.fst (Prod.snd (Prod.snd x_2)),
                    Prod.snd (Prod.snd (Prod.snd x_2))),
                Prod.snd x_3))
            (obind (F1025 n (x0, x1, x2, x3, x4, Prod.snd x_3, x6, x7, x8, x9, x10, x11, x12))
              fun
                (x_4 :
                  (Bool ×
                      UInt8 ×
                        UInt64 ×
                          UInt64 ×
                            List UInt8 ×
                              List (List UInt8 × List UInt8) ×
                                UInt8 × UInt8 × Int64 × UInt8 × UInt8 × UInt64 × UInt64) ×
                    List (List UInt8 × List UInt8)) =>
              some
                ((0 : Int64),
                  some
                    (Prod.fst x_2, Prod.fst (Prod.snd x_2),
                      mput (VT.one (CT.int IntKind.u64))
                        (VT.agg
                          (CTs.cons CT.bool
                            (CTs.cons (CT.int IntKind.u8)
                              (CTs.cons (CT.int IntKind.u64)
                                (CTs.cons (CT.int IntKind.u64)
                                  (CTs.cons CT.str
                                    (CTs.cons (CT.ro (CTs.cons CT.str (CTs.cons CT.str CTs.nil)))
                                      (CTs.cons (CT.int IntKind.u8)
                                        (CTs.cons (CT.int IntKind.u8)
                                          (CTs.cons (CT.int IntKind.i64)
                                            (CTs.cons (CT.int IntKind.u8)
                                              (CTs.cons (CT.int IntKind.u8)
                                                (CTs.cons (CT.int IntKind.u64)
                                                  (CTs.cons (CT.int IntKind.u64) CTs.nil))))))))))))))
                        seq
                        (Prod.fst (Prod.fst x_4), Prod.fst (Prod.snd (Prod.fst x_4)),
                          Prod.fst (Prod.snd (Prod.snd (Prod.fst x_4))),
                          Prod.fst (Prod.snd (Prod.snd (Prod.snd (Prod.fst x_4)))),
                          Prod.fst (Prod.snd (Prod.snd (Prod.snd (Prod.snd (Prod.fst x_4))))),
                          Prod.fst (Prod.snd (Prod.snd (Prod.snd (Prod.snd (Prod.snd (Prod.fst x_4)))))),
                          Prod.fst (Prod.snd (Prod.snd (Prod.snd (Prod.snd (Prod.snd (Prod.snd (Prod.fst x_4))))))),
                          Prod.fst
                            (Prod.snd (Prod.snd (Prod.snd (Prod.snd (Prod.snd (Prod.snd (Prod.snd (Prod.fst x_4)))))))),
                          Prod.fst
                            (Prod.snd
                              (Prod.snd
                                (Prod.snd (Prod.snd (Prod.snd (Prod.snd (Prod.snd (Prod.snd (Prod.fst x_4))))))))),
                          Prod.fst
                            (Prod.snd
                              (Prod.snd
                                (Prod.snd
                                  (Prod.snd (Prod.snd (Prod.snd (Prod.snd (Prod.snd (Prod.snd (Prod.fst x_4)))))))))),
                          Prod.fst
                            (Prod.snd
                              (Prod.snd
                                (Prod.snd
                                  (Prod.snd
                                    (Prod.snd
                                      (Prod.snd (Prod.snd (Prod.snd (Prod.snd (Prod.snd (Prod.fst x_4))))))))))),
                          Prod.fst
                            (Prod.snd
                              (Prod.snd
                                (Prod.snd
                                  (Prod.snd
                                    (Prod.snd
                                      (Prod.snd
                                        (Prod.snd (Prod.snd (Prod.snd (Prod.snd (Prod.snd (Prod.fst x_4)))))))))))),
                          Prod.snd
                            (Prod.snd
                              (Prod.snd
                                (Prod.snd
                                  (Prod.snd
                                    (Prod.snd
                                      (Prod.snd
                                        (Prod.snd (Prod.snd (Prod.snd (Prod.snd (Prod.snd (Prod.fst x_4)))))))))))))
                        (Prod.fst (Prod.snd (Prod.snd x_2))),
                      Prod.snd (Prod.snd (Prod.snd x_2))),
                  Prod.snd x_4))))
def F1010 : Nat →
  Option
        (Int64 ×
          UInt64 ×
            List
                (UInt64 ×
                  Bool ×
                    UInt8 ×
                      UInt64 ×
                        UInt64 ×
                          List UInt8 ×
                            List (List UInt8 × List UInt8) × UInt8 × UInt8 × Int64 × UInt8 × UInt8 × UInt64 × UInt64) ×
              UInt64) ×
      UInt64 ×
        Bool ×
          UInt8 ×
            UInt64 ×
              UInt64 ×
                List UInt8 × List (List UInt8 × List UInt8) × UInt8 × UInt8 × Int64 × UInt8 × UInt8 × UInt64 × UInt64 →
    Option
      (Int64 ×
        Option
            (Int64 ×
              UInt64 ×
                List
                    (UInt64 ×
                      Bool ×
                        UInt8 ×
                          UInt64 ×
                            UInt64 ×
                              List UInt8 ×
                                List (List UInt8 × List UInt8) ×
                                  UInt8 × UInt8 × Int64 × UInt8 × UInt8 × UInt64 × UInt64) ×
                  UInt64) ×
          List (List UInt8 × List UInt8)) := fun (n : Nat)
    (x :
      Option
          (Int64 ×
            UInt64 ×
              List
                  (UInt64 ×
                    Bool ×
                      UInt8 ×
                        UInt64 ×
                          UInt64 ×
                            List UInt8 ×
                              List (List UInt8 × List UInt8) ×
                                UInt8 × UInt8 × Int64 × UInt8 × UInt8 × UInt64 × UInt64) ×
                UInt64) ×
        UInt64 ×
          Bool ×
            UInt8 ×
              UInt64 ×
                UInt64 ×
                  List UInt8 ×
                    List (List UInt8 × List UInt8) × UInt8 × UInt8 × Int64 × UInt8 × UInt8 × UInt64 × UInt64) =>
  oelim (Prod.fst x)
    (some ((1 : Int64), none, Prod.fst (Prod.snd (Prod.snd (Prod.snd (Prod.snd (Prod.snd (Prod.snd (Prod.snd x)))))))))
    fun
      (x_1 :
        Int64 ×
          UInt64 ×
            List
                (UInt64 ×
                  Bool ×
                    UInt8 ×
                      UInt64 ×
                        UInt64 ×
                          List UInt8 ×
                            List (List UInt8 × List UInt8) × UInt8 × UInt8 × Int64 × UInt8 × UInt8 × UInt64 × UInt64) ×
              UInt64) =>
    ojoinA (27 : Nat)
      [PT.int IntKind.u64, PT.bool,
        PT.opt
          (OTs.cons (OT.c (CT.int IntKind.i64))
            (OTs.cons (OT.c (CT.int IntKind.u64))
              (OTs.cons
                (OT.map (VT.one (CT.int IntKind.u64))
                  (VT.agg
                    (CTs.cons CT.bool
                      (CTs.cons (CT.int IntKind.u8)
                        (CTs.cons (CT.int IntKind.u64)
                          (CTs.cons (CT.int IntKind.u64)
                            (CTs.cons CT.str
                              (CTs.cons (CT.ro (CTs.cons CT.str (CTs.cons CT.str CTs.nil)))
                                (CTs.cons (CT.int IntKind.u8)
                                  (CTs.cons (CT.int IntKind.u8)
                                    (CTs.cons (CT.int IntKind.i64)
                                      (CTs.cons (CT.int IntKind.u8)
                                        (CTs.cons (CT.int IntKind.u8)
                                          (CTs.cons (CT.int IntKind.u64)
                                            (CTs.cons (CT.int IntKind.u64) CTs.nil)))))))))))))))
                (OTs.cons (OT.c (CT.int IntKind.u64)) OTs.nil)))),
        PT.list (CTs.cons CT.str (CTs.cons CT.str CTs.nil)), PT.bool, PT.int IntKind.u8, PT.int IntKind.u64,
        PT.int IntKind.u64, PT.bytes, PT.int IntKind.u8, PT.int IntKind.u8, PT.int IntKind.i64, PT.int IntKind.u8,
        PT.int IntKind.u8, PT.int IntKind.u64, PT.int IntKind.u64]
      (fun
          (J :
            Arr
              [PT.int IntKind.u64, PT.bool,
                PT.opt
                  (OTs.cons (OT.c (CT.int IntKind.i64))
                    (OTs.cons (OT.c (CT.int IntKind.u64))
                      (OTs.cons
                        (OT.map (VT.one (CT.int IntKind.u64))
                          (VT.agg
                            (CTs.cons CT.bool
                              (CTs.cons (CT.int IntKind.u8)
                                (CTs.cons (CT.int IntKind.u64)
                                  (CTs.cons (CT.int IntKind.u64)
                                    (CTs.cons CT.str
                                      (CTs.cons (CT.ro (CTs.cons CT.str (CTs.cons CT.str CTs.nil)))
                                        (CTs.cons (CT.int IntKind.u8)
                                          (CTs.cons (CT.int IntKind.u8)
                                            (CTs.cons (CT.int IntKind.i64)
                                              (CTs.cons (CT.int IntKind.u8)
                                                (CTs.cons (CT.int IntKind.u8)
                                                  (CTs.cons (CT.int IntKind.u64)
                                                    (CTs.cons (CT.int IntKind.u64) CTs.nil)))))))))))))))
                        (OTs.cons (OT.c (CT.int IntKind.u64)) OTs.nil)))),
                PT.list (CTs.cons CT.str (CTs.cons CT.str CTs.nil)), PT.bool, PT.int IntKind.u8, PT.int IntKind.u64,
                PT.int IntKind.u64, PT.bytes, PT.int IntKind.u8, PT.int IntKind.u8, PT.int IntKind.i64,
                PT.int IntKind.u8, PT.int IntKind.u8, PT.int IntKind.u64, PT.int IntKind.u64]
              (Option
                (Int64 ×
                  Option
                      (Int64 ×
                        UInt64 ×
                          List
                              (UInt64 ×
                                Bool ×
                                  UInt8 ×
                                    UInt64 ×
                                      UInt64 ×
                                        List UInt8 ×
                                          List (List UInt8 × List UInt8) ×
                                            UInt8 × UInt8 × Int64 × UInt8 × UInt8 × UInt64 × UInt64) ×
                            UInt64) ×
                    List (List UInt8 × List UInt8)))) =>
        oite (decide (Prod.fst (Prod.snd x) < Prod.fst (Prod.snd x_1)))
          (J (Prod.fst (Prod.snd x)) true
            (some
              (Prod.fst x_1, Prod.fst (Prod.snd x_1), Prod.fst (Prod.snd (Prod.snd x_1)),
                Prod.snd (Prod.snd (Prod.snd x_1))))
            (Prod.fst (Prod.snd (Prod.snd (Prod.snd (Prod.snd (Prod.snd (Prod.snd (Prod.snd x))))))))
            (Prod.fst (Prod.snd (Prod.snd x))) (Prod.fst (Prod.snd (Prod.snd (Prod.snd x))))
            (Prod.fst (Prod.snd (Prod.snd (Prod.snd (Prod.snd x)))))
            (Prod.fst (Prod.snd (Prod.snd (Prod.snd (Prod.snd (Prod.snd x))))))
            (Prod.fst (Prod.snd (Prod.snd (Prod.snd (Prod.snd (Prod.snd (Prod.snd x)))))))
            (Prod.fst (Prod.snd (Prod.snd (Prod.snd (Prod.snd (Prod.snd (Prod.snd (Prod.snd (Prod.snd x)))))))))
            (Prod.fst
              (Prod.snd (Prod.snd (Prod.snd (Prod.snd (Prod.snd (Prod.snd (Prod.snd (Prod.snd (Prod.snd x))))))))))
            (Prod.fst
              (Prod.snd
                (Prod.snd (Prod.snd (Prod.snd (Prod.snd (Prod.snd (Prod.snd (Prod.snd (Prod.snd (Prod.snd x)))))))))))
            (Prod.fst
              (Prod.snd
                (Prod.snd
                  (Prod.snd
                    (Prod.snd (Prod.snd (Prod.snd (Prod.snd (Prod.snd (Prod.snd (Prod.snd (Prod.snd x))))))))))))
            (Prod.fst
              (Prod.snd
                (Prod.snd
                  (Prod.snd
                    (Prod.snd
                      (Prod.snd (Prod.snd (Prod.snd (Prod.snd (Prod.snd (Prod.snd (Prod.snd (Prod.snd x)))))))))))))
            (Prod.fst
              (Prod.snd
                (Prod.snd
                  (Prod.snd
                    (Prod.snd
                      (Prod.snd
                        (Prod.snd (Prod.snd (Prod.snd (Prod.snd (Prod.snd (Prod.snd (Prod.snd (Prod.snd x))))))))))))))
            (Prod.snd
              (Prod.snd
                (Prod.snd
                  (Prod.snd
                    (Prod.snd
                      (Prod.snd
                        (Prod.snd (Prod.snd (Prod.snd (Prod.snd (Prod.snd (Prod.snd (Prod.snd (Prod.snd x)))))))))))))))
          (obind
            (F23 n
              (some
                  (Prod.fst x_1, Prod.fst (Prod.snd x_1), Prod.fst (Prod.snd (Prod.snd x_1)),
                    Prod.snd (Prod.snd (Prod.snd x_1))),
                Prod.fst (Prod.snd x)))
            fun
              (x_2 :
                Bool ×
                  Option
                    (Int64 ×
                      UInt64 ×
                        List
                            (UInt64 ×
                              Bool ×
                                UInt8 ×
                                  UInt64 ×
                                    UInt64 ×
                                      List UInt8 ×
                                        List (List UInt8 × List UInt8) ×
                                          UInt8 × UInt8 × Int64 × UInt8 × UInt8 × UInt64 × UInt64) ×
                          UInt64)) =>
            J (Prod.fst (Prod.snd x)) (Prod.fst x_2) (Prod.snd x_2)
              (Prod.fst (Prod.snd (Prod.snd (Prod.snd (Prod.snd (Prod.snd (Prod.snd (Prod.snd x))))))))
              (Prod.fst (Prod.snd (Prod.snd x))) (Prod.fst (Prod.snd (Prod.snd (Prod.snd x))))
              (Prod.fst (Prod.snd (Prod.snd (Prod.snd (Prod.snd x)))))
              (Prod.fst (Prod.snd (Prod.snd (Prod.snd (Prod.snd (Prod.snd x))))))
              (Prod.fst (Prod.snd (Prod.snd (Prod.snd (Prod.snd (Prod.snd (Prod.snd x)))))))
              (Prod.fst (Prod.snd (Prod.snd (Prod.snd (Prod.snd (Prod.snd (Prod.snd (Prod.snd (Prod.snd x)))))))))
              (Prod.fst
                (Prod.snd (Prod.snd (Prod.snd (Prod.snd (Prod.snd (Prod.snd (Prod.snd (Prod.snd (Prod.snd x))))))))))
              (Prod.fst
                (Prod.snd
                  (Prod.snd (Prod.snd (Prod.snd (Prod.snd (Prod.snd (Prod.snd (Prod.snd (Prod.snd (Prod.snd x)))))))))))
              (Prod.fst
                (Prod.snd
                  (Prod.snd
                    (Prod.snd
                      (Prod.snd (Prod.snd (Prod.snd (Prod.snd (Prod.snd (Prod.snd (Prod.snd (Prod.snd x))))))))))))
              (Prod.fst
                (Prod.snd
                  (Prod.snd
                    (Prod.snd
                      (Prod.snd
                        (Prod.snd (Prod.snd (Prod.snd (Prod.snd (Prod.snd (Prod.snd (Prod.snd (Prod.snd x)))))))))))))
              (Prod.fst
                (Prod.snd
                  (Prod.snd
                    (Prod.snd
                      (Prod.snd
                        (Prod.snd
                          (Prod.snd
                            (Prod.snd (Prod.snd (Prod.snd (Prod.snd (Prod.snd (Prod.snd (Prod.snd x))))))))))))))
              (Prod.snd
                (Prod.snd
                  (Prod.snd
                    (Prod.snd
                      (Prod.snd
                        (Prod.snd
                          (Prod.snd
                            (Prod.snd (Prod.snd (Prod.snd (Prod.snd (Prod.snd (Prod.snd (Prod.snd x))))))))))))))))
      (F1010_J27 n)
theorem ok1010 (n : Nat) : FunOK Try.prog ⟨10, sig1010, F1010 n⟩ :=
  fun_ok (hints := ⟨[(27, ⟨[(0, .one (.own 0)), (1, .one (.int .u64)), (5, .one (.own 16)), (11, .one (.bool))], [(0, .fold (.cons (.c (.int .i64)) (.cons (.c (.int .u64)) (.cons (.map (.one (.int .u64)) (.agg (.cons .bool (.cons (.int .u8) (.cons (.int .u64) (.cons (.int .u64) (.cons .str (.cons (.ro (.cons .str (.cons .str .nil))) (.cons (.int .u8) (.cons (.int .u8) (.cons (.int .i64) (.cons (.int .u8) (.cons (.int .u8) (.cons (.int .u64) (.cons (.int .u64) .nil))))))))))))))) (.cons (.c (.int .u64)) .nil))))), (7, .row (.cons .str (.cons .str .nil))), (16, .cells [.bool, .int .u8, .int .u64, .int .u64, .str, .own 7, .int .u8, .int .u8, .int .i64, .int .u8, .int .u8, .int .u64, .int .u64])], 17⟩)], []⟩) (fuel := n) (c := Try.f10.body.getD .skip) (rs := Try.f10.results.toList) tt_ok mix (FsOK.cons (ok23 n) (FsOK.cons (ok1024 n) (FsOK.cons (ok24 n) (FsOK.cons (ok1025 n) (FsOK.cons (ok25 n) (FsOK.nil)))))) Try.func10 (by kernel_rfl) (by kernel_rfl) rfl (by kernel_rfl) rfl rfl (by kernel_rfl)
-- (*watchfire/recv.Receiver).Ack
def sig17 : Sig := ⟨(.cons (.one (.ptr (.cons (.c (.int .i64)) (.cons (.c (.int .u64)) (.cons (.map (.one (.int .u64)) (.agg (.cons .bool (.cons (.int .u8) (.cons (.int .u64) (.cons (.int .u64) (.cons .str (.cons (.ro (.cons .str (.cons .str .nil))) (.cons (.int .u8) (.cons (.int .u8) (.cons (.int .i64) (.cons (.int .u8) (.cons (.int .u8) (.cons (.int .u64) (.cons (.int .u64) .nil))))))))))))))) (.cons (.c (.int .u64)) .nil)))))) .nil), (.cons (.one (.c (.int .u64))) (.cons (.one (.c (.int .u64))) .nil))⟩
def F17_L29 : Nat →
  Arr
      [PT.int IntKind.u64, PT.int IntKind.u64,
        PT.opt
          (OTs.cons (OT.c (CT.int IntKind.i64))
            (OTs.cons (OT.c (CT.int IntKind.u64))
              (OTs.cons
                (OT.map (VT.one (CT.int IntKind.u64))
                  (VT.agg
                    (CTs.cons CT.bool
                      (CTs.cons (CT.int IntKind.u8)
                        (CTs.cons (CT.int IntKind.u64)
                          (CTs.cons (CT.int IntKind.u64)
                            (CTs.cons CT.str
                              (CTs.cons (CT.ro (CTs.cons CT.str (CTs.cons CT.str CTs.nil)))
                                (CTs.cons (CT.int IntKind.u8)
                                  (CTs.cons (CT.int IntKind.u8)
                                    (CTs.cons (CT.int IntKind.i64)
                                      (CTs.cons (CT.int IntKind.u8)
                                        (CTs.cons (CT.int IntKind.u8)
                                          (CTs.cons (CT.int IntKind.u64)
                                            (CTs.cons (CT.int IntKind.u64) CTs.nil)))))))))))))))
                (OTs.cons (OT.c (CT.int IntKind.u64)) OTs.nil))))]
      (Option
        ((UInt64 × UInt64) ×
          Option
            (Int64 ×
              UInt64 ×
                List
                    (UInt64 ×
                      Bool ×
                        UInt8 ×
                          UInt64 ×
                            UInt64 ×
                              List UInt8 ×
                                List (List UInt8 × List UInt8) ×
                                  UInt8 × UInt8 × Int64 × UInt8 × UInt8 × UInt64 × UInt64) ×
                  UInt64))) →
    UInt64 →
      UInt64 →
        Option
            (Int64 ×
              UInt64 ×
                List
                    (UInt64 ×
                      Bool ×
                        UInt8 ×
                          UInt64 ×
                            UInt64 ×
                              List UInt8 ×
                                List (List UInt8 × List UInt8) ×
                                  UInt8 × UInt8 × Int64 × UInt8 × UInt8 × UInt64 × UInt64) ×
                  UInt64) →
          Option
            ((UInt64 × UInt64) ×
              Option
                (Int64 ×
                  UInt64 ×
                    List
                        (UInt64 ×
                          Bool ×
                            UInt8 ×
                              UInt64 ×
                                UInt64 ×
                                  List UInt8 ×
                                    List (List UInt8 × List UInt8) ×
                                      UInt8 × UInt8 × Int64 × UInt8 × UInt8 × UInt64 × UInt64) ×
                      UInt64)) := fun (n : Nat)
    (rec :
      Arr
        [PT.int IntKind.u64, PT.int IntKind.u64,
          PT.opt
            (OTs.cons (OT.c (CT.int IntKind.i64))
              (OTs.cons (OT.c (CT.int IntKind.u64))
                (OTs.cons
                  (OT.map (VT.one (CT.int IntKind.u64))
                    (VT.agg
                      (CTs.cons CT.bool
                        (CTs.cons (CT.int IntKind.u8)
                          (CTs.cons (CT.int IntKind.u64)
                            (CTs.cons (CT.int IntKind.u64)
                              (CTs.cons CT.str
                                (CTs.cons (CT.ro (CTs.cons CT.str (CTs.cons CT.str CTs.nil)))
                                  (CTs.cons (CT.int IntKind.u8)
                                    (CTs.cons (CT.int IntKind.u8)
                                      (CTs.cons (CT.int IntKind.i64)
                                        (CTs.cons (CT.int IntKind.u8)
                                          (CTs.cons (CT.int IntKind.u8)
                                            (CTs.cons (CT.int IntKind.u64)
                                              (CTs.cons (CT.int IntKind.u64) CTs.nil)))))))))))))))
                  (OTs.cons (OT.c (CT.int IntKind.u64)) OTs.nil))))]
        (Option
          ((UInt64 × UInt64) ×
            Option
              (Int64 ×
                UInt64 ×
                  List
                      (UInt64 ×
                        Bool ×
                          UInt8 ×
                            UInt64 ×
                              UInt64 ×
                                List UInt8 ×
                                  List (List UInt8 × List UInt8) ×
                                    UInt8 × UInt8 × Int64 × UInt8 × UInt8 × UInt64 × UInt64) ×
                    UInt64))))
    (bits t : UInt64)
    (r :
      Option
        (Int64 ×
          UInt64 ×
            List
                (UInt64 ×
                  Bool ×
                    UInt8 ×
                      UInt64 ×
                        UInt64 ×
                          List UInt8 ×
                            List (List UInt8 × List UInt8) × UInt8 × UInt8 × Int64 × UInt8 × UInt8 × UInt64 × UInt64) ×
              UInt64)) =>
  oite (decide (t < (64 : UInt64)))
    (obind r
      fun
        (x_2 :
          Int64 ×
            UInt64 ×
              List
                  (UInt64 ×
                    Bool ×
                      UInt8 ×
                        UInt64 ×
                          UInt64 ×
                            List UInt8 ×
                              List (List UInt8 × List UInt8) ×
                                UInt8 × UInt8 × Int64 × UInt8 × UInt8 × UInt64 × UInt64) ×
                UInt64) =>
      obind
        (F23 n
          (some
              (Prod.fst x_2, Prod.fst (Prod.snd x_2), Prod.fst (Prod.snd (Prod.snd x_2)),
                Prod.snd (Prod.snd (Prod.snd x_2))),
            Prod.fst (Prod.snd x_2) + (1 : UInt64) + t))
        fun
          (x_3 :
            Bool ×
              Option
                (Int64 ×
                  UInt64 ×
                    List
                        (UInt64 ×
                          Bool ×
                            UInt8 ×
                              UInt64 ×
                                UInt64 ×
                                  List UInt8 ×
                                    List (List UInt8 × List UInt8) ×
                                      UInt8 × UInt8 × Int64 × UInt8 × UInt8 × UInt64 × UInt64) ×
                      UInt64)) =>
        oite (Prod.fst x_3)
          (rec (bits ||| IK.shl IntKind.u64 (1 : UInt64) ↑(UInt64.toNat t)) (t + (1 : UInt64)) (Prod.snd x_3))
          (rec bits (t + (1 : UInt64)) (Prod.snd x_3)))
    (obind r
      fun
        (x_2 :
          Int64 ×
            UInt64 ×
              List
                  (UInt64 ×
                    Bool ×
                      UInt8 ×
                        UInt64 ×
                          UInt64 ×
                            List UInt8 ×
                              List (List UInt8 × List UInt8) ×
                                UInt8 × UInt8 × Int64 × UInt8 × UInt8 × UInt64 × UInt64) ×
                UInt64) =>
      some
        ((Prod.fst (Prod.snd x_2) - (1 : UInt64), bits),
          some
            (Prod.fst x_2, Prod.fst (Prod.snd x_2), Prod.fst (Prod.snd (Prod.snd x_2)),
              Prod.snd (Prod.snd (Prod.snd x_2)))))
def F17_R29 : Nat →
  Nat →
    PT.T (PT.int IntKind.u64) →
      UInt64 →
        Option
            (Int64 ×
              UInt64 ×
                List
                    (UInt64 ×
                      Bool ×
                        UInt8 ×
                          UInt64 ×
                            UInt64 ×
                              List UInt8 ×
                                List (List UInt8 × List UInt8) ×
                                  UInt8 × UInt8 × Int64 × UInt8 × UInt8 × UInt64 × UInt64) ×
                  UInt64) →
          Option
            ((UInt64 × UInt64) ×
              Option
                (Int64 ×
                  UInt64 ×
                    List
                        (UInt64 ×
                          Bool ×
                            UInt8 ×
                              UInt64 ×
                                UInt64 ×
                                  List UInt8 ×
                                    List (List UInt8 × List UInt8) ×
                                      UInt8 × UInt8 × Int64 × UInt8 × UInt8 × UInt64 × UInt64) ×
                      UInt64)) := fun (n : Nat) =>
  ofixA (29 : Nat)
    [PT.int IntKind.u64, PT.int IntKind.u64,
      PT.opt
        (OTs.cons (OT.c (CT.int IntKind.i64))
          (OTs.cons (OT.c (CT.int IntKind.u64))
            (OTs.cons
              (OT.map (VT.one (CT.int IntKind.u64))
                (VT.agg
                  (CTs.cons CT.bool
                    (CTs.cons (CT.int IntKind.u8)
                      (CTs.cons (CT.int IntKind.u64)
                        (CTs.cons (CT.int IntKind.u64)
                          (CTs.cons CT.str
                            (CTs.cons (CT.ro (CTs.cons CT.str (CTs.cons CT.str CTs.nil)))
                              (CTs.cons (CT.int IntKind.u8)
                                (CTs.cons (CT.int IntKind.u8)
                                  (CTs.cons (CT.int IntKind.i64)
                                    (CTs.cons (CT.int IntKind.u8)
                                      (CTs.cons (CT.int IntKind.u8)
                                        (CTs.cons (CT.int IntKind.u64)
                                          (CTs.cons (CT.int IntKind.u64) CTs.nil)))))))))))))))
              (OTs.cons (OT.c (CT.int IntKind.u64)) OTs.nil))))]
    (F17_L29 n)
def F17 : Nat →
  Option
      (Int64 ×
        UInt64 ×
          List
              (UInt64 ×
                Bool ×
                  UInt8 ×
                    UInt64 ×
                      UInt64 ×
                        List UInt8 ×
                          List (List UInt8 × List UInt8) × UInt8 × UInt8 × Int64 × UInt8 × UInt8 × UInt64 × UInt64) ×
            UInt64) →
    Option
      ((UInt64 × UInt64) ×
        Option
          (Int64 ×
            UInt64 ×
              List
                  (UInt64 ×
                    Bool ×
                      UInt8 ×
                        UInt64 ×
                          UInt64 ×
                            List UInt8 ×
                              List (List UInt8 × List UInt8) ×
                                UInt8 × UInt8 × Int64 × UInt8 × UInt8 × UInt64 × UInt64) ×
                UInt64)) := fun (n : Nat)
    (x :
      Option
        (Int64 ×
          UInt64 ×
            List
                (UInt64 ×
                  Bool ×
                    UInt8 ×
                      UInt64 ×
                        UInt64 ×
                          List UInt8 ×
                            List (List UInt8 × List UInt8) × UInt8 × UInt8 × Int64 × UInt8 × UInt8 × UInt64 × UInt64) ×
              UInt64)) =>
  oelim x (some (((0 : UInt64), (0 : UInt64)), none))
    fun
      (x_1 :
        Int64 ×
          UInt64 ×
            List
                (UInt64 ×
                  Bool ×
                    UInt8 ×
                      UInt64 ×
                        UInt64 ×
                          List UInt8 ×
                            List (List UInt8 × List UInt8) × UInt8 × UInt8 × Int64 × UInt8 × UInt8 × UInt64 × UInt64) ×
              UInt64) =>
    F17_R29 n n (0 : UInt64) (0 : UInt64)
      (some
        (Prod.fst x_1, Prod.fst (Prod.snd x_1), Prod.fst (Prod.snd (Prod.snd x_1)), Prod.snd (Prod.snd (Prod.snd x_1))))
theorem F17_R29_s (n : Nat) (m_ : Nat) : F17_R29 n (m_ + 1) = F17_L29 n (F17_R29 n m_) := rfl
theorem ok17 (n : Nat) : FunOK Try.prog ⟨17, sig17, F17 n⟩ :=
  fun_ok (hints := ⟨[], [(29, ⟨[(0, .one (.own 0)), (3, .one (.int .u64)), (7, .one (.int .u64))], [(0, .fold (.cons (.c (.int .i64)) (.cons (.c (.int .u64)) (.cons (.map (.one (.int .u64)) (.agg (.cons .bool (.cons (.int .u8) (.cons (.int .u64) (.cons (.int .u64) (.cons .str (.cons (.ro (.cons .str (.cons .str .nil))) (.cons (.int .u8) (.cons (.int .u8) (.cons (.int .i64) (.cons (.int .u8) (.cons (.int .u8) (.cons (.int .u64) (.cons (.int .u64) .nil))))))))))))))) (.cons (.c (.int .u64)) .nil)))))], 1⟩)]⟩) (fuel := n) (c := Try.f17.body.getD .skip) (rs := Try.f17.results.toList) tt_ok mix (FsOK.cons (ok23 n) (FsOK.nil)) Try.func17 (by kernel_rfl) (by kernel_rfl) rfl (by kernel_rfl) rfl rfl (by kernel_rfl)
-- (*watchfire/recv.Receiver).Peek
def sig11 : Sig := ⟨(.cons (.one (.ptr (.cons (.c (.int .i64)) (.cons (.c (.int .u64)) (.cons (.map (.one (.int .u64)) (.agg (.cons .bool (.cons (.int .u8) (.cons (.int .u64) (.cons (.int .u64) (.cons .str (.cons (.ro (.cons .str (.cons .str .nil))) (.cons (.int .u8) (.cons (.int .u8) (.cons (.int .i64) (.cons (.int .u8) (.cons (.int .u8) (.cons (.int .u64) (.cons (.int .u64) .nil))))))))))))))) (.cons (.c (.int .u64)) .nil)))))) .nil), (.cons (.oagg (.cons (.c .bool) (.cons (.c (.int .u8)) (.cons (.c (.int .u64)) (.cons (.c (.int .u64)) (.cons (.c .str) (.cons (.row (.cons .str (.cons .str .nil))) (.cons (.c (.int .u8)) (.cons (.c (.int .u8)) (.cons (.c (.int .i64)) (.cons (.c (.int .u8)) (.cons (.c (.int .u8)) (.cons (.c (.int .u64)) (.cons (.c (.int .u64)) .nil)))))))))))))) (.cons (.one (.c .bool)) .nil))⟩
def F11 : Nat →
  Option
      (Int64 ×
        UInt64 ×
          List
              (UInt64 ×
                Bool ×
                  UInt8 ×
                    UInt64 ×
                      UInt64 ×
                        List UInt8 ×
                          List (List UInt8 × List UInt8) × UInt8 × UInt8 × Int64 × UInt8 × UInt8 × UInt64 × UInt64) ×
            UInt64) →
    Option
      (((Bool ×
            UInt8 ×
              UInt64 ×
                UInt64 ×
                  List UInt8 ×
                    List (List UInt8 × List UInt8) × UInt8 × UInt8 × Int64 × UInt8 × UInt8 × UInt64 × UInt64) ×
          Bool) ×
        Option
          (Int64 ×
            UInt64 ×
              List
                  (UInt64 ×
                    Bool ×
                      UInt8 ×
                        UInt64 ×
                          UInt64 ×
                            List UInt8 ×
                              List (List UInt8 × List UInt8) ×
                                UInt8 × UInt8 × Int64 × UInt8 × UInt8 × UInt64 × UInt64) ×
                UInt64)) := fun (n : Nat)
    (x :
      Option
        (Int64 ×
          UInt64 ×
            List
                (UInt64 ×
                  Bool ×
                    UInt8 ×
                      UInt64 ×
                        UInt64 ×
                          List UInt8 ×
                            List (List UInt8 × List UInt8) × UInt8 × UInt8 × Int64 × UInt8 × UInt8 × UInt64 × UInt64) ×
              UInt64)) =>
  oelim x
    (some
      (((false, (0 : UInt8), (0 : UInt64), (0 : UInt64), [], [], (0 : UInt8), (0 : UInt8), (0 : Int64), (0 : UInt8),
            (0 : UInt8), (0 : UInt64), (0 : UInt64)),
          false),
        none))
    fun
      (x_1 :
        Int64 ×
          UInt64 ×
            List
                (UInt64 ×
                  Bool ×
                    UInt8 ×
                      UInt64 ×
                        UInt64 ×
                          List UInt8 ×
                            List (List UInt8 × List UInt8) × UInt8 × UInt8 × Int64 × UInt8 × UInt8 × UInt64 × UInt64) ×
              UInt64) =>
    obind
      (F23 n
        (some
            (Prod.fst x_1, Prod.fst (Prod.snd x_1), Prod.fst (Prod.snd (Prod.snd x_1)),
              Prod.snd (Prod.snd (Prod.snd x_1))),
          Prod.fst (Prod.snd x_1)))
      fun
        (x_2 :
          Bool ×
            Option
              (Int64 ×
                UInt64 ×
                  List
                      (UInt64 ×
                        Bool ×
                          UInt8 ×
                            UInt64 ×
                              UInt64 ×
                                List UInt8 ×
                                  List (List UInt8 × List UInt8) ×
                                    UInt8 × UInt8 × Int64 × UInt8 × UInt8 × UInt64 × UInt64) ×
                    UInt64)) =>
      oite (!Prod.fst x_2)
        (some
          (((false, (0 : UInt8), (0 : UInt64), (0 : UInt64), [], [], (0 : UInt8), (0 : UInt8), (0 : Int64), (0 : UInt8),
                (0 : UInt8), (0 : UInt64), (0 : UInt64)),
              false),
            Prod.snd x_2))
        (obind (Prod.snd x_2)
          fun
            (x_3 :
              Int64 ×
                UInt64 ×
                  List
                      (UInt64 ×
                        Bool ×
                          UInt8 ×
                            UInt64 ×
                              UInt64 ×
                                List UInt8 ×
                                  List (List UInt8 × List UInt8) ×
                                    UInt8 × UInt8 × Int64 × UInt8 × UInt8 × UInt64 × UInt64) ×
                    UInt64) =>
          obind
            (F25 n
              (Prod.fst
                  (Option.getD
                    (mget (VT.one (CT.int IntKind.u64))
                      (VT.agg
                        (CTs.cons CT.bool
                          (CTs.cons (CT.int IntKind.u8)
                            (CTs.cons (CT.int IntKind.u64)
                              (CTs.cons (CT.int IntKind.u64)
                                (CTs.cons CT.str
                                  (CTs.cons (CT.ro (CTs.cons CT.str (CTs.cons CT.str CTs.nil)))
                                    (CTs.cons (CT.int IntKind.u8)
                                      (CTs.cons (CT.int IntKind.u8)
                                        (CTs.cons (CT.int IntKind.i64)
                                          (CTs.cons (CT.int IntKind.u8)
                                            (CTs.cons (CT.int IntKind.u8)
                                              (CTs.cons (CT.int IntKind.u64)
                                                (CTs.cons (CT.int IntKind.u64) CTs.nil))))))))))))))
                      (Prod.fst (Prod.snd x_3)) (Prod.fst (Prod.snd (Prod.snd x_3))))
                    (false, (0 : UInt8), (0 : UInt64), (0 : UInt64), [], [], (0 : UInt8), (0 : UInt8), (0 : Int64),
                      (0 : UInt8), (0 : UInt8), (0 : UInt64), (0 : UInt64))),
                Prod.fst
                  (Prod.snd
                    (Option.getD
                      (mget (VT.one (CT.int IntKind.u64))
                        (VT.agg
                          (CTs.cons CT.bool
                            (CTs.cons (CT.int IntKind.u8)
                              (CTs.cons (CT.int IntKind.u64)
                                (CTs.cons (CT.int IntKind.u64)
                                  (CTs.cons CT.str
                                    (CTs.cons (CT.ro (CTs.cons CT.str (CTs.cons CT.str CTs.nil)))
                                      (CTs.cons (CT.int IntKind.u8)
                                        (CTs.cons (CT.int IntKind.u8)
                                          (CTs.cons (CT.int IntKind.i64)
                                            (CTs.cons (CT.int IntKind.u8)
                                              (CTs.cons (CT.int IntKind.u8)
                                                (CTs.cons (CT.int IntKind.u64)
                                                  (CTs.cons (CT.int IntKind.u64) CTs.nil))))))))))))))
                        (Prod.fst (Prod.snd x_3)) (Prod.fst (Prod.snd (Prod.snd x_3))))
                      (false, (0 : UInt8), (0 : UInt64), (0 : UInt64), [], [], (0 : UInt8), (0 : UInt8), (0 : Int64),
                        (0 : UInt8), (0 : UInt8), (0 : UInt64), (0 : UInt64)))),
                Prod.fst
                  (Prod.snd
                    (Prod.snd
                      (Option.getD
                        (mget (VT.one (CT.int IntKind.u64))
                          (VT.agg
                            (CTs.cons CT.bool
                              (CTs.cons (CT.int IntKind.u8)
                                (CTs.cons (CT.int IntKind.u64)
                                  (CTs.cons (CT.int IntKind.u64)
                                    (CTs.cons CT.str
                                      (CTs.cons (CT.ro (CTs.cons CT.str (CTs.cons CT.str CTs.nil)))
                                        (CTs.cons (CT.int IntKind.u8)
                                          (CTs.cons (CT.int IntKind.u8)
                                            (CTs.cons (CT.int IntKind.i64)
                                              (CTs.cons (CT.int IntKind.u8)
                                                (CTs.cons (CT.int IntKind.u8)
                                                  (CTs.cons (CT.int IntKind.u64)
                                                    (CTs.cons (CT.int IntKind.u64) CTs.nil))))))))))))))
                          (Prod.fst (Prod.snd x_3)) (Prod.fst (Prod.snd (Prod.snd x_3))))
                        (false, (0 : UInt8), (0 : UInt64), (0 : UInt64), [], [], (0 : UInt8), (0 : UInt8), (0 : Int64),
                          (0 : UInt8), (0 : UInt8), (0 : UInt64), (0 : UInt64))))),
                Prod.fst
                  (Prod.snd
                    (Prod.snd
                      (Prod.snd
                        (Option.getD
                          (mget (VT.one (CT.int IntKind.u64))
                            (VT.agg
                              (CTs.cons CT.bool
                                (CTs.cons (CT.int IntKind.u8)
                                  (CTs.cons (CT.int IntKind.u64)
                                    (CTs.cons (CT.int IntKind.u64)
                                      (CTs.cons CT.str
                                        (CTs.cons (CT.ro (CTs.cons CT.str (CTs.cons CT.str CTs.nil)))
                                          (CTs.cons (CT.int IntKind.u8)
                                            (CTs.cons (CT.int IntKind.u8)
                                              (CTs.cons (CT.int IntKind.i64)
                                                (CTs.cons (CT.int IntKind.u8)
                                                  (CTs.cons (CT.int IntKind.u8)
                                                    (CTs.cons (CT.int IntKind.u64)
                                                      (CTs.cons (CT.int IntKind.u64) CTs.nil))))))))))))))
                            (Prod.fst (Prod.snd x_3)) (Prod.fst (Prod.snd (Prod.snd x_3))))
                          (false, (0 : UInt8), (0 : UInt64), (0 : UInt64), [], [], (0 : UInt8), (0 : UInt8),
                            (0 : Int64), (0 : UInt8), (0 : UInt8), (0 : UInt64), (0 : UInt64)))))),
                Prod.fst
                  (Prod.snd
                    (Prod.snd
                      (Prod.snd
                        (Prod.snd
                          (Option.getD
                            (mget (VT.one (CT.int IntKind.u64))
                              (VT.agg
                                (CTs.cons CT.bool
                                  (CTs.cons (CT.int IntKind.u8)
                                    (CTs.cons (CT.int IntKind.u64)
                                      (CTs.cons (CT.int IntKind.u64)
                                        (CTs.cons CT.str
                                          (CTs.cons (CT.ro (CTs.cons CT.str (CTs.cons CT.str CTs.nil)))
                                            (CTs.cons (CT.int IntKind.u8)
                                              (CTs.cons (CT.int IntKind.u8)
                                                (CTs.cons (CT.int IntKind.i64)
                                                  (CTs.cons (CT.int IntKind.u8)
                                                    (CTs.cons (CT.int IntKind.u8)
                                                      (CTs.cons (CT.int IntKind.u64)
                                                        (CTs.cons (CT.int IntKind.u64) CTs.nil))))))))))))))
                              (Prod.fst (Prod.snd x_3)) (Prod.fst (Prod.snd (Prod.snd x_3))))
                            (false, (0 : UInt8), (0 : UInt64), (0 : UInt64), [], [], (0 : UInt8), (0 : UInt8),
                              (0 : Int64), (0 : UInt8), (0 : UInt8), (0 : UInt64), (0 : UInt64))))))),
                Prod.fst
                  (Prod.snd
                    (Prod.snd
                      (Prod.snd
                        (Prod.snd
                          (Prod.snd
                            (Option.getD
                              (mget (VT.one (CT.int IntKind.u64))
                                (VT.agg
                                  (CTs.cons CT.bool
                                    (CTs.cons (CT.int IntKind.u8)
                                      (CTs.cons (CT.int IntKind.u64)
                                        (CTs.cons (CT.int IntKind.u64)
                                          (CTs.cons CT.str
                                            (CTs.cons (CT.ro (CTs.cons CT.str (CTs.cons CT.str CTs.nil)))
                                              (CTs.cons (CT.int IntKind.u8)
                                                (CTs.cons (CT.int IntKind.u8)
                                                  (CTs.cons (CT.int IntKind.i64)
                                                    (CTs.cons (CT.int IntKind.u8)
                                                      (CTs.cons (CT.int IntKind.u8)
                                                        (CTs.cons (CT.int IntKind.u64)
                                                          (CTs.cons (CT.int IntKind.u64) CTs.nil))))))))))))))
                                (Prod.fst (Prod.snd x_3)) (Prod.fst (Prod.snd (Prod.snd x_3))))
                              (false, (0 : UInt8), (0 : UInt64), (0 : UInt64), [], [], (0 : UInt8), (0 : UInt8),
                                (0 : Int64), (0 : UInt8), (0 : UInt8), (0 : UInt64), (0 : UInt64)))))))),
                Prod.fst
                  (Prod.snd
                    (Prod.snd
                      (Prod.snd
                        (Prod.snd
                          (Prod.snd
                            (Prod.snd
                              (Option.getD
                                (mget (VT.one (CT.int IntKind.u64))
                                  (VT.agg
                                    (CTs.cons CT.bool
                                      (CTs.cons (CT.int IntKind.u8)
                                        (CTs.cons (CT.int IntKind.u64)
                                          (CTs.cons (CT.int IntKind.u64)
                                            (CTs.cons CT.str
                                              (CTs.cons (CT.ro (CTs.cons CT.str (CTs.cons CT.str CTs.nil)))
                                                (CTs.cons (CT.int IntKind.u8)
                                                  (CTs.cons (CT.int IntKind.u8)
                                                    (CTs.cons (CT.int IntKind.i64)
                                                      (CTs.cons (CT.int IntKind.u8)
                                                        (CTs.cons (CT.int IntKind.u8)
                                                          (CTs.cons (CT.int IntKind.u64)
                                                            (CTs.cons (CT.int IntKind.u64) CTs.nil))))))))))))))
                                  (Prod.fst (Prod.snd x_3)) (Prod.fst (Prod.snd (Prod.snd x_3))))
                                (false, (0 : UInt8), (0 : UInt64), (0 : UInt64), [], [], (0 : UInt8), (0 : UInt8),
                                  (0 : Int64), (0 : UInt8), (0 : UInt8), (0 : UInt64), (0 : UInt64))))))))),
                Prod.fst
                  (Prod.snd
                    (Prod.snd
                      (Prod.snd
                        (Prod.snd
                          (Prod.snd
                            (Prod.snd
                              (Prod.snd
                                (Option.getD
                                  (mget (VT.one (CT.int IntKind.u64))
                                    (VT.agg
                                      (CTs.cons CT.bool
                                        (CTs.cons (CT.int IntKind.u8)
                                          (CTs.cons (CT.int IntKind.u64)
                                            (CTs.cons (CT.int IntKind.u64)
                                              (CTs.cons CT.str
                                                (CTs.cons (CT.ro (CTs.cons CT.str (CTs.cons CT.str CTs.nil)))
                                                  (CTs.cons (CT.int IntKind.u8)
                                                    (CTs.cons (CT.int IntKind.u8)
                                                      (CTs.cons (CT.int IntKind.i64)
                                                        (CTs.cons (CT.int IntKind.u8)
                                                          (CTs.cons (CT.int IntKind.u8)
                                                            (CTs.cons (CT.int IntKind.u64)
                                                              (CTs.cons (CT.int IntKind.u64) CTs.nil))))))))))))))
                                    (Prod.fst (Prod.snd x_3)) (Prod.fst (Prod.snd (Prod.snd x_3))))
                                  (false, (0 : UInt8), (0 : UInt64), (0 : UInt64), [], [], (0 : UInt8), (0 : UInt8),
                                    (0 : Int64), (0 : UInt8), (0 : UInt8), (0 : UInt64), (0 : UInt64)))))))))),
                Prod.fst
                  (Prod.snd
                    (Prod.snd
                      (Prod.snd
                        (Prod.snd
                          (Prod.snd
                            (Prod.snd
                              (Prod.snd
                                (Prod.snd
                                  (Option.getD
                                    (mget (VT.one (CT.int IntKind.u64))
                                      (VT.agg
                                        (CTs.cons CT.bool
                                          (CTs.cons (CT.int IntKind.u8)
                                            (CTs.cons (CT.int IntKind.u64)
                                              (CTs.cons (CT.int IntKind.u64)
                                                (CTs.cons CT.str
                                                  (CTs.cons (CT.ro (CTs.cons CT.str (CTs.cons CT.str CTs.nil)))
                                                    (CTs.cons (CT.int IntKind.u8)
                                                      (CTs.cons (CT.int IntKind.u8)
                                                        (CTs.cons (CT.int IntKind.i64)
                                                          (CTs.cons (CT.int IntKind.u8)
                                                            (CTs.cons (CT.int IntKind.u8)
                                                              (CTs.cons (CT.int IntKind.u64)
                                                                (CTs.cons (CT.int IntKind.u64) CTs.nil))))))))))))))
                                      (Prod.fst (Prod.snd x_3)) (Prod.fst (Prod.snd (Prod.snd x_3))))
                                    (false, (0 : UInt8), (0 : UInt64), (0 : UInt64), [], [], (0 : UInt8), (0 : UInt8),
                                      (0 : Int64), (0 : UInt8), (0 : UInt8), (0 : UInt64), (0 : UInt64))))))))))),
                Prod.fst
                  (Prod.snd
                    (Prod.snd
                      (Prod.snd
                        (Prod.snd
                          (Prod.snd
                            (Prod.snd
                              (Prod.snd
                                (Prod.snd
                                  (Prod.snd
                                    (Option.getD
                                      (mget (VT.one (CT.int IntKind.u64))
                                        (VT.agg
                                          (CTs.cons CT.bool
                                            (CTs.cons (CT.int IntKind.u8)
                                              (CTs.cons (CT.int IntKind.u64)
                                                (CTs.cons (CT.int IntKind.u64)
                                                  (CTs.cons CT.str
                                                    (CTs.cons (CT.ro (CTs.cons CT.str (CTs.cons CT.str CTs.nil)))
                                                      (CTs.cons (CT.int IntKind.u8)
                                                        (CTs.cons (CT.int IntKind.u8)
                                                          (CTs.cons (CT.int IntKind.i64)
                                                            (CTs.cons (CT.int IntKind.u8)
                                                              (CTs.cons (CT.int IntKind.u8)
                                                                (CTs.cons (CT.int IntKind.u64)
                                                                  (CTs.cons (CT.int IntKind.u64) CTs.nil))))))))))))))
                                        (Prod.fst (Prod.snd x_3)) (Prod.fst (Prod.snd (Prod.snd x_3))))
                                      (false, (0 : UInt8), (0 : UInt64), (0 : UInt64), [], [], (0 : UInt8), (0 : UInt8),
                                        (0 : Int64), (0 : UInt8), (0 : UInt8), (0 : UInt64), (0 : UInt64)))))))))))),
                Prod.fst
                  (Prod.snd
                    (Prod.snd
                      (Prod.snd
                        (Prod.snd
                          (Prod.snd
                            (Prod.snd
                              (Prod.snd
                                (Prod.snd
                                  (Prod.snd
                                    (Prod.snd
                                      (Option.getD
                                        (mget (VT.one (CT.int IntKind.u64))
                                          (VT.agg
                                            (CTs.cons CT.bool
                                              (CTs.cons (CT.int IntKind.u8)
                                                (CTs.cons (CT.int IntKind.u64)
                                                  (CTs.cons (CT.int IntKind.u64)
                                                    (CTs.cons CT.str
                                                      (CTs.cons (CT.ro (CTs.cons CT.str (CTs.cons CT.str CTs.nil)))
                                                        (CTs.cons (CT.int IntKind.u8)
                                                          (CTs.cons (CT.int IntKind.u8)
                                                            (CTs.cons (CT.int IntKind.i64)
                                                              (CTs.cons (CT.int IntKind.u8)
                                                                (CTs.cons (CT.int IntKind.u8)
                                                                  (CTs.cons (CT.int IntKind.u64)
                                                                    (CTs.cons (CT.int IntKind.u64) CTs.nil))))))))))))))
                                          (Prod.fst (Prod.snd x_3)) (Prod.fst (Prod.snd (Prod.snd x_3))))
                                        (false, (0 : UInt8), (0 : UInt64), (0 : UInt64), [], [], (0 : UInt8),
                                          (0 : UInt8), (0 : Int64), (0 : UInt8), (0 : UInt8), (0 : UInt64),
                                          (0 : UInt64))))))))))))),
                Prod.fst
                  (Prod.snd
                    (Prod.snd
                      (Prod.snd
                        (Prod.snd
                          (Prod.snd
                            (Prod.snd
                              (Prod.snd
                                (Prod.snd
                                  (Prod.snd
                                    (Prod.snd
                                      (Prod.snd
                                        (Option.getD
                                          (mget (VT.one (CT.int IntKind.u64))
                                            (VT.agg
                                              (CTs.cons CT.bool
                                                (CTs.cons (CT.int IntKind.u8)
                                                  (CTs.cons (CT.int IntKind.u64)
                                                    (CTs.cons (CT.int IntKind.u64)
                                                      (CTs.cons CT.str
                                                        (CTs.cons (CT.ro (CTs.cons CT.str (CTs.cons CT.str CTs.nil)))
                                                          (CTs.cons (CT.int IntKind.u8)
                                                            (CTs.cons (CT.int IntKind.u8)
                                                              (CTs.cons (CT.int IntKind.i64)
                                                                (CTs.cons (CT.int IntKind.u8)
                                                                  (CTs.cons (CT.int IntKind.u8)
                                                                    (CTs.cons (CT.int IntKind.u64)
                                                                      (CTs.cons (CT.int IntKind.u64)
                                                                        CTs.nil))))))))))))))
                                            (Prod.fst (Prod.snd x_3)) (Prod.fst (Prod.snd (Prod.snd x_3))))
                                          (false, (0 : UInt8), (0 : UInt64), (0 : UInt64), [], [], (0 : UInt8),
                                            (0 : UInt8), (0 : Int64), (0 : UInt8), (0 : UInt8), (0 : UInt64),
                                            (0 : UInt64)))))))))))))),
                Prod.snd
                  (Prod.snd
                    (Prod.snd
                      (Prod.snd
                        (Prod.snd
                          (Prod.snd
                            (Prod.snd
                              (Prod.snd
                                (Prod.snd
                                  (Prod.snd
                                    (Prod.snd
                                      (Prod.snd
                                        (Option.getD
                                          (mget (VT.one (CT.int IntKind.u64))
                                            (VT.agg
                                              (CTs.cons CT.bool
                                                (CTs.cons (CT.int IntKind.u8)
                                                  (CTs.cons (CT.int IntKind.u64)
                                                    (CTs.cons (CT.int IntKind.u64)
                                                      (CTs.cons CT.str
                                                        (CTs.cons (CT.ro (CTs.cons CT.str (CTs.cons CT.str CTs.nil)))
                                                          (CTs.cons (CT.int IntKind.u8)
                                                            (CTs.cons (CT.int IntKind.u8)
                                                              (CTs.cons (CT.int IntKind.i64)
                                                                (CTs.cons (CT.int IntKind.u8)
                                                                  (CTs.cons (CT.int IntKind.u8)
                                                                    (CTs.cons (CT.int IntKind.u64)
                                                                      (CTs.cons (CT.int IntKind.u64)
                                                                        CTs.nil))))))))))))))
                                            (Prod.fst (Prod.snd x_3)) (Prod.fst (Prod.snd (Prod.snd x_3))))
                                          (false, (0 : UInt8), (0 : UInt64), (0 : UInt64), [], [], (0 : UInt8),
                                            (0 : UInt8), (0 : Int64), (0 : UInt8), (0 : UInt8), (0 : UInt64),
                                            (0 : UInt64))))))))))))))))
            fun
              (x_4 :
                (Bool ×
                    UInt8 ×
                      UInt64 ×
                        UInt64 ×
                          List UInt8 ×
                            List (List UInt8 × List UInt8) × UInt8 × UInt8 × Int64 × UInt8 × UInt8 × UInt64 × UInt64) ×
                  Unit) =>
            some
              (((Prod.fst (Prod.fst x_4), Prod.fst (Prod.snd (Prod.fst x_4)),
                    Prod.fst (Prod.snd (Prod.snd (Prod.fst x_4))),
                    Prod.fst (Prod.snd (Prod.snd (Prod.snd (Prod.fst x_4)))),
                    Prod.fst (Prod.snd (Prod.snd (Prod.snd (Prod.snd (Prod.fst x_4))))),
                    Prod.fst (Prod.snd (Prod.snd (Prod.snd (Prod.snd (Prod.snd (Prod.fst x_4)))))),
                    Prod.fst (Prod.snd (Prod.snd (Prod.snd (Prod.snd (Prod.snd (Prod.snd (Prod.fst x_4))))))),
                    Prod.fst
                      (Prod.snd (Prod.snd (Prod.snd (Prod.snd (Prod.snd (Prod.snd (Prod.snd (Prod.fst x_4)))))))),
                    Prod.fst
                      (Prod.snd
                        (Prod.snd (Prod.snd (Prod.snd (Prod.snd (Prod.snd (Prod.snd (Prod.snd (Prod.fst x_4))))))))),
                    Prod.fst
                      (Prod.snd
                        (Prod.snd
                          (Prod.snd (Prod.snd (Prod.snd (Prod.snd (Prod.snd (Prod.snd (Prod.snd (Prod.fst x_4)))))))))),
                    Prod.fst
                      (Prod.snd
                        (Prod.snd
                          (Prod.snd
                            (Prod.snd
                              (Prod.snd (Prod.snd (Prod.snd (Prod.snd (Prod.snd (Prod.snd (Prod.fst x_4))))))))))),
                    Prod.fst
                      (Prod.snd
                        (Prod.snd
                          (Prod.snd
                            (Prod.snd
                              (Prod.snd
                                (Prod.snd (Prod.snd (Prod.snd (Prod.snd (Prod.snd (Prod.snd (Prod.fst x_4)))))))))))),
                    Prod.snd
                      (Prod.snd
                        (Prod.snd
                          (Prod.snd
                            (Prod.snd
                              (Prod.snd
                                (Prod.snd (Prod.snd (Prod.snd (Prod.snd (Prod.snd (Prod.snd (Prod.fst x_4))))))))))))),
                  true),
                some
                  (Prod.fst x_3, Prod.fst (Prod.snd x_3), Prod.fst (Prod.snd (Prod.snd x_3)),
                    Prod.snd (Prod.snd (Prod.snd x_3)))))
theorem ok11 (n : Nat) : FunOK Try.prog ⟨11, sig11, F11 n⟩ :=
  fun_ok (hints := ⟨[], []⟩) (fuel := n) (c := Try.f11.body.getD .skip) (rs := Try.f11.results.toList) tt_ok mix (FsOK.cons (ok23 n) (FsOK.cons (ok1025 n) (FsOK.cons (ok25 n) (FsOK.nil)))) Try.func11 (by kernel_rfl) (by kernel_rfl) rfl (by kernel_rfl) rfl rfl (by kernel_rfl)
-- watchfire/watchfirelaw11.Awake
def sig7 : Sig := ⟨.nil, (.cons (.one (.c .bool)) .nil)⟩
def F7 : Nat → Unit → Option (Bool × Unit) := fun (n : Nat) (x : Unit) =>
  obind (F8 n (4 : Int64))
    fun
      (x_1 :
        (Option
              (Int64 ×
                UInt64 ×
                  List
                      (UInt64 ×
                        Bool ×
                          UInt8 ×
                            UInt64 ×
                              UInt64 ×
                                List UInt8 ×
                                  List (List UInt8 × List UInt8) ×
                                    UInt8 × UInt8 × Int64 × UInt8 × UInt8 × UInt64 × UInt64) ×
                    UInt64) ×
            Int64) ×
          Unit) =>
    obind
      (F9 n
        (false, (0 : UInt8), (0 : UInt8), (0 : UInt8), (0 : UInt16), (0 : UInt16), (0 : UInt16), (0 : UInt8),
          (0 : UInt8), (0 : UInt8), false))
      fun
        (x_2 :
          (Bool ×
              UInt8 ×
                UInt64 ×
                  UInt64 ×
                    List UInt8 ×
                      List (List UInt8 × List UInt8) × UInt8 × UInt8 × Int64 × UInt8 × UInt8 × UInt64 × UInt64) ×
            Unit) =>
      obind
        (F1010 n
          (Prod.fst (Prod.fst x_1), (2 : UInt64), Prod.fst (Prod.fst x_2), Prod.fst (Prod.snd (Prod.fst x_2)),
            Prod.fst (Prod.snd (Prod.snd (Prod.fst x_2))), Prod.fst (Prod.snd (Prod.snd (Prod.snd (Prod.fst x_2)))),
            Prod.fst (Prod.snd (Prod.snd (Prod.snd (Prod.snd (Prod.fst x_2))))),
            Prod.fst (Prod.snd (Prod.snd (Prod.snd (Prod.snd (Prod.snd (Prod.fst x_2)))))),
            Prod.fst (Prod.snd (Prod.snd (Prod.snd (Prod.snd (Prod.snd (Prod.snd (Prod.fst x_2))))))),
            Prod.fst (Prod.snd (Prod.snd (Prod.snd (Prod.snd (Prod.snd (Prod.snd (Prod.snd (Prod.fst x_2)))))))),
            Prod.fst
              (Prod.snd (Prod.snd (Prod.snd (Prod.snd (Prod.snd (Prod.snd (Prod.snd (Prod.snd (Prod.fst x_2))))))))),
            Prod.fst
              (Prod.snd
                (Prod.snd (Prod.snd (Prod.snd (Prod.snd (Prod.snd (Prod.snd (Prod.snd (Prod.snd (Prod.fst x_2)))))))))),
            Prod.fst
              (Prod.snd
                (Prod.snd
                  (Prod.snd
                    (Prod.snd (Prod.snd (Prod.snd (Prod.snd (Prod.snd (Prod.snd (Prod.snd (Prod.fst x_2))))))))))),
            Prod.fst
              (Prod.snd
                (Prod.snd
                  (Prod.snd
                    (Prod.snd
                      (Prod.snd (Prod.snd (Prod.snd (Prod.snd (Prod.snd (Prod.snd (Prod.snd (Prod.fst x_2)))))))))))),
            Prod.snd
              (Prod.snd
                (Prod.snd
                  (Prod.snd
                    (Prod.snd
                      (Prod.snd (Prod.snd (Prod.snd (Prod.snd (Prod.snd (Prod.snd (Prod.snd (Prod.fst x_2))))))))))))))
        fun
          (x_3 :
            Int64 ×
              Option
                  (Int64 ×
                    UInt64 ×
                      List
                          (UInt64 ×
                            Bool ×
                              UInt8 ×
                                UInt64 ×
                                  UInt64 ×
                                    List UInt8 ×
                                      List (List UInt8 × List UInt8) ×
                                        UInt8 × UInt8 × Int64 × UInt8 × UInt8 × UInt64 × UInt64) ×
                        UInt64) ×
                List (List UInt8 × List UInt8)) =>
        obind (F17 n (Prod.fst (Prod.snd x_3)))
          fun
            (x_4 :
              (UInt64 × UInt64) ×
                Option
                  (Int64 ×
                    UInt64 ×
                      List
                          (UInt64 ×
                            Bool ×
                              UInt8 ×
                                UInt64 ×
                                  UInt64 ×
                                    List UInt8 ×
                                      List (List UInt8 × List UInt8) ×
                                        UInt8 × UInt8 × Int64 × UInt8 × UInt8 × UInt64 × UInt64) ×
                        UInt64)) =>
          obind
            (F1010 n
              (Prod.snd x_4, (1 : UInt64), Prod.fst (Prod.fst x_2), Prod.fst (Prod.snd (Prod.fst x_2)),
                Prod.fst (Prod.snd (Prod.snd (Prod.fst x_2))), Prod.fst (Prod.snd (Prod.snd (Prod.snd (Prod.fst x_2)))),
                Prod.fst (Prod.snd (Prod.snd (Prod.snd (Prod.snd (Prod.fst x_2))))), Prod.snd (Prod.snd x_3),
                Prod.fst (Prod.snd (Prod.snd (Prod.snd (Prod.snd (Prod.snd (Prod.snd (Prod.fst x_2))))))),
                Prod.fst (Prod.snd (Prod.snd (Prod.snd (Prod.snd (Prod.snd (Prod.snd (Prod.snd (Prod.fst x_2)))))))),
                Prod.fst
                  (Prod.snd
                    (Prod.snd (Prod.snd (Prod.snd (Prod.snd (Prod.snd (Prod.snd (Prod.snd (Prod.fst x_2))))))))),
                Prod.fst
                  (Prod.snd
                    (Prod.snd
                      (Prod.snd (Prod.snd (Prod.snd (Prod.snd (Prod.snd (Prod.snd (Prod.snd (Prod.fst x_2)))))))))),
                Prod.fst
                  (Prod.snd
                    (Prod.snd
                      (Prod.snd
                        (Prod.snd (Prod.snd (Prod.snd (Prod.snd (Prod.snd (Prod.snd (Prod.snd (Prod.fst x_2))))))))))),
                Prod.fst
                  (Prod.snd
                    (Prod.snd
                      (Prod.snd
                        (Prod.snd
                          (Prod.snd
                            (Prod.snd (Prod.snd (Prod.snd (Prod.snd (Prod.snd (Prod.snd (Prod.fst x_2)))))))))))),
                Prod.snd
                  (Prod.snd
                    (Prod.snd
                      (Prod.snd
                        (Prod.snd
                          (Prod.snd
                            (Prod.snd (Prod.snd (Prod.snd (Prod.snd (Prod.snd (Prod.snd (Prod.fst x_2))))))))))))))
            fun
              (x_5 :
                Int64 ×
                  Option
                      (Int64 ×
                        UInt64 ×
                          List
                              (UInt64 ×
                                Bool ×
                                  UInt8 ×
                                    UInt64 ×
                                      UInt64 ×
                                        List UInt8 ×
                                          List (List UInt8 × List UInt8) ×
                                            UInt8 × UInt8 × Int64 × UInt8 × UInt8 × UInt64 × UInt64) ×
                            UInt64) ×
                    List (List UInt8 × List UInt8)) =>
            obind (F11 n (Prod.fst (Prod.snd x_5)))
              fun
                (x_6 :
                  ((Bool ×
                        UInt8 ×
                          UInt64 ×
                            UInt64 ×
                              List UInt8 ×
                                List (List UInt8 × List UInt8) ×
                                  UInt8 × UInt8 × Int64 × UInt8 × UInt8 × UInt64 × UInt64) ×
                      Bool) ×
                    Option
                      (Int64 ×
                        UInt64 ×
                          List
                              (UInt64 ×
                                Bool ×
                                  UInt8 ×
                                    UInt64 ×
                                      UInt64 ×
                                        List UInt8 ×
                                          List (List UInt8 × List UInt8) ×
                                            UInt8 × UInt8 × Int64 × UInt8 × UInt8 × UInt64 × UInt64) ×
                            UInt64)) =>
              oite (decide (Prod.snd (Prod.fst x_1) = (0 : Int64)))
                (oite (Prod.snd (Prod.fst x_6))
                  (oite (decide (Prod.fst (Prod.fst x_4) = (0 : UInt64)))
                    (some (decide (Prod.snd (Prod.fst x_4) = (1 : UInt64)), ())) (some (false, ())))
                  (some (false, ())))
                (some (false, ()))
theorem ok7 (n : Nat) : FunOK Try.prog ⟨7, sig7, F7 n⟩ :=
  fun_ok (hints := ⟨[], []⟩) (fuel := n) (c := Try.f7.body.getD .skip) (rs := Try.f7.results.toList) tt_ok mix (FsOK.cons (ok8 n) (FsOK.cons (ok9 n) (FsOK.cons (ok1010 n) (FsOK.cons (ok10 n) (FsOK.cons (ok17 n) (FsOK.cons (ok11 n) (FsOK.nil))))))) Try.func7 (by kernel_rfl) (by kernel_rfl) rfl (by kernel_rfl) rfl rfl (by kernel_rfl)
-- watchfire/watchfireref01.Same
def sig26 : Sig := ⟨(.cons (.one (.c (.ro (.cons .str (.cons .str .nil))))) (.cons (.one (.c (.ro (.cons .str (.cons .str .nil))))) .nil)), (.cons (.one (.c .bool)) .nil)⟩
def F26_L29 : Arr
    [PT.list (CTs.cons CT.str (CTs.cons CT.str CTs.nil)), PT.list (CTs.cons CT.str (CTs.cons CT.str CTs.nil)),
      PT.int IntKind.i64]
    (Option (Bool × Unit)) →
  List (List UInt8 × List UInt8) → List (List UInt8 × List UInt8) → Int64 → Option (Bool × Unit) := fun
    (rec :
      Arr
        [PT.list (CTs.cons CT.str (CTs.cons CT.str CTs.nil)), PT.list (CTs.cons CT.str (CTs.cons CT.str CTs.nil)),
          PT.int IntKind.i64]
        (Option (Bool × Unit)))
    (a b : List (List UInt8 × List UInt8)) (i : Int64) =>
  oite (decide (i < Int64.ofInt ↑(List.length a)))
    (obind (at? a (Int64.toInt i)) fun (x_1 : List UInt8 × List UInt8) =>
      obind (at? b (Int64.toInt i)) fun (x_2 : List UInt8 × List UInt8) =>
        oite (!(Prod.fst x_1 == Prod.fst x_2 && (Prod.snd x_1 == Prod.snd x_2 && true))) (some (false, ()))
          (rec a b (i + (1 : Int64))))
    (some (true, ()))
def F26_R29 : Nat →
  PT.T (PT.list (CTs.cons CT.str (CTs.cons CT.str CTs.nil))) →
    List (List UInt8 × List UInt8) → Int64 → Option (Bool × Unit) := ofixA (29 : Nat)
  [PT.list (CTs.cons CT.str (CTs.cons CT.str CTs.nil)), PT.list (CTs.cons CT.str (CTs.cons CT.str CTs.nil)),
    PT.int IntKind.i64]
  F26_L29
def F26 : Nat → List (List UInt8 × List UInt8) × List (List UInt8 × List UInt8) → Option (Bool × Unit) := fun (n : Nat) (x : List (List UInt8 × List UInt8) × List (List UInt8 × List UInt8)) =>
  oite (!decide (Int64.ofInt ↑(List.length (Prod.fst x)) = Int64.ofInt ↑(List.length (Prod.snd x))))
    (some (false, ())) (F26_R29 n (Prod.fst x) (Prod.snd x) (0 : Int64))
theorem F26_R29_s  (m_ : Nat) : F26_R29  (m_ + 1) = F26_L29  (F26_R29  m_) := rfl
theorem ok26 (n : Nat) : FunOK Try.prog ⟨26, sig26, F26 n⟩ :=
  fun_ok (hints := ⟨[], [(29, ⟨[(0, .one (.ro (.cons .str (.cons .str .nil)))), (1, .one (.ro (.cons .str (.cons .str .nil)))), (5, .one (.int .i64))], [], 2⟩)]⟩) (fuel := n) (c := Try.f26.body.getD .skip) (rs := Try.f26.results.toList) tt_ok mix (FsOK.nil) Try.func26 (by kernel_rfl) (by kernel_rfl) rfl (by kernel_rfl) rfl rfl (by kernel_rfl)
-- watchfire/watchfireref01.SameItem
def sig12 : Sig := ⟨(.cons (.agg (.cons .bool (.cons (.int .u8) (.cons (.int .u64) (.cons (.int .u64) (.cons .str (.cons (.ro (.cons .str (.cons .str .nil))) (.cons (.int .u8) (.cons (.int .u8) (.cons (.int .i64) (.cons (.int .u8) (.cons (.int .u8) (.cons (.int .u64) (.cons (.int .u64) .nil)))))))))))))) (.cons (.agg (.cons .bool (.cons (.int .u8) (.cons (.int .u64) (.cons (.int .u64) (.cons .str (.cons (.ro (.cons .str (.cons .str .nil))) (.cons (.int .u8) (.cons (.int .u8) (.cons (.int .i64) (.cons (.int .u8) (.cons (.int .u8) (.cons (.int .u64) (.cons (.int .u64) .nil)))))))))))))) .nil)), (.cons (.one (.c .bool)) .nil)⟩
def F12 : Nat →
  (Bool ×
        UInt8 ×
          UInt64 ×
            UInt64 ×
              List UInt8 × List (List UInt8 × List UInt8) × UInt8 × UInt8 × Int64 × UInt8 × UInt8 × UInt64 × UInt64) ×
      Bool ×
        UInt8 ×
          UInt64 ×
            UInt64 ×
              List UInt8 × List (List UInt8 × List UInt8) × UInt8 × UInt8 × Int64 × UInt8 × UInt8 × UInt64 × UInt64 →
    Option (Bool × Unit) := fun (n : Nat)
    (x :
      (Bool ×
          UInt8 ×
            UInt64 ×
              UInt64 ×
                List UInt8 × List (List UInt8 × List UInt8) × UInt8 × UInt8 × Int64 × UInt8 × UInt8 × UInt64 × UInt64) ×
        Bool ×
          UInt8 ×
            UInt64 ×
              UInt64 ×
                List UInt8 ×
                  List (List UInt8 × List UInt8) × UInt8 × UInt8 × Int64 × UInt8 × UInt8 × UInt64 × UInt64) =>
  oite (!Prod.fst (Prod.fst x) == Prod.fst (Prod.snd x)) (some (false, ()))
    (oite (Prod.fst (Prod.fst x))
      (some
        (decide
              (Prod.fst
                  (Prod.snd
                    (Prod.snd
                      (Prod.snd
                        (Prod.snd (Prod.snd (Prod.snd (Prod.snd (Prod.snd (Prod.snd (Prod.snd (Prod.fst x))))))))))) =
                Prod.fst
                  (Prod.snd
                    (Prod.snd
                      (Prod.snd
                        (Prod.snd (Prod.snd (Prod.snd (Prod.snd (Prod.snd (Prod.snd (Prod.snd (Prod.snd x)))))))))))) &&
            (decide
                (Prod.fst
                    (Prod.snd
                      (Prod.snd
                        (Prod.snd
                          (Prod.snd
                            (Prod.snd
                              (Prod.snd (Prod.snd (Prod.snd (Prod.snd (Prod.snd (Prod.snd (Prod.fst x)))))))))))) =
                  Prod.fst
                    (Prod.snd
                      (Prod.snd
                        (Prod.snd
                          (Prod.snd
                            (Prod.snd
                              (Prod.snd (Prod.snd (Prod.snd (Prod.snd (Prod.snd (Prod.snd (Prod.snd x))))))))))))) &&
              (decide
                  (Prod.snd
                      (Prod.snd
                        (Prod.snd
                          (Prod.snd
                            (Prod.snd
                              (Prod.snd
                                (Prod.snd (Prod.snd (Prod.snd (Prod.snd (Prod.snd (Prod.snd (Prod.fst x)))))))))))) =
                    Prod.snd
                      (Prod.snd
                        (Prod.snd
                          (Prod.snd
                            (Prod.snd
                              (Prod.snd
                                (Prod.snd (Prod.snd (Prod.snd (Prod.snd (Prod.snd (Prod.snd (Prod.snd x))))))))))))) &&
                true)),
          ()))
      (oite (decide (Prod.fst (Prod.snd (Prod.fst x)) = Prod.fst (Prod.snd (Prod.snd x))))
        (oite (decide (Prod.fst (Prod.snd (Prod.snd (Prod.fst x))) = Prod.fst (Prod.snd (Prod.snd (Prod.snd x)))))
          (oite
            (decide
              (Prod.fst (Prod.snd (Prod.snd (Prod.snd (Prod.fst x)))) =
                Prod.fst (Prod.snd (Prod.snd (Prod.snd (Prod.snd x))))))
            (oite
              (Prod.fst (Prod.snd (Prod.snd (Prod.snd (Prod.snd (Prod.fst x))))) ==
                Prod.fst (Prod.snd (Prod.snd (Prod.snd (Prod.snd (Prod.snd x))))))
              (oite
                (decide
                  (Prod.fst (Prod.snd (Prod.snd (Prod.snd (Prod.snd (Prod.snd (Prod.snd (Prod.fst x))))))) =
                    Prod.fst (Prod.snd (Prod.snd (Prod.snd (Prod.snd (Prod.snd (Prod.snd (Prod.snd x)))))))))
                (oite
                  (decide
                    (Prod.fst
                        (Prod.snd (Prod.snd (Prod.snd (Prod.snd (Prod.snd (Prod.snd (Prod.snd (Prod.fst x)))))))) =
                      Prod.fst
                        (Prod.snd (Prod.snd (Prod.snd (Prod.snd (Prod.snd (Prod.snd (Prod.snd (Prod.snd x))))))))))
                  (oite
                    (decide
                      (Prod.fst
                          (Prod.snd
                            (Prod.snd (Prod.snd (Prod.snd (Prod.snd (Prod.snd (Prod.snd (Prod.snd (Prod.fst x))))))))) =
                        Prod.fst
                          (Prod.snd
                            (Prod.snd (Prod.snd (Prod.snd (Prod.snd (Prod.snd (Prod.snd (Prod.snd (Prod.snd x)))))))))))
                    (oite
                      (decide
                        (Prod.fst
                            (Prod.snd
                              (Prod.snd
                                (Prod.snd
                                  (Prod.snd (Prod.snd (Prod.snd (Prod.snd (Prod.snd (Prod.snd (Prod.fst x)))))))))) =
                          Prod.fst
                            (Prod.snd
                              (Prod.snd
                                (Prod.snd
                                  (Prod.snd (Prod.snd (Prod.snd (Prod.snd (Prod.snd (Prod.snd (Prod.snd x))))))))))))
                      (obind
                        (F26 n
                          (Prod.fst (Prod.snd (Prod.snd (Prod.snd (Prod.snd (Prod.snd (Prod.fst x)))))),
                            Prod.fst (Prod.snd (Prod.snd (Prod.snd (Prod.snd (Prod.snd (Prod.snd x))))))))
                        fun (x_1 : Bool × Unit) => some (Prod.fst x_1, ()))
                      (some (false, ())))
                    (some (false, ())))
                  (some (false, ())))
                (some (false, ())))
              (some (false, ())))
            (some (false, ())))
          (some (false, ())))
        (some (false, ()))))
theorem ok12 (n : Nat) : FunOK Try.prog ⟨12, sig12, F12 n⟩ :=
  fun_ok (hints := ⟨[], []⟩) (fuel := n) (c := Try.f12.body.getD .skip) (rs := Try.f12.results.toList) tt_ok mix (FsOK.cons (ok26 n) (FsOK.nil)) Try.func12 (by kernel_rfl) (by kernel_rfl) rfl (by kernel_rfl) rfl rfl (by kernel_rfl)
end Go.Proofs.Ytllfmmonieelpaa
