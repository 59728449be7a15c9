/- What the functions of this seat compute, found by walking their code symbolically: each F is what the walk finds, each ok says that the Go function keeps it as a contract. Printed by a program of this repo's. -/
import Derived.Test.YtkgabdafhfhoiaaProg
import Derived.KernelRfl
import Derived.Test.YtkgabdafhfhoiaaSxFun
open Go Go.Sx
namespace Go.Proofs.Ytkgabdafhfhoiaa
set_option maxRecDepth 100000
set_option linter.unusedVariables false
def tt : TT := [(3, ⟨.int .i64, 1, 8, some (.int .i64 0), false⟩), (4, ⟨.bool, 1, 1, some (.bool false), false⟩), (5, ⟨.int .u8, 1, 1, some (.int .u8 0), false⟩), (22, ⟨.int .u16, 1, 2, some (.int .u16 0), false⟩), (24, ⟨.int .u64, 1, 8, some (.int .u64 0), false⟩), (25, ⟨.ptr 46, 1, 8, some (.pointer none), false⟩), (26, ⟨.int .i64, 1, 8, some (.int .i64 0), false⟩), (31, ⟨.slice 48, 1, 24, some (.slice none 0 0), false⟩), (34, ⟨.slice 5, 1, 24, some (.slice none 0 0), false⟩), (44, ⟨.slice 24, 1, 24, some (.slice none 0 0), false⟩), (46, ⟨.struct [(0, 3, false), (1, 24, false), (2, 24, false), (3, 24, false), (4, 24, false), (5, 31, false), (6, 24, false), (7, 24, false)], 8, 80, some (.agg #[.int .i64 0, .int .u64 0, .int .u64 0, .int .u64 0, .int .u64 0, .slice none 0 0, .int .u64 0, .int .u64 0]), false⟩), (48, ⟨.struct [(0, 24, false), (1, 24, false), (2, 24, false), (3, 24, false), (4, 4, false), (5, 4, false)], 6, 40, some (.agg #[.int .u64 0, .int .u64 0, .int .u64 0, .int .u64 0, .bool false, .bool false]), false⟩)]
theorem tt_ok : TTOK Try.prog tt := TTOK.of_rows (by kernel_rfl)
theorem mix : Try.prog.follows .mixedOrders = true := by kernel_rfl
-- watchfire/send.New
def sig7 : Sig := ⟨(.cons (.one (.c (.int .i64))) (.cons (.one (.c (.int .u64))) (.cons (.one (.c (.int .u64))) .nil))), (.cons (.one (.ptr (.cons (.c (.int .i64)) (.cons (.c (.int .u64)) (.cons (.c (.int .u64)) (.cons (.c (.int .u64)) (.cons (.c (.int .u64)) (.cons (.row (.cons (.int .u64) (.cons (.int .u64) (.cons (.int .u64) (.cons (.int .u64) (.cons .bool (.cons .bool .nil))))))) (.cons (.c (.int .u64)) (.cons (.c (.int .u64)) .nil)))))))))) (.cons (.one (.c (.int .i64))) .nil))⟩
def F7 : Nat →
  Int64 × UInt64 × UInt64 →
    Option
      ((Option
            (Int64 ×
              UInt64 ×
                UInt64 × UInt64 × UInt64 × List (UInt64 × UInt64 × UInt64 × UInt64 × Bool × Bool) × UInt64 × UInt64) ×
          Int64) ×
        Unit) := fun (n : Nat) (x : Int64 × UInt64 × UInt64) =>
  oite (decide (Prod.fst x < (1 : Int64))) (some ((none, (19 : Int64)), ()))
    (oite (decide ((64 : Int64) < Prod.fst x)) (some ((none, (19 : Int64)), ()))
      (oite (decide (Prod.fst (Prod.snd x) < (1 : UInt64))) (some ((none, (6 : Int64)), ()))
        (oite (decide (Prod.snd (Prod.snd x) < Prod.fst (Prod.snd x))) (some ((none, (6 : Int64)), ()))
          (oite (decide ((1048576 : UInt64) < Prod.snd (Prod.snd x))) (some ((none, (6 : Int64)), ()))
            (some
              ((some
                    (Prod.fst x, Prod.fst (Prod.snd x), Prod.snd (Prod.snd x), (0 : UInt64), (1 : UInt64), [],
                      (0 : UInt64), (0 : UInt64)),
                  (0 : Int64)),
                ()))))))
theorem ok7 (n : Nat) : FunOK Try.prog ⟨7, sig7, F7 n⟩ :=
  fun_ok (hints := ⟨[], []⟩) (fuel := n) (c := Try.f7.body.getD .skip) (rs := Try.f7.results.toList) tt_ok mix (FsOK.nil) Try.func7 (by kernel_rfl) (by kernel_rfl) rfl (by kernel_rfl) rfl rfl (by kernel_rfl)
-- (*watchfire/send.Sender).Room
def sig12 : Sig := ⟨(.cons (.one (.ptr (.cons (.c (.int .i64)) (.cons (.c (.int .u64)) (.cons (.c (.int .u64)) (.cons (.c (.int .u64)) (.cons (.c (.int .u64)) (.cons (.row (.cons (.int .u64) (.cons (.int .u64) (.cons (.int .u64) (.cons (.int .u64) (.cons .bool (.cons .bool .nil))))))) (.cons (.c (.int .u64)) (.cons (.c (.int .u64)) .nil)))))))))) .nil), (.cons (.one (.c (.int .i64))) .nil)⟩
def F12 : Nat →
  Option
      (Int64 ×
        UInt64 × UInt64 × UInt64 × UInt64 × List (UInt64 × UInt64 × UInt64 × UInt64 × Bool × Bool) × UInt64 × UInt64) →
    Option
      (Int64 ×
        Option
          (Int64 ×
            UInt64 ×
              UInt64 × UInt64 × UInt64 × List (UInt64 × UInt64 × UInt64 × UInt64 × Bool × Bool) × UInt64 × UInt64)) := fun (n : Nat)
    (x :
      Option
        (Int64 ×
          UInt64 ×
            UInt64 × UInt64 × UInt64 × List (UInt64 × UInt64 × UInt64 × UInt64 × Bool × Bool) × UInt64 × UInt64)) =>
  oelim x (some ((0 : Int64), none))
    fun
      (x_1 :
        Int64 ×
          UInt64 ×
            UInt64 × UInt64 × UInt64 × List (UInt64 × UInt64 × UInt64 × UInt64 × Bool × Bool) × UInt64 × UInt64) =>
    some
      (Prod.fst x_1 - Int64.ofInt ↑(List.length (Prod.fst (Prod.snd (Prod.snd (Prod.snd (Prod.snd (Prod.snd x_1))))))),
        some
          (Prod.fst x_1, Prod.fst (Prod.snd x_1), Prod.fst (Prod.snd (Prod.snd x_1)),
            Prod.fst (Prod.snd (Prod.snd (Prod.snd x_1))), Prod.fst (Prod.snd (Prod.snd (Prod.snd (Prod.snd x_1)))),
            Prod.fst (Prod.snd (Prod.snd (Prod.snd (Prod.snd (Prod.snd x_1))))),
            Prod.fst (Prod.snd (Prod.snd (Prod.snd (Prod.snd (Prod.snd (Prod.snd x_1)))))),
            Prod.snd (Prod.snd (Prod.snd (Prod.snd (Prod.snd (Prod.snd (Prod.snd x_1))))))))
theorem ok12 (n : Nat) : FunOK Try.prog ⟨12, sig12, F12 n⟩ :=
  fun_ok (hints := ⟨[], []⟩) (fuel := n) (c := Try.f12.body.getD .skip) (rs := Try.f12.results.toList) tt_ok mix (FsOK.nil) Try.func12 (by kernel_rfl) (by kernel_rfl) rfl (by kernel_rfl) rfl rfl (by kernel_rfl)
-- (*watchfire/send.Sender).Offer
def sig8 : Sig := ⟨(.cons (.one (.ptr (.cons (.c (.int .i64)) (.cons (.c (.int .u64)) (.cons (.c (.int .u64)) (.cons (.c (.int .u64)) (.cons (.c (.int .u64)) (.cons (.row (.cons (.int .u64) (.cons (.int .u64) (.cons (.int .u64) (.cons (.int .u64) (.cons .bool (.cons .bool .nil))))))) (.cons (.c (.int .u64)) (.cons (.c (.int .u64)) .nil)))))))))) (.cons (.one (.c (.int .u64))) (.cons (.one (.c (.int .u64))) .nil))), (.cons (.one (.c (.int .u64))) (.cons (.one (.c (.int .i64))) .nil))⟩
def F8_J111 : UInt64 →
  UInt64 →
    Bool →
      Int64 →
        UInt64 →
          UInt64 →
            UInt64 →
              UInt64 →
                UInt64 →
                  UInt64 →
                    List (UInt64 × UInt64 × UInt64 × UInt64 × Bool × Bool) →
                      Option
                        ((UInt64 × Int64) ×
                          Option
                            (Int64 ×
                              UInt64 ×
                                UInt64 ×
                                  UInt64 ×
                                    UInt64 × List (UInt64 × UInt64 × UInt64 × UInt64 × Bool × Bool) × UInt64 × UInt64)) := fun (index now : UInt64) (t : Bool) (s0 : Int64) (s1 s2 s3 s4 s6 s7 : UInt64)
    (sl : List (UInt64 × UInt64 × UInt64 × UInt64 × Bool × Bool)) =>
  oite t (some (((0 : UInt64), (9 : Int64)), some (s0, s1, s2, s3, s4, sl, s6, s7)))
    (oite (decide ((1099511627776 : UInt64) < s4))
      (some (((0 : UInt64), (6 : Int64)), some (s0, s1, s2, s3, s4, sl, s6, s7)))
      (oite (decide ((1099511627776 : UInt64) < index))
        (some (((0 : UInt64), (6 : Int64)), some (s0, s1, s2, s3, s4, sl, s6, s7)))
        (oite (decide ((1099511627776 : UInt64) < now))
          (some (((0 : UInt64), (6 : Int64)), some (s0, s1, s2, s3, s4, sl, s6, s7)))
          (oite (Nat.ble (List.length sl + List.length [(s4, index, now, s1, false, false)]) (4294967296 : Nat))
            (some
              ((s4 + (1 : UInt64) - (1 : UInt64), (0 : Int64)),
                some (s0, s1, s2, s3, s4 + (1 : UInt64), sl ++ [(s4, index, now, s1, false, false)], s6, s7)))
            none))))
def F8 : Nat →
  Option
        (Int64 ×
          UInt64 ×
            UInt64 × UInt64 × UInt64 × List (UInt64 × UInt64 × UInt64 × UInt64 × Bool × Bool) × UInt64 × UInt64) ×
      UInt64 × UInt64 →
    Option
      ((UInt64 × Int64) ×
        Option
          (Int64 ×
            UInt64 ×
              UInt64 × UInt64 × UInt64 × List (UInt64 × UInt64 × UInt64 × UInt64 × Bool × Bool) × UInt64 × UInt64)) := fun (n : Nat)
    (x :
      Option
          (Int64 ×
            UInt64 ×
              UInt64 × UInt64 × UInt64 × List (UInt64 × UInt64 × UInt64 × UInt64 × Bool × Bool) × UInt64 × UInt64) ×
        UInt64 × UInt64) =>
  oelim (Prod.fst x) (some (((0 : UInt64), (1 : Int64)), none))
    fun
      (x_1 :
        Int64 ×
          UInt64 ×
            UInt64 × UInt64 × UInt64 × List (UInt64 × UInt64 × UInt64 × UInt64 × Bool × Bool) × UInt64 × UInt64) =>
    obind
      (F12 n
        (some
          (Prod.fst x_1, Prod.fst (Prod.snd x_1), Prod.fst (Prod.snd (Prod.snd x_1)),
            Prod.fst (Prod.snd (Prod.snd (Prod.snd x_1))), Prod.fst (Prod.snd (Prod.snd (Prod.snd (Prod.snd x_1)))),
            Prod.fst (Prod.snd (Prod.snd (Prod.snd (Prod.snd (Prod.snd x_1))))),
            Prod.fst (Prod.snd (Prod.snd (Prod.snd (Prod.snd (Prod.snd (Prod.snd x_1)))))),
            Prod.snd (Prod.snd (Prod.snd (Prod.snd (Prod.snd (Prod.snd (Prod.snd x_1)))))))))
      fun
        (x_2 :
          Int64 ×
            Option
              (Int64 ×
                UInt64 ×
                  UInt64 ×
                    UInt64 × UInt64 × List (UInt64 × UInt64 × UInt64 × UInt64 × Bool × Bool) × UInt64 × UInt64)) =>
      oite (decide (Prod.fst x_2 < (1 : Int64))) (some (((0 : UInt64), (19 : Int64)), Prod.snd x_2))
        (ojoinA (111 : Nat)
          [PT.int IntKind.u64, PT.int IntKind.u64, PT.bool, PT.int IntKind.i64, PT.int IntKind.u64, PT.int IntKind.u64,
            PT.int IntKind.u64, PT.int IntKind.u64, PT.int IntKind.u64, PT.int IntKind.u64,
            PT.list
              (CTs.cons (CT.int IntKind.u64)
                (CTs.cons (CT.int IntKind.u64)
                  (CTs.cons (CT.int IntKind.u64)
                    (CTs.cons (CT.int IntKind.u64) (CTs.cons CT.bool (CTs.cons CT.bool CTs.nil))))))]
          (fun
              (J :
                Arr
                  [PT.int IntKind.u64, PT.int IntKind.u64, PT.bool, PT.int IntKind.i64, PT.int IntKind.u64,
                    PT.int IntKind.u64, PT.int IntKind.u64, PT.int IntKind.u64, PT.int IntKind.u64, PT.int IntKind.u64,
                    PT.list
                      (CTs.cons (CT.int IntKind.u64)
                        (CTs.cons (CT.int IntKind.u64)
                          (CTs.cons (CT.int IntKind.u64)
                            (CTs.cons (CT.int IntKind.u64) (CTs.cons CT.bool (CTs.cons CT.bool CTs.nil))))))]
                  (Option
                    ((UInt64 × Int64) ×
                      Option
                        (Int64 ×
                          UInt64 ×
                            UInt64 ×
                              UInt64 ×
                                UInt64 × List (UInt64 × UInt64 × UInt64 × UInt64 × Bool × Bool) × UInt64 × UInt64)))) =>
            obind (Prod.snd x_2)
              fun
                (x_3 :
                  Int64 ×
                    UInt64 ×
                      UInt64 ×
                        UInt64 × UInt64 × List (UInt64 × UInt64 × UInt64 × UInt64 × Bool × Bool) × UInt64 × UInt64) =>
              oite
                (decide
                  ((0 : Int64) <
                    Int64.ofInt ↑(List.length (Prod.fst (Prod.snd (Prod.snd (Prod.snd (Prod.snd (Prod.snd x_3)))))))))
                (oite
                  (decide
                      ((0 : Int) ≤
                        Int64.toInt
                          (Int64.ofInt
                              ↑(List.length (Prod.fst (Prod.snd (Prod.snd (Prod.snd (Prod.snd (Prod.snd x_3))))))) -
                            (1 : Int64))) &&
                    Nat.blt
                      (Int.toNat
                        (Int64.toInt
                          (Int64.ofInt
                              ↑(List.length (Prod.fst (Prod.snd (Prod.snd (Prod.snd (Prod.snd (Prod.snd x_3))))))) -
                            (1 : Int64))))
                      (List.length (Prod.fst (Prod.snd (Prod.snd (Prod.snd (Prod.snd (Prod.snd x_3))))))))
                  (obind
                    (Prod.fst
                        (Prod.snd
                          (Prod.snd
                            (Prod.snd
                              (Prod.snd
                                (Prod.snd
                                  x_3))))))[Int.toNat
                        (Int64.toInt
                          (Int64.ofInt
                              ↑(List.length (Prod.fst (Prod.snd (Prod.snd (Prod.snd (Prod.snd (Prod.snd x_3))))))) -
                            (1 : Int64)))]?
                    fun (x_4 : UInt64 × UInt64 × UInt64 × UInt64 × Bool × Bool) =>
                    J (Prod.fst (Prod.snd x)) (Prod.snd (Prod.snd x))
                      (decide (Prod.fst (Prod.snd x) ≤ Prod.fst (Prod.snd x_4))) (Prod.fst x_3)
                      (Prod.fst (Prod.snd x_3)) (Prod.fst (Prod.snd (Prod.snd x_3)))
                      (Prod.fst (Prod.snd (Prod.snd (Prod.snd x_3))))
                      (Prod.fst (Prod.snd (Prod.snd (Prod.snd (Prod.snd x_3)))))
                      (Prod.fst (Prod.snd (Prod.snd (Prod.snd (Prod.snd (Prod.snd (Prod.snd x_3)))))))
                      (Prod.snd (Prod.snd (Prod.snd (Prod.snd (Prod.snd (Prod.snd (Prod.snd x_3)))))))
                      (Prod.fst (Prod.snd (Prod.snd (Prod.snd (Prod.snd (Prod.snd x_3)))))))
                  none)
                (J (Prod.fst (Prod.snd x)) (Prod.snd (Prod.snd x)) false (Prod.fst x_3) (Prod.fst (Prod.snd x_3))
                  (Prod.fst (Prod.snd (Prod.snd x_3))) (Prod.fst (Prod.snd (Prod.snd (Prod.snd x_3))))
                  (Prod.fst (Prod.snd (Prod.snd (Prod.snd (Prod.snd x_3)))))
                  (Prod.fst (Prod.snd (Prod.snd (Prod.snd (Prod.snd (Prod.snd (Prod.snd x_3)))))))
                  (Prod.snd (Prod.snd (Prod.snd (Prod.snd (Prod.snd (Prod.snd (Prod.snd x_3)))))))
                  (Prod.fst (Prod.snd (Prod.snd (Prod.snd (Prod.snd (Prod.snd x_3))))))))
          F8_J111)
theorem ok8 (n : Nat) : FunOK Try.prog ⟨8, sig8, F8 n⟩ :=
  fun_ok (hints := ⟨[(111, ⟨[(0, .one (.own 0)), (1, .one (.int .u64)), (2, .one (.int .u64)), (15, .one (.bool))], [(0, .cells [.int .i64, .int .u64, .int .u64, .int .u64, .int .u64, .own 3, .int .u64, .int .u64]), (3, .row (.cons (.int .u64) (.cons (.int .u64) (.cons (.int .u64) (.cons (.int .u64) (.cons .bool (.cons .bool .nil)))))))], 4⟩)], []⟩) (fuel := n) (c := Try.f8.body.getD .skip) (rs := Try.f8.results.toList) tt_ok mix (FsOK.cons (ok12 n) (FsOK.nil)) Try.func8 (by kernel_rfl) (by kernel_rfl) rfl (by kernel_rfl) rfl rfl (by kernel_rfl)
-- (*watchfire/send.Sender).Due
def sig9 : Sig := ⟨(.cons (.one (.ptr (.cons (.c (.int .i64)) (.cons (.c (.int .u64)) (.cons (.c (.int .u64)) (.cons (.c (.int .u64)) (.cons (.c (.int .u64)) (.cons (.row (.cons (.int .u64) (.cons (.int .u64) (.cons (.int .u64) (.cons (.int .u64) (.cons .bool (.cons .bool .nil))))))) (.cons (.c (.int .u64)) (.cons (.c (.int .u64)) .nil)))))))))) (.cons (.one (.c (.int .u64))) .nil)), (.cons (.one (.c (.ro (.cons (.int .u64) (.cons (.int .u64) (.cons (.int .u64) (.cons (.int .u64) (.cons .bool (.cons .bool .nil))))))))) .nil)⟩
def F9_J31455 : Arr
    [PT.int IntKind.u64, PT.int IntKind.i64, PT.int IntKind.i64, PT.int IntKind.i64, PT.int IntKind.u64,
      PT.int IntKind.u64, PT.int IntKind.u64, PT.int IntKind.u64, PT.int IntKind.u64, PT.int IntKind.u64,
      PT.list
        (CTs.cons (CT.int IntKind.u64)
          (CTs.cons (CT.int IntKind.u64)
            (CTs.cons (CT.int IntKind.u64)
              (CTs.cons (CT.int IntKind.u64) (CTs.cons CT.bool (CTs.cons CT.bool CTs.nil)))))),
      PT.list
        (CTs.cons (CT.int IntKind.u64)
          (CTs.cons (CT.int IntKind.u64)
            (CTs.cons (CT.int IntKind.u64)
              (CTs.cons (CT.int IntKind.u64) (CTs.cons CT.bool (CTs.cons CT.bool CTs.nil))))))]
    (Option
      (List (UInt64 × UInt64 × UInt64 × UInt64 × Bool × Bool) ×
        Option
          (Int64 ×
            UInt64 ×
              UInt64 × UInt64 × UInt64 × List (UInt64 × UInt64 × UInt64 × UInt64 × Bool × Bool) × UInt64 × UInt64))) →
  UInt64 →
    Nat →
      Int64 →
        Int64 →
          Int64 →
            UInt64 →
              UInt64 →
                UInt64 →
                  UInt64 →
                    UInt64 →
                      UInt64 →
                        List (UInt64 × UInt64 × UInt64 × UInt64 × Bool × Bool) →
                          List (UInt64 × UInt64 × UInt64 × UInt64 × Bool × Bool) →
                            Option
                              (List (UInt64 × UInt64 × UInt64 × UInt64 × Bool × Bool) ×
                                Option
                                  (Int64 ×
                                    UInt64 ×
                                      UInt64 ×
                                        UInt64 ×
                                          UInt64 ×
                                            List (UInt64 × UInt64 × UInt64 × UInt64 × Bool × Bool) × UInt64 × UInt64)) := fun
    (rec :
      Arr
        [PT.int IntKind.u64, PT.int IntKind.i64, PT.int IntKind.i64, PT.int IntKind.i64, PT.int IntKind.u64,
          PT.int IntKind.u64, PT.int IntKind.u64, PT.int IntKind.u64, PT.int IntKind.u64, PT.int IntKind.u64,
          PT.list
            (CTs.cons (CT.int IntKind.u64)
              (CTs.cons (CT.int IntKind.u64)
                (CTs.cons (CT.int IntKind.u64)
                  (CTs.cons (CT.int IntKind.u64) (CTs.cons CT.bool (CTs.cons CT.bool CTs.nil)))))),
          PT.list
            (CTs.cons (CT.int IntKind.u64)
              (CTs.cons (CT.int IntKind.u64)
                (CTs.cons (CT.int IntKind.u64)
                  (CTs.cons (CT.int IntKind.u64) (CTs.cons CT.bool (CTs.cons CT.bool CTs.nil))))))]
        (Option
          (List (UInt64 × UInt64 × UInt64 × UInt64 × Bool × Bool) ×
            Option
              (Int64 ×
                UInt64 ×
                  UInt64 ×
                    UInt64 × UInt64 × List (UInt64 × UInt64 × UInt64 × UInt64 × Bool × Bool) × UInt64 × UInt64))))
    (now_1 : UInt64) (fi : Nat) (t_2 t_1_1 s0_1 : Int64) (s1_1 s2_1 s3_1 s4_1 s6_1 s7_1 : UInt64)
    (out_1 f : List (UInt64 × UInt64 × UInt64 × UInt64 × Bool × Bool)) =>
  obind f[fi]? fun (x_5 : UInt64 × UInt64 × UInt64 × UInt64 × Bool × Bool) =>
    obind
      (List.set f fi
          (Prod.fst x_5, Prod.fst (Prod.snd x_5), Prod.fst (Prod.snd (Prod.snd x_5)),
            Prod.fst (Prod.snd (Prod.snd (Prod.snd x_5))), true,
            Prod.snd (Prod.snd (Prod.snd (Prod.snd (Prod.snd x_5))))))[fi]?
      fun (x_6 : UInt64 × UInt64 × UInt64 × UInt64 × Bool × Bool) =>
      obind
        (List.set f fi
            (Prod.fst x_5, Prod.fst (Prod.snd x_5), Prod.fst (Prod.snd (Prod.snd x_5)),
              Prod.fst (Prod.snd (Prod.snd (Prod.snd x_5))), true,
              Prod.snd (Prod.snd (Prod.snd (Prod.snd (Prod.snd x_5))))))[fi]?
        fun (x_7 : UInt64 × UInt64 × UInt64 × UInt64 × Bool × Bool) =>
        obind
          (List.set
              (List.set f fi
                (Prod.fst x_5, Prod.fst (Prod.snd x_5), Prod.fst (Prod.snd (Prod.snd x_5)),
                  Prod.fst (Prod.snd (Prod.snd (Prod.snd x_5))), true,
                  Prod.snd (Prod.snd (Prod.snd (Prod.snd (Prod.snd x_5))))))
              fi
              (Prod.fst x_7, Prod.fst (Prod.snd x_7), now_1 + Prod.fst (Prod.snd (Prod.snd (Prod.snd x_6))),
                Prod.fst (Prod.snd (Prod.snd (Prod.snd x_7))), Prod.fst (Prod.snd (Prod.snd (Prod.snd (Prod.snd x_7)))),
                Prod.snd (Prod.snd (Prod.snd (Prod.snd (Prod.snd x_7))))))[fi]?
          fun (x_8 : UInt64 × UInt64 × UInt64 × UInt64 × Bool × Bool) =>
          obind
            (List.set
                (List.set f fi
                  (Prod.fst x_5, Prod.fst (Prod.snd x_5), Prod.fst (Prod.snd (Prod.snd x_5)),
                    Prod.fst (Prod.snd (Prod.snd (Prod.snd x_5))), true,
                    Prod.snd (Prod.snd (Prod.snd (Prod.snd (Prod.snd x_5))))))
                fi
                (Prod.fst x_7, Prod.fst (Prod.snd x_7), now_1 + Prod.fst (Prod.snd (Prod.snd (Prod.snd x_6))),
                  Prod.fst (Prod.snd (Prod.snd (Prod.snd x_7))),
                  Prod.fst (Prod.snd (Prod.snd (Prod.snd (Prod.snd x_7)))),
                  Prod.snd (Prod.snd (Prod.snd (Prod.snd (Prod.snd x_7))))))[fi]?
            fun (x_9 : UInt64 × UInt64 × UInt64 × UInt64 × Bool × Bool) =>
            rec now_1 t_2 (t_1_1 + (1 : Int64)) s0_1 s1_1 s2_1 s3_1 s4_1 s6_1 s7_1 out_1
              (List.set
                (List.set
                  (List.set f fi
                    (Prod.fst x_5, Prod.fst (Prod.snd x_5), Prod.fst (Prod.snd (Prod.snd x_5)),
                      Prod.fst (Prod.snd (Prod.snd (Prod.snd x_5))), true,
                      Prod.snd (Prod.snd (Prod.snd (Prod.snd (Prod.snd x_5))))))
                  fi
                  (Prod.fst x_7, Prod.fst (Prod.snd x_7), now_1 + Prod.fst (Prod.snd (Prod.snd (Prod.snd x_6))),
                    Prod.fst (Prod.snd (Prod.snd (Prod.snd x_7))),
                    Prod.fst (Prod.snd (Prod.snd (Prod.snd (Prod.snd x_7)))),
                    Prod.snd (Prod.snd (Prod.snd (Prod.snd (Prod.snd x_7))))))
                fi
                (Prod.fst x_9, Prod.fst (Prod.snd x_9), Prod.fst (Prod.snd (Prod.snd x_9)),
                  IK.minI IntKind.u64 ((2 : UInt64) * Prod.fst (Prod.snd (Prod.snd (Prod.snd x_8)))) s2_1,
                  Prod.fst (Prod.snd (Prod.snd (Prod.snd (Prod.snd x_9)))),
                  Prod.snd (Prod.snd (Prod.snd (Prod.snd (Prod.snd x_9))))))
def F9_L61 : Arr
    [PT.int IntKind.u64, PT.int IntKind.i64, PT.int IntKind.i64, PT.int IntKind.i64, PT.int IntKind.u64,
      PT.int IntKind.u64, PT.int IntKind.u64, PT.int IntKind.u64, PT.int IntKind.u64, PT.int IntKind.u64,
      PT.list
        (CTs.cons (CT.int IntKind.u64)
          (CTs.cons (CT.int IntKind.u64)
            (CTs.cons (CT.int IntKind.u64)
              (CTs.cons (CT.int IntKind.u64) (CTs.cons CT.bool (CTs.cons CT.bool CTs.nil)))))),
      PT.list
        (CTs.cons (CT.int IntKind.u64)
          (CTs.cons (CT.int IntKind.u64)
            (CTs.cons (CT.int IntKind.u64)
              (CTs.cons (CT.int IntKind.u64) (CTs.cons CT.bool (CTs.cons CT.bool CTs.nil))))))]
    (Option
      (List (UInt64 × UInt64 × UInt64 × UInt64 × Bool × Bool) ×
        Option
          (Int64 ×
            UInt64 ×
              UInt64 × UInt64 × UInt64 × List (UInt64 × UInt64 × UInt64 × UInt64 × Bool × Bool) × UInt64 × UInt64))) →
  UInt64 →
    Int64 →
      Int64 →
        Int64 →
          UInt64 →
            UInt64 →
              UInt64 →
                UInt64 →
                  UInt64 →
                    UInt64 →
                      List (UInt64 × UInt64 × UInt64 × UInt64 × Bool × Bool) →
                        List (UInt64 × UInt64 × UInt64 × UInt64 × Bool × Bool) →
                          Option
                            (List (UInt64 × UInt64 × UInt64 × UInt64 × Bool × Bool) ×
                              Option
                                (Int64 ×
                                  UInt64 ×
                                    UInt64 ×
                                      UInt64 ×
                                        UInt64 ×
                                          List (UInt64 × UInt64 × UInt64 × UInt64 × Bool × Bool) × UInt64 × UInt64)) := fun
    (rec :
      Arr
        [PT.int IntKind.u64, PT.int IntKind.i64, PT.int IntKind.i64, PT.int IntKind.i64, PT.int IntKind.u64,
          PT.int IntKind.u64, PT.int IntKind.u64, PT.int IntKind.u64, PT.int IntKind.u64, PT.int IntKind.u64,
          PT.list
            (CTs.cons (CT.int IntKind.u64)
              (CTs.cons (CT.int IntKind.u64)
                (CTs.cons (CT.int IntKind.u64)
                  (CTs.cons (CT.int IntKind.u64) (CTs.cons CT.bool (CTs.cons CT.bool CTs.nil)))))),
          PT.list
            (CTs.cons (CT.int IntKind.u64)
              (CTs.cons (CT.int IntKind.u64)
                (CTs.cons (CT.int IntKind.u64)
                  (CTs.cons (CT.int IntKind.u64) (CTs.cons CT.bool (CTs.cons CT.bool CTs.nil))))))]
        (Option
          (List (UInt64 × UInt64 × UInt64 × UInt64 × Bool × Bool) ×
            Option
              (Int64 ×
                UInt64 ×
                  UInt64 ×
                    UInt64 × UInt64 × List (UInt64 × UInt64 × UInt64 × UInt64 × Bool × Bool) × UInt64 × UInt64))))
    (now : UInt64) (t t_1 s0 : Int64) (s1 s2 s3 s4 s6 s7 : UInt64)
    (out sl : List (UInt64 × UInt64 × UInt64 × UInt64 × Bool × Bool)) =>
  oite (decide (t_1 < t))
    (oite (decide ((0 : Int) ≤ Int64.toInt t_1) && Nat.blt (Int.toNat (Int64.toInt t_1)) (List.length sl))
      (obind sl[Int.toNat (Int64.toInt t_1)]? fun (x_2 : UInt64 × UInt64 × UInt64 × UInt64 × Bool × Bool) =>
        oite (Prod.snd (Prod.snd (Prod.snd (Prod.snd (Prod.snd x_2)))))
          (rec now t (t_1 + (1 : Int64)) s0 s1 s2 s3 s4 s6 s7 out sl)
          (obind sl[Int.toNat (Int64.toInt t_1)]? fun (x_3 : UInt64 × UInt64 × UInt64 × UInt64 × Bool × Bool) =>
            oite (decide (now < Prod.fst (Prod.snd (Prod.snd x_3))))
              (rec now t (t_1 + (1 : Int64)) s0 s1 s2 s3 s4 s6 s7 out sl)
              (obind sl[Int.toNat (Int64.toInt t_1)]? fun (x_4 : UInt64 × UInt64 × UInt64 × UInt64 × Bool × Bool) =>
                oite
                  (Nat.ble
                    (List.length out +
                      List.length
                        [(Prod.fst x_4, Prod.fst (Prod.snd x_4), Prod.fst (Prod.snd (Prod.snd x_4)),
                            Prod.fst (Prod.snd (Prod.snd (Prod.snd x_4))),
                            Prod.fst (Prod.snd (Prod.snd (Prod.snd (Prod.snd x_4)))),
                            Prod.snd (Prod.snd (Prod.snd (Prod.snd (Prod.snd x_4)))))])
                    (4294967296 : Nat))
                  (ojoinA (31455 : Nat)
                    [PT.int IntKind.u64, PT.nat, PT.int IntKind.i64, PT.int IntKind.i64, PT.int IntKind.i64,
                      PT.int IntKind.u64, PT.int IntKind.u64, PT.int IntKind.u64, PT.int IntKind.u64,
                      PT.int IntKind.u64, PT.int IntKind.u64,
                      PT.list
                        (CTs.cons (CT.int IntKind.u64)
                          (CTs.cons (CT.int IntKind.u64)
                            (CTs.cons (CT.int IntKind.u64)
                              (CTs.cons (CT.int IntKind.u64) (CTs.cons CT.bool (CTs.cons CT.bool CTs.nil)))))),
                      PT.list
                        (CTs.cons (CT.int IntKind.u64)
                          (CTs.cons (CT.int IntKind.u64)
                            (CTs.cons (CT.int IntKind.u64)
                              (CTs.cons (CT.int IntKind.u64) (CTs.cons CT.bool (CTs.cons CT.bool CTs.nil))))))]
                    (fun
                        (J :
                          Arr
                            [PT.int IntKind.u64, PT.nat, PT.int IntKind.i64, PT.int IntKind.i64, PT.int IntKind.i64,
                              PT.int IntKind.u64, PT.int IntKind.u64, PT.int IntKind.u64, PT.int IntKind.u64,
                              PT.int IntKind.u64, PT.int IntKind.u64,
                              PT.list
                                (CTs.cons (CT.int IntKind.u64)
                                  (CTs.cons (CT.int IntKind.u64)
                                    (CTs.cons (CT.int IntKind.u64)
                                      (CTs.cons (CT.int IntKind.u64) (CTs.cons CT.bool (CTs.cons CT.bool CTs.nil)))))),
                              PT.list
                                (CTs.cons (CT.int IntKind.u64)
                                  (CTs.cons (CT.int IntKind.u64)
                                    (CTs.cons (CT.int IntKind.u64)
                                      (CTs.cons (CT.int IntKind.u64) (CTs.cons CT.bool (CTs.cons CT.bool CTs.nil))))))]
                            (Option
                              (List (UInt64 × UInt64 × UInt64 × UInt64 × Bool × Bool) ×
                                Option
                                  (Int64 ×
                                    UInt64 ×
                                      UInt64 ×
                                        UInt64 ×
                                          UInt64 ×
                                            List (UInt64 × UInt64 × UInt64 × UInt64 × Bool × Bool) ×
                                              UInt64 × UInt64)))) =>
                      obind sl[Int.toNat (Int64.toInt t_1)]?
                        fun (x_5 : UInt64 × UInt64 × UInt64 × UInt64 × Bool × Bool) =>
                        oite (Prod.fst (Prod.snd (Prod.snd (Prod.snd (Prod.snd x_5)))))
                          (J now (Int.toNat (Int64.toInt t_1)) t t_1 s0 s1 s2 s3 s4 (s6 + (1 : UInt64))
                            (s7 + (1 : UInt64))
                            (out ++
                              [(Prod.fst x_4, Prod.fst (Prod.snd x_4), Prod.fst (Prod.snd (Prod.snd x_4)),
                                  Prod.fst (Prod.snd (Prod.snd (Prod.snd x_4))),
                                  Prod.fst (Prod.snd (Prod.snd (Prod.snd (Prod.snd x_4)))),
                                  Prod.snd (Prod.snd (Prod.snd (Prod.snd (Prod.snd x_4)))))])
                            sl)
                          (J now (Int.toNat (Int64.toInt t_1)) t t_1 s0 s1 s2 s3 s4 (s6 + (1 : UInt64)) s7
                            (out ++
                              [(Prod.fst x_4, Prod.fst (Prod.snd x_4), Prod.fst (Prod.snd (Prod.snd x_4)),
                                  Prod.fst (Prod.snd (Prod.snd (Prod.snd x_4))),
                                  Prod.fst (Prod.snd (Prod.snd (Prod.snd (Prod.snd x_4)))),
                                  Prod.snd (Prod.snd (Prod.snd (Prod.snd (Prod.snd x_4)))))])
                            sl))
                    (F9_J31455 rec))
                  none)))
      none)
    (some (out, some (s0, s1, s2, s3, s4, sl, s6, s7)))
def F9_R61 : Nat →
  PT.T (PT.int IntKind.u64) →
    Int64 →
      Int64 →
        Int64 →
          UInt64 →
            UInt64 →
              UInt64 →
                UInt64 →
                  UInt64 →
                    UInt64 →
                      List (UInt64 × UInt64 × UInt64 × UInt64 × Bool × Bool) →
                        List (UInt64 × UInt64 × UInt64 × UInt64 × Bool × Bool) →
                          Option
                            (List (UInt64 × UInt64 × UInt64 × UInt64 × Bool × Bool) ×
                              Option
                                (Int64 ×
                                  UInt64 ×
                                    UInt64 ×
                                      UInt64 ×
                                        UInt64 ×
                                          List (UInt64 × UInt64 × UInt64 × UInt64 × Bool × Bool) × UInt64 × UInt64)) := ofixA (61 : Nat)
  [PT.int IntKind.u64, PT.int IntKind.i64, PT.int IntKind.i64, PT.int IntKind.i64, PT.int IntKind.u64,
    PT.int IntKind.u64, PT.int IntKind.u64, PT.int IntKind.u64, PT.int IntKind.u64, PT.int IntKind.u64,
    PT.list
      (CTs.cons (CT.int IntKind.u64)
        (CTs.cons (CT.int IntKind.u64)
          (CTs.cons (CT.int IntKind.u64)
            (CTs.cons (CT.int IntKind.u64) (CTs.cons CT.bool (CTs.cons CT.bool CTs.nil)))))),
    PT.list
      (CTs.cons (CT.int IntKind.u64)
        (CTs.cons (CT.int IntKind.u64)
          (CTs.cons (CT.int IntKind.u64)
            (CTs.cons (CT.int IntKind.u64) (CTs.cons CT.bool (CTs.cons CT.bool CTs.nil))))))]
  F9_L61
def F9 : Nat →
  Option
        (Int64 ×
          UInt64 ×
            UInt64 × UInt64 × UInt64 × List (UInt64 × UInt64 × UInt64 × UInt64 × Bool × Bool) × UInt64 × UInt64) ×
      UInt64 →
    Option
      (List (UInt64 × UInt64 × UInt64 × UInt64 × Bool × Bool) ×
        Option
          (Int64 ×
            UInt64 ×
              UInt64 × UInt64 × UInt64 × List (UInt64 × UInt64 × UInt64 × UInt64 × Bool × Bool) × UInt64 × UInt64)) := fun (n : Nat)
    (x :
      Option
          (Int64 ×
            UInt64 ×
              UInt64 × UInt64 × UInt64 × List (UInt64 × UInt64 × UInt64 × UInt64 × Bool × Bool) × UInt64 × UInt64) ×
        UInt64) =>
  oelim (Prod.fst x) (some ([], none))
    fun
      (x_1 :
        Int64 ×
          UInt64 ×
            UInt64 × UInt64 × UInt64 × List (UInt64 × UInt64 × UInt64 × UInt64 × Bool × Bool) × UInt64 × UInt64) =>
    oite (decide ((1099511627776 : UInt64) < Prod.snd x))
      (some
        ([],
          some
            (Prod.fst x_1, Prod.fst (Prod.snd x_1), Prod.fst (Prod.snd (Prod.snd x_1)),
              Prod.fst (Prod.snd (Prod.snd (Prod.snd x_1))), Prod.fst (Prod.snd (Prod.snd (Prod.snd (Prod.snd x_1)))),
              Prod.fst (Prod.snd (Prod.snd (Prod.snd (Prod.snd (Prod.snd x_1))))),
              Prod.fst (Prod.snd (Prod.snd (Prod.snd (Prod.snd (Prod.snd (Prod.snd x_1)))))),
              Prod.snd (Prod.snd (Prod.snd (Prod.snd (Prod.snd (Prod.snd (Prod.snd x_1)))))))))
      (F9_R61 n (Prod.snd x)
        (Int64.ofInt ↑(List.length (Prod.fst (Prod.snd (Prod.snd (Prod.snd (Prod.snd (Prod.snd x_1)))))))) (0 : Int64)
        (Prod.fst x_1) (Prod.fst (Prod.snd x_1)) (Prod.fst (Prod.snd (Prod.snd x_1)))
        (Prod.fst (Prod.snd (Prod.snd (Prod.snd x_1)))) (Prod.fst (Prod.snd (Prod.snd (Prod.snd (Prod.snd x_1)))))
        (Prod.fst (Prod.snd (Prod.snd (Prod.snd (Prod.snd (Prod.snd (Prod.snd x_1)))))))
        (Prod.snd (Prod.snd (Prod.snd (Prod.snd (Prod.snd (Prod.snd (Prod.snd x_1))))))) []
        (Prod.fst (Prod.snd (Prod.snd (Prod.snd (Prod.snd (Prod.snd x_1)))))))
theorem F9_R61_s  (m_ : Nat) : F9_R61  (m_ + 1) = F9_L61  (F9_R61  m_) := rfl
theorem ok9 (n : Nat) : FunOK Try.prog ⟨9, sig9, F9 n⟩ :=
  fun_ok (hints := ⟨[(31455, ⟨[(0, .one (.own 0)), (1, .one (.int .u64)), (5, .one (.own 2)), (7, .one (.pelem 3 6 0)), (18, .one (.int .i64)), (19, .one (.int .i64))], [(0, .cells [.int .i64, .int .u64, .int .u64, .int .u64, .int .u64, .own 3, .int .u64, .int .u64]), (2, .row (.cons (.int .u64) (.cons (.int .u64) (.cons (.int .u64) (.cons (.int .u64) (.cons .bool (.cons .bool .nil))))))), (3, .row (.cons (.int .u64) (.cons (.int .u64) (.cons (.int .u64) (.cons (.int .u64) (.cons .bool (.cons .bool .nil)))))))], 4⟩)], [(61, ⟨[(0, .one (.own 0)), (1, .one (.int .u64)), (5, .one (.own 2)), (18, .one (.int .i64)), (19, .one (.int .i64))], [(0, .cells [.int .i64, .int .u64, .int .u64, .int .u64, .int .u64, .own 3, .int .u64, .int .u64]), (2, .row (.cons (.int .u64) (.cons (.int .u64) (.cons (.int .u64) (.cons (.int .u64) (.cons .bool (.cons .bool .nil))))))), (3, .row (.cons (.int .u64) (.cons (.int .u64) (.cons (.int .u64) (.cons (.int .u64) (.cons .bool (.cons .bool .nil)))))))], 4⟩)]⟩) (fuel := n) (c := Try.f9.body.getD .skip) (rs := Try.f9.results.toList) tt_ok mix (FsOK.nil) Try.func9 (by kernel_rfl) (by kernel_rfl) rfl (by kernel_rfl) rfl rfl (by kernel_rfl)
-- watchfire/watchfirelaw10.Awake
def sig6 : Sig := ⟨.nil, (.cons (.one (.c .bool)) .nil)⟩
def F6_L8027 : Arr
    [PT.int IntKind.i64, PT.int IntKind.u64,
      PT.opt
        (OTs.cons (OT.c (CT.int IntKind.i64))
          (OTs.cons (OT.c (CT.int IntKind.u64))
            (OTs.cons (OT.c (CT.int IntKind.u64))
              (OTs.cons (OT.c (CT.int IntKind.u64))
                (OTs.cons (OT.c (CT.int IntKind.u64))
                  (OTs.cons
                    (OT.row
                      (CTs.cons (CT.int IntKind.u64)
                        (CTs.cons (CT.int IntKind.u64)
                          (CTs.cons (CT.int IntKind.u64)
                            (CTs.cons (CT.int IntKind.u64) (CTs.cons CT.bool (CTs.cons CT.bool CTs.nil)))))))
                    (OTs.cons (OT.c (CT.int IntKind.u64)) (OTs.cons (OT.c (CT.int IntKind.u64)) OTs.nil)))))))),
      PT.list (CTs.cons (CT.int IntKind.u64) CTs.nil)]
    (Option (Bool × Unit)) →
  Arr
      [PT.int IntKind.i64, PT.int IntKind.u64, PT.int IntKind.u64, PT.int IntKind.i64, PT.int IntKind.i64,
        PT.opt
          (OTs.cons (OT.c (CT.int IntKind.i64))
            (OTs.cons (OT.c (CT.int IntKind.u64))
              (OTs.cons (OT.c (CT.int IntKind.u64))
                (OTs.cons (OT.c (CT.int IntKind.u64))
                  (OTs.cons (OT.c (CT.int IntKind.u64))
                    (OTs.cons
                      (OT.row
                        (CTs.cons (CT.int IntKind.u64)
                          (CTs.cons (CT.int IntKind.u64)
                            (CTs.cons (CT.int IntKind.u64)
                              (CTs.cons (CT.int IntKind.u64) (CTs.cons CT.bool (CTs.cons CT.bool CTs.nil)))))))
                      (OTs.cons (OT.c (CT.int IntKind.u64)) (OTs.cons (OT.c (CT.int IntKind.u64)) OTs.nil)))))))),
        PT.list (CTs.cons (CT.int IntKind.u64) CTs.nil)]
      (Option (Bool × Unit)) →
    Int64 →
      UInt64 →
        UInt64 →
          Int64 →
            Int64 →
              Option
                  (Int64 ×
                    UInt64 ×
                      UInt64 ×
                        UInt64 × UInt64 × List (UInt64 × UInt64 × UInt64 × UInt64 × Bool × Bool) × UInt64 × UInt64) →
                List UInt64 → Option (Bool × Unit) := fun
    (rec :
      Arr
        [PT.int IntKind.i64, PT.int IntKind.u64,
          PT.opt
            (OTs.cons (OT.c (CT.int IntKind.i64))
              (OTs.cons (OT.c (CT.int IntKind.u64))
                (OTs.cons (OT.c (CT.int IntKind.u64))
                  (OTs.cons (OT.c (CT.int IntKind.u64))
                    (OTs.cons (OT.c (CT.int IntKind.u64))
                      (OTs.cons
                        (OT.row
                          (CTs.cons (CT.int IntKind.u64)
                            (CTs.cons (CT.int IntKind.u64)
                              (CTs.cons (CT.int IntKind.u64)
                                (CTs.cons (CT.int IntKind.u64) (CTs.cons CT.bool (CTs.cons CT.bool CTs.nil)))))))
                        (OTs.cons (OT.c (CT.int IntKind.u64)) (OTs.cons (OT.c (CT.int IntKind.u64)) OTs.nil)))))))),
          PT.list (CTs.cons (CT.int IntKind.u64) CTs.nil)]
        (Option (Bool × Unit)))
    (rec_1 :
      Arr
        [PT.int IntKind.i64, PT.int IntKind.u64, PT.int IntKind.u64, PT.int IntKind.i64, PT.int IntKind.i64,
          PT.opt
            (OTs.cons (OT.c (CT.int IntKind.i64))
              (OTs.cons (OT.c (CT.int IntKind.u64))
                (OTs.cons (OT.c (CT.int IntKind.u64))
                  (OTs.cons (OT.c (CT.int IntKind.u64))
                    (OTs.cons (OT.c (CT.int IntKind.u64))
                      (OTs.cons
                        (OT.row
                          (CTs.cons (CT.int IntKind.u64)
                            (CTs.cons (CT.int IntKind.u64)
                              (CTs.cons (CT.int IntKind.u64)
                                (CTs.cons (CT.int IntKind.u64) (CTs.cons CT.bool (CTs.cons CT.bool CTs.nil)))))))
                        (OTs.cons (OT.c (CT.int IntKind.u64)) (OTs.cons (OT.c (CT.int IntKind.u64)) OTs.nil)))))))),
          PT.list (CTs.cons (CT.int IntKind.u64) CTs.nil)]
        (Option (Bool × Unit)))
    (e_1 : Int64) (now t_1 : UInt64) (t_1_1 t_2 : Int64)
    (s_1 :
      Option
        (Int64 ×
          UInt64 × UInt64 × UInt64 × UInt64 × List (UInt64 × UInt64 × UInt64 × UInt64 × Bool × Bool) × UInt64 × UInt64))
    (got_1 : List UInt64) =>
  oite (decide (t_2 < t_1_1))
    (oite (Nat.ble (List.length got_1 + List.length [now]) (4294967296 : Nat))
      (rec_1 e_1 now t_1 t_1_1 (t_2 + (1 : Int64)) s_1 (got_1 ++ [now])) none)
    (rec e_1 (t_1 + (1 : UInt64)) s_1 got_1)
def F6_R8027 : Arr
    [PT.int IntKind.i64, PT.int IntKind.u64,
      PT.opt
        (OTs.cons (OT.c (CT.int IntKind.i64))
          (OTs.cons (OT.c (CT.int IntKind.u64))
            (OTs.cons (OT.c (CT.int IntKind.u64))
              (OTs.cons (OT.c (CT.int IntKind.u64))
                (OTs.cons (OT.c (CT.int IntKind.u64))
                  (OTs.cons
                    (OT.row
                      (CTs.cons (CT.int IntKind.u64)
                        (CTs.cons (CT.int IntKind.u64)
                          (CTs.cons (CT.int IntKind.u64)
                            (CTs.cons (CT.int IntKind.u64) (CTs.cons CT.bool (CTs.cons CT.bool CTs.nil)))))))
                    (OTs.cons (OT.c (CT.int IntKind.u64)) (OTs.cons (OT.c (CT.int IntKind.u64)) OTs.nil)))))))),
      PT.list (CTs.cons (CT.int IntKind.u64) CTs.nil)]
    (Option (Bool × Unit)) →
  Nat →
    PT.T (PT.int IntKind.i64) →
      UInt64 →
        UInt64 →
          Int64 →
            Int64 →
              Option
                  (Int64 ×
                    UInt64 ×
                      UInt64 ×
                        UInt64 × UInt64 × List (UInt64 × UInt64 × UInt64 × UInt64 × Bool × Bool) × UInt64 × UInt64) →
                List UInt64 → Option (Bool × Unit) := fun
    (rec :
      Arr
        [PT.int IntKind.i64, PT.int IntKind.u64,
          PT.opt
            (OTs.cons (OT.c (CT.int IntKind.i64))
              (OTs.cons (OT.c (CT.int IntKind.u64))
                (OTs.cons (OT.c (CT.int IntKind.u64))
                  (OTs.cons (OT.c (CT.int IntKind.u64))
                    (OTs.cons (OT.c (CT.int IntKind.u64))
                      (OTs.cons
                        (OT.row
                          (CTs.cons (CT.int IntKind.u64)
                            (CTs.cons (CT.int IntKind.u64)
                              (CTs.cons (CT.int IntKind.u64)
                                (CTs.cons (CT.int IntKind.u64) (CTs.cons CT.bool (CTs.cons CT.bool CTs.nil)))))))
                        (OTs.cons (OT.c (CT.int IntKind.u64)) (OTs.cons (OT.c (CT.int IntKind.u64)) OTs.nil)))))))),
          PT.list (CTs.cons (CT.int IntKind.u64) CTs.nil)]
        (Option (Bool × Unit))) =>
  ofixA (8027 : Nat)
    [PT.int IntKind.i64, PT.int IntKind.u64, PT.int IntKind.u64, PT.int IntKind.i64, PT.int IntKind.i64,
      PT.opt
        (OTs.cons (OT.c (CT.int IntKind.i64))
          (OTs.cons (OT.c (CT.int IntKind.u64))
            (OTs.cons (OT.c (CT.int IntKind.u64))
              (OTs.cons (OT.c (CT.int IntKind.u64))
                (OTs.cons (OT.c (CT.int IntKind.u64))
                  (OTs.cons
                    (OT.row
                      (CTs.cons (CT.int IntKind.u64)
                        (CTs.cons (CT.int IntKind.u64)
                          (CTs.cons (CT.int IntKind.u64)
                            (CTs.cons (CT.int IntKind.u64) (CTs.cons CT.bool (CTs.cons CT.bool CTs.nil)))))))
                    (OTs.cons (OT.c (CT.int IntKind.u64)) (OTs.cons (OT.c (CT.int IntKind.u64)) OTs.nil)))))))),
      PT.list (CTs.cons (CT.int IntKind.u64) CTs.nil)]
    (F6_L8027 rec)
def F6_L125 : Nat →
  Arr
      [PT.int IntKind.i64, PT.int IntKind.u64,
        PT.opt
          (OTs.cons (OT.c (CT.int IntKind.i64))
            (OTs.cons (OT.c (CT.int IntKind.u64))
              (OTs.cons (OT.c (CT.int IntKind.u64))
                (OTs.cons (OT.c (CT.int IntKind.u64))
                  (OTs.cons (OT.c (CT.int IntKind.u64))
                    (OTs.cons
                      (OT.row
                        (CTs.cons (CT.int IntKind.u64)
                          (CTs.cons (CT.int IntKind.u64)
                            (CTs.cons (CT.int IntKind.u64)
                              (CTs.cons (CT.int IntKind.u64) (CTs.cons CT.bool (CTs.cons CT.bool CTs.nil)))))))
                      (OTs.cons (OT.c (CT.int IntKind.u64)) (OTs.cons (OT.c (CT.int IntKind.u64)) OTs.nil)))))))),
        PT.list (CTs.cons (CT.int IntKind.u64) CTs.nil)]
      (Option (Bool × Unit)) →
    Int64 →
      UInt64 →
        Option
            (Int64 ×
              UInt64 ×
                UInt64 × UInt64 × UInt64 × List (UInt64 × UInt64 × UInt64 × UInt64 × Bool × Bool) × UInt64 × UInt64) →
          List UInt64 → Option (Bool × Unit) := fun (n : Nat)
    (rec :
      Arr
        [PT.int IntKind.i64, PT.int IntKind.u64,
          PT.opt
            (OTs.cons (OT.c (CT.int IntKind.i64))
              (OTs.cons (OT.c (CT.int IntKind.u64))
                (OTs.cons (OT.c (CT.int IntKind.u64))
                  (OTs.cons (OT.c (CT.int IntKind.u64))
                    (OTs.cons (OT.c (CT.int IntKind.u64))
                      (OTs.cons
                        (OT.row
                          (CTs.cons (CT.int IntKind.u64)
                            (CTs.cons (CT.int IntKind.u64)
                              (CTs.cons (CT.int IntKind.u64)
                                (CTs.cons (CT.int IntKind.u64) (CTs.cons CT.bool (CTs.cons CT.bool CTs.nil)))))))
                        (OTs.cons (OT.c (CT.int IntKind.u64)) (OTs.cons (OT.c (CT.int IntKind.u64)) OTs.nil)))))))),
          PT.list (CTs.cons (CT.int IntKind.u64) CTs.nil)]
        (Option (Bool × Unit)))
    (e : Int64) (t : UInt64)
    (s :
      Option
        (Int64 ×
          UInt64 × UInt64 × UInt64 × UInt64 × List (UInt64 × UInt64 × UInt64 × UInt64 × Bool × Bool) × UInt64 × UInt64))
    (got : List UInt64) =>
  oite (decide (t < (12 : UInt64)))
    (obind (F9 n (s, t))
      fun
        (x_3 :
          List (UInt64 × UInt64 × UInt64 × UInt64 × Bool × Bool) ×
            Option
              (Int64 ×
                UInt64 ×
                  UInt64 ×
                    UInt64 × UInt64 × List (UInt64 × UInt64 × UInt64 × UInt64 × Bool × Bool) × UInt64 × UInt64)) =>
      F6_R8027 rec n e t t (Int64.ofInt ↑(List.length (Prod.fst x_3))) (0 : Int64) (Prod.snd x_3) got)
    (oite (decide (e = (0 : Int64)))
      (oite (decide (Int64.ofInt ↑(List.length got) = (5 : Int64)))
        (oite (Nat.blt (Int.toNat (Int64.toInt (1 : Int64))) (List.length got))
          (obind got[Int.toNat (Int64.toInt (1 : Int64))]? fun (x_3 : UInt64) =>
            oite (decide (x_3 = (1 : UInt64)))
              (oite (Nat.blt (Int.toNat (Int64.toInt (2 : Int64))) (List.length got))
                (obind got[Int.toNat (Int64.toInt (2 : Int64))]? fun (x_4 : UInt64) =>
                  oite (decide (x_4 = (3 : UInt64)))
                    (oite (Nat.blt (Int.toNat (Int64.toInt (3 : Int64))) (List.length got))
                      (obind got[Int.toNat (Int64.toInt (3 : Int64))]? fun (x_5 : UInt64) =>
                        oite (decide (x_5 = (7 : UInt64)))
                          (oite (Nat.blt (Int.toNat (Int64.toInt (4 : Int64))) (List.length got))
                            (obind got[Int.toNat (Int64.toInt (4 : Int64))]? fun (x_6 : UInt64) =>
                              some (decide (x_6 = (11 : UInt64)), ()))
                            none)
                          (some (false, ())))
                      none)
                    (some (false, ())))
                none)
              (some (false, ())))
          none)
        (some (false, ())))
      (some (false, ())))
def F6_R125 : Nat →
  Nat →
    PT.T (PT.int IntKind.i64) →
      UInt64 →
        Option
            (Int64 ×
              UInt64 ×
                UInt64 × UInt64 × UInt64 × List (UInt64 × UInt64 × UInt64 × UInt64 × Bool × Bool) × UInt64 × UInt64) →
          List UInt64 → Option (Bool × Unit) := fun (n : Nat) =>
  ofixA (125 : Nat)
    [PT.int IntKind.i64, PT.int IntKind.u64,
      PT.opt
        (OTs.cons (OT.c (CT.int IntKind.i64))
          (OTs.cons (OT.c (CT.int IntKind.u64))
            (OTs.cons (OT.c (CT.int IntKind.u64))
              (OTs.cons (OT.c (CT.int IntKind.u64))
                (OTs.cons (OT.c (CT.int IntKind.u64))
                  (OTs.cons
                    (OT.row
                      (CTs.cons (CT.int IntKind.u64)
                        (CTs.cons (CT.int IntKind.u64)
                          (CTs.cons (CT.int IntKind.u64)
                            (CTs.cons (CT.int IntKind.u64) (CTs.cons CT.bool (CTs.cons CT.bool CTs.nil)))))))
                    (OTs.cons (OT.c (CT.int IntKind.u64)) (OTs.cons (OT.c (CT.int IntKind.u64)) OTs.nil)))))))),
      PT.list (CTs.cons (CT.int IntKind.u64) CTs.nil)]
    (F6_L125 n)
def F6 : Nat → Unit → Option (Bool × Unit) := fun (n : Nat) (x : Unit) =>
  obind (F7 n ((2 : Int64), (1 : UInt64), (4 : UInt64)))
    fun
      (x_1 :
        (Option
              (Int64 ×
                UInt64 ×
                  UInt64 × UInt64 × UInt64 × List (UInt64 × UInt64 × UInt64 × UInt64 × Bool × Bool) × UInt64 × UInt64) ×
            Int64) ×
          Unit) =>
    obind (F8 n (Prod.fst (Prod.fst x_1), (1 : UInt64), (0 : UInt64)))
      fun
        (x_2 :
          (UInt64 × Int64) ×
            Option
              (Int64 ×
                UInt64 ×
                  UInt64 ×
                    UInt64 × UInt64 × List (UInt64 × UInt64 × UInt64 × UInt64 × Bool × Bool) × UInt64 × UInt64)) =>
      F6_R125 n n (Prod.snd (Prod.fst x_1)) (0 : UInt64) (Prod.snd x_2) []
theorem F6_R8027_s (rec : Arr [PT.int IntKind.i64, PT.int IntKind.u64, PT.opt (OTs.cons (OT.c (CT.int IntKind.i64)) (OTs.cons (OT.c (CT.int IntKind.u64)) (OTs.cons (OT.c (CT.int IntKind.u64)) (OTs.cons (OT.c (CT.int IntKind.u64)) (OTs.cons (OT.c (CT.int IntKind.u64)) (OTs.cons (OT.row (CTs.cons (CT.int IntKind.u64) (CTs.cons (CT.int IntKind.u64) (CTs.cons (CT.int IntKind.u64) (CTs.cons (CT.int IntKind.u64) (CTs.cons CT.bool (CTs.cons CT.bool CTs.nil))))))) (OTs.cons (OT.c (CT.int IntKind.u64)) (OTs.cons (OT.c (CT.int IntKind.u64)) OTs.nil)))))))), PT.list (CTs.cons (CT.int IntKind.u64) CTs.nil)] (Option (Bool × Unit))) (m_ : Nat) : F6_R8027 rec (m_ + 1) = F6_L8027 rec (F6_R8027 rec m_) := rfl
theorem F6_R125_s (n : Nat) (m_ : Nat) : F6_R125 n (m_ + 1) = F6_L125 n (F6_R125 n m_) := rfl
theorem ok6 (n : Nat) : FunOK Try.prog ⟨6, sig6, F6 n⟩ :=
  fun_ok (hints := ⟨[], [(125, ⟨[(1, .one (.own 0)), (2, .one (.int .i64)), (3, .one (.own 1)), (11, .one (.int .u64))], [(0, .fold (.cons (.c (.int .i64)) (.cons (.c (.int .u64)) (.cons (.c (.int .u64)) (.cons (.c (.int .u64)) (.cons (.c (.int .u64)) (.cons (.row (.cons (.int .u64) (.cons (.int .u64) (.cons (.int .u64) (.cons (.int .u64) (.cons .bool (.cons .bool .nil))))))) (.cons (.c (.int .u64)) (.cons (.c (.int .u64)) .nil))))))))), (1, .row (.cons (.int .u64) .nil))], 2⟩), (8027, ⟨[(1, .one (.own 0)), (2, .one (.int .i64)), (3, .one (.own 1)), (4, .one (.int .u64)), (11, .one (.int .u64)), (17, .one (.int .i64)), (18, .one (.int .i64))], [(0, .fold (.cons (.c (.int .i64)) (.cons (.c (.int .u64)) (.cons (.c (.int .u64)) (.cons (.c (.int .u64)) (.cons (.c (.int .u64)) (.cons (.row (.cons (.int .u64) (.cons (.int .u64) (.cons (.int .u64) (.cons (.int .u64) (.cons .bool (.cons .bool .nil))))))) (.cons (.c (.int .u64)) (.cons (.c (.int .u64)) .nil))))))))), (1, .row (.cons (.int .u64) .nil))], 2⟩)]⟩) (fuel := n) (c := Try.f6.body.getD .skip) (rs := Try.f6.results.toList) tt_ok mix (FsOK.cons (ok7 n) (FsOK.cons (ok8 n) (FsOK.cons (ok9 n) (FsOK.nil)))) Try.func6 (by kernel_rfl) (by kernel_rfl) rfl (by kernel_rfl) rfl rfl (by kernel_rfl)
-- watchfire/send.behind[watchfire/send.Flight]
def sig16 : Sig := ⟨(.cons (.one (.c (.ro (.cons (.int .u64) (.cons (.int .u64) (.cons (.int .u64) (.cons (.int .u64) (.cons .bool (.cons .bool .nil))))))))) (.cons (.one (.c (.int .i64))) .nil)), (.cons (.one (.row (.cons (.int .u64) (.cons (.int .u64) (.cons (.int .u64) (.cons (.int .u64) (.cons .bool (.cons .bool .nil)))))))) .nil)⟩
def F16 : Nat →
  List (UInt64 × UInt64 × UInt64 × UInt64 × Bool × Bool) × Int64 →
    Option (List (UInt64 × UInt64 × UInt64 × UInt64 × Bool × Bool) × Unit) := fun (n : Nat) (x : List (UInt64 × UInt64 × UInt64 × UInt64 × Bool × Bool) × Int64) =>
  oite
    (decide ((0 : Int) ≤ Int64.toInt (Prod.snd x)) &&
      Nat.ble (Int.toNat (Int64.toInt (Prod.snd x))) (List.length (Prod.fst x)))
    (oite
      (Nat.ble
        ((0 : Nat) +
          List.length
            (List.drop (Int.toNat (Int64.toInt (Prod.snd x))) (List.take (List.length (Prod.fst x)) (Prod.fst x))))
        (4294967296 : Nat))
      (some
        ([] ++ List.drop (Int.toNat (Int64.toInt (Prod.snd x))) (List.take (List.length (Prod.fst x)) (Prod.fst x)),
          ()))
      none)
    none
theorem ok16 (n : Nat) : FunOK Try.prog ⟨16, sig16, F16 n⟩ :=
  fun_ok (hints := ⟨[], []⟩) (fuel := n) (c := Try.f16.body.getD .skip) (rs := Try.f16.results.toList) tt_ok mix (FsOK.nil) Try.func16 (by kernel_rfl) (by kernel_rfl) rfl (by kernel_rfl) rfl rfl (by kernel_rfl)
-- (*watchfire/send.Sender).Ack
def sig10 : Sig := ⟨(.cons (.one (.ptr (.cons (.c (.int .i64)) (.cons (.c (.int .u64)) (.cons (.c (.int .u64)) (.cons (.c (.int .u64)) (.cons (.c (.int .u64)) (.cons (.row (.cons (.int .u64) (.cons (.int .u64) (.cons (.int .u64) (.cons (.int .u64) (.cons .bool (.cons .bool .nil))))))) (.cons (.c (.int .u64)) (.cons (.c (.int .u64)) .nil)))))))))) (.cons (.one (.c (.int .u64))) (.cons (.one (.c (.int .u64))) .nil))), (.cons (.one (.c (.int .u64))) (.cons (.one (.c (.int .i64))) .nil))⟩
def F10_J31 : UInt64 →
  Int64 →
    UInt64 →
      UInt64 →
        UInt64 →
          UInt64 →
            UInt64 →
              UInt64 →
                List (UInt64 × UInt64 × UInt64 × UInt64 × Bool × Bool) →
                  Option
                    ((UInt64 × Int64) ×
                      Option
                        (Int64 ×
                          UInt64 ×
                            UInt64 ×
                              UInt64 ×
                                UInt64 × List (UInt64 × UInt64 × UInt64 × UInt64 × Bool × Bool) × UInt64 × UInt64)) := fun (index : UInt64) (s0_1 : Int64) (s1_1 s2_1 s3_1 s4_1 s6_1 s7_1 : UInt64)
    (sl_1 : List (UInt64 × UInt64 × UInt64 × UInt64 × Bool × Bool)) =>
  oite (decide ((0 : Int64) < Int64.ofInt ↑(List.length sl_1)))
    (oite (Nat.blt (Int.toNat (Int64.toInt (0 : Int64))) (List.length sl_1))
      (obind sl_1[Int.toNat (Int64.toInt (0 : Int64))]? fun (x_2 : UInt64 × UInt64 × UInt64 × UInt64 × Bool × Bool) =>
        some
          ((index, (0 : Int64)),
            some
              (s0_1, s1_1, s2_1, s3_1, s4_1,
                List.set sl_1 (Int.toNat (Int64.toInt (0 : Int64)))
                  (Prod.fst x_2, Prod.fst (Prod.snd x_2), Prod.fst (Prod.snd (Prod.snd x_2)),
                    Prod.fst (Prod.snd (Prod.snd (Prod.snd x_2))),
                    Prod.fst (Prod.snd (Prod.snd (Prod.snd (Prod.snd x_2)))), false),
                s6_1, s7_1)))
      none)
    (some ((index, (0 : Int64)), some (s0_1, s1_1, s2_1, s3_1, s4_1, sl_1, s6_1, s7_1)))
def F10_L62 : Nat →
  Arr
      [PT.int IntKind.u64, PT.int IntKind.i64, PT.int IntKind.u64, PT.int IntKind.u64, PT.int IntKind.u64,
        PT.int IntKind.u64, PT.int IntKind.u64, PT.int IntKind.u64,
        PT.list
          (CTs.cons (CT.int IntKind.u64)
            (CTs.cons (CT.int IntKind.u64)
              (CTs.cons (CT.int IntKind.u64)
                (CTs.cons (CT.int IntKind.u64) (CTs.cons CT.bool (CTs.cons CT.bool CTs.nil))))))]
      (Option
        ((UInt64 × Int64) ×
          Option
            (Int64 ×
              UInt64 ×
                UInt64 × UInt64 × UInt64 × List (UInt64 × UInt64 × UInt64 × UInt64 × Bool × Bool) × UInt64 × UInt64))) →
    Arr
        [PT.int IntKind.u64, PT.int IntKind.u64, PT.int IntKind.i64, PT.int IntKind.u64, PT.int IntKind.u64,
          PT.int IntKind.u64, PT.int IntKind.u64, PT.int IntKind.u64, PT.int IntKind.u64,
          PT.list
            (CTs.cons (CT.int IntKind.u64)
              (CTs.cons (CT.int IntKind.u64)
                (CTs.cons (CT.int IntKind.u64)
                  (CTs.cons (CT.int IntKind.u64) (CTs.cons CT.bool (CTs.cons CT.bool CTs.nil))))))]
        (Option
          ((UInt64 × Int64) ×
            Option
              (Int64 ×
                UInt64 ×
                  UInt64 ×
                    UInt64 × UInt64 × List (UInt64 × UInt64 × UInt64 × UInt64 × Bool × Bool) × UInt64 × UInt64))) →
      UInt64 →
        UInt64 →
          Int64 →
            UInt64 →
              UInt64 →
                UInt64 →
                  UInt64 →
                    UInt64 →
                      UInt64 →
                        List (UInt64 × UInt64 × UInt64 × UInt64 × Bool × Bool) →
                          Option
                            ((UInt64 × Int64) ×
                              Option
                                (Int64 ×
                                  UInt64 ×
                                    UInt64 ×
                                      UInt64 ×
                                        UInt64 ×
                                          List (UInt64 × UInt64 × UInt64 × UInt64 × Bool × Bool) × UInt64 × UInt64)) := fun (n : Nat)
    (J :
      Arr
        [PT.int IntKind.u64, PT.int IntKind.i64, PT.int IntKind.u64, PT.int IntKind.u64, PT.int IntKind.u64,
          PT.int IntKind.u64, PT.int IntKind.u64, PT.int IntKind.u64,
          PT.list
            (CTs.cons (CT.int IntKind.u64)
              (CTs.cons (CT.int IntKind.u64)
                (CTs.cons (CT.int IntKind.u64)
                  (CTs.cons (CT.int IntKind.u64) (CTs.cons CT.bool (CTs.cons CT.bool CTs.nil))))))]
        (Option
          ((UInt64 × Int64) ×
            Option
              (Int64 ×
                UInt64 ×
                  UInt64 ×
                    UInt64 × UInt64 × List (UInt64 × UInt64 × UInt64 × UInt64 × Bool × Bool) × UInt64 × UInt64))))
    (rec_1 :
      Arr
        [PT.int IntKind.u64, PT.int IntKind.u64, PT.int IntKind.i64, PT.int IntKind.u64, PT.int IntKind.u64,
          PT.int IntKind.u64, PT.int IntKind.u64, PT.int IntKind.u64, PT.int IntKind.u64,
          PT.list
            (CTs.cons (CT.int IntKind.u64)
              (CTs.cons (CT.int IntKind.u64)
                (CTs.cons (CT.int IntKind.u64)
                  (CTs.cons (CT.int IntKind.u64) (CTs.cons CT.bool (CTs.cons CT.bool CTs.nil))))))]
        (Option
          ((UInt64 × Int64) ×
            Option
              (Int64 ×
                UInt64 ×
                  UInt64 ×
                    UInt64 × UInt64 × List (UInt64 × UInt64 × UInt64 × UInt64 × Bool × Bool) × UInt64 × UInt64))))
    (cum_1 index : UInt64) (s0_1 : Int64) (s1_1 s2_1 s3_1 s4_1 s6_1 s7_1 : UInt64)
    (sl_1 : List (UInt64 × UInt64 × UInt64 × UInt64 × Bool × Bool)) =>
  oite (decide ((0 : Int64) < Int64.ofInt ↑(List.length sl_1)))
    (oite (Nat.blt (Int.toNat (Int64.toInt (0 : Int64))) (List.length sl_1))
      (obind sl_1[Int.toNat (Int64.toInt (0 : Int64))]? fun (x_2 : UInt64 × UInt64 × UInt64 × UInt64 × Bool × Bool) =>
        oite (decide (Prod.fst x_2 ≤ cum_1))
          (oite (Nat.blt (Int.toNat (Int64.toInt (0 : Int64))) (List.length sl_1))
            (obind sl_1[Int.toNat (Int64.toInt (0 : Int64))]?
              fun (x_3 : UInt64 × UInt64 × UInt64 × UInt64 × Bool × Bool) =>
              oite (Nat.blt (Int.toNat (Int64.toInt (0 : Int64))) (List.length sl_1))
                (obind sl_1[Int.toNat (Int64.toInt (0 : Int64))]?
                  fun (x_4 : UInt64 × UInt64 × UInt64 × UInt64 × Bool × Bool) =>
                  obind (F16 n (sl_1, (1 : Int64)))
                    fun (x_5 : List (UInt64 × UInt64 × UInt64 × UInt64 × Bool × Bool) × Unit) =>
                    rec_1 cum_1 (Prod.fst (Prod.snd x_3)) s0_1 s1_1 s2_1 (Prod.fst x_4) s4_1 s6_1 s7_1 (Prod.fst x_5))
                none)
            none)
          (J index s0_1 s1_1 s2_1 s3_1 s4_1 s6_1 s7_1 sl_1))
      none)
    (J index s0_1 s1_1 s2_1 s3_1 s4_1 s6_1 s7_1 sl_1)
def F10_R62 : Nat →
  Arr
      [PT.int IntKind.u64, PT.int IntKind.i64, PT.int IntKind.u64, PT.int IntKind.u64, PT.int IntKind.u64,
        PT.int IntKind.u64, PT.int IntKind.u64, PT.int IntKind.u64,
        PT.list
          (CTs.cons (CT.int IntKind.u64)
            (CTs.cons (CT.int IntKind.u64)
              (CTs.cons (CT.int IntKind.u64)
                (CTs.cons (CT.int IntKind.u64) (CTs.cons CT.bool (CTs.cons CT.bool CTs.nil))))))]
      (Option
        ((UInt64 × Int64) ×
          Option
            (Int64 ×
              UInt64 ×
                UInt64 × UInt64 × UInt64 × List (UInt64 × UInt64 × UInt64 × UInt64 × Bool × Bool) × UInt64 × UInt64))) →
    Nat →
      PT.T (PT.int IntKind.u64) →
        UInt64 →
          Int64 →
            UInt64 →
              UInt64 →
                UInt64 →
                  UInt64 →
                    UInt64 →
                      UInt64 →
                        List (UInt64 × UInt64 × UInt64 × UInt64 × Bool × Bool) →
                          Option
                            ((UInt64 × Int64) ×
                              Option
                                (Int64 ×
                                  UInt64 ×
                                    UInt64 ×
                                      UInt64 ×
                                        UInt64 ×
                                          List (UInt64 × UInt64 × UInt64 × UInt64 × Bool × Bool) × UInt64 × UInt64)) := fun (n : Nat)
    (J :
      Arr
        [PT.int IntKind.u64, PT.int IntKind.i64, PT.int IntKind.u64, PT.int IntKind.u64, PT.int IntKind.u64,
          PT.int IntKind.u64, PT.int IntKind.u64, PT.int IntKind.u64,
          PT.list
            (CTs.cons (CT.int IntKind.u64)
              (CTs.cons (CT.int IntKind.u64)
                (CTs.cons (CT.int IntKind.u64)
                  (CTs.cons (CT.int IntKind.u64) (CTs.cons CT.bool (CTs.cons CT.bool CTs.nil))))))]
        (Option
          ((UInt64 × Int64) ×
            Option
              (Int64 ×
                UInt64 ×
                  UInt64 ×
                    UInt64 × UInt64 × List (UInt64 × UInt64 × UInt64 × UInt64 × Bool × Bool) × UInt64 × UInt64)))) =>
  ofixA (62 : Nat)
    [PT.int IntKind.u64, PT.int IntKind.u64, PT.int IntKind.i64, PT.int IntKind.u64, PT.int IntKind.u64,
      PT.int IntKind.u64, PT.int IntKind.u64, PT.int IntKind.u64, PT.int IntKind.u64,
      PT.list
        (CTs.cons (CT.int IntKind.u64)
          (CTs.cons (CT.int IntKind.u64)
            (CTs.cons (CT.int IntKind.u64)
              (CTs.cons (CT.int IntKind.u64) (CTs.cons CT.bool (CTs.cons CT.bool CTs.nil))))))]
    (F10_L62 n J)
def F10_L29 : Nat →
  Arr
      [PT.int IntKind.u64, PT.int IntKind.u64, PT.int IntKind.i64, PT.int IntKind.i64, PT.int IntKind.i64,
        PT.int IntKind.u64, PT.int IntKind.u64, PT.int IntKind.u64, PT.int IntKind.u64, PT.int IntKind.u64,
        PT.int IntKind.u64,
        PT.list
          (CTs.cons (CT.int IntKind.u64)
            (CTs.cons (CT.int IntKind.u64)
              (CTs.cons (CT.int IntKind.u64)
                (CTs.cons (CT.int IntKind.u64) (CTs.cons CT.bool (CTs.cons CT.bool CTs.nil))))))]
      (Option
        ((UInt64 × Int64) ×
          Option
            (Int64 ×
              UInt64 ×
                UInt64 × UInt64 × UInt64 × List (UInt64 × UInt64 × UInt64 × UInt64 × Bool × Bool) × UInt64 × UInt64))) →
    UInt64 →
      UInt64 →
        Int64 →
          Int64 →
            Int64 →
              UInt64 →
                UInt64 →
                  UInt64 →
                    UInt64 →
                      UInt64 →
                        UInt64 →
                          List (UInt64 × UInt64 × UInt64 × UInt64 × Bool × Bool) →
                            Option
                              ((UInt64 × Int64) ×
                                Option
                                  (Int64 ×
                                    UInt64 ×
                                      UInt64 ×
                                        UInt64 ×
                                          UInt64 ×
                                            List (UInt64 × UInt64 × UInt64 × UInt64 × Bool × Bool) × UInt64 × UInt64)) := fun (n : Nat)
    (rec :
      Arr
        [PT.int IntKind.u64, PT.int IntKind.u64, PT.int IntKind.i64, PT.int IntKind.i64, PT.int IntKind.i64,
          PT.int IntKind.u64, PT.int IntKind.u64, PT.int IntKind.u64, PT.int IntKind.u64, PT.int IntKind.u64,
          PT.int IntKind.u64,
          PT.list
            (CTs.cons (CT.int IntKind.u64)
              (CTs.cons (CT.int IntKind.u64)
                (CTs.cons (CT.int IntKind.u64)
                  (CTs.cons (CT.int IntKind.u64) (CTs.cons CT.bool (CTs.cons CT.bool CTs.nil))))))]
        (Option
          ((UInt64 × Int64) ×
            Option
              (Int64 ×
                UInt64 ×
                  UInt64 ×
                    UInt64 × UInt64 × List (UInt64 × UInt64 × UInt64 × UInt64 × Bool × Bool) × UInt64 × UInt64))))
    (cum bits : UInt64) (t t_1 s0 : Int64) (s1 s2 s3 s4 s6 s7 : UInt64)
    (sl : List (UInt64 × UInt64 × UInt64 × UInt64 × Bool × Bool)) =>
  oite (decide (t_1 < t))
    (oite (decide ((0 : Int) ≤ Int64.toInt t_1) && Nat.blt (Int.toNat (Int64.toInt t_1)) (List.length sl))
      (obind sl[Int.toNat (Int64.toInt t_1)]? fun (x_2 : UInt64 × UInt64 × UInt64 × UInt64 × Bool × Bool) =>
        oite (decide (Prod.fst x_2 ≤ cum))
          (obind sl[Int.toNat (Int64.toInt t_1)]? fun (x_3 : UInt64 × UInt64 × UInt64 × UInt64 × Bool × Bool) =>
            rec cum bits t (t_1 + (1 : Int64)) s0 s1 s2 s3 s4 s6 s7
              (List.set sl (Int.toNat (Int64.toInt t_1))
                (Prod.fst x_3, Prod.fst (Prod.snd x_3), Prod.fst (Prod.snd (Prod.snd x_3)),
                  Prod.fst (Prod.snd (Prod.snd (Prod.snd x_3))),
                  Prod.fst (Prod.snd (Prod.snd (Prod.snd (Prod.snd x_3)))), true)))
          (obind sl[Int.toNat (Int64.toInt t_1)]? fun (x_3 : UInt64 × UInt64 × UInt64 × UInt64 × Bool × Bool) =>
            oite (decide (cum + (2 : UInt64) ≤ Prod.fst x_3))
              (obind sl[Int.toNat (Int64.toInt t_1)]? fun (x_4 : UInt64 × UInt64 × UInt64 × UInt64 × Bool × Bool) =>
                oite (decide (Prod.fst x_4 - cum - (2 : UInt64) < (64 : UInt64)))
                  (obind sl[Int.toNat (Int64.toInt t_1)]? fun (x_5 : UInt64 × UInt64 × UInt64 × UInt64 × Bool × Bool) =>
                    oite
                      (decide
                        (IK.shr IntKind.u64 bits ↑(UInt64.toNat (Prod.fst x_5 - cum - (2 : UInt64))) &&& (1 : UInt64) =
                          (1 : UInt64)))
                      (obind sl[Int.toNat (Int64.toInt t_1)]?
                        fun (x_6 : UInt64 × UInt64 × UInt64 × UInt64 × Bool × Bool) =>
                        rec cum bits t (t_1 + (1 : Int64)) s0 s1 s2 s3 s4 s6 s7
                          (List.set sl (Int.toNat (Int64.toInt t_1))
                            (Prod.fst x_6, Prod.fst (Prod.snd x_6), Prod.fst (Prod.snd (Prod.snd x_6)),
                              Prod.fst (Prod.snd (Prod.snd (Prod.snd x_6))),
                              Prod.fst (Prod.snd (Prod.snd (Prod.snd (Prod.snd x_6)))), true)))
                      (rec cum bits t (t_1 + (1 : Int64)) s0 s1 s2 s3 s4 s6 s7 sl))
                  (rec cum bits t (t_1 + (1 : Int64)) s0 s1 s2 s3 s4 s6 s7 sl))
              (rec cum bits t (t_1 + (1 : Int64)) s0 s1 s2 s3 s4 s6 s7 sl)))
      none)
    (ojoinA (31 : Nat)
      [PT.int IntKind.u64, PT.int IntKind.i64, PT.int IntKind.u64, PT.int IntKind.u64, PT.int IntKind.u64,
        PT.int IntKind.u64, PT.int IntKind.u64, PT.int IntKind.u64,
        PT.list
          (CTs.cons (CT.int IntKind.u64)
            (CTs.cons (CT.int IntKind.u64)
              (CTs.cons (CT.int IntKind.u64)
                (CTs.cons (CT.int IntKind.u64) (CTs.cons CT.bool (CTs.cons CT.bool CTs.nil))))))]
      (fun
          (J :
            Arr
              [PT.int IntKind.u64, PT.int IntKind.i64, PT.int IntKind.u64, PT.int IntKind.u64, PT.int IntKind.u64,
                PT.int IntKind.u64, PT.int IntKind.u64, PT.int IntKind.u64,
                PT.list
                  (CTs.cons (CT.int IntKind.u64)
                    (CTs.cons (CT.int IntKind.u64)
                      (CTs.cons (CT.int IntKind.u64)
                        (CTs.cons (CT.int IntKind.u64) (CTs.cons CT.bool (CTs.cons CT.bool CTs.nil))))))]
              (Option
                ((UInt64 × Int64) ×
                  Option
                    (Int64 ×
                      UInt64 ×
                        UInt64 ×
                          UInt64 ×
                            UInt64 × List (UInt64 × UInt64 × UInt64 × UInt64 × Bool × Bool) × UInt64 × UInt64)))) =>
        F10_R62 n J n cum (0 : UInt64) s0 s1 s2 s3 s4 s6 s7 sl)
      F10_J31)
def F10_R29 : Nat →
  Nat →
    PT.T (PT.int IntKind.u64) →
      UInt64 →
        Int64 →
          Int64 →
            Int64 →
              UInt64 →
                UInt64 →
                  UInt64 →
                    UInt64 →
                      UInt64 →
                        UInt64 →
                          List (UInt64 × UInt64 × UInt64 × UInt64 × Bool × Bool) →
                            Option
                              ((UInt64 × Int64) ×
                                Option
                                  (Int64 ×
                                    UInt64 ×
                                      UInt64 ×
                                        UInt64 ×
                                          UInt64 ×
                                            List (UInt64 × UInt64 × UInt64 × UInt64 × Bool × Bool) × UInt64 × UInt64)) := fun (n : Nat) =>
  ofixA (29 : Nat)
    [PT.int IntKind.u64, PT.int IntKind.u64, PT.int IntKind.i64, PT.int IntKind.i64, PT.int IntKind.i64,
      PT.int IntKind.u64, PT.int IntKind.u64, PT.int IntKind.u64, PT.int IntKind.u64, PT.int IntKind.u64,
      PT.int IntKind.u64,
      PT.list
        (CTs.cons (CT.int IntKind.u64)
          (CTs.cons (CT.int IntKind.u64)
            (CTs.cons (CT.int IntKind.u64)
              (CTs.cons (CT.int IntKind.u64) (CTs.cons CT.bool (CTs.cons CT.bool CTs.nil))))))]
    (F10_L29 n)
def F10 : Nat →
  Option
        (Int64 ×
          UInt64 ×
            UInt64 × UInt64 × UInt64 × List (UInt64 × UInt64 × UInt64 × UInt64 × Bool × Bool) × UInt64 × UInt64) ×
      UInt64 × UInt64 →
    Option
      ((UInt64 × Int64) ×
        Option
          (Int64 ×
            UInt64 ×
              UInt64 × UInt64 × UInt64 × List (UInt64 × UInt64 × UInt64 × UInt64 × Bool × Bool) × UInt64 × UInt64)) := fun (n : Nat)
    (x :
      Option
          (Int64 ×
            UInt64 ×
              UInt64 × UInt64 × UInt64 × List (UInt64 × UInt64 × UInt64 × UInt64 × Bool × Bool) × UInt64 × UInt64) ×
        UInt64 × UInt64) =>
  oelim (Prod.fst x) (some (((0 : UInt64), (1 : Int64)), none))
    fun
      (x_1 :
        Int64 ×
          UInt64 ×
            UInt64 × UInt64 × UInt64 × List (UInt64 × UInt64 × UInt64 × UInt64 × Bool × Bool) × UInt64 × UInt64) =>
    oite (decide (Prod.fst (Prod.snd (Prod.snd (Prod.snd (Prod.snd x_1)))) ≤ Prod.fst (Prod.snd x)))
      (some
        (((0 : UInt64), (6 : Int64)),
          some
            (Prod.fst x_1, Prod.fst (Prod.snd x_1), Prod.fst (Prod.snd (Prod.snd x_1)),
              Prod.fst (Prod.snd (Prod.snd (Prod.snd x_1))), Prod.fst (Prod.snd (Prod.snd (Prod.snd (Prod.snd x_1)))),
              Prod.fst (Prod.snd (Prod.snd (Prod.snd (Prod.snd (Prod.snd x_1))))),
              Prod.fst (Prod.snd (Prod.snd (Prod.snd (Prod.snd (Prod.snd (Prod.snd x_1)))))),
              Prod.snd (Prod.snd (Prod.snd (Prod.snd (Prod.snd (Prod.snd (Prod.snd x_1)))))))))
      (F10_R29 n n (Prod.fst (Prod.snd x)) (Prod.snd (Prod.snd x))
        (Int64.ofInt ↑(List.length (Prod.fst (Prod.snd (Prod.snd (Prod.snd (Prod.snd (Prod.snd x_1)))))))) (0 : Int64)
        (Prod.fst x_1) (Prod.fst (Prod.snd x_1)) (Prod.fst (Prod.snd (Prod.snd x_1)))
        (Prod.fst (Prod.snd (Prod.snd (Prod.snd x_1)))) (Prod.fst (Prod.snd (Prod.snd (Prod.snd (Prod.snd x_1)))))
        (Prod.fst (Prod.snd (Prod.snd (Prod.snd (Prod.snd (Prod.snd (Prod.snd x_1)))))))
        (Prod.snd (Prod.snd (Prod.snd (Prod.snd (Prod.snd (Prod.snd (Prod.snd x_1)))))))
        (Prod.fst (Prod.snd (Prod.snd (Prod.snd (Prod.snd (Prod.snd x_1)))))))
theorem F10_R62_s (n : Nat) (J : Arr [PT.int IntKind.u64, PT.int IntKind.i64, PT.int IntKind.u64, PT.int IntKind.u64, PT.int IntKind.u64, PT.int IntKind.u64, PT.int IntKind.u64, PT.int IntKind.u64, PT.list (CTs.cons (CT.int IntKind.u64) (CTs.cons (CT.int IntKind.u64) (CTs.cons (CT.int IntKind.u64) (CTs.cons (CT.int IntKind.u64) (CTs.cons CT.bool (CTs.cons CT.bool CTs.nil))))))] (Option ((UInt64 × Int64) × Option (Int64 × UInt64 × UInt64 × UInt64 × UInt64 × List (UInt64 × UInt64 × UInt64 × UInt64 × Bool × Bool) × UInt64 × UInt64)))) (m_ : Nat) : F10_R62 n J (m_ + 1) = F10_L62 n J (F10_R62 n J m_) := rfl
theorem F10_R29_s (n : Nat) (m_ : Nat) : F10_R29 n (m_ + 1) = F10_L29 n (F10_R29 n m_) := rfl
theorem ok10 (n : Nat) : FunOK Try.prog ⟨10, sig10, F10 n⟩ :=
  fun_ok (hints := ⟨[(31, ⟨[(0, .one (.own 0)), (10, .one (.int .u64))], [(0, .cells [.int .i64, .int .u64, .int .u64, .int .u64, .int .u64, .own 3, .int .u64, .int .u64]), (3, .row (.cons (.int .u64) (.cons (.int .u64) (.cons (.int .u64) (.cons (.int .u64) (.cons .bool (.cons .bool .nil)))))))], 4⟩)], [(29, ⟨[(0, .one (.own 0)), (1, .one (.int .u64)), (2, .one (.int .u64)), (25, .one (.int .i64)), (26, .one (.int .i64))], [(0, .cells [.int .i64, .int .u64, .int .u64, .int .u64, .int .u64, .own 3, .int .u64, .int .u64]), (3, .row (.cons (.int .u64) (.cons (.int .u64) (.cons (.int .u64) (.cons (.int .u64) (.cons .bool (.cons .bool .nil)))))))], 4⟩), (62, ⟨[(0, .one (.own 0)), (1, .one (.int .u64)), (10, .one (.int .u64))], [(0, .cells [.int .i64, .int .u64, .int .u64, .int .u64, .int .u64, .own 3, .int .u64, .int .u64]), (3, .row (.cons (.int .u64) (.cons (.int .u64) (.cons (.int .u64) (.cons (.int .u64) (.cons .bool (.cons .bool .nil)))))))], 4⟩)]⟩) (fuel := n) (c := Try.f10.body.getD .skip) (rs := Try.f10.results.toList) tt_ok mix (FsOK.cons (ok16 n) (FsOK.nil)) Try.func10 (by kernel_rfl) (by kernel_rfl) rfl (by kernel_rfl) rfl rfl (by kernel_rfl)
-- watchfire/watchfirelaw10.SendWaits
def sig3 : Sig := ⟨(.cons (.one (.c (.int .u16))) (.cons (.one (.c (.int .u16))) (.cons (.one (.c (.int .u16))) (.cons (.one (.c (.int .u16))) .nil)))), (.cons (.one (.c .bool)) .nil)⟩
def F3_L1021 : Nat →
  Arr
      [PT.int IntKind.u16, PT.int IntKind.u64, PT.int IntKind.u64, PT.int IntKind.i64, PT.int IntKind.u64,
        PT.int IntKind.u64, PT.int IntKind.u64, PT.int IntKind.u64,
        PT.opt
          (OTs.cons (OT.c (CT.int IntKind.i64))
            (OTs.cons (OT.c (CT.int IntKind.u64))
              (OTs.cons (OT.c (CT.int IntKind.u64))
                (OTs.cons (OT.c (CT.int IntKind.u64))
                  (OTs.cons (OT.c (CT.int IntKind.u64))
                    (OTs.cons
                      (OT.row
                        (CTs.cons (CT.int IntKind.u64)
                          (CTs.cons (CT.int IntKind.u64)
                            (CTs.cons (CT.int IntKind.u64)
                              (CTs.cons (CT.int IntKind.u64) (CTs.cons CT.bool (CTs.cons CT.bool CTs.nil)))))))
                      (OTs.cons (OT.c (CT.int IntKind.u64)) (OTs.cons (OT.c (CT.int IntKind.u64)) OTs.nil))))))))]
      (Option (Bool × Unit)) →
    UInt16 →
      UInt64 →
        UInt64 →
          Int64 →
            UInt64 →
              UInt64 →
                UInt64 →
                  UInt64 →
                    Option
                        (Int64 ×
                          UInt64 ×
                            UInt64 ×
                              UInt64 ×
                                UInt64 × List (UInt64 × UInt64 × UInt64 × UInt64 × Bool × Bool) × UInt64 × UInt64) →
                      Option (Bool × Unit) := fun (n : Nat)
    (rec :
      Arr
        [PT.int IntKind.u16, PT.int IntKind.u64, PT.int IntKind.u64, PT.int IntKind.i64, PT.int IntKind.u64,
          PT.int IntKind.u64, PT.int IntKind.u64, PT.int IntKind.u64,
          PT.opt
            (OTs.cons (OT.c (CT.int IntKind.i64))
              (OTs.cons (OT.c (CT.int IntKind.u64))
                (OTs.cons (OT.c (CT.int IntKind.u64))
                  (OTs.cons (OT.c (CT.int IntKind.u64))
                    (OTs.cons (OT.c (CT.int IntKind.u64))
                      (OTs.cons
                        (OT.row
                          (CTs.cons (CT.int IntKind.u64)
                            (CTs.cons (CT.int IntKind.u64)
                              (CTs.cons (CT.int IntKind.u64)
                                (CTs.cons (CT.int IntKind.u64) (CTs.cons CT.bool (CTs.cons CT.bool CTs.nil)))))))
                        (OTs.cons (OT.c (CT.int IntKind.u64)) (OTs.cons (OT.c (CT.int IntKind.u64)) OTs.nil))))))))]
        (Option (Bool × Unit)))
    (stop : UInt16) (a b : UInt64) (e : Int64) (last wait t t_1 : UInt64)
    (s :
      Option
        (Int64 ×
          UInt64 ×
            UInt64 × UInt64 × UInt64 × List (UInt64 × UInt64 × UInt64 × UInt64 × Bool × Bool) × UInt64 × UInt64)) =>
  oite (decide (t_1 < t))
    (obind (F9 n (s, t_1))
      fun
        (x_4 :
          List (UInt64 × UInt64 × UInt64 × UInt64 × Bool × Bool) ×
            Option
              (Int64 ×
                UInt64 ×
                  UInt64 ×
                    UInt64 × UInt64 × List (UInt64 × UInt64 × UInt64 × UInt64 × Bool × Bool) × UInt64 × UInt64)) =>
      oite (decide (UInt64.ofInt ↑(UInt16.toNat (stop % (2000 : UInt16))) ≤ t_1))
        (obind (F10 n (Prod.snd x_4, (0 : UInt64), (0 : UInt64)))
          fun
            (x_5 :
              (UInt64 × Int64) ×
                Option
                  (Int64 ×
                    UInt64 ×
                      UInt64 ×
                        UInt64 × UInt64 × List (UInt64 × UInt64 × UInt64 × UInt64 × Bool × Bool) × UInt64 × UInt64)) =>
          obind (F10 n (Prod.snd x_5, (1 : UInt64), (0 : UInt64)))
            fun
              (x_6 :
                (UInt64 × Int64) ×
                  Option
                    (Int64 ×
                      UInt64 ×
                        UInt64 ×
                          UInt64 ×
                            UInt64 × List (UInt64 × UInt64 × UInt64 × UInt64 × Bool × Bool) × UInt64 × UInt64)) =>
            obind (F9 n (Prod.snd x_6, t_1 + (5000 : UInt64)))
              fun
                (x_7 :
                  List (UInt64 × UInt64 × UInt64 × UInt64 × Bool × Bool) ×
                    Option
                      (Int64 ×
                        UInt64 ×
                          UInt64 ×
                            UInt64 ×
                              UInt64 × List (UInt64 × UInt64 × UInt64 × UInt64 × Bool × Bool) × UInt64 × UInt64)) =>
              oite (!decide (Int64.ofInt ↑(List.length (Prod.fst x_7)) = (0 : Int64))) (some (false, ()))
                (some (decide (e = (0 : Int64)), ())))
        (oite (decide (Int64.ofInt ↑(List.length (Prod.fst x_4)) = (0 : Int64)))
          (oite (decide (b < t_1 - last)) (some (false, ()))
            (rec stop a b e last wait t (t_1 + (1 : UInt64)) (Prod.snd x_4)))
          (oite (decide ((0 : UInt64) < t_1))
            (oite (decide (t_1 - last < a)) (some (false, ()))
              (oite (decide (b < t_1 - last)) (some (false, ()))
                (oite (decide (t_1 - last < wait)) (some (false, ()))
                  (oite (decide ((0 : UInt64) < wait))
                    (oite (!decide (t_1 - last = IK.minI IntKind.u64 ((2 : UInt64) * wait) b))
                      (some (false, ()))
                      (rec stop a b e t_1 (t_1 - last) t (t_1 + (1 : UInt64)) (Prod.snd x_4)))
                    (rec stop a b e t_1 (t_1 - last) t (t_1 + (1 : UInt64)) (Prod.snd x_4))))))
            (rec stop a b e t_1 wait t (t_1 + (1 : UInt64)) (Prod.snd x_4)))))
    (some (decide (e = (0 : Int64)), ()))
def F3_R1021 : Nat →
  Nat →
    PT.T (PT.int IntKind.u16) →
      UInt64 →
        UInt64 →
          Int64 →
            UInt64 →
              UInt64 →
                UInt64 →
                  UInt64 →
                    Option
                        (Int64 ×
                          UInt64 ×
                            UInt64 ×
                              UInt64 ×
                                UInt64 × List (UInt64 × UInt64 × UInt64 × UInt64 × Bool × Bool) × UInt64 × UInt64) →
                      Option (Bool × Unit) := fun (n : Nat) =>
  ofixA (1021 : Nat)
    [PT.int IntKind.u16, PT.int IntKind.u64, PT.int IntKind.u64, PT.int IntKind.i64, PT.int IntKind.u64,
      PT.int IntKind.u64, PT.int IntKind.u64, PT.int IntKind.u64,
      PT.opt
        (OTs.cons (OT.c (CT.int IntKind.i64))
          (OTs.cons (OT.c (CT.int IntKind.u64))
            (OTs.cons (OT.c (CT.int IntKind.u64))
              (OTs.cons (OT.c (CT.int IntKind.u64))
                (OTs.cons (OT.c (CT.int IntKind.u64))
                  (OTs.cons
                    (OT.row
                      (CTs.cons (CT.int IntKind.u64)
                        (CTs.cons (CT.int IntKind.u64)
                          (CTs.cons (CT.int IntKind.u64)
                            (CTs.cons (CT.int IntKind.u64) (CTs.cons CT.bool (CTs.cons CT.bool CTs.nil)))))))
                    (OTs.cons (OT.c (CT.int IntKind.u64)) (OTs.cons (OT.c (CT.int IntKind.u64)) OTs.nil))))))))]
    (F3_L1021 n)
def F3 : Nat → UInt16 × UInt16 × UInt16 × UInt16 → Option (Bool × Unit) := fun (n : Nat) (x : UInt16 × UInt16 × UInt16 × UInt16) =>
  obind (F6 n ()) fun (x_1 : Bool × Unit) =>
    oite (!Prod.fst x_1) (some (false, ()))
      (obind
        (F7 n
          ((3 : Int64), (1 : UInt64) + UInt64.ofInt ↑(UInt16.toNat (Prod.fst x % (40 : UInt16))),
            (1 : UInt64) + UInt64.ofInt ↑(UInt16.toNat (Prod.fst x % (40 : UInt16))) +
              UInt64.ofInt ↑(UInt16.toNat (Prod.fst (Prod.snd x) % (300 : UInt16)))))
        fun
          (x_2 :
            (Option
                  (Int64 ×
                    UInt64 ×
                      UInt64 ×
                        UInt64 × UInt64 × List (UInt64 × UInt64 × UInt64 × UInt64 × Bool × Bool) × UInt64 × UInt64) ×
                Int64) ×
              Unit) =>
        obind (F8 n (Prod.fst (Prod.fst x_2), (7 : UInt64), (0 : UInt64)))
          fun
            (x_3 :
              (UInt64 × Int64) ×
                Option
                  (Int64 ×
                    UInt64 ×
                      UInt64 ×
                        UInt64 × UInt64 × List (UInt64 × UInt64 × UInt64 × UInt64 × Bool × Bool) × UInt64 × UInt64)) =>
          F3_R1021 n n (Prod.snd (Prod.snd (Prod.snd x)))
            ((1 : UInt64) + UInt64.ofInt ↑(UInt16.toNat (Prod.fst x % (40 : UInt16))))
            ((1 : UInt64) + UInt64.ofInt ↑(UInt16.toNat (Prod.fst x % (40 : UInt16))) +
              UInt64.ofInt ↑(UInt16.toNat (Prod.fst (Prod.snd x) % (300 : UInt16))))
            (Prod.snd (Prod.fst x_2)) (0 : UInt64) (0 : UInt64)
            (UInt64.ofInt ↑(UInt16.toNat (Prod.fst (Prod.snd (Prod.snd x)) % (2000 : UInt16)))) (0 : UInt64)
            (Prod.snd x_3))
theorem F3_R1021_s (n : Nat) (m_ : Nat) : F3_R1021 n (m_ + 1) = F3_L1021 n (F3_R1021 n m_) := rfl
theorem ok3 (n : Nat) : FunOK Try.prog ⟨3, sig3, F3 n⟩ :=
  fun_ok (hints := ⟨[], [(1021, ⟨[(3, .one (.int .u16)), (9, .one (.int .u64)), (10, .one (.int .u64)), (11, .one (.own 4)), (12, .one (.int .i64)), (13, .one (.int .u64)), (14, .one (.int .u64)), (40, .one (.int .u64)), (41, .one (.int .u64))], [(4, .fold (.cons (.c (.int .i64)) (.cons (.c (.int .u64)) (.cons (.c (.int .u64)) (.cons (.c (.int .u64)) (.cons (.c (.int .u64)) (.cons (.row (.cons (.int .u64) (.cons (.int .u64) (.cons (.int .u64) (.cons (.int .u64) (.cons .bool (.cons .bool .nil))))))) (.cons (.c (.int .u64)) (.cons (.c (.int .u64)) .nil)))))))))], 5⟩)]⟩) (fuel := n) (c := Try.f3.body.getD .skip) (rs := Try.f3.results.toList) tt_ok mix (FsOK.cons (ok6 n) (FsOK.cons (ok7 n) (FsOK.cons (ok8 n) (FsOK.cons (ok9 n) (FsOK.cons (ok10 n) (FsOK.nil)))))) Try.func3 (by kernel_rfl) (by kernel_rfl) rfl (by kernel_rfl) rfl rfl (by kernel_rfl)
-- (*watchfire/send.Sender).List
def sig11 : Sig := ⟨(.cons (.one (.ptr (.cons (.c (.int .i64)) (.cons (.c (.int .u64)) (.cons (.c (.int .u64)) (.cons (.c (.int .u64)) (.cons (.c (.int .u64)) (.cons (.row (.cons (.int .u64) (.cons (.int .u64) (.cons (.int .u64) (.cons (.int .u64) (.cons .bool (.cons .bool .nil))))))) (.cons (.c (.int .u64)) (.cons (.c (.int .u64)) .nil)))))))))) .nil), (.cons (.one (.c (.ro (.cons (.int .u64) (.cons (.int .u64) (.cons (.int .u64) (.cons (.int .u64) (.cons .bool (.cons .bool .nil))))))))) .nil)⟩
def F11 : Nat →
  Option
      (Int64 ×
        UInt64 × UInt64 × UInt64 × UInt64 × List (UInt64 × UInt64 × UInt64 × UInt64 × Bool × Bool) × UInt64 × UInt64) →
    Option
      (List (UInt64 × UInt64 × UInt64 × UInt64 × Bool × Bool) ×
        Option
          (Int64 ×
            UInt64 ×
              UInt64 × UInt64 × UInt64 × List (UInt64 × UInt64 × UInt64 × UInt64 × Bool × Bool) × UInt64 × UInt64)) := fun (n : Nat)
    (x :
      Option
        (Int64 ×
          UInt64 ×
            UInt64 × UInt64 × UInt64 × List (UInt64 × UInt64 × UInt64 × UInt64 × Bool × Bool) × UInt64 × UInt64)) =>
  oelim x (some ([], none))
    fun
      (x_1 :
        Int64 ×
          UInt64 ×
            UInt64 × UInt64 × UInt64 × List (UInt64 × UInt64 × UInt64 × UInt64 × Bool × Bool) × UInt64 × UInt64) =>
    oite
      (Nat.ble ((0 : Nat) + List.length (Prod.fst (Prod.snd (Prod.snd (Prod.snd (Prod.snd (Prod.snd x_1)))))))
        (4294967296 : Nat))
      (some
        ([] ++ Prod.fst (Prod.snd (Prod.snd (Prod.snd (Prod.snd (Prod.snd x_1))))),
          some
            (Prod.fst x_1, Prod.fst (Prod.snd x_1), Prod.fst (Prod.snd (Prod.snd x_1)),
              Prod.fst (Prod.snd (Prod.snd (Prod.snd x_1))), Prod.fst (Prod.snd (Prod.snd (Prod.snd (Prod.snd x_1)))),
              Prod.fst (Prod.snd (Prod.snd (Prod.snd (Prod.snd (Prod.snd x_1))))),
              Prod.fst (Prod.snd (Prod.snd (Prod.snd (Prod.snd (Prod.snd (Prod.snd x_1)))))),
              Prod.snd (Prod.snd (Prod.snd (Prod.snd (Prod.snd (Prod.snd (Prod.snd x_1)))))))))
      none
theorem ok11 (n : Nat) : FunOK Try.prog ⟨11, sig11, F11 n⟩ :=
  fun_ok (hints := ⟨[], []⟩) (fuel := n) (c := Try.f11.body.getD .skip) (rs := Try.f11.results.toList) tt_ok mix (FsOK.nil) Try.func11 (by kernel_rfl) (by kernel_rfl) rfl (by kernel_rfl) rfl rfl (by kernel_rfl)
-- watchfire/watchfirelaw10.SendWindow
def sig4 : Sig := ⟨(.cons (.one (.c (.int .u8))) (.cons (.one (.c (.ro (.cons (.int .u8) .nil)))) .nil)), (.cons (.one (.c .bool)) .nil)⟩
def F4_L32438 : Nat →
  Arr
      [PT.int IntKind.i64, PT.int IntKind.i64, PT.int IntKind.u64, PT.int IntKind.u64,
        PT.list (CTs.cons (CT.int IntKind.u8) CTs.nil), PT.int IntKind.i64, PT.int IntKind.i64,
        PT.opt
          (OTs.cons (OT.c (CT.int IntKind.i64))
            (OTs.cons (OT.c (CT.int IntKind.u64))
              (OTs.cons (OT.c (CT.int IntKind.u64))
                (OTs.cons (OT.c (CT.int IntKind.u64))
                  (OTs.cons (OT.c (CT.int IntKind.u64))
                    (OTs.cons
                      (OT.row
                        (CTs.cons (CT.int IntKind.u64)
                          (CTs.cons (CT.int IntKind.u64)
                            (CTs.cons (CT.int IntKind.u64)
                              (CTs.cons (CT.int IntKind.u64) (CTs.cons CT.bool (CTs.cons CT.bool CTs.nil)))))))
                      (OTs.cons (OT.c (CT.int IntKind.u64)) (OTs.cons (OT.c (CT.int IntKind.u64)) OTs.nil))))))))]
      (Option (Bool × Unit)) →
    Arr
        [PT.int IntKind.i64, PT.int IntKind.i64, PT.int IntKind.u64, PT.int IntKind.u64, PT.int IntKind.u8,
          PT.list (CTs.cons (CT.int IntKind.u8) CTs.nil), PT.int IntKind.i64, PT.int IntKind.i64,
          PT.opt
            (OTs.cons (OT.c (CT.int IntKind.i64))
              (OTs.cons (OT.c (CT.int IntKind.u64))
                (OTs.cons (OT.c (CT.int IntKind.u64))
                  (OTs.cons (OT.c (CT.int IntKind.u64))
                    (OTs.cons (OT.c (CT.int IntKind.u64))
                      (OTs.cons
                        (OT.row
                          (CTs.cons (CT.int IntKind.u64)
                            (CTs.cons (CT.int IntKind.u64)
                              (CTs.cons (CT.int IntKind.u64)
                                (CTs.cons (CT.int IntKind.u64) (CTs.cons CT.bool (CTs.cons CT.bool CTs.nil)))))))
                        (OTs.cons (OT.c (CT.int IntKind.u64)) (OTs.cons (OT.c (CT.int IntKind.u64)) OTs.nil))))))))]
        (Option (Bool × Unit)) →
      Int64 →
        Int64 →
          UInt64 →
            UInt64 →
              UInt8 →
                List UInt8 →
                  Int64 →
                    Int64 →
                      Option
                          (Int64 ×
                            UInt64 ×
                              UInt64 ×
                                UInt64 ×
                                  UInt64 × List (UInt64 × UInt64 × UInt64 × UInt64 × Bool × Bool) × UInt64 × UInt64) →
                        Option (Bool × Unit) := fun (n : Nat)
    (rec :
      Arr
        [PT.int IntKind.i64, PT.int IntKind.i64, PT.int IntKind.u64, PT.int IntKind.u64,
          PT.list (CTs.cons (CT.int IntKind.u8) CTs.nil), PT.int IntKind.i64, PT.int IntKind.i64,
          PT.opt
            (OTs.cons (OT.c (CT.int IntKind.i64))
              (OTs.cons (OT.c (CT.int IntKind.u64))
                (OTs.cons (OT.c (CT.int IntKind.u64))
                  (OTs.cons (OT.c (CT.int IntKind.u64))
                    (OTs.cons (OT.c (CT.int IntKind.u64))
                      (OTs.cons
                        (OT.row
                          (CTs.cons (CT.int IntKind.u64)
                            (CTs.cons (CT.int IntKind.u64)
                              (CTs.cons (CT.int IntKind.u64)
                                (CTs.cons (CT.int IntKind.u64) (CTs.cons CT.bool (CTs.cons CT.bool CTs.nil)))))))
                        (OTs.cons (OT.c (CT.int IntKind.u64)) (OTs.cons (OT.c (CT.int IntKind.u64)) OTs.nil))))))))]
        (Option (Bool × Unit)))
    (rec_1 :
      Arr
        [PT.int IntKind.i64, PT.int IntKind.i64, PT.int IntKind.u64, PT.int IntKind.u64, PT.int IntKind.u8,
          PT.list (CTs.cons (CT.int IntKind.u8) CTs.nil), PT.int IntKind.i64, PT.int IntKind.i64,
          PT.opt
            (OTs.cons (OT.c (CT.int IntKind.i64))
              (OTs.cons (OT.c (CT.int IntKind.u64))
                (OTs.cons (OT.c (CT.int IntKind.u64))
                  (OTs.cons (OT.c (CT.int IntKind.u64))
                    (OTs.cons (OT.c (CT.int IntKind.u64))
                      (OTs.cons
                        (OT.row
                          (CTs.cons (CT.int IntKind.u64)
                            (CTs.cons (CT.int IntKind.u64)
                              (CTs.cons (CT.int IntKind.u64)
                                (CTs.cons (CT.int IntKind.u64) (CTs.cons CT.bool (CTs.cons CT.bool CTs.nil)))))))
                        (OTs.cons (OT.c (CT.int IntKind.u64)) (OTs.cons (OT.c (CT.int IntKind.u64)) OTs.nil))))))))]
        (Option (Bool × Unit)))
    (w_1 e_1 : Int64) (next_1 cum_1 : UInt64) (x_ : UInt8) (t_3 : List UInt8) (t_1_1 t_2_1 : Int64)
    (s_1 :
      Option
        (Int64 ×
          UInt64 ×
            UInt64 × UInt64 × UInt64 × List (UInt64 × UInt64 × UInt64 × UInt64 × Bool × Bool) × UInt64 × UInt64)) =>
  obind (F8 n (s_1, next_1 + (100 : UInt64), (0 : UInt64)))
    fun
      (x_4 :
        (UInt64 × Int64) ×
          Option
            (Int64 ×
              UInt64 ×
                UInt64 × UInt64 × UInt64 × List (UInt64 × UInt64 × UInt64 × UInt64 × Bool × Bool) × UInt64 × UInt64)) =>
    oite (decide (Prod.snd (Prod.fst x_4) = (19 : Int64)))
      (obind (F11 n (Prod.snd x_4))
        fun
          (x_5 :
            List (UInt64 × UInt64 × UInt64 × UInt64 × Bool × Bool) ×
              Option
                (Int64 ×
                  UInt64 ×
                    UInt64 ×
                      UInt64 × UInt64 × List (UInt64 × UInt64 × UInt64 × UInt64 × Bool × Bool) × UInt64 × UInt64)) =>
        oite (!decide (Int64.ofInt ↑(List.length (Prod.fst x_5)) = w_1)) (some (false, ()))
          (obind (F12 n (Prod.snd x_5))
            fun
              (x_6 :
                Int64 ×
                  Option
                    (Int64 ×
                      UInt64 ×
                        UInt64 ×
                          UInt64 ×
                            UInt64 × List (UInt64 × UInt64 × UInt64 × UInt64 × Bool × Bool) × UInt64 × UInt64)) =>
            oite (!decide (Prod.fst x_6 = (0 : Int64))) (some (false, ()))
              (oite (decide (UInt64.ofInt (Int64.toInt (w_1 + (1 : Int64))) = (0 : UInt64))) none
                (obind
                  (F10 n
                    (Prod.snd x_6,
                      IK.minI IntKind.u64
                        (cum_1 + UInt64.ofInt ↑(UInt8.toNat x_) % UInt64.ofInt (Int64.toInt (w_1 + (1 : Int64))))
                        (next_1 - (1 : UInt64)),
                      (0 : UInt64)))
                  fun
                    (x_7 :
                      (UInt64 × Int64) ×
                        Option
                          (Int64 ×
                            UInt64 ×
                              UInt64 ×
                                UInt64 ×
                                  UInt64 × List (UInt64 × UInt64 × UInt64 × UInt64 × Bool × Bool) × UInt64 × UInt64)) =>
                  oite (!decide (Prod.snd (Prod.fst x_7) = (0 : Int64))) (some (false, ()))
                    (oite (!decide (Prod.fst (Prod.fst x_7) = (0 : UInt64)))
                      (oite
                        (!decide
                            (Prod.fst (Prod.fst x_7) =
                              IK.minI IntKind.u64
                                  (cum_1 +
                                    UInt64.ofInt ↑(UInt8.toNat x_) % UInt64.ofInt (Int64.toInt (w_1 + (1 : Int64))))
                                  (next_1 - (1 : UInt64)) +
                                (100 : UInt64)))
                        (some (false, ()))
                        (obind (F11 n (Prod.snd x_7))
                          fun
                            (x_8 :
                              List (UInt64 × UInt64 × UInt64 × UInt64 × Bool × Bool) ×
                                Option
                                  (Int64 ×
                                    UInt64 ×
                                      UInt64 ×
                                        UInt64 ×
                                          UInt64 ×
                                            List (UInt64 × UInt64 × UInt64 × UInt64 × Bool × Bool) ×
                                              UInt64 × UInt64)) =>
                          oite
                            (!decide
                                (Int64.ofInt ↑(List.length (Prod.fst x_8)) =
                                  Int64.ofInt
                                    ↑(UInt64.toNat
                                        (next_1 - (1 : UInt64) -
                                          IK.minI IntKind.u64
                                            (cum_1 +
                                              UInt64.ofInt ↑(UInt8.toNat x_) %
                                                UInt64.ofInt (Int64.toInt (w_1 + (1 : Int64))))
                                            (next_1 - (1 : UInt64))))))
                            (some (false, ()))
                            (rec w_1 e_1 next_1
                              (IK.minI IntKind.u64
                                (cum_1 +
                                  UInt64.ofInt ↑(UInt8.toNat x_) % UInt64.ofInt (Int64.toInt (w_1 + (1 : Int64))))
                                (next_1 - (1 : UInt64)))
                              t_3 t_1_1 (t_2_1 + (1 : Int64)) (Prod.snd x_8))))
                      (obind (F11 n (Prod.snd x_7))
                        fun
                          (x_8 :
                            List (UInt64 × UInt64 × UInt64 × UInt64 × Bool × Bool) ×
                              Option
                                (Int64 ×
                                  UInt64 ×
                                    UInt64 ×
                                      UInt64 ×
                                        UInt64 ×
                                          List (UInt64 × UInt64 × UInt64 × UInt64 × Bool × Bool) × UInt64 × UInt64)) =>
                        oite
                          (!decide
                              (Int64.ofInt ↑(List.length (Prod.fst x_8)) =
                                Int64.ofInt
                                  ↑(UInt64.toNat
                                      (next_1 - (1 : UInt64) -
                                        IK.minI IntKind.u64
                                          (cum_1 +
                                            UInt64.ofInt ↑(UInt8.toNat x_) %
                                              UInt64.ofInt (Int64.toInt (w_1 + (1 : Int64))))
                                          (next_1 - (1 : UInt64))))))
                          (some (false, ()))
                          (rec w_1 e_1 next_1
                            (IK.minI IntKind.u64
                              (cum_1 + UInt64.ofInt ↑(UInt8.toNat x_) % UInt64.ofInt (Int64.toInt (w_1 + (1 : Int64))))
                              (next_1 - (1 : UInt64)))
                            t_3 t_1_1 (t_2_1 + (1 : Int64)) (Prod.snd x_8))))))))
      (oite (!decide (Prod.snd (Prod.fst x_4) = (0 : Int64))) (some (false, ()))
        (oite (!decide (Prod.fst (Prod.fst x_4) = next_1)) (some (false, ()))
          (rec_1 w_1 e_1 (next_1 + (1 : UInt64)) cum_1 x_ t_3 t_1_1 t_2_1 (Prod.snd x_4))))
def F4_R32438 : Nat →
  Arr
      [PT.int IntKind.i64, PT.int IntKind.i64, PT.int IntKind.u64, PT.int IntKind.u64,
        PT.list (CTs.cons (CT.int IntKind.u8) CTs.nil), PT.int IntKind.i64, PT.int IntKind.i64,
        PT.opt
          (OTs.cons (OT.c (CT.int IntKind.i64))
            (OTs.cons (OT.c (CT.int IntKind.u64))
              (OTs.cons (OT.c (CT.int IntKind.u64))
                (OTs.cons (OT.c (CT.int IntKind.u64))
                  (OTs.cons (OT.c (CT.int IntKind.u64))
                    (OTs.cons
                      (OT.row
                        (CTs.cons (CT.int IntKind.u64)
                          (CTs.cons (CT.int IntKind.u64)
                            (CTs.cons (CT.int IntKind.u64)
                              (CTs.cons (CT.int IntKind.u64) (CTs.cons CT.bool (CTs.cons CT.bool CTs.nil)))))))
                      (OTs.cons (OT.c (CT.int IntKind.u64)) (OTs.cons (OT.c (CT.int IntKind.u64)) OTs.nil))))))))]
      (Option (Bool × Unit)) →
    Nat →
      PT.T (PT.int IntKind.i64) →
        Int64 →
          UInt64 →
            UInt64 →
              UInt8 →
                List UInt8 →
                  Int64 →
                    Int64 →
                      Option
                          (Int64 ×
                            UInt64 ×
                              UInt64 ×
                                UInt64 ×
                                  UInt64 × List (UInt64 × UInt64 × UInt64 × UInt64 × Bool × Bool) × UInt64 × UInt64) →
                        Option (Bool × Unit) := fun (n : Nat)
    (rec :
      Arr
        [PT.int IntKind.i64, PT.int IntKind.i64, PT.int IntKind.u64, PT.int IntKind.u64,
          PT.list (CTs.cons (CT.int IntKind.u8) CTs.nil), PT.int IntKind.i64, PT.int IntKind.i64,
          PT.opt
            (OTs.cons (OT.c (CT.int IntKind.i64))
              (OTs.cons (OT.c (CT.int IntKind.u64))
                (OTs.cons (OT.c (CT.int IntKind.u64))
                  (OTs.cons (OT.c (CT.int IntKind.u64))
                    (OTs.cons (OT.c (CT.int IntKind.u64))
                      (OTs.cons
                        (OT.row
                          (CTs.cons (CT.int IntKind.u64)
                            (CTs.cons (CT.int IntKind.u64)
                              (CTs.cons (CT.int IntKind.u64)
                                (CTs.cons (CT.int IntKind.u64) (CTs.cons CT.bool (CTs.cons CT.bool CTs.nil)))))))
                        (OTs.cons (OT.c (CT.int IntKind.u64)) (OTs.cons (OT.c (CT.int IntKind.u64)) OTs.nil))))))))]
        (Option (Bool × Unit))) =>
  ofixA (32438 : Nat)
    [PT.int IntKind.i64, PT.int IntKind.i64, PT.int IntKind.u64, PT.int IntKind.u64, PT.int IntKind.u8,
      PT.list (CTs.cons (CT.int IntKind.u8) CTs.nil), PT.int IntKind.i64, PT.int IntKind.i64,
      PT.opt
        (OTs.cons (OT.c (CT.int IntKind.i64))
          (OTs.cons (OT.c (CT.int IntKind.u64))
            (OTs.cons (OT.c (CT.int IntKind.u64))
              (OTs.cons (OT.c (CT.int IntKind.u64))
                (OTs.cons (OT.c (CT.int IntKind.u64))
                  (OTs.cons
                    (OT.row
                      (CTs.cons (CT.int IntKind.u64)
                        (CTs.cons (CT.int IntKind.u64)
                          (CTs.cons (CT.int IntKind.u64)
                            (CTs.cons (CT.int IntKind.u64) (CTs.cons CT.bool (CTs.cons CT.bool CTs.nil)))))))
                    (OTs.cons (OT.c (CT.int IntKind.u64)) (OTs.cons (OT.c (CT.int IntKind.u64)) OTs.nil))))))))]
    (F4_L32438 n rec)
def F4_L253 : Nat →
  Arr
      [PT.int IntKind.i64, PT.int IntKind.i64, PT.int IntKind.u64, PT.int IntKind.u64,
        PT.list (CTs.cons (CT.int IntKind.u8) CTs.nil), PT.int IntKind.i64, PT.int IntKind.i64,
        PT.opt
          (OTs.cons (OT.c (CT.int IntKind.i64))
            (OTs.cons (OT.c (CT.int IntKind.u64))
              (OTs.cons (OT.c (CT.int IntKind.u64))
                (OTs.cons (OT.c (CT.int IntKind.u64))
                  (OTs.cons (OT.c (CT.int IntKind.u64))
                    (OTs.cons
                      (OT.row
                        (CTs.cons (CT.int IntKind.u64)
                          (CTs.cons (CT.int IntKind.u64)
                            (CTs.cons (CT.int IntKind.u64)
                              (CTs.cons (CT.int IntKind.u64) (CTs.cons CT.bool (CTs.cons CT.bool CTs.nil)))))))
                      (OTs.cons (OT.c (CT.int IntKind.u64)) (OTs.cons (OT.c (CT.int IntKind.u64)) OTs.nil))))))))]
      (Option (Bool × Unit)) →
    Int64 →
      Int64 →
        UInt64 →
          UInt64 →
            List UInt8 →
              Int64 →
                Int64 →
                  Option
                      (Int64 ×
                        UInt64 ×
                          UInt64 ×
                            UInt64 ×
                              UInt64 × List (UInt64 × UInt64 × UInt64 × UInt64 × Bool × Bool) × UInt64 × UInt64) →
                    Option (Bool × Unit) := fun (n : Nat)
    (rec :
      Arr
        [PT.int IntKind.i64, PT.int IntKind.i64, PT.int IntKind.u64, PT.int IntKind.u64,
          PT.list (CTs.cons (CT.int IntKind.u8) CTs.nil), PT.int IntKind.i64, PT.int IntKind.i64,
          PT.opt
            (OTs.cons (OT.c (CT.int IntKind.i64))
              (OTs.cons (OT.c (CT.int IntKind.u64))
                (OTs.cons (OT.c (CT.int IntKind.u64))
                  (OTs.cons (OT.c (CT.int IntKind.u64))
                    (OTs.cons (OT.c (CT.int IntKind.u64))
                      (OTs.cons
                        (OT.row
                          (CTs.cons (CT.int IntKind.u64)
                            (CTs.cons (CT.int IntKind.u64)
                              (CTs.cons (CT.int IntKind.u64)
                                (CTs.cons (CT.int IntKind.u64) (CTs.cons CT.bool (CTs.cons CT.bool CTs.nil)))))))
                        (OTs.cons (OT.c (CT.int IntKind.u64)) (OTs.cons (OT.c (CT.int IntKind.u64)) OTs.nil))))))))]
        (Option (Bool × Unit)))
    (w e : Int64) (next cum : UInt64) (t : List UInt8) (t_1 t_2 : Int64)
    (s :
      Option
        (Int64 ×
          UInt64 ×
            UInt64 × UInt64 × UInt64 × List (UInt64 × UInt64 × UInt64 × UInt64 × Bool × Bool) × UInt64 × UInt64)) =>
  oite (decide (t_2 < t_1))
    (obind (at? t (Int64.toInt t_2)) fun (x_3 : UInt8) =>
      oite (decide ((60 : Int64) < t_2)) (some (decide (e = (0 : Int64)), ()))
        (F4_R32438 n rec n w e next cum x_3 t t_1 t_2 s))
    (some (decide (e = (0 : Int64)), ()))
def F4_R253 : Nat →
  Nat →
    PT.T (PT.int IntKind.i64) →
      Int64 →
        UInt64 →
          UInt64 →
            List UInt8 →
              Int64 →
                Int64 →
                  Option
                      (Int64 ×
                        UInt64 ×
                          UInt64 ×
                            UInt64 ×
                              UInt64 × List (UInt64 × UInt64 × UInt64 × UInt64 × Bool × Bool) × UInt64 × UInt64) →
                    Option (Bool × Unit) := fun (n : Nat) =>
  ofixA (253 : Nat)
    [PT.int IntKind.i64, PT.int IntKind.i64, PT.int IntKind.u64, PT.int IntKind.u64,
      PT.list (CTs.cons (CT.int IntKind.u8) CTs.nil), PT.int IntKind.i64, PT.int IntKind.i64,
      PT.opt
        (OTs.cons (OT.c (CT.int IntKind.i64))
          (OTs.cons (OT.c (CT.int IntKind.u64))
            (OTs.cons (OT.c (CT.int IntKind.u64))
              (OTs.cons (OT.c (CT.int IntKind.u64))
                (OTs.cons (OT.c (CT.int IntKind.u64))
                  (OTs.cons
                    (OT.row
                      (CTs.cons (CT.int IntKind.u64)
                        (CTs.cons (CT.int IntKind.u64)
                          (CTs.cons (CT.int IntKind.u64)
                            (CTs.cons (CT.int IntKind.u64) (CTs.cons CT.bool (CTs.cons CT.bool CTs.nil)))))))
                    (OTs.cons (OT.c (CT.int IntKind.u64)) (OTs.cons (OT.c (CT.int IntKind.u64)) OTs.nil))))))))]
    (F4_L253 n)
def F4 : Nat → UInt8 × List UInt8 → Option (Bool × Unit) := fun (n : Nat) (x : UInt8 × List UInt8) =>
  obind (F6 n ()) fun (x_1 : Bool × Unit) =>
    oite (!Prod.fst x_1) (some (false, ()))
      (obind (F7 n ((1 : Int64) + Int64.ofInt ↑(UInt8.toNat (Prod.fst x % (64 : UInt8))), (1 : UInt64), (8 : UInt64)))
        fun
          (x_2 :
            (Option
                  (Int64 ×
                    UInt64 ×
                      UInt64 ×
                        UInt64 × UInt64 × List (UInt64 × UInt64 × UInt64 × UInt64 × Bool × Bool) × UInt64 × UInt64) ×
                Int64) ×
              Unit) =>
        F4_R253 n n ((1 : Int64) + Int64.ofInt ↑(UInt8.toNat (Prod.fst x % (64 : UInt8)))) (Prod.snd (Prod.fst x_2))
          (1 : UInt64) (0 : UInt64) (Prod.snd x) (Int64.ofInt ↑(List.length (Prod.snd x))) (0 : Int64)
          (Prod.fst (Prod.fst x_2)))
theorem F4_R32438_s (n : Nat) (rec : Arr [PT.int IntKind.i64, PT.int IntKind.i64, PT.int IntKind.u64, PT.int IntKind.u64, PT.list (CTs.cons (CT.int IntKind.u8) CTs.nil), PT.int IntKind.i64, PT.int IntKind.i64, PT.opt (OTs.cons (OT.c (CT.int IntKind.i64)) (OTs.cons (OT.c (CT.int IntKind.u64)) (OTs.cons (OT.c (CT.int IntKind.u64)) (OTs.cons (OT.c (CT.int IntKind.u64)) (OTs.cons (OT.c (CT.int IntKind.u64)) (OTs.cons (OT.row (CTs.cons (CT.int IntKind.u64) (CTs.cons (CT.int IntKind.u64) (CTs.cons (CT.int IntKind.u64) (CTs.cons (CT.int IntKind.u64) (CTs.cons CT.bool (CTs.cons CT.bool CTs.nil))))))) (OTs.cons (OT.c (CT.int IntKind.u64)) (OTs.cons (OT.c (CT.int IntKind.u64)) OTs.nil))))))))] (Option (Bool × Unit))) (m_ : Nat) : F4_R32438 n rec (m_ + 1) = F4_L32438 n rec (F4_R32438 n rec m_) := rfl
theorem F4_R253_s (n : Nat) (m_ : Nat) : F4_R253 n (m_ + 1) = F4_L253 n (F4_R253 n m_) := rfl
theorem ok4 (n : Nat) : FunOK Try.prog ⟨4, sig4, F4 n⟩ :=
  fun_ok (hints := ⟨[], [(253, ⟨[(5, .one (.int .i64)), (6, .one (.own 2)), (7, .one (.int .i64)), (8, .one (.int .u64)), (9, .one (.int .u64)), (27, .one (.ro (.cons (.int .u8) .nil))), (28, .one (.int .i64)), (29, .one (.int .i64))], [(2, .fold (.cons (.c (.int .i64)) (.cons (.c (.int .u64)) (.cons (.c (.int .u64)) (.cons (.c (.int .u64)) (.cons (.c (.int .u64)) (.cons (.row (.cons (.int .u64) (.cons (.int .u64) (.cons (.int .u64) (.cons (.int .u64) (.cons .bool (.cons .bool .nil))))))) (.cons (.c (.int .u64)) (.cons (.c (.int .u64)) .nil)))))))))], 3⟩), (32438, ⟨[(5, .one (.int .i64)), (6, .one (.own 2)), (7, .one (.int .i64)), (8, .one (.int .u64)), (9, .one (.int .u64)), (11, .one (.int .u8)), (27, .one (.ro (.cons (.int .u8) .nil))), (28, .one (.int .i64)), (29, .one (.int .i64))], [(2, .fold (.cons (.c (.int .i64)) (.cons (.c (.int .u64)) (.cons (.c (.int .u64)) (.cons (.c (.int .u64)) (.cons (.c (.int .u64)) (.cons (.row (.cons (.int .u64) (.cons (.int .u64) (.cons (.int .u64) (.cons (.int .u64) (.cons .bool (.cons .bool .nil))))))) (.cons (.c (.int .u64)) (.cons (.c (.int .u64)) .nil)))))))))], 3⟩)]⟩) (fuel := n) (c := Try.f4.body.getD .skip) (rs := Try.f4.results.toList) tt_ok mix (FsOK.cons (ok6 n) (FsOK.cons (ok7 n) (FsOK.cons (ok8 n) (FsOK.cons (ok11 n) (FsOK.cons (ok12 n) (FsOK.cons (ok10 n) (FsOK.nil))))))) Try.func4 (by kernel_rfl) (by kernel_rfl) rfl (by kernel_rfl) rfl rfl (by kernel_rfl)
end Go.Proofs.Ytkgabdafhfhoiaa
