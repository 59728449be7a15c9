/- What the functions of this seat compute, found by walking their code symbolically: each F is what the walk finds, each ok says that the Go function keeps it as a contract. Printed by a program of this repo's. -/
import Derived.Test.YtllfmmonieelpaaReFns2
open Go Go.Sx
namespace Go.Proofs.Ytllfmmonieelpaa
set_option maxRecDepth 100000
set_option linter.unusedVariables false
-- watchfire/watchfireref01.Same
def sig26 : Sig := ⟨(.cons (.one (.c (.ro (.cons .str (.cons .str .nil))))) (.cons (.one (.c (.ro (.cons .str (.cons .str .nil))))) .nil)), (.cons (.one (.c .bool)) .nil)⟩
def F26_L29 : Arr
    [PT.list (CTs.cons CT.str (CTs.cons CT.str CTs.nil)), PT.list (CTs.cons CT.str (CTs.cons CT.str CTs.nil)),
      PT.int IntKind.i64]
    (Option (Bool × Unit)) →
  List (List UInt8 × List UInt8) → List (List UInt8 × List UInt8) → Int64 → Option (Bool × Unit) := fun
    (rec :
      Arr
        [PT.list (CTs.cons CT.str (CTs.cons CT.str CTs.nil)), PT.list (CTs.cons CT.str (CTs.cons CT.str CTs.nil)),
          PT.int IntKind.i64]
        (Option (Bool × Unit)))
    (a b : List (List UInt8 × List UInt8)) (i : Int64) =>
  oite (decide (i < Int64.ofInt ↑(List.length a)))
    (obind (at? a (Int64.toInt i)) fun (x_1 : List UInt8 × List UInt8) =>
      obind (at? b (Int64.toInt i)) fun (x_2 : List UInt8 × List UInt8) =>
        oite (!(Prod.fst x_1 == Prod.fst x_2 && (Prod.snd x_1 == Prod.snd x_2 && true))) (some (false, ()))
          (rec a b (i + (1 : Int64))))
    (some (true, ()))
def F26_R29 : Nat →
  PT.T (PT.list (CTs.cons CT.str (CTs.cons CT.str CTs.nil))) →
    List (List UInt8 × List UInt8) → Int64 → Option (Bool × Unit) := ofixA (29 : Nat)
  [PT.list (CTs.cons CT.str (CTs.cons CT.str CTs.nil)), PT.list (CTs.cons CT.str (CTs.cons CT.str CTs.nil)),
    PT.int IntKind.i64]
  F26_L29
def F26 : Nat → List (List UInt8 × List UInt8) × List (List UInt8 × List UInt8) → Option (Bool × Unit) := fun (n : Nat) (x : List (List UInt8 × List UInt8) × List (List UInt8 × List UInt8)) =>
  oite (!decide (Int64.ofInt ↑(List.length (Prod.fst x)) = Int64.ofInt ↑(List.length (Prod.snd x))))
    (some (false, ())) (F26_R29 n (Prod.fst x) (Prod.snd x) (0 : Int64))
theorem F26_R29_s  (m_ : Nat) : F26_R29  (m_ + 1) = F26_L29  (F26_R29  m_) := rfl
theorem ok26 (n : Nat) : FunOK Try.prog ⟨26, sig26, F26 n⟩ :=
  fun_ok (hints := ⟨[], [(29, ⟨[(0, .one (.ro (.cons .str (.cons .str .nil)))), (1, .one (.ro (.cons .str (.cons .str .nil)))), (5, .one (.int .i64))], [], 2⟩)]⟩) (fuel := n) (c := Try.f26.body.getD .skip) (rs := Try.f26.results.toList) tt_ok mix (FsOK.nil) Try.func26 (by kernel_rfl) (by kernel_rfl) rfl (by kernel_rfl) rfl rfl (by kernel_rfl)
-- watchfire/watchfireref01.SameItem
def sig12 : Sig := ⟨(.cons (.agg (.cons .bool (.cons (.int .u8) (.cons (.int .u64) (.cons (.int .u64) (.cons .str (.cons (.ro (.cons .str (.cons .str .nil))) (.cons (.int .u8) (.cons (.int .u8) (.cons (.int .i64) (.cons (.int .u8) (.cons (.int .u8) (.cons (.int .u64) (.cons (.int .u64) .nil)))))))))))))) (.cons (.agg (.cons .bool (.cons (.int .u8) (.cons (.int .u64) (.cons (.int .u64) (.cons .str (.cons (.ro (.cons .str (.cons .str .nil))) (.cons (.int .u8) (.cons (.int .u8) (.cons (.int .i64) (.cons (.int .u8) (.cons (.int .u8) (.cons (.int .u64) (.cons (.int .u64) .nil)))))))))))))) .nil)), (.cons (.one (.c .bool)) .nil)⟩
def F12 : Nat →
  (Bool ×
        UInt8 ×
          UInt64 ×
            UInt64 ×
              List UInt8 × List (List UInt8 × List UInt8) × UInt8 × UInt8 × Int64 × UInt8 × UInt8 × UInt64 × UInt64) ×
      Bool ×
        UInt8 ×
          UInt64 ×
            UInt64 ×
              List UInt8 × List (List UInt8 × List UInt8) × UInt8 × UInt8 × Int64 × UInt8 × UInt8 × UInt64 × UInt64 →
    Option (Bool × Unit) := fun (n : Nat)
    (x :
      (Bool ×
          UInt8 ×
            UInt64 ×
              UInt64 ×
                List UInt8 × List (List UInt8 × List UInt8) × UInt8 × UInt8 × Int64 × UInt8 × UInt8 × UInt64 × UInt64) ×
        Bool ×
          UInt8 ×
            UInt64 ×
              UInt64 ×
                List UInt8 ×
                  List (List UInt8 × List UInt8) × UInt8 × UInt8 × Int64 × UInt8 × UInt8 × UInt64 × UInt64) =>
  oite (!Prod.fst (Prod.fst x) == Prod.fst (Prod.snd x)) (some (false, ()))
    (oite (Prod.fst (Prod.fst x))
      (some
        (decide
              (Prod.fst
                  (Prod.snd
                    (Prod.snd
                      (Prod.snd
                        (Prod.snd (Prod.snd (Prod.snd (Prod.snd (Prod.snd (Prod.snd (Prod.snd (Prod.fst x))))))))))) =
                Prod.fst
                  (Prod.snd
                    (Prod.snd
                      (Prod.snd
                        (Prod.snd (Prod.snd (Prod.snd (Prod.snd (Prod.snd (Prod.snd (Prod.snd (Prod.snd x)))))))))))) &&
            (decide
                (Prod.fst
                    (Prod.snd
                      (Prod.snd
                        (Prod.snd
                          (Prod.snd
                            (Prod.snd
                              (Prod.snd (Prod.snd (Prod.snd (Prod.snd (Prod.snd (Prod.snd (Prod.fst x)))))))))))) =
                  Prod.fst
                    (Prod.snd
                      (Prod.snd
                        (Prod.snd
                          (Prod.snd
                            (Prod.snd
                              (Prod.snd (Prod.snd (Prod.snd (Prod.snd (Prod.snd (Prod.snd (Prod.snd x))))))))))))) &&
              (decide
                  (Prod.snd
                      (Prod.snd
                        (Prod.snd
                          (Prod.snd
                            (Prod.snd
                              (Prod.snd
                                (Prod.snd (Prod.snd (Prod.snd (Prod.snd (Prod.snd (Prod.snd (Prod.fst x)))))))))))) =
                    Prod.snd
                      (Prod.snd
                        (Prod.snd
                          (Prod.snd
                            (Prod.snd
                              (Prod.snd
                                (Prod.snd (Prod.snd (Prod.snd (Prod.snd (Prod.snd (Prod.snd (Prod.snd x))))))))))))) &&
                true)),
          ()))
      (oite (decide (Prod.fst (Prod.snd (Prod.fst x)) = Prod.fst (Prod.snd (Prod.snd x))))
        (oite (decide (Prod.fst (Prod.snd (Prod.snd (Prod.fst x))) = Prod.fst (Prod.snd (Prod.snd (Prod.snd x)))))
          (oite
            (decide
              (Prod.fst (Prod.snd (Prod.snd (Prod.snd (Prod.fst x)))) =
                Prod.fst (Prod.snd (Prod.snd (Prod.snd (Prod.snd x))))))
            (oite
              (Prod.fst (Prod.snd (Prod.snd (Prod.snd (Prod.snd (Prod.fst x))))) ==
                Prod.fst (Prod.snd (Prod.snd (Prod.snd (Prod.snd (Prod.snd x))))))
              (oite
                (decide
                  (Prod.fst (Prod.snd (Prod.snd (Prod.snd (Prod.snd (Prod.snd (Prod.snd (Prod.fst x))))))) =
                    Prod.fst (Prod.snd (Prod.snd (Prod.snd (Prod.snd (Prod.snd (Prod.snd (Prod.snd x)))))))))
                (oite
                  (decide
                    (Prod.fst
                        (Prod.snd (Prod.snd (Prod.snd (Prod.snd (Prod.snd (Prod.snd (Prod.snd (Prod.fst x)))))))) =
                      Prod.fst
                        (Prod.snd (Prod.snd (Prod.snd (Prod.snd (Prod.snd (Prod.snd (Prod.snd (Prod.snd x))))))))))
                  (oite
                    (decide
                      (Prod.fst
                          (Prod.snd
                            (Prod.snd (Prod.snd (Prod.snd (Prod.snd (Prod.snd (Prod.snd (Prod.snd (Prod.fst x))))))))) =
                        Prod.fst
                          (Prod.snd
                            (Prod.snd (Prod.snd (Prod.snd (Prod.snd (Prod.snd (Prod.snd (Prod.snd (Prod.snd x)))))))))))
                    (oite
                      (decide
                        (Prod.fst
                            (Prod.snd
                              (Prod.snd
                                (Prod.snd
                                  (Prod.snd (Prod.snd (Prod.snd (Prod.snd (Prod.snd (Prod.snd (Prod.fst x)))))))))) =
                          Prod.fst
                            (Prod.snd
                              (Prod.snd
                                (Prod.snd
                                  (Prod.snd (Prod.snd (Prod.snd (Prod.snd (Prod.snd (Prod.snd (Prod.snd x))))))))))))
                      (obind
                        (F26 n
                          (Prod.fst (Prod.snd (Prod.snd (Prod.snd (Prod.snd (Prod.snd (Prod.fst x)))))),
                            Prod.fst (Prod.snd (Prod.snd (Prod.snd (Prod.snd (Prod.snd (Prod.snd x))))))))
                        fun (x_1 : Bool × Unit) => some (Prod.fst x_1, ()))
                      (some (false, ())))
                    (some (false, ())))
                  (some (false, ())))
                (some (false, ())))
              (some (false, ())))
            (some (false, ())))
          (some (false, ())))
        (some (false, ()))))
theorem ok12 (n : Nat) : FunOK Try.prog ⟨12, sig12, F12 n⟩ :=
  fun_ok (hints := ⟨[], []⟩) (fuel := n) (c := Try.f12.body.getD .skip) (rs := Try.f12.results.toList) tt_ok mix (FsOK.cons (ok26 n) (FsOK.nil)) Try.func12 (by kernel_rfl) (by kernel_rfl) rfl (by kernel_rfl) rfl rfl (by kernel_rfl)
-- (*watchfire/watchfireref06.Receiver).Find
def sig16 : Sig := ⟨(.cons (.one (.ptr (.cons (.c (.int .i64)) (.cons (.c (.int .u64)) (.cons (.c (.int .u64)) (.cons (.row (.cons (.int .u64) (.cons .bool (.cons (.int .u8) (.cons (.int .u64) (.cons (.int .u64) (.cons .str (.cons (.ro (.cons .str (.cons .str .nil))) (.cons (.int .u8) (.cons (.int .u8) (.cons (.int .i64) (.cons (.int .u8) (.cons (.int .u8) (.cons (.int .u64) (.cons (.int .u64) .nil))))))))))))))) .nil)))))) (.cons (.one (.c (.int .u64))) .nil)), (.cons (.one (.c (.int .i64))) .nil)⟩
def F16_L13 : Arr
    [PT.int IntKind.u64, PT.int IntKind.i64,
      PT.opt
        (OTs.cons (OT.c (CT.int IntKind.i64))
          (OTs.cons (OT.c (CT.int IntKind.u64))
            (OTs.cons (OT.c (CT.int IntKind.u64))
              (OTs.cons
                (OT.row
                  (CTs.cons (CT.int IntKind.u64)
                    (CTs.cons CT.bool
                      (CTs.cons (CT.int IntKind.u8)
                        (CTs.cons (CT.int IntKind.u64)
                          (CTs.cons (CT.int IntKind.u64)
                            (CTs.cons CT.str
                              (CTs.cons (CT.ro (CTs.cons CT.str (CTs.cons CT.str CTs.nil)))
                                (CTs.cons (CT.int IntKind.u8)
                                  (CTs.cons (CT.int IntKind.u8)
                                    (CTs.cons (CT.int IntKind.i64)
                                      (CTs.cons (CT.int IntKind.u8)
                                        (CTs.cons (CT.int IntKind.u8)
                                          (CTs.cons (CT.int IntKind.u64)
                                            (CTs.cons (CT.int IntKind.u64) CTs.nil)))))))))))))))
                OTs.nil))))]
    (Option
      (Int64 ×
        Option
          (Int64 ×
            UInt64 ×
              UInt64 ×
                List
                  (UInt64 ×
                    Bool ×
                      UInt8 ×
                        UInt64 ×
                          UInt64 ×
                            List UInt8 ×
                              List (List UInt8 × List UInt8) ×
                                UInt8 × UInt8 × Int64 × UInt8 × UInt8 × UInt64 × UInt64)))) →
  UInt64 →
    Int64 →
      Option
          (Int64 ×
            UInt64 ×
              UInt64 ×
                List
                  (UInt64 ×
                    Bool ×
                      UInt8 ×
                        UInt64 ×
                          UInt64 ×
                            List UInt8 ×
                              List (List UInt8 × List UInt8) ×
                                UInt8 × UInt8 × Int64 × UInt8 × UInt8 × UInt64 × UInt64)) →
        Option
          (Int64 ×
            Option
              (Int64 ×
                UInt64 ×
                  UInt64 ×
                    List
                      (UInt64 ×
                        Bool ×
                          UInt8 ×
                            UInt64 ×
                              UInt64 ×
                                List UInt8 ×
                                  List (List UInt8 × List UInt8) ×
                                    UInt8 × UInt8 × Int64 × UInt8 × UInt8 × UInt64 × UInt64))) := fun
    (rec :
      Arr
        [PT.int IntKind.u64, PT.int IntKind.i64,
          PT.opt
            (OTs.cons (OT.c (CT.int IntKind.i64))
              (OTs.cons (OT.c (CT.int IntKind.u64))
                (OTs.cons (OT.c (CT.int IntKind.u64))
                  (OTs.cons
                    (OT.row
                      (CTs.cons (CT.int IntKind.u64)
                        (CTs.cons CT.bool
                          (CTs.cons (CT.int IntKind.u8)
                            (CTs.cons (CT.int IntKind.u64)
                              (CTs.cons (CT.int IntKind.u64)
                                (CTs.cons CT.str
                                  (CTs.cons (CT.ro (CTs.cons CT.str (CTs.cons CT.str CTs.nil)))
                                    (CTs.cons (CT.int IntKind.u8)
                                      (CTs.cons (CT.int IntKind.u8)
                                        (CTs.cons (CT.int IntKind.i64)
                                          (CTs.cons (CT.int IntKind.u8)
                                            (CTs.cons (CT.int IntKind.u8)
                                              (CTs.cons (CT.int IntKind.u64)
                                                (CTs.cons (CT.int IntKind.u64) CTs.nil)))))))))))))))
                    OTs.nil))))]
        (Option
          (Int64 ×
            Option
              (Int64 ×
                UInt64 ×
                  UInt64 ×
                    List
                      (UInt64 ×
                        Bool ×
                          UInt8 ×
                            UInt64 ×
                              UInt64 ×
                                List UInt8 ×
                                  List (List UInt8 × List UInt8) ×
                                    UInt8 × UInt8 × Int64 × UInt8 × UInt8 × UInt64 × UInt64)))))
    (seq : UInt64) (i : Int64)
    (r :
      Option
        (Int64 ×
          UInt64 ×
            UInt64 ×
              List
                (UInt64 ×
                  Bool ×
                    UInt8 ×
                      UInt64 ×
                        UInt64 ×
                          List UInt8 ×
                            List (List UInt8 × List UInt8) ×
                              UInt8 × UInt8 × Int64 × UInt8 × UInt8 × UInt64 × UInt64))) =>
  obind r
    fun
      (x_1 :
        Int64 ×
          UInt64 ×
            UInt64 ×
              List
                (UInt64 ×
                  Bool ×
                    UInt8 ×
                      UInt64 ×
                        UInt64 ×
                          List UInt8 ×
                            List (List UInt8 × List UInt8) ×
                              UInt8 × UInt8 × Int64 × UInt8 × UInt8 × UInt64 × UInt64)) =>
    oite (decide (i < Int64.ofInt ↑(List.length (Prod.snd (Prod.snd (Prod.snd x_1))))))
      (oite
        (decide ((0 : Int) ≤ Int64.toInt i) &&
          Nat.blt (Int.toNat (Int64.toInt i)) (List.length (Prod.snd (Prod.snd (Prod.snd x_1)))))
        (obind (Prod.snd (Prod.snd (Prod.snd x_1)))[Int.toNat (Int64.toInt i)]?
          fun
            (x_2 :
              UInt64 ×
                Bool ×
                  UInt8 ×
                    UInt64 ×
                      UInt64 ×
                        List UInt8 ×
                          List (List UInt8 × List UInt8) × UInt8 × UInt8 × Int64 × UInt8 × UInt8 × UInt64 × UInt64) =>
          oite (decide (Prod.fst x_2 = seq))
            (some
              (i,
                some
                  (Prod.fst x_1, Prod.fst (Prod.snd x_1), Prod.fst (Prod.snd (Prod.snd x_1)),
                    Prod.snd (Prod.snd (Prod.snd x_1)))))
            (rec seq (i + (1 : Int64))
              (some
                (Prod.fst x_1, Prod.fst (Prod.snd x_1), Prod.fst (Prod.snd (Prod.snd x_1)),
                  Prod.snd (Prod.snd (Prod.snd x_1))))))
        none)
      (some
        ((-1 : Int64),
          some
            (Prod.fst x_1, Prod.fst (Prod.snd x_1), Prod.fst (Prod.snd (Prod.snd x_1)),
              Prod.snd (Prod.snd (Prod.snd x_1)))))
def F16_R13 : Nat →
  PT.T (PT.int IntKind.u64) →
    Int64 →
      Option
          (Int64 ×
            UInt64 ×
              UInt64 ×
                List
                  (UInt64 ×
                    Bool ×
                      UInt8 ×
                        UInt64 ×
                          UInt64 ×
                            List UInt8 ×
                              List (List UInt8 × List UInt8) ×
                                UInt8 × UInt8 × Int64 × UInt8 × UInt8 × UInt64 × UInt64)) →
        Option
          (Int64 ×
            Option
              (Int64 ×
                UInt64 ×
                  UInt64 ×
                    List
                      (UInt64 ×
                        Bool ×
                          UInt8 ×
                            UInt64 ×
                              UInt64 ×
                                List UInt8 ×
                                  List (List UInt8 × List UInt8) ×
                                    UInt8 × UInt8 × Int64 × UInt8 × UInt8 × UInt64 × UInt64))) := ofixA (13 : Nat)
  [PT.int IntKind.u64, PT.int IntKind.i64,
    PT.opt
      (OTs.cons (OT.c (CT.int IntKind.i64))
        (OTs.cons (OT.c (CT.int IntKind.u64))
          (OTs.cons (OT.c (CT.int IntKind.u64))
            (OTs.cons
              (OT.row
                (CTs.cons (CT.int IntKind.u64)
                  (CTs.cons CT.bool
                    (CTs.cons (CT.int IntKind.u8)
                      (CTs.cons (CT.int IntKind.u64)
                        (CTs.cons (CT.int IntKind.u64)
                          (CTs.cons CT.str
                            (CTs.cons (CT.ro (CTs.cons CT.str (CTs.cons CT.str CTs.nil)))
                              (CTs.cons (CT.int IntKind.u8)
                                (CTs.cons (CT.int IntKind.u8)
                                  (CTs.cons (CT.int IntKind.i64)
                                    (CTs.cons (CT.int IntKind.u8)
                                      (CTs.cons (CT.int IntKind.u8)
                                        (CTs.cons (CT.int IntKind.u64)
                                          (CTs.cons (CT.int IntKind.u64) CTs.nil)))))))))))))))
              OTs.nil))))]
  F16_L13
def F16 : Nat →
  Option
        (Int64 ×
          UInt64 ×
            UInt64 ×
              List
                (UInt64 ×
                  Bool ×
                    UInt8 ×
                      UInt64 ×
                        UInt64 ×
                          List UInt8 ×
                            List (List UInt8 × List UInt8) × UInt8 × UInt8 × Int64 × UInt8 × UInt8 × UInt64 × UInt64)) ×
      UInt64 →
    Option
      (Int64 ×
        Option
          (Int64 ×
            UInt64 ×
              UInt64 ×
                List
                  (UInt64 ×
                    Bool ×
                      UInt8 ×
                        UInt64 ×
                          UInt64 ×
                            List UInt8 ×
                              List (List UInt8 × List UInt8) ×
                                UInt8 × UInt8 × Int64 × UInt8 × UInt8 × UInt64 × UInt64))) := fun (n : Nat)
    (x :
      Option
          (Int64 ×
            UInt64 ×
              UInt64 ×
                List
                  (UInt64 ×
                    Bool ×
                      UInt8 ×
                        UInt64 ×
                          UInt64 ×
                            List UInt8 ×
                              List (List UInt8 × List UInt8) ×
                                UInt8 × UInt8 × Int64 × UInt8 × UInt8 × UInt64 × UInt64)) ×
        UInt64) =>
  F16_R13 n (Prod.snd x) (0 : Int64) (Prod.fst x)
theorem F16_R13_s  (m_ : Nat) : F16_R13  (m_ + 1) = F16_L13  (F16_R13  m_) := rfl
theorem ok16 (n : Nat) : FunOK Try.prog ⟨16, sig16, F16 n⟩ :=
  fun_ok (hints := ⟨[], [(13, ⟨[(0, .one (.own 0)), (1, .one (.int .u64)), (5, .one (.int .i64))], [(0, .fold (.cons (.c (.int .i64)) (.cons (.c (.int .u64)) (.cons (.c (.int .u64)) (.cons (.row (.cons (.int .u64) (.cons .bool (.cons (.int .u8) (.cons (.int .u64) (.cons (.int .u64) (.cons .str (.cons (.ro (.cons .str (.cons .str .nil))) (.cons (.int .u8) (.cons (.int .u8) (.cons (.int .i64) (.cons (.int .u8) (.cons (.int .u8) (.cons (.int .u64) (.cons (.int .u64) .nil))))))))))))))) .nil)))))], 2⟩)]⟩) (fuel := n) (c := Try.f16.body.getD .skip) (rs := Try.f16.results.toList) tt_ok mix (FsOK.nil) Try.func16 (by kernel_rfl) (by kernel_rfl) rfl (by kernel_rfl) rfl rfl (by kernel_rfl)
-- (*watchfire/watchfireref06.Receiver).Next
def sig14 : Sig := ⟨(.cons (.one (.ptr (.cons (.c (.int .i64)) (.cons (.c (.int .u64)) (.cons (.c (.int .u64)) (.cons (.row (.cons (.int .u64) (.cons .bool (.cons (.int .u8) (.cons (.int .u64) (.cons (.int .u64) (.cons .str (.cons (.ro (.cons .str (.cons .str .nil))) (.cons (.int .u8) (.cons (.int .u8) (.cons (.int .i64) (.cons (.int .u8) (.cons (.int .u8) (.cons (.int .u64) (.cons (.int .u64) .nil))))))))))))))) .nil)))))) .nil), (.cons (.one (.c (.int .i64))) .nil)⟩
def F14 : Nat →
  Option
      (Int64 ×
        UInt64 ×
          UInt64 ×
            List
              (UInt64 ×
                Bool ×
                  UInt8 ×
                    UInt64 ×
                      UInt64 ×
                        List UInt8 ×
                          List (List UInt8 × List UInt8) × UInt8 × UInt8 × Int64 × UInt8 × UInt8 × UInt64 × UInt64)) →
    Option
      (Int64 ×
        Option
          (Int64 ×
            UInt64 ×
              UInt64 ×
                List
                  (UInt64 ×
                    Bool ×
                      UInt8 ×
                        UInt64 ×
                          UInt64 ×
                            List UInt8 ×
                              List (List UInt8 × List UInt8) ×
                                UInt8 × UInt8 × Int64 × UInt8 × UInt8 × UInt64 × UInt64))) := fun (n : Nat)
    (x :
      Option
        (Int64 ×
          UInt64 ×
            UInt64 ×
              List
                (UInt64 ×
                  Bool ×
                    UInt8 ×
                      UInt64 ×
                        UInt64 ×
                          List UInt8 ×
                            List (List UInt8 × List UInt8) ×
                              UInt8 × UInt8 × Int64 × UInt8 × UInt8 × UInt64 × UInt64))) =>
  obind x
    fun
      (x_1 :
        Int64 ×
          UInt64 ×
            UInt64 ×
              List
                (UInt64 ×
                  Bool ×
                    UInt8 ×
                      UInt64 ×
                        UInt64 ×
                          List UInt8 ×
                            List (List UInt8 × List UInt8) ×
                              UInt8 × UInt8 × Int64 × UInt8 × UInt8 × UInt64 × UInt64)) =>
    obind
      (F16 n
        (some
            (Prod.fst x_1, Prod.fst (Prod.snd x_1), Prod.fst (Prod.snd (Prod.snd x_1)),
              Prod.snd (Prod.snd (Prod.snd x_1))),
          Prod.fst (Prod.snd x_1)))
      fun
        (x_2 :
          Int64 ×
            Option
              (Int64 ×
                UInt64 ×
                  UInt64 ×
                    List
                      (UInt64 ×
                        Bool ×
                          UInt8 ×
                            UInt64 ×
                              UInt64 ×
                                List UInt8 ×
                                  List (List UInt8 × List UInt8) ×
                                    UInt8 × UInt8 × Int64 × UInt8 × UInt8 × UInt64 × UInt64))) =>
      oite (decide (Prod.fst x_2 < (0 : Int64))) (some ((14 : Int64), Prod.snd x_2))
        (obind (Prod.snd x_2)
          fun
            (x_3 :
              Int64 ×
                UInt64 ×
                  UInt64 ×
                    List
                      (UInt64 ×
                        Bool ×
                          UInt8 ×
                            UInt64 ×
                              UInt64 ×
                                List UInt8 ×
                                  List (List UInt8 × List UInt8) ×
                                    UInt8 × UInt8 × Int64 × UInt8 × UInt8 × UInt64 × UInt64)) =>
          oite
            (decide ((0 : Int) ≤ Int64.toInt (Prod.fst x_2)) &&
                Nat.ble (Int.toNat (Int64.toInt (Prod.fst x_2))) (List.length (Prod.snd (Prod.snd (Prod.snd x_3)))) &&
              true)
            (oite
              (Nat.ble
                ((0 : Nat) +
                  List.length
                    (List.take (Int.toNat (Int64.toInt (Prod.fst x_2)) - (0 : Nat))
                      (List.drop (0 : Nat) (Prod.snd (Prod.snd (Prod.snd x_3))))))
                (4294967296 : Nat))
              (oite
                (decide ((0 : Int) ≤ Int64.toInt (Prod.fst x_2 + (1 : Int64))) &&
                  Nat.ble (Int.toNat (Int64.toInt (Prod.fst x_2 + (1 : Int64))))
                    (List.length (Prod.snd (Prod.snd (Prod.snd x_3)))))
                (oite
                  (Nat.ble
                    (List.length
                        ([] ++
                          List.take (Int.toNat (Int64.toInt (Prod.fst x_2)) - (0 : Nat))
                            (List.drop (0 : Nat) (Prod.snd (Prod.snd (Prod.snd x_3))))) +
                      List.length
                        (List.take
                          (List.length (Prod.snd (Prod.snd (Prod.snd x_3))) -
                            Int.toNat (Int64.toInt (Prod.fst x_2 + (1 : Int64))))
                          (List.drop (Int.toNat (Int64.toInt (Prod.fst x_2 + (1 : Int64))))
                            (Prod.snd (Prod.snd (Prod.snd x_3))))))
                    (4294967296 : Nat))
                  (some
                    ((0 : Int64),
                      some
                        (Prod.fst x_3, Prod.fst (Prod.snd x_3) + (1 : UInt64), Prod.fst (Prod.snd (Prod.snd x_3)),
                          [] ++
                              List.take (Int.toNat (Int64.toInt (Prod.fst x_2)) - (0 : Nat))
                                (List.drop (0 : Nat) (Prod.snd (Prod.snd (Prod.snd x_3)))) ++
                            List.take
                              (List.length (Prod.snd (Prod.snd (Prod.snd x_3))) -
                                Int.toNat (Int64.toInt (Prod.fst x_2 + (1 : Int64))))
                              (List.drop (Int.toNat (Int64.toInt (Prod.fst x_2 + (1 : Int64))))
                                (Prod.snd (Prod.snd (Prod.snd x_3)))))))
                  none)
                none)
              none)
            none)
theorem ok14 (n : Nat) : FunOK Try.prog ⟨14, sig14, F14 n⟩ :=
  fun_ok (hints := ⟨[], []⟩) (fuel := n) (c := Try.f14.body.getD .skip) (rs := Try.f14.results.toList) tt_ok mix (FsOK.cons (ok16 n) (FsOK.nil)) Try.func14 (by kernel_rfl) (by kernel_rfl) rfl (by kernel_rfl) rfl rfl (by kernel_rfl)
-- (*watchfire/watchfireref06.Receiver).Take
def sig15 : Sig := ⟨(.cons (.one (.ptr (.cons (.c (.int .i64)) (.cons (.c (.int .u64)) (.cons (.c (.int .u64)) (.cons (.row (.cons (.int .u64) (.cons .bool (.cons (.int .u8) (.cons (.int .u64) (.cons (.int .u64) (.cons .str (.cons (.ro (.cons .str (.cons .str .nil))) (.cons (.int .u8) (.cons (.int .u8) (.cons (.int .i64) (.cons (.int .u8) (.cons (.int .u8) (.cons (.int .u64) (.cons (.int .u64) .nil))))))))))))))) .nil)))))) (.cons (.one (.c (.int .u64))) (.cons (.agg (.cons .bool (.cons (.int .u8) (.cons (.int .u64) (.cons (.int .u64) (.cons .str (.cons (.ro (.cons .str (.cons .str .nil))) (.cons (.int .u8) (.cons (.int .u8) (.cons (.int .i64) (.cons (.int .u8) (.cons (.int .u8) (.cons (.int .u64) (.cons (.int .u64) .nil)))))))))))))) .nil))), (.cons (.one (.c (.int .i64))) .nil)⟩
def F15_J6 : Nat →
  UInt64 →
    Bool →
      Option
          (Int64 ×
            UInt64 ×
              UInt64 ×
                List
                  (UInt64 ×
                    Bool ×
                      UInt8 ×
                        UInt64 ×
                          UInt64 ×
                            List UInt8 ×
                              List (List UInt8 × List UInt8) ×
                                UInt8 × UInt8 × Int64 × UInt8 × UInt8 × UInt64 × UInt64)) →
        Bool →
          UInt8 →
            UInt64 →
              UInt64 →
                List UInt8 →
                  List (List UInt8 × List UInt8) →
                    UInt8 →
                      UInt8 →
                        Int64 →
                          UInt8 →
                            UInt8 →
                              UInt64 →
                                UInt64 →
                                  Option
                                    (Int64 ×
                                      Option
                                        (Int64 ×
                                          UInt64 ×
                                            UInt64 ×
                                              List
                                                (UInt64 ×
                                                  Bool ×
                                                    UInt8 ×
                                                      UInt64 ×
                                                        UInt64 ×
                                                          List UInt8 ×
                                                            List (List UInt8 × List UInt8) ×
                                                              UInt8 × UInt8 × Int64 × UInt8 × UInt8 × UInt64 × UInt64))) := fun (n : Nat) (seq : UInt64) (t : Bool)
    (r :
      Option
        (Int64 ×
          UInt64 ×
            UInt64 ×
              List
                (UInt64 ×
                  Bool ×
                    UInt8 ×
                      UInt64 ×
                        UInt64 ×
                          List UInt8 ×
                            List (List UInt8 × List UInt8) × UInt8 × UInt8 × Int64 × UInt8 × UInt8 × UInt64 × UInt64)))
    (x0 : Bool) (x1 : UInt8) (x2 x3 : UInt64) (x4 : List UInt8) (x5 : List (List UInt8 × List UInt8)) (x6 x7 : UInt8)
    (x8 : Int64) (x9 x10 : UInt8) (x11 x12 : UInt64) =>
  oite t
    (obind r
      fun
        (x_1 :
          Int64 ×
            UInt64 ×
              UInt64 ×
                List
                  (UInt64 ×
                    Bool ×
                      UInt8 ×
                        UInt64 ×
                          UInt64 ×
                            List UInt8 ×
                              List (List UInt8 × List UInt8) ×
                                UInt8 × UInt8 × Int64 × UInt8 × UInt8 × UInt64 × UInt64)) =>
      some
        ((17 : Int64),
          some
            (Prod.fst x_1, Prod.fst (Prod.snd x_1), Prod.fst (Prod.snd (Prod.snd x_1)) + (1 : UInt64),
              Prod.snd (Prod.snd (Prod.snd x_1)))))
    (obind r
      fun
        (x_1 :
          Int64 ×
            UInt64 ×
              UInt64 ×
                List
                  (UInt64 ×
                    Bool ×
                      UInt8 ×
                        UInt64 ×
                          UInt64 ×
                            List UInt8 ×
                              List (List UInt8 × List UInt8) ×
                                UInt8 × UInt8 × Int64 × UInt8 × UInt8 × UInt64 × UInt64)) =>
      oite (decide (Prod.fst (Prod.snd x_1) + UInt64.ofInt (Int64.toInt (Prod.fst x_1)) ≤ seq))
        (some
          ((19 : Int64),
            some
              (Prod.fst x_1, Prod.fst (Prod.snd x_1), Prod.fst (Prod.snd (Prod.snd x_1)),
                Prod.snd (Prod.snd (Prod.snd x_1)))))
        (obind (F20 n (x0, x1, x2, x3, x4, x5, x6, x7, x8, x9, x10, x11, x12)) fun (x_2 : Int64 × Unit) =>
          oite (!decide (Prod.fst x_2 = (0 : Int64)))
            (some
              (Prod.fst x_2,
                some
                  (Prod.fst x_1, Prod.fst (Prod.snd x_1), Prod.fst (Prod.snd (Prod.snd x_1)),
                    Prod.snd (Prod.snd (Prod.snd x_1)))))
            (oite
              (Nat.ble
                (List.length (Prod.snd (Prod.snd (Prod.snd x_1))) +
                  List.length [(seq, x0, x1, x2, x3, x4, x5, x6, x7, x8, x9, x10, x11, x12)])
                (4294967296 : Nat))
              (some
                ((0 : Int64),
                  some
                    (Prod.fst x_1, Prod.fst (Prod.snd x_1), Prod.fst (Prod.snd (Prod.snd x_1)),
                      Prod.snd (Prod.snd (Prod.snd x_1)) ++
                        [(seq, x0, x1, x2, x3, x4, x5, x6, x7, x8, x9, x10, x11, x12)])))
              none)))
def F15 : Nat →
  Option
        (Int64 ×
          UInt64 ×
            UInt64 ×
              List
                (UInt64 ×
                  Bool ×
                    UInt8 ×
                      UInt64 ×
                        UInt64 ×
                          List UInt8 ×
                            List (List UInt8 × List UInt8) × UInt8 × UInt8 × Int64 × UInt8 × UInt8 × UInt64 × UInt64)) ×
      UInt64 ×
        Bool ×
          UInt8 ×
            UInt64 ×
              UInt64 ×
                List UInt8 × List (List UInt8 × List UInt8) × UInt8 × UInt8 × Int64 × UInt8 × UInt8 × UInt64 × UInt64 →
    Option
      (Int64 ×
        Option
          (Int64 ×
            UInt64 ×
              UInt64 ×
                List
                  (UInt64 ×
                    Bool ×
                      UInt8 ×
                        UInt64 ×
                          UInt64 ×
                            List UInt8 ×
                              List (List UInt8 × List UInt8) ×
                                UInt8 × UInt8 × Int64 × UInt8 × UInt8 × UInt64 × UInt64))) := fun (n : Nat)
    (x :
      Option
          (Int64 ×
            UInt64 ×
              UInt64 ×
                List
                  (UInt64 ×
                    Bool ×
                      UInt8 ×
                        UInt64 ×
                          UInt64 ×
                            List UInt8 ×
                              List (List UInt8 × List UInt8) ×
                                UInt8 × UInt8 × Int64 × UInt8 × UInt8 × UInt64 × UInt64)) ×
        UInt64 ×
          Bool ×
            UInt8 ×
              UInt64 ×
                UInt64 ×
                  List UInt8 ×
                    List (List UInt8 × List UInt8) × UInt8 × UInt8 × Int64 × UInt8 × UInt8 × UInt64 × UInt64) =>
  ojoinA (6 : Nat)
    [PT.int IntKind.u64, PT.bool,
      PT.opt
        (OTs.cons (OT.c (CT.int IntKind.i64))
          (OTs.cons (OT.c (CT.int IntKind.u64))
            (OTs.cons (OT.c (CT.int IntKind.u64))
              (OTs.cons
                (OT.row
                  (CTs.cons (CT.int IntKind.u64)
                    (CTs.cons CT.bool
                      (CTs.cons (CT.int IntKind.u8)
                        (CTs.cons (CT.int IntKind.u64)
                          (CTs.cons (CT.int IntKind.u64)
                            (CTs.cons CT.str
                              (CTs.cons (CT.ro (CTs.cons CT.str (CTs.cons CT.str CTs.nil)))
                                (CTs.cons (CT.int IntKind.u8)
                                  (CTs.cons (CT.int IntKind.u8)
                                    (CTs.cons (CT.int IntKind.i64)
                                      (CTs.cons (CT.int IntKind.u8)
                                        (CTs.cons (CT.int IntKind.u8)
                                          (CTs.cons (CT.int IntKind.u64)
                                            (CTs.cons (CT.int IntKind.u64) CTs.nil)))))))))))))))
                OTs.nil)))),
      PT.bool, PT.int IntKind.u8, PT.int IntKind.u64, PT.int IntKind.u64, PT.bytes,
      PT.list (CTs.cons CT.str (CTs.cons CT.str CTs.nil)), PT.int IntKind.u8, PT.int IntKind.u8, PT.int IntKind.i64,
      PT.int IntKind.u8, PT.int IntKind.u8, PT.int IntKind.u64, PT.int IntKind.u64]
    (fun
        (J :
          Arr
            [PT.int IntKind.u64, PT.bool,
              PT.opt
                (OTs.cons (OT.c (CT.int IntKind.i64))
                  (OTs.cons (OT.c (CT.int IntKind.u64))
                    (OTs.cons (OT.c (CT.int IntKind.u64))
                      (OTs.cons
                        (OT.row
                          (CTs.cons (CT.int IntKind.u64)
                            (CTs.cons CT.bool
                              (CTs.cons (CT.int IntKind.u8)
                                (CTs.cons (CT.int IntKind.u64)
                                  (CTs.cons (CT.int IntKind.u64)
                                    (CTs.cons CT.str
                                      (CTs.cons (CT.ro (CTs.cons CT.str (CTs.cons CT.str CTs.nil)))
                                        (CTs.cons (CT.int IntKind.u8)
                                          (CTs.cons (CT.int IntKind.u8)
                                            (CTs.cons (CT.int IntKind.i64)
                                              (CTs.cons (CT.int IntKind.u8)
                                                (CTs.cons (CT.int IntKind.u8)
                                                  (CTs.cons (CT.int IntKind.u64)
                                                    (CTs.cons (CT.int IntKind.u64) CTs.nil)))))))))))))))
                        OTs.nil)))),
              PT.bool, PT.int IntKind.u8, PT.int IntKind.u64, PT.int IntKind.u64, PT.bytes,
              PT.list (CTs.cons CT.str (CTs.cons CT.str CTs.nil)), PT.int IntKind.u8, PT.int IntKind.u8,
              PT.int IntKind.i64, PT.int IntKind.u8, PT.int IntKind.u8, PT.int IntKind.u64, PT.int IntKind.u64]
            (Option
              (Int64 ×
                Option
                  (Int64 ×
                    UInt64 ×
                      UInt64 ×
                        List
                          (UInt64 ×
                            Bool ×
                              UInt8 ×
                                UInt64 ×
                                  UInt64 ×
                                    List UInt8 ×
                                      List (List UInt8 × List UInt8) ×
                                        UInt8 × UInt8 × Int64 × UInt8 × UInt8 × UInt64 × UInt64))))) =>
      obind (Prod.fst x)
        fun
          (x_1 :
            Int64 ×
              UInt64 ×
                UInt64 ×
                  List
                    (UInt64 ×
                      Bool ×
                        UInt8 ×
                          UInt64 ×
                            UInt64 ×
                              List UInt8 ×
                                List (List UInt8 × List UInt8) ×
                                  UInt8 × UInt8 × Int64 × UInt8 × UInt8 × UInt64 × UInt64)) =>
        oite (decide (Prod.fst (Prod.snd x) < Prod.fst (Prod.snd x_1)))
          (J (Prod.fst (Prod.snd x)) true
            (some
              (Prod.fst x_1, Prod.fst (Prod.snd x_1), Prod.fst (Prod.snd (Prod.snd x_1)),
                Prod.snd (Prod.snd (Prod.snd x_1))))
            (Prod.fst (Prod.snd (Prod.snd x))) (Prod.fst (Prod.snd (Prod.snd (Prod.snd x))))
            (Prod.fst (Prod.snd (Prod.snd (Prod.snd (Prod.snd x)))))
            (Prod.fst (Prod.snd (Prod.snd (Prod.snd (Prod.snd (Prod.snd x))))))
            (Prod.fst (Prod.snd (Prod.snd (Prod.snd (Prod.snd (Prod.snd (Prod.snd x)))))))
            (Prod.fst (Prod.snd (Prod.snd (Prod.snd (Prod.snd (Prod.snd (Prod.snd (Prod.snd x))))))))
            (Prod.fst (Prod.snd (Prod.snd (Prod.snd (Prod.snd (Prod.snd (Prod.snd (Prod.snd (Prod.snd x)))))))))
            (Prod.fst
              (Prod.snd (Prod.snd (Prod.snd (Prod.snd (Prod.snd (Prod.snd (Prod.snd (Prod.snd (Prod.snd x))))))))))
            (Prod.fst
              (Prod.snd
                (Prod.snd (Prod.snd (Prod.snd (Prod.snd (Prod.snd (Prod.snd (Prod.snd (Prod.snd (Prod.snd x)))))))))))
            (Prod.fst
              (Prod.snd
                (Prod.snd
                  (Prod.snd
                    (Prod.snd (Prod.snd (Prod.snd (Prod.snd (Prod.snd (Prod.snd (Prod.snd (Prod.snd x))))))))))))
            (Prod.fst
              (Prod.snd
                (Prod.snd
                  (Prod.snd
                    (Prod.snd
                      (Prod.snd (Prod.snd (Prod.snd (Prod.snd (Prod.snd (Prod.snd (Prod.snd (Prod.snd x)))))))))))))
            (Prod.fst
              (Prod.snd
                (Prod.snd
                  (Prod.snd
                    (Prod.snd
                      (Prod.snd
                        (Prod.snd (Prod.snd (Prod.snd (Prod.snd (Prod.snd (Prod.snd (Prod.snd (Prod.snd x))))))))))))))
            (Prod.snd
              (Prod.snd
                (Prod.snd
                  (Prod.snd
                    (Prod.snd
                      (Prod.snd
                        (Prod.snd (Prod.snd (Prod.snd (Prod.snd (Prod.snd (Prod.snd (Prod.snd (Prod.snd x)))))))))))))))
          (obind
            (F16 n
              (some
                  (Prod.fst x_1, Prod.fst (Prod.snd x_1), Prod.fst (Prod.snd (Prod.snd x_1)),
                    Prod.snd (Prod.snd (Prod.snd x_1))),
                Prod.fst (Prod.snd x)))
            fun
              (x_2 :
                Int64 ×
                  Option
                    (Int64 ×
                      UInt64 ×
                        UInt64 ×
                          List
                            (UInt64 ×
                              Bool ×
                                UInt8 ×
                                  UInt64 ×
                                    UInt64 ×
                                      List UInt8 ×
                                        List (List UInt8 × List UInt8) ×
                                          UInt8 × UInt8 × Int64 × UInt8 × UInt8 × UInt64 × UInt64))) =>
            J (Prod.fst (Prod.snd x)) (decide ((0 : Int64) ≤ Prod.fst x_2)) (Prod.snd x_2)
              (Prod.fst (Prod.snd (Prod.snd x))) (Prod.fst (Prod.snd (Prod.snd (Prod.snd x))))
              (Prod.fst (Prod.snd (Prod.snd (Prod.snd (Prod.snd x)))))
              (Prod.fst (Prod.snd (Prod.snd (Prod.snd (Prod.snd (Prod.snd x))))))
              (Prod.fst (Prod.snd (Prod.snd (Prod.snd (Prod.snd (Prod.snd (Prod.snd x)))))))
              (Prod.fst (Prod.snd (Prod.snd (Prod.snd (Prod.snd (Prod.snd (Prod.snd (Prod.snd x))))))))
              (Prod.fst (Prod.snd (Prod.snd (Prod.snd (Prod.snd (Prod.snd (Prod.snd (Prod.snd (Prod.snd x)))))))))
              (Prod.fst
                (Prod.snd (Prod.snd (Prod.snd (Prod.snd (Prod.snd (Prod.snd (Prod.snd (Prod.snd (Prod.snd x))))))))))
              (Prod.fst
                (Prod.snd
                  (Prod.snd (Prod.snd (Prod.snd (Prod.snd (Prod.snd (Prod.snd (Prod.snd (Prod.snd (Prod.snd x)))))))))))
              (Prod.fst
                (Prod.snd
                  (Prod.snd
                    (Prod.snd
                      (Prod.snd (Prod.snd (Prod.snd (Prod.snd (Prod.snd (Prod.snd (Prod.snd (Prod.snd x))))))))))))
              (Prod.fst
                (Prod.snd
                  (Prod.snd
                    (Prod.snd
                      (Prod.snd
                        (Prod.snd (Prod.snd (Prod.snd (Prod.snd (Prod.snd (Prod.snd (Prod.snd (Prod.snd x)))))))))))))
              (Prod.fst
                (Prod.snd
                  (Prod.snd
                    (Prod.snd
                      (Prod.snd
                        (Prod.snd
                          (Prod.snd
                            (Prod.snd (Prod.snd (Prod.snd (Prod.snd (Prod.snd (Prod.snd (Prod.snd x))))))))))))))
              (Prod.snd
                (Prod.snd
                  (Prod.snd
                    (Prod.snd
                      (Prod.snd
                        (Prod.snd
                          (Prod.snd
                            (Prod.snd (Prod.snd (Prod.snd (Prod.snd (Prod.snd (Prod.snd (Prod.snd x))))))))))))))))
    (F15_J6 n)
theorem ok15 (n : Nat) : FunOK Try.prog ⟨15, sig15, F15 n⟩ :=
  fun_ok (hints := ⟨[(6, ⟨[(0, .one (.own 0)), (1, .one (.int .u64)), (5, .one (.own 3)), (19, .one (.bool))], [(0, .fold (.cons (.c (.int .i64)) (.cons (.c (.int .u64)) (.cons (.c (.int .u64)) (.cons (.row (.cons (.int .u64) (.cons .bool (.cons (.int .u8) (.cons (.int .u64) (.cons (.int .u64) (.cons .str (.cons (.ro (.cons .str (.cons .str .nil))) (.cons (.int .u8) (.cons (.int .u8) (.cons (.int .i64) (.cons (.int .u8) (.cons (.int .u8) (.cons (.int .u64) (.cons (.int .u64) .nil))))))))))))))) .nil))))), (3, .cells [.bool, .int .u8, .int .u64, .int .u64, .str, .ro (.cons .str (.cons .str .nil)), .int .u8, .int .u8, .int .i64, .int .u8, .int .u8, .int .u64, .int .u64])], 4⟩)], []⟩) (fuel := n) (c := Try.f15.body.getD .skip) (rs := Try.f15.results.toList) tt_ok mix (FsOK.cons (ok16 n) (FsOK.cons (ok20 n) (FsOK.nil))) Try.func15 (by kernel_rfl) (by kernel_rfl) rfl (by kernel_rfl) rfl rfl (by kernel_rfl)
-- (*watchfire/watchfireref06.Receiver).Bits
def sig19 : Sig := ⟨(.cons (.one (.ptr (.cons (.c (.int .i64)) (.cons (.c (.int .u64)) (.cons (.c (.int .u64)) (.cons (.row (.cons (.int .u64) (.cons .bool (.cons (.int .u8) (.cons (.int .u64) (.cons (.int .u64) (.cons .str (.cons (.ro (.cons .str (.cons .str .nil))) (.cons (.int .u8) (.cons (.int .u8) (.cons (.int .i64) (.cons (.int .u8) (.cons (.int .u8) (.cons (.int .u64) (.cons (.int .u64) .nil))))))))))))))) .nil)))))) .nil), (.cons (.one (.c (.int .u64))) .nil)⟩
def F19_L29 : Nat →
  Arr
      [PT.int IntKind.u64, PT.int IntKind.i64,
        PT.opt
          (OTs.cons (OT.c (CT.int IntKind.i64))
            (OTs.cons (OT.c (CT.int IntKind.u64))
              (OTs.cons (OT.c (CT.int IntKind.u64))
                (OTs.cons
                  (OT.row
                    (CTs.cons (CT.int IntKind.u64)
                      (CTs.cons CT.bool
                        (CTs.cons (CT.int IntKind.u8)
                          (CTs.cons (CT.int IntKind.u64)
                            (CTs.cons (CT.int IntKind.u64)
                              (CTs.cons CT.str
                                (CTs.cons (CT.ro (CTs.cons CT.str (CTs.cons CT.str CTs.nil)))
                                  (CTs.cons (CT.int IntKind.u8)
                                    (CTs.cons (CT.int IntKind.u8)
                                      (CTs.cons (CT.int IntKind.i64)
                                        (CTs.cons (CT.int IntKind.u8)
                                          (CTs.cons (CT.int IntKind.u8)
                                            (CTs.cons (CT.int IntKind.u64)
                                              (CTs.cons (CT.int IntKind.u64) CTs.nil)))))))))))))))
                  OTs.nil))))]
      (Option
        (UInt64 ×
          Option
            (Int64 ×
              UInt64 ×
                UInt64 ×
                  List
                    (UInt64 ×
                      Bool ×
                        UInt8 ×
                          UInt64 ×
                            UInt64 ×
                              List UInt8 ×
                                List (List UInt8 × List UInt8) ×
                                  UInt8 × UInt8 × Int64 × UInt8 × UInt8 × UInt64 × UInt64)))) →
    UInt64 →
      Int64 →
        Option
            (Int64 ×
              UInt64 ×
                UInt64 ×
                  List
                    (UInt64 ×
                      Bool ×
                        UInt8 ×
                          UInt64 ×
                            UInt64 ×
                              List UInt8 ×
                                List (List UInt8 × List UInt8) ×
                                  UInt8 × UInt8 × Int64 × UInt8 × UInt8 × UInt64 × UInt64)) →
          Option
            (UInt64 ×
              Option
                (Int64 ×
                  UInt64 ×
                    UInt64 ×
                      List
                        (UInt64 ×
                          Bool ×
                            UInt8 ×
                              UInt64 ×
                                UInt64 ×
                                  List UInt8 ×
                                    List (List UInt8 × List UInt8) ×
                                      UInt8 × UInt8 × Int64 × UInt8 × UInt8 × UInt64 × UInt64))) := fun (n : Nat)
    (rec :
      Arr
        [PT.int IntKind.u64, PT.int IntKind.i64,
          PT.opt
            (OTs.cons (OT.c (CT.int IntKind.i64))
              (OTs.cons (OT.c (CT.int IntKind.u64))
                (OTs.cons (OT.c (CT.int IntKind.u64))
                  (OTs.cons
                    (OT.row
                      (CTs.cons (CT.int IntKind.u64)
                        (CTs.cons CT.bool
                          (CTs.cons (CT.int IntKind.u8)
                            (CTs.cons (CT.int IntKind.u64)
                              (CTs.cons (CT.int IntKind.u64)
                                (CTs.cons CT.str
                                  (CTs.cons (CT.ro (CTs.cons CT.str (CTs.cons CT.str CTs.nil)))
                                    (CTs.cons (CT.int IntKind.u8)
                                      (CTs.cons (CT.int IntKind.u8)
                                        (CTs.cons (CT.int IntKind.i64)
                                          (CTs.cons (CT.int IntKind.u8)
                                            (CTs.cons (CT.int IntKind.u8)
                                              (CTs.cons (CT.int IntKind.u64)
                                                (CTs.cons (CT.int IntKind.u64) CTs.nil)))))))))))))))
                    OTs.nil))))]
        (Option
          (UInt64 ×
            Option
              (Int64 ×
                UInt64 ×
                  UInt64 ×
                    List
                      (UInt64 ×
                        Bool ×
                          UInt8 ×
                            UInt64 ×
                              UInt64 ×
                                List UInt8 ×
                                  List (List UInt8 × List UInt8) ×
                                    UInt8 × UInt8 × Int64 × UInt8 × UInt8 × UInt64 × UInt64)))))
    (n_ : UInt64) (i : Int64)
    (r :
      Option
        (Int64 ×
          UInt64 ×
            UInt64 ×
              List
                (UInt64 ×
                  Bool ×
                    UInt8 ×
                      UInt64 ×
                        UInt64 ×
                          List UInt8 ×
                            List (List UInt8 × List UInt8) ×
                              UInt8 × UInt8 × Int64 × UInt8 × UInt8 × UInt64 × UInt64))) =>
  oite (decide ((0 : Int64) ≤ i))
    (obind r
      fun
        (x_1 :
          Int64 ×
            UInt64 ×
              UInt64 ×
                List
                  (UInt64 ×
                    Bool ×
                      UInt8 ×
                        UInt64 ×
                          UInt64 ×
                            List UInt8 ×
                              List (List UInt8 × List UInt8) ×
                                UInt8 × UInt8 × Int64 × UInt8 × UInt8 × UInt64 × UInt64)) =>
      obind
        (F16 n
          (some
              (Prod.fst x_1, Prod.fst (Prod.snd x_1), Prod.fst (Prod.snd (Prod.snd x_1)),
                Prod.snd (Prod.snd (Prod.snd x_1))),
            Prod.fst (Prod.snd x_1) + (1 : UInt64) + UInt64.ofInt (Int64.toInt i)))
        fun
          (x_2 :
            Int64 ×
              Option
                (Int64 ×
                  UInt64 ×
                    UInt64 ×
                      List
                        (UInt64 ×
                          Bool ×
                            UInt8 ×
                              UInt64 ×
                                UInt64 ×
                                  List UInt8 ×
                                    List (List UInt8 × List UInt8) ×
                                      UInt8 × UInt8 × Int64 × UInt8 × UInt8 × UInt64 × UInt64))) =>
        oite (decide ((0 : Int64) ≤ Prod.fst x_2))
          (rec (n_ * (2 : UInt64) + (1 : UInt64)) (i - (1 : Int64)) (Prod.snd x_2))
          (rec (n_ * (2 : UInt64)) (i - (1 : Int64)) (Prod.snd x_2)))
    (some (n_, r))
def F19_R29 : Nat →
  Nat →
    PT.T (PT.int IntKind.u64) →
      Int64 →
        Option
            (Int64 ×
              UInt64 ×
                UInt64 ×
                  List
                    (UInt64 ×
                      Bool ×
                        UInt8 ×
                          UInt64 ×
                            UInt64 ×
                              List UInt8 ×
                                List (List UInt8 × List UInt8) ×
                                  UInt8 × UInt8 × Int64 × UInt8 × UInt8 × UInt64 × UInt64)) →
          Option
            (UInt64 ×
              Option
                (Int64 ×
                  UInt64 ×
                    UInt64 ×
                      List
                        (UInt64 ×
                          Bool ×
                            UInt8 ×
                              UInt64 ×
                                UInt64 ×
                                  List UInt8 ×
                                    List (List UInt8 × List UInt8) ×
                                      UInt8 × UInt8 × Int64 × UInt8 × UInt8 × UInt64 × UInt64))) := fun (n : Nat) =>
  ofixA (29 : Nat)
    [PT.int IntKind.u64, PT.int IntKind.i64,
      PT.opt
        (OTs.cons (OT.c (CT.int IntKind.i64))
          (OTs.cons (OT.c (CT.int IntKind.u64))
            (OTs.cons (OT.c (CT.int IntKind.u64))
              (OTs.cons
                (OT.row
                  (CTs.cons (CT.int IntKind.u64)
                    (CTs.cons CT.bool
                      (CTs.cons (CT.int IntKind.u8)
                        (CTs.cons (CT.int IntKind.u64)
                          (CTs.cons (CT.int IntKind.u64)
                            (CTs.cons CT.str
                              (CTs.cons (CT.ro (CTs.cons CT.str (CTs.cons CT.str CTs.nil)))
                                (CTs.cons (CT.int IntKind.u8)
                                  (CTs.cons (CT.int IntKind.u8)
                                    (CTs.cons (CT.int IntKind.i64)
                                      (CTs.cons (CT.int IntKind.u8)
                                        (CTs.cons (CT.int IntKind.u8)
                                          (CTs.cons (CT.int IntKind.u64)
                                            (CTs.cons (CT.int IntKind.u64) CTs.nil)))))))))))))))
                OTs.nil))))]
    (F19_L29 n)
def F19 : Nat →
  Option
      (Int64 ×
        UInt64 ×
          UInt64 ×
            List
              (UInt64 ×
                Bool ×
                  UInt8 ×
                    UInt64 ×
                      UInt64 ×
                        List UInt8 ×
                          List (List UInt8 × List UInt8) × UInt8 × UInt8 × Int64 × UInt8 × UInt8 × UInt64 × UInt64)) →
    Option
      (UInt64 ×
        Option
          (Int64 ×
            UInt64 ×
              UInt64 ×
                List
                  (UInt64 ×
                    Bool ×
                      UInt8 ×
                        UInt64 ×
                          UInt64 ×
                            List UInt8 ×
                              List (List UInt8 × List UInt8) ×
                                UInt8 × UInt8 × Int64 × UInt8 × UInt8 × UInt64 × UInt64))) := fun (n : Nat)
    (x :
      Option
        (Int64 ×
          UInt64 ×
            UInt64 ×
              List
                (UInt64 ×
                  Bool ×
                    UInt8 ×
                      UInt64 ×
                        UInt64 ×
                          List UInt8 ×
                            List (List UInt8 × List UInt8) ×
                              UInt8 × UInt8 × Int64 × UInt8 × UInt8 × UInt64 × UInt64))) =>
  F19_R29 n n (0 : UInt64) (63 : Int64) x
theorem F19_R29_s (n : Nat) (m_ : Nat) : F19_R29 n (m_ + 1) = F19_L29 n (F19_R29 n m_) := rfl
theorem ok19 (n : Nat) : FunOK Try.prog ⟨19, sig19, F19 n⟩ :=
  fun_ok (hints := ⟨[], [(29, ⟨[(0, .one (.own 0)), (3, .one (.int .u64)), (4, .one (.int .i64))], [(0, .fold (.cons (.c (.int .i64)) (.cons (.c (.int .u64)) (.cons (.c (.int .u64)) (.cons (.row (.cons (.int .u64) (.cons .bool (.cons (.int .u8) (.cons (.int .u64) (.cons (.int .u64) (.cons .str (.cons (.ro (.cons .str (.cons .str .nil))) (.cons (.int .u8) (.cons (.int .u8) (.cons (.int .i64) (.cons (.int .u8) (.cons (.int .u8) (.cons (.int .u64) (.cons (.int .u64) .nil))))))))))))))) .nil)))))], 1⟩)]⟩) (fuel := n) (c := Try.f19.body.getD .skip) (rs := Try.f19.results.toList) tt_ok mix (FsOK.cons (ok16 n) (FsOK.nil)) Try.func19 (by kernel_rfl) (by kernel_rfl) rfl (by kernel_rfl) rfl rfl (by kernel_rfl)
end Go.Proofs.Ytllfmmonieelpaa
