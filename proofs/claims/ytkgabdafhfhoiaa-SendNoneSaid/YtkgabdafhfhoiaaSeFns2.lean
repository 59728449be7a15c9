/- What the functions of this seat compute, found by walking their code symbolically: each F is what the walk finds, each ok says that the Go function keeps it as a contract. Printed by a program of this repo's. -/
import Derived.Test.YtkgabdafhfhoiaaSeFns1
open Go Go.Sx
namespace Go.Proofs.Ytkgabdafhfhoiaa
set_option maxRecDepth 100000
set_option linter.unusedVariables false
-- (*watchfire/send.Sender).Wake
def sig13 : Sig := ⟨(.cons (.one (.ptr (.cons (.c (.int .i64)) (.cons (.c (.int .u64)) (.cons (.c (.int .u64)) (.cons (.c (.int .u64)) (.cons (.c (.int .u64)) (.cons (.row (.cons (.int .u64) (.cons (.int .u64) (.cons (.int .u64) (.cons (.int .u64) (.cons .bool (.cons .bool .nil))))))) (.cons (.c (.int .u64)) (.cons (.c (.int .u64)) .nil)))))))))) .nil), (.cons (.one (.c (.int .u64))) (.cons (.one (.c .bool)) .nil))⟩
def F13_L61 : Arr
    [PT.int IntKind.u64, PT.bool, PT.int IntKind.i64, PT.int IntKind.i64, PT.int IntKind.i64, PT.int IntKind.u64,
      PT.int IntKind.u64, PT.int IntKind.u64, PT.int IntKind.u64, PT.int IntKind.u64, PT.int IntKind.u64,
      PT.list
        (CTs.cons (CT.int IntKind.u64)
          (CTs.cons (CT.int IntKind.u64)
            (CTs.cons (CT.int IntKind.u64)
              (CTs.cons (CT.int IntKind.u64) (CTs.cons CT.bool (CTs.cons CT.bool CTs.nil))))))]
    (Option
      ((UInt64 × Bool) ×
        Option
          (Int64 ×
            UInt64 ×
              UInt64 × UInt64 × UInt64 × List (UInt64 × UInt64 × UInt64 × UInt64 × Bool × Bool) × UInt64 × UInt64))) →
  UInt64 →
    Bool →
      Int64 →
        Int64 →
          Int64 →
            UInt64 →
              UInt64 →
                UInt64 →
                  UInt64 →
                    UInt64 →
                      UInt64 →
                        List (UInt64 × UInt64 × UInt64 × UInt64 × Bool × Bool) →
                          Option
                            ((UInt64 × Bool) ×
                              Option
                                (Int64 ×
                                  UInt64 ×
                                    UInt64 ×
                                      UInt64 ×
                                        UInt64 ×
                                          List (UInt64 × UInt64 × UInt64 × UInt64 × Bool × Bool) × UInt64 × UInt64)) := fun
    (rec :
      Arr
        [PT.int IntKind.u64, PT.bool, PT.int IntKind.i64, PT.int IntKind.i64, PT.int IntKind.i64, PT.int IntKind.u64,
          PT.int IntKind.u64, PT.int IntKind.u64, PT.int IntKind.u64, PT.int IntKind.u64, PT.int IntKind.u64,
          PT.list
            (CTs.cons (CT.int IntKind.u64)
              (CTs.cons (CT.int IntKind.u64)
                (CTs.cons (CT.int IntKind.u64)
                  (CTs.cons (CT.int IntKind.u64) (CTs.cons CT.bool (CTs.cons CT.bool CTs.nil))))))]
        (Option
          ((UInt64 × Bool) ×
            Option
              (Int64 ×
                UInt64 ×
                  UInt64 ×
                    UInt64 × UInt64 × List (UInt64 × UInt64 × UInt64 × UInt64 × Bool × Bool) × UInt64 × UInt64))))
    (out : UInt64) (ok : Bool) (t t_1 c00 : Int64) (c01 c02 c03 c04 c06 c07 : UInt64)
    (t_2 : List (UInt64 × UInt64 × UInt64 × UInt64 × Bool × Bool)) =>
  oite (decide (t_1 < t))
    (oite (decide ((0 : Int) ≤ Int64.toInt t_1) && Nat.blt (Int.toNat (Int64.toInt t_1)) (List.length t_2))
      (obind t_2[Int.toNat (Int64.toInt t_1)]? fun (x_2 : UInt64 × UInt64 × UInt64 × UInt64 × Bool × Bool) =>
        oite (!Prod.snd (Prod.snd (Prod.snd (Prod.snd (Prod.snd x_2)))))
          (oite (!ok)
            (rec (Prod.fst (Prod.snd (Prod.snd x_2))) true t (t_1 + (1 : Int64)) c00 c01 c02 c03 c04 c06 c07 t_2)
            (oite (decide (Prod.fst (Prod.snd (Prod.snd x_2)) < out))
              (rec (Prod.fst (Prod.snd (Prod.snd x_2))) true t (t_1 + (1 : Int64)) c00 c01 c02 c03 c04 c06 c07 t_2)
              (rec out ok t (t_1 + (1 : Int64)) c00 c01 c02 c03 c04 c06 c07 t_2)))
          (rec out ok t (t_1 + (1 : Int64)) c00 c01 c02 c03 c04 c06 c07 t_2))
      none)
    (some ((out, ok), some (c00, c01, c02, c03, c04, t_2, c06, c07)))
def F13_R61 : Nat →
  PT.T (PT.int IntKind.u64) →
    Bool →
      Int64 →
        Int64 →
          Int64 →
            UInt64 →
              UInt64 →
                UInt64 →
                  UInt64 →
                    UInt64 →
                      UInt64 →
                        List (UInt64 × UInt64 × UInt64 × UInt64 × Bool × Bool) →
                          Option
                            ((UInt64 × Bool) ×
                              Option
                                (Int64 ×
                                  UInt64 ×
                                    UInt64 ×
                                      UInt64 ×
                                        UInt64 ×
                                          List (UInt64 × UInt64 × UInt64 × UInt64 × Bool × Bool) × UInt64 × UInt64)) := ofixA (61 : Nat)
  [PT.int IntKind.u64, PT.bool, PT.int IntKind.i64, PT.int IntKind.i64, PT.int IntKind.i64, PT.int IntKind.u64,
    PT.int IntKind.u64, PT.int IntKind.u64, PT.int IntKind.u64, PT.int IntKind.u64, PT.int IntKind.u64,
    PT.list
      (CTs.cons (CT.int IntKind.u64)
        (CTs.cons (CT.int IntKind.u64)
          (CTs.cons (CT.int IntKind.u64)
            (CTs.cons (CT.int IntKind.u64) (CTs.cons CT.bool (CTs.cons CT.bool CTs.nil))))))]
  F13_L61
def F13 : Nat →
  Option
      (Int64 ×
        UInt64 × UInt64 × UInt64 × UInt64 × List (UInt64 × UInt64 × UInt64 × UInt64 × Bool × Bool) × UInt64 × UInt64) →
    Option
      ((UInt64 × Bool) ×
        Option
          (Int64 ×
            UInt64 ×
              UInt64 × UInt64 × UInt64 × List (UInt64 × UInt64 × UInt64 × UInt64 × Bool × Bool) × UInt64 × UInt64)) := fun (n : Nat)
    (x :
      Option
        (Int64 ×
          UInt64 ×
            UInt64 × UInt64 × UInt64 × List (UInt64 × UInt64 × UInt64 × UInt64 × Bool × Bool) × UInt64 × UInt64)) =>
  oelim x (some (((0 : UInt64), false), none))
    fun
      (x_1 :
        Int64 ×
          UInt64 ×
            UInt64 × UInt64 × UInt64 × List (UInt64 × UInt64 × UInt64 × UInt64 × Bool × Bool) × UInt64 × UInt64) =>
    F13_R61 n (0 : UInt64) false
      (Int64.ofInt ↑(List.length (Prod.fst (Prod.snd (Prod.snd (Prod.snd (Prod.snd (Prod.snd x_1)))))))) (0 : Int64)
      (Prod.fst x_1) (Prod.fst (Prod.snd x_1)) (Prod.fst (Prod.snd (Prod.snd x_1)))
      (Prod.fst (Prod.snd (Prod.snd (Prod.snd x_1)))) (Prod.fst (Prod.snd (Prod.snd (Prod.snd (Prod.snd x_1)))))
      (Prod.fst (Prod.snd (Prod.snd (Prod.snd (Prod.snd (Prod.snd (Prod.snd x_1)))))))
      (Prod.snd (Prod.snd (Prod.snd (Prod.snd (Prod.snd (Prod.snd (Prod.snd x_1)))))))
      (Prod.fst (Prod.snd (Prod.snd (Prod.snd (Prod.snd (Prod.snd x_1))))))
theorem F13_R61_s  (m_ : Nat) : F13_R61  (m_ + 1) = F13_L61  (F13_R61  m_) := rfl
theorem ok13 (n : Nat) : FunOK Try.prog ⟨13, sig13, F13 n⟩ :=
  fun_ok (hints := ⟨[], [(61, ⟨[(4, .one (.int .u64)), (5, .one (.bool)), (13, .one (.own 1)), (14, .one (.int .i64)), (15, .one (.int .i64))], [(0, .cells [.int .i64, .int .u64, .int .u64, .int .u64, .int .u64, .own 1, .int .u64, .int .u64]), (1, .row (.cons (.int .u64) (.cons (.int .u64) (.cons (.int .u64) (.cons (.int .u64) (.cons .bool (.cons .bool .nil)))))))], 2⟩)]⟩) (fuel := n) (c := Try.f13.body.getD .skip) (rs := Try.f13.results.toList) tt_ok mix (FsOK.nil) Try.func13 (by kernel_rfl) (by kernel_rfl) rfl (by kernel_rfl) rfl rfl (by kernel_rfl)
-- (*watchfire/send.Sender).Counts
def sig14 : Sig := ⟨(.cons (.one (.ptr (.cons (.c (.int .i64)) (.cons (.c (.int .u64)) (.cons (.c (.int .u64)) (.cons (.c (.int .u64)) (.cons (.c (.int .u64)) (.cons (.row (.cons (.int .u64) (.cons (.int .u64) (.cons (.int .u64) (.cons (.int .u64) (.cons .bool (.cons .bool .nil))))))) (.cons (.c (.int .u64)) (.cons (.c (.int .u64)) .nil)))))))))) .nil), (.cons (.one (.c (.int .u64))) (.cons (.one (.c (.int .u64))) (.cons (.one (.c (.int .u64))) (.cons (.one (.c (.int .u64))) .nil))))⟩
def F14 : Nat →
  Option
      (Int64 ×
        UInt64 × UInt64 × UInt64 × UInt64 × List (UInt64 × UInt64 × UInt64 × UInt64 × Bool × Bool) × UInt64 × UInt64) →
    Option
      ((UInt64 × UInt64 × UInt64 × UInt64) ×
        Option
          (Int64 ×
            UInt64 ×
              UInt64 × UInt64 × UInt64 × List (UInt64 × UInt64 × UInt64 × UInt64 × Bool × Bool) × UInt64 × UInt64)) := fun (n : Nat)
    (x :
      Option
        (Int64 ×
          UInt64 ×
            UInt64 × UInt64 × UInt64 × List (UInt64 × UInt64 × UInt64 × UInt64 × Bool × Bool) × UInt64 × UInt64)) =>
  oelim x (some (((0 : UInt64), (0 : UInt64), (0 : UInt64), (0 : UInt64)), none))
    fun
      (x_1 :
        Int64 ×
          UInt64 ×
            UInt64 × UInt64 × UInt64 × List (UInt64 × UInt64 × UInt64 × UInt64 × Bool × Bool) × UInt64 × UInt64) =>
    some
      ((Prod.fst (Prod.snd (Prod.snd (Prod.snd x_1))), Prod.fst (Prod.snd (Prod.snd (Prod.snd (Prod.snd x_1)))),
          Prod.fst (Prod.snd (Prod.snd (Prod.snd (Prod.snd (Prod.snd (Prod.snd x_1)))))),
          Prod.snd (Prod.snd (Prod.snd (Prod.snd (Prod.snd (Prod.snd (Prod.snd x_1))))))),
        some
          (Prod.fst x_1, Prod.fst (Prod.snd x_1), Prod.fst (Prod.snd (Prod.snd x_1)),
            Prod.fst (Prod.snd (Prod.snd (Prod.snd x_1))), Prod.fst (Prod.snd (Prod.snd (Prod.snd (Prod.snd x_1)))),
            Prod.fst (Prod.snd (Prod.snd (Prod.snd (Prod.snd (Prod.snd x_1))))),
            Prod.fst (Prod.snd (Prod.snd (Prod.snd (Prod.snd (Prod.snd (Prod.snd x_1)))))),
            Prod.snd (Prod.snd (Prod.snd (Prod.snd (Prod.snd (Prod.snd (Prod.snd x_1))))))))
theorem ok14 (n : Nat) : FunOK Try.prog ⟨14, sig14, F14 n⟩ :=
  fun_ok (hints := ⟨[], []⟩) (fuel := n) (c := Try.f14.body.getD .skip) (rs := Try.f14.results.toList) tt_ok mix (FsOK.nil) Try.func14 (by kernel_rfl) (by kernel_rfl) rfl (by kernel_rfl) rfl rfl (by kernel_rfl)
-- (*watchfire/send.Sender).Last
def sig15 : Sig := ⟨(.cons (.one (.ptr (.cons (.c (.int .i64)) (.cons (.c (.int .u64)) (.cons (.c (.int .u64)) (.cons (.c (.int .u64)) (.cons (.c (.int .u64)) (.cons (.row (.cons (.int .u64) (.cons (.int .u64) (.cons (.int .u64) (.cons (.int .u64) (.cons .bool (.cons .bool .nil))))))) (.cons (.c (.int .u64)) (.cons (.c (.int .u64)) .nil)))))))))) .nil), (.cons (.one (.c (.int .u64))) .nil)⟩
def F15 : Nat →
  Option
      (Int64 ×
        UInt64 × UInt64 × UInt64 × UInt64 × List (UInt64 × UInt64 × UInt64 × UInt64 × Bool × Bool) × UInt64 × UInt64) →
    Option
      (UInt64 ×
        Option
          (Int64 ×
            UInt64 ×
              UInt64 × UInt64 × UInt64 × List (UInt64 × UInt64 × UInt64 × UInt64 × Bool × Bool) × UInt64 × UInt64)) := fun (n : Nat)
    (x :
      Option
        (Int64 ×
          UInt64 ×
            UInt64 × UInt64 × UInt64 × List (UInt64 × UInt64 × UInt64 × UInt64 × Bool × Bool) × UInt64 × UInt64)) =>
  oelim x (some ((0 : UInt64), none))
    fun
      (x_1 :
        Int64 ×
          UInt64 ×
            UInt64 × UInt64 × UInt64 × List (UInt64 × UInt64 × UInt64 × UInt64 × Bool × Bool) × UInt64 × UInt64) =>
    oite
      (decide
        (Int64.ofInt ↑(List.length (Prod.fst (Prod.snd (Prod.snd (Prod.snd (Prod.snd (Prod.snd x_1))))))) =
          (0 : Int64)))
      (some
        ((0 : UInt64),
          some
            (Prod.fst x_1, Prod.fst (Prod.snd x_1), Prod.fst (Prod.snd (Prod.snd x_1)),
              Prod.fst (Prod.snd (Prod.snd (Prod.snd x_1))), Prod.fst (Prod.snd (Prod.snd (Prod.snd (Prod.snd x_1)))),
              Prod.fst (Prod.snd (Prod.snd (Prod.snd (Prod.snd (Prod.snd x_1))))),
              Prod.fst (Prod.snd (Prod.snd (Prod.snd (Prod.snd (Prod.snd (Prod.snd x_1)))))),
              Prod.snd (Prod.snd (Prod.snd (Prod.snd (Prod.snd (Prod.snd (Prod.snd x_1)))))))))
      (oite
        (decide
            ((0 : Int) ≤
              Int64.toInt
                (Int64.ofInt ↑(List.length (Prod.fst (Prod.snd (Prod.snd (Prod.snd (Prod.snd (Prod.snd x_1))))))) -
                  (1 : Int64))) &&
          Nat.blt
            (Int.toNat
              (Int64.toInt
                (Int64.ofInt ↑(List.length (Prod.fst (Prod.snd (Prod.snd (Prod.snd (Prod.snd (Prod.snd x_1))))))) -
                  (1 : Int64))))
            (List.length (Prod.fst (Prod.snd (Prod.snd (Prod.snd (Prod.snd (Prod.snd x_1))))))))
        (obind
          (Prod.fst
              (Prod.snd
                (Prod.snd
                  (Prod.snd
                    (Prod.snd
                      (Prod.snd
                        x_1))))))[Int.toNat
              (Int64.toInt
                (Int64.ofInt ↑(List.length (Prod.fst (Prod.snd (Prod.snd (Prod.snd (Prod.snd (Prod.snd x_1))))))) -
                  (1 : Int64)))]?
          fun (x_2 : UInt64 × UInt64 × UInt64 × UInt64 × Bool × Bool) =>
          some
            (Prod.fst (Prod.snd x_2),
              some
                (Prod.fst x_1, Prod.fst (Prod.snd x_1), Prod.fst (Prod.snd (Prod.snd x_1)),
                  Prod.fst (Prod.snd (Prod.snd (Prod.snd x_1))),
                  Prod.fst (Prod.snd (Prod.snd (Prod.snd (Prod.snd x_1)))),
                  Prod.fst (Prod.snd (Prod.snd (Prod.snd (Prod.snd (Prod.snd x_1))))),
                  Prod.fst (Prod.snd (Prod.snd (Prod.snd (Prod.snd (Prod.snd (Prod.snd x_1)))))),
                  Prod.snd (Prod.snd (Prod.snd (Prod.snd (Prod.snd (Prod.snd (Prod.snd x_1)))))))))
        none)
theorem ok15 (n : Nat) : FunOK Try.prog ⟨15, sig15, F15 n⟩ :=
  fun_ok (hints := ⟨[], []⟩) (fuel := n) (c := Try.f15.body.getD .skip) (rs := Try.f15.results.toList) tt_ok mix (FsOK.nil) Try.func15 (by kernel_rfl) (by kernel_rfl) rfl (by kernel_rfl) rfl rfl (by kernel_rfl)
-- watchfire/watchfirelaw10.SendNone
def sig5 : Sig := ⟨(.cons (.one (.c (.int .i64))) (.cons (.one (.c (.int .u64))) (.cons (.one (.c (.int .u64))) (.cons (.one (.c (.int .u64))) .nil)))), (.cons (.one (.c .bool)) .nil)⟩
def F5_J31 : Nat →
  UInt64 →
    Int64 →
      Int64 →
        Option
            (Int64 ×
              UInt64 ×
                UInt64 × UInt64 × UInt64 × List (UInt64 × UInt64 × UInt64 × UInt64 × Bool × Bool) × UInt64 × UInt64) →
          Option (Bool × Unit) := fun (n : Nat) (n_ : UInt64) (e want : Int64)
    (s :
      Option
        (Int64 ×
          UInt64 ×
            UInt64 × UInt64 × UInt64 × List (UInt64 × UInt64 × UInt64 × UInt64 × Bool × Bool) × UInt64 × UInt64)) =>
  obind (F8 n (none, n_, n_))
    fun
      (x_3 :
        (UInt64 × Int64) ×
          Option
            (Int64 ×
              UInt64 ×
                UInt64 × UInt64 × UInt64 × List (UInt64 × UInt64 × UInt64 × UInt64 × Bool × Bool) × UInt64 × UInt64)) =>
    obind (F10 n (none, n_, n_))
      fun
        (x_4 :
          (UInt64 × Int64) ×
            Option
              (Int64 ×
                UInt64 ×
                  UInt64 ×
                    UInt64 × UInt64 × List (UInt64 × UInt64 × UInt64 × UInt64 × Bool × Bool) × UInt64 × UInt64)) =>
      obind (F13 n none)
        fun
          (x_5 :
            (UInt64 × Bool) ×
              Option
                (Int64 ×
                  UInt64 ×
                    UInt64 ×
                      UInt64 × UInt64 × List (UInt64 × UInt64 × UInt64 × UInt64 × Bool × Bool) × UInt64 × UInt64)) =>
        obind (F14 n none)
          fun
            (x_6 :
              (UInt64 × UInt64 × UInt64 × UInt64) ×
                Option
                  (Int64 ×
                    UInt64 ×
                      UInt64 ×
                        UInt64 × UInt64 × List (UInt64 × UInt64 × UInt64 × UInt64 × Bool × Bool) × UInt64 × UInt64)) =>
          obind (F7 n ((1 : Int64), (1 : UInt64), (1 : UInt64)))
            fun
              (x_7 :
                (Option
                      (Int64 ×
                        UInt64 ×
                          UInt64 ×
                            UInt64 ×
                              UInt64 × List (UInt64 × UInt64 × UInt64 × UInt64 × Bool × Bool) × UInt64 × UInt64) ×
                    Int64) ×
                  Unit) =>
            obind (F8 n (Prod.fst (Prod.fst x_7), (1 : UInt64), (1099511627777 : UInt64) + n_ % (5 : UInt64)))
              fun
                (x_8 :
                  (UInt64 × Int64) ×
                    Option
                      (Int64 ×
                        UInt64 ×
                          UInt64 ×
                            UInt64 ×
                              UInt64 × List (UInt64 × UInt64 × UInt64 × UInt64 × Bool × Bool) × UInt64 × UInt64)) =>
              oite (decide (e = want))
                (oelim s
                  (oite (false == decide (want = (0 : Int64)))
                    (oite (decide (Prod.snd (Prod.fst x_3) = (1 : Int64)))
                      (oite (decide (Prod.snd (Prod.fst x_4) = (1 : Int64)))
                        (oite (!Prod.snd (Prod.fst x_5))
                          (obind (F15 n none)
                            fun
                              (x_9 :
                                UInt64 ×
                                  Option
                                    (Int64 ×
                                      UInt64 ×
                                        UInt64 ×
                                          UInt64 ×
                                            UInt64 ×
                                              List (UInt64 × UInt64 × UInt64 × UInt64 × Bool × Bool) ×
                                                UInt64 × UInt64)) =>
                            oite
                              (decide
                                (Prod.fst (Prod.fst x_6) + Prod.fst (Prod.snd (Prod.fst x_6)) +
                                        Prod.fst (Prod.snd (Prod.snd (Prod.fst x_6))) +
                                      Prod.snd (Prod.snd (Prod.snd (Prod.fst x_6))) +
                                    Prod.fst x_9 =
                                  (0 : UInt64)))
                              (obind (F9 n (none, n_))
                                fun
                                  (x_10 :
                                    List (UInt64 × UInt64 × UInt64 × UInt64 × Bool × Bool) ×
                                      Option
                                        (Int64 ×
                                          UInt64 ×
                                            UInt64 ×
                                              UInt64 ×
                                                UInt64 ×
                                                  List (UInt64 × UInt64 × UInt64 × UInt64 × Bool × Bool) ×
                                                    UInt64 × UInt64)) =>
                                obind (F11 n none)
                                  fun
                                    (x_11 :
                                      List (UInt64 × UInt64 × UInt64 × UInt64 × Bool × Bool) ×
                                        Option
                                          (Int64 ×
                                            UInt64 ×
                                              UInt64 ×
                                                UInt64 ×
                                                  UInt64 ×
                                                    List (UInt64 × UInt64 × UInt64 × UInt64 × Bool × Bool) ×
                                                      UInt64 × UInt64)) =>
                                  obind (F12 n none)
                                    fun
                                      (x_12 :
                                        Int64 ×
                                          Option
                                            (Int64 ×
                                              UInt64 ×
                                                UInt64 ×
                                                  UInt64 ×
                                                    UInt64 ×
                                                      List (UInt64 × UInt64 × UInt64 × UInt64 × Bool × Bool) ×
                                                        UInt64 × UInt64)) =>
                                    oite
                                      (decide
                                        (Int64.ofInt ↑(List.length (Prod.fst x_10)) +
                                              Int64.ofInt ↑(List.length (Prod.fst x_11)) +
                                            Prod.fst x_12 =
                                          (0 : Int64)))
                                      (oite (decide (Prod.snd (Prod.fst x_8) = (6 : Int64)))
                                        (obind (F9 n (Prod.snd x_8, (1099511627777 : UInt64)))
                                          fun
                                            (x_13 :
                                              List (UInt64 × UInt64 × UInt64 × UInt64 × Bool × Bool) ×
                                                Option
                                                  (Int64 ×
                                                    UInt64 ×
                                                      UInt64 ×
                                                        UInt64 ×
                                                          UInt64 ×
                                                            List (UInt64 × UInt64 × UInt64 × UInt64 × Bool × Bool) ×
                                                              UInt64 × UInt64)) =>
                                          some
                                            (decide (Int64.ofInt ↑(List.length (Prod.fst x_13)) = (0 : Int64)),
                                              ()))
                                        (some (false, ())))
                                      (some (false, ())))
                              (some (false, ())))
                          (some (false, ())))
                        (some (false, ())))
                      (some (false, ())))
                    (some (false, ())))
                  fun
                    (x_9 :
                      Int64 ×
                        UInt64 ×
                          UInt64 ×
                            UInt64 ×
                              UInt64 × List (UInt64 × UInt64 × UInt64 × UInt64 × Bool × Bool) × UInt64 × UInt64) =>
                  oite (true == decide (want = (0 : Int64)))
                    (oite (decide (Prod.snd (Prod.fst x_3) = (1 : Int64)))
                      (oite (decide (Prod.snd (Prod.fst x_4) = (1 : Int64)))
                        (oite (!Prod.snd (Prod.fst x_5))
                          (obind (F15 n none)
                            fun
                              (x_10 :
                                UInt64 ×
                                  Option
                                    (Int64 ×
                                      UInt64 ×
                                        UInt64 ×
                                          UInt64 ×
                                            UInt64 ×
                                              List (UInt64 × UInt64 × UInt64 × UInt64 × Bool × Bool) ×
                                                UInt64 × UInt64)) =>
                            oite
                              (decide
                                (Prod.fst (Prod.fst x_6) + Prod.fst (Prod.snd (Prod.fst x_6)) +
                                        Prod.fst (Prod.snd (Prod.snd (Prod.fst x_6))) +
                                      Prod.snd (Prod.snd (Prod.snd (Prod.fst x_6))) +
                                    Prod.fst x_10 =
                                  (0 : UInt64)))
                              (obind (F9 n (none, n_))
                                fun
                                  (x_11 :
                                    List (UInt64 × UInt64 × UInt64 × UInt64 × Bool × Bool) ×
                                      Option
                                        (Int64 ×
                                          UInt64 ×
                                            UInt64 ×
                                              UInt64 ×
                                                UInt64 ×
                                                  List (UInt64 × UInt64 × UInt64 × UInt64 × Bool × Bool) ×
                                                    UInt64 × UInt64)) =>
                                obind (F11 n none)
                                  fun
                                    (x_12 :
                                      List (UInt64 × UInt64 × UInt64 × UInt64 × Bool × Bool) ×
                                        Option
                                          (Int64 ×
                                            UInt64 ×
                                              UInt64 ×
                                                UInt64 ×
                                                  UInt64 ×
                                                    List (UInt64 × UInt64 × UInt64 × UInt64 × Bool × Bool) ×
                                                      UInt64 × UInt64)) =>
                                  obind (F12 n none)
                                    fun
                                      (x_13 :
                                        Int64 ×
                                          Option
                                            (Int64 ×
                                              UInt64 ×
                                                UInt64 ×
                                                  UInt64 ×
                                                    UInt64 ×
                                                      List (UInt64 × UInt64 × UInt64 × UInt64 × Bool × Bool) ×
                                                        UInt64 × UInt64)) =>
                                    oite
                                      (decide
                                        (Int64.ofInt ↑(List.length (Prod.fst x_11)) +
                                              Int64.ofInt ↑(List.length (Prod.fst x_12)) +
                                            Prod.fst x_13 =
                                          (0 : Int64)))
                                      (oite (decide (Prod.snd (Prod.fst x_8) = (6 : Int64)))
                                        (obind (F9 n (Prod.snd x_8, (1099511627777 : UInt64)))
                                          fun
                                            (x_14 :
                                              List (UInt64 × UInt64 × UInt64 × UInt64 × Bool × Bool) ×
                                                Option
                                                  (Int64 ×
                                                    UInt64 ×
                                                      UInt64 ×
                                                        UInt64 ×
                                                          UInt64 ×
                                                            List (UInt64 × UInt64 × UInt64 × UInt64 × Bool × Bool) ×
                                                              UInt64 × UInt64)) =>
                                          some
                                            (decide (Int64.ofInt ↑(List.length (Prod.fst x_14)) = (0 : Int64)),
                                              ()))
                                        (some (false, ())))
                                      (some (false, ())))
                              (some (false, ())))
                          (some (false, ())))
                        (some (false, ())))
                      (some (false, ())))
                    (some (false, ())))
                (some (false, ()))
def F5 : Nat → Int64 × UInt64 × UInt64 × UInt64 → Option (Bool × Unit) := fun (n : Nat) (x : Int64 × UInt64 × UInt64 × UInt64) =>
  obind (F6 n ()) fun (x_1 : Bool × Unit) =>
    oite (!Prod.fst x_1) (some (false, ()))
      (obind (F7 n (Prod.fst x, Prod.fst (Prod.snd x), Prod.fst (Prod.snd (Prod.snd x))))
        fun
          (x_2 :
            (Option
                  (Int64 ×
                    UInt64 ×
                      UInt64 ×
                        UInt64 × UInt64 × List (UInt64 × UInt64 × UInt64 × UInt64 × Bool × Bool) × UInt64 × UInt64) ×
                Int64) ×
              Unit) =>
        ojoinA (31 : Nat)
          [PT.int IntKind.u64, PT.int IntKind.i64, PT.int IntKind.i64,
            PT.opt
              (OTs.cons (OT.c (CT.int IntKind.i64))
                (OTs.cons (OT.c (CT.int IntKind.u64))
                  (OTs.cons (OT.c (CT.int IntKind.u64))
                    (OTs.cons (OT.c (CT.int IntKind.u64))
                      (OTs.cons (OT.c (CT.int IntKind.u64))
                        (OTs.cons
                          (OT.row
                            (CTs.cons (CT.int IntKind.u64)
                              (CTs.cons (CT.int IntKind.u64)
                                (CTs.cons (CT.int IntKind.u64)
                                  (CTs.cons (CT.int IntKind.u64) (CTs.cons CT.bool (CTs.cons CT.bool CTs.nil)))))))
                          (OTs.cons (OT.c (CT.int IntKind.u64)) (OTs.cons (OT.c (CT.int IntKind.u64)) OTs.nil))))))))]
          (fun
              (J :
                Arr
                  [PT.int IntKind.u64, PT.int IntKind.i64, PT.int IntKind.i64,
                    PT.opt
                      (OTs.cons (OT.c (CT.int IntKind.i64))
                        (OTs.cons (OT.c (CT.int IntKind.u64))
                          (OTs.cons (OT.c (CT.int IntKind.u64))
                            (OTs.cons (OT.c (CT.int IntKind.u64))
                              (OTs.cons (OT.c (CT.int IntKind.u64))
                                (OTs.cons
                                  (OT.row
                                    (CTs.cons (CT.int IntKind.u64)
                                      (CTs.cons (CT.int IntKind.u64)
                                        (CTs.cons (CT.int IntKind.u64)
                                          (CTs.cons (CT.int IntKind.u64)
                                            (CTs.cons CT.bool (CTs.cons CT.bool CTs.nil)))))))
                                  (OTs.cons (OT.c (CT.int IntKind.u64))
                                    (OTs.cons (OT.c (CT.int IntKind.u64)) OTs.nil))))))))]
                  (Option (Bool × Unit))) =>
            oite (decide (Prod.fst x < (1 : Int64)))
              (J (Prod.snd (Prod.snd (Prod.snd x))) (Prod.snd (Prod.fst x_2)) (19 : Int64) (Prod.fst (Prod.fst x_2)))
              (oite (decide ((64 : Int64) < Prod.fst x))
                (J (Prod.snd (Prod.snd (Prod.snd x))) (Prod.snd (Prod.fst x_2)) (19 : Int64) (Prod.fst (Prod.fst x_2)))
                (oite (decide (Prod.fst (Prod.snd x) = (0 : UInt64)))
                  (J (Prod.snd (Prod.snd (Prod.snd x))) (Prod.snd (Prod.fst x_2)) (6 : Int64) (Prod.fst (Prod.fst x_2)))
                  (oite (decide (Prod.fst (Prod.snd (Prod.snd x)) < Prod.fst (Prod.snd x)))
                    (J (Prod.snd (Prod.snd (Prod.snd x))) (Prod.snd (Prod.fst x_2)) (6 : Int64)
                      (Prod.fst (Prod.fst x_2)))
                    (oite (decide ((1048576 : UInt64) < Prod.fst (Prod.snd (Prod.snd x))))
                      (J (Prod.snd (Prod.snd (Prod.snd x))) (Prod.snd (Prod.fst x_2)) (6 : Int64)
                        (Prod.fst (Prod.fst x_2)))
                      (J (Prod.snd (Prod.snd (Prod.snd x))) (Prod.snd (Prod.fst x_2)) (0 : Int64)
                        (Prod.fst (Prod.fst x_2))))))))
          (F5_J31 n))
theorem ok5 (n : Nat) : FunOK Try.prog ⟨5, sig5, F5 n⟩ :=
  fun_ok (hints := ⟨[(31, ⟨[(3, .one (.int .u64)), (9, .one (.own 4)), (10, .one (.int .i64)), (11, .one (.int .i64))], [(4, .fold (.cons (.c (.int .i64)) (.cons (.c (.int .u64)) (.cons (.c (.int .u64)) (.cons (.c (.int .u64)) (.cons (.c (.int .u64)) (.cons (.row (.cons (.int .u64) (.cons (.int .u64) (.cons (.int .u64) (.cons (.int .u64) (.cons .bool (.cons .bool .nil))))))) (.cons (.c (.int .u64)) (.cons (.c (.int .u64)) .nil)))))))))], 5⟩)], []⟩) (fuel := n) (c := Try.f5.body.getD .skip) (rs := Try.f5.results.toList) tt_ok mix (FsOK.cons (ok6 n) (FsOK.cons (ok7 n) (FsOK.cons (ok8 n) (FsOK.cons (ok10 n) (FsOK.cons (ok13 n) (FsOK.cons (ok14 n) (FsOK.cons (ok15 n) (FsOK.cons (ok9 n) (FsOK.cons (ok11 n) (FsOK.cons (ok12 n) (FsOK.nil))))))))))) Try.func5 (by kernel_rfl) (by kernel_rfl) rfl (by kernel_rfl) rfl rfl (by kernel_rfl)
end Go.Proofs.Ytkgabdafhfhoiaa
