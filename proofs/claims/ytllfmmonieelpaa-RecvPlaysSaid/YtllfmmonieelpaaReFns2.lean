/- What the functions of this seat compute, found by walking their code symbolically: each F is what the walk finds, each ok says that the Go function keeps it as a contract. Printed by a program of this repo's. -/
import Derived.Test.YtllfmmonieelpaaReFns1
open Go Go.Sx
namespace Go.Proofs.Ytllfmmonieelpaa
set_option maxRecDepth 100000
set_option linter.unusedVariables false
-- watchfire/watchfirelaw11.RecvOrder
def sig5 : Sig := ⟨(.cons (.one (.c (.int .u8))) (.cons (.one (.c (.ro (.cons (.int .u8) .nil)))) .nil)), (.cons (.one (.c .bool)) .nil)⟩
def F5_J63 : Nat →
  Int64 →
    UInt64 →
      Option
          (Int64 ×
            UInt64 ×
              List
                  (UInt64 ×
                    Bool ×
                      UInt8 ×
                        UInt64 ×
                          UInt64 ×
                            List UInt8 ×
                              List (List UInt8 × List UInt8) ×
                                UInt8 × UInt8 × Int64 × UInt8 × UInt8 × UInt64 × UInt64) ×
                UInt64) →
        Option (Bool × Unit) := fun (n : Nat) (e : Int64) (next : UInt64)
    (r :
      Option
        (Int64 ×
          UInt64 ×
            List
                (UInt64 ×
                  Bool ×
                    UInt8 ×
                      UInt64 ×
                        UInt64 ×
                          List UInt8 ×
                            List (List UInt8 × List UInt8) × UInt8 × UInt8 × Int64 × UInt8 × UInt8 × UInt64 × UInt64) ×
              UInt64)) =>
  obind (F18 n r)
    fun
      (x_3 :
        (UInt64 × Int64 × UInt64) ×
          Option
            (Int64 ×
              UInt64 ×
                List
                    (UInt64 ×
                      Bool ×
                        UInt8 ×
                          UInt64 ×
                            UInt64 ×
                              List UInt8 ×
                                List (List UInt8 × List UInt8) ×
                                  UInt8 × UInt8 × Int64 × UInt8 × UInt8 × UInt64 × UInt64) ×
                  UInt64)) =>
    oite (decide (e = (0 : Int64))) (some (decide (Prod.fst (Prod.fst x_3) = next), ()))
      (some (false, ()))
def F5_L259519 : Nat →
  Arr
      [PT.int IntKind.i64, PT.int IntKind.i64, PT.int IntKind.u64, PT.list (CTs.cons (CT.int IntKind.u8) CTs.nil),
        PT.int IntKind.i64, PT.int IntKind.i64,
        PT.opt
          (OTs.cons (OT.c (CT.int IntKind.i64))
            (OTs.cons (OT.c (CT.int IntKind.u64))
              (OTs.cons
                (OT.map (VT.one (CT.int IntKind.u64))
                  (VT.agg
                    (CTs.cons CT.bool
                      (CTs.cons (CT.int IntKind.u8)
                        (CTs.cons (CT.int IntKind.u64)
                          (CTs.cons (CT.int IntKind.u64)
                            (CTs.cons CT.str
                              (CTs.cons (CT.ro (CTs.cons CT.str (CTs.cons CT.str CTs.nil)))
                                (CTs.cons (CT.int IntKind.u8)
                                  (CTs.cons (CT.int IntKind.u8)
                                    (CTs.cons (CT.int IntKind.i64)
                                      (CTs.cons (CT.int IntKind.u8)
                                        (CTs.cons (CT.int IntKind.u8)
                                          (CTs.cons (CT.int IntKind.u64)
                                            (CTs.cons (CT.int IntKind.u64) CTs.nil)))))))))))))))
                (OTs.cons (OT.c (CT.int IntKind.u64)) OTs.nil))))]
      (Option (Bool × Unit)) →
    Arr
        [PT.int IntKind.i64, PT.int IntKind.i64, PT.int IntKind.u64, PT.list (CTs.cons (CT.int IntKind.u8) CTs.nil),
          PT.int IntKind.i64, PT.int IntKind.i64,
          PT.opt
            (OTs.cons (OT.c (CT.int IntKind.i64))
              (OTs.cons (OT.c (CT.int IntKind.u64))
                (OTs.cons
                  (OT.map (VT.one (CT.int IntKind.u64))
                    (VT.agg
                      (CTs.cons CT.bool
                        (CTs.cons (CT.int IntKind.u8)
                          (CTs.cons (CT.int IntKind.u64)
                            (CTs.cons (CT.int IntKind.u64)
                              (CTs.cons CT.str
                                (CTs.cons (CT.ro (CTs.cons CT.str (CTs.cons CT.str CTs.nil)))
                                  (CTs.cons (CT.int IntKind.u8)
                                    (CTs.cons (CT.int IntKind.u8)
                                      (CTs.cons (CT.int IntKind.i64)
                                        (CTs.cons (CT.int IntKind.u8)
                                          (CTs.cons (CT.int IntKind.u8)
                                            (CTs.cons (CT.int IntKind.u64)
                                              (CTs.cons (CT.int IntKind.u64) CTs.nil)))))))))))))))
                  (OTs.cons (OT.c (CT.int IntKind.u64)) OTs.nil))))]
        (Option (Bool × Unit)) →
      Int64 →
        Int64 →
          UInt64 →
            List UInt8 →
              Int64 →
                Int64 →
                  Option
                      (Int64 ×
                        UInt64 ×
                          List
                              (UInt64 ×
                                Bool ×
                                  UInt8 ×
                                    UInt64 ×
                                      UInt64 ×
                                        List UInt8 ×
                                          List (List UInt8 × List UInt8) ×
                                            UInt8 × UInt8 × Int64 × UInt8 × UInt8 × UInt64 × UInt64) ×
                            UInt64) →
                    Option (Bool × Unit) := fun (n : Nat)
    (rec rec_1 :
      Arr
        [PT.int IntKind.i64, PT.int IntKind.i64, PT.int IntKind.u64, PT.list (CTs.cons (CT.int IntKind.u8) CTs.nil),
          PT.int IntKind.i64, PT.int IntKind.i64,
          PT.opt
            (OTs.cons (OT.c (CT.int IntKind.i64))
              (OTs.cons (OT.c (CT.int IntKind.u64))
                (OTs.cons
                  (OT.map (VT.one (CT.int IntKind.u64))
                    (VT.agg
                      (CTs.cons CT.bool
                        (CTs.cons (CT.int IntKind.u8)
                          (CTs.cons (CT.int IntKind.u64)
                            (CTs.cons (CT.int IntKind.u64)
                              (CTs.cons CT.str
                                (CTs.cons (CT.ro (CTs.cons CT.str (CTs.cons CT.str CTs.nil)))
                                  (CTs.cons (CT.int IntKind.u8)
                                    (CTs.cons (CT.int IntKind.u8)
                                      (CTs.cons (CT.int IntKind.i64)
                                        (CTs.cons (CT.int IntKind.u8)
                                          (CTs.cons (CT.int IntKind.u8)
                                            (CTs.cons (CT.int IntKind.u64)
                                              (CTs.cons (CT.int IntKind.u64) CTs.nil)))))))))))))))
                  (OTs.cons (OT.c (CT.int IntKind.u64)) OTs.nil))))]
        (Option (Bool × Unit)))
    (w_2 e_2 : Int64) (next_2 : UInt64) (t_4 : List UInt8) (t_1_2 t_2_2 : Int64)
    (r_2 :
      Option
        (Int64 ×
          UInt64 ×
            List
                (UInt64 ×
                  Bool ×
                    UInt8 ×
                      UInt64 ×
                        UInt64 ×
                          List UInt8 ×
                            List (List UInt8 × List UInt8) × UInt8 × UInt8 × Int64 × UInt8 × UInt8 × UInt64 × UInt64) ×
              UInt64)) =>
  obind (F11 n r_2)
    fun
      (x_6 :
        ((Bool ×
              UInt8 ×
                UInt64 ×
                  UInt64 ×
                    List UInt8 ×
                      List (List UInt8 × List UInt8) × UInt8 × UInt8 × Int64 × UInt8 × UInt8 × UInt64 × UInt64) ×
            Bool) ×
          Option
            (Int64 ×
              UInt64 ×
                List
                    (UInt64 ×
                      Bool ×
                        UInt8 ×
                          UInt64 ×
                            UInt64 ×
                              List UInt8 ×
                                List (List UInt8 × List UInt8) ×
                                  UInt8 × UInt8 × Int64 × UInt8 × UInt8 × UInt64 × UInt64) ×
                  UInt64)) =>
    oite (!Prod.snd (Prod.fst x_6)) (rec w_2 e_2 next_2 t_4 t_1_2 (t_2_2 + (1 : Int64)) (Prod.snd x_6))
      (oite (!decide (Prod.fst (Prod.snd (Prod.snd (Prod.fst (Prod.fst x_6)))) = (1 : UInt64) + next_2))
        (some (false, ()))
        (obind (F13 n (Prod.snd x_6))
          fun
            (x_7 :
              Int64 ×
                Option
                  (Int64 ×
                    UInt64 ×
                      List
                          (UInt64 ×
                            Bool ×
                              UInt8 ×
                                UInt64 ×
                                  UInt64 ×
                                    List UInt8 ×
                                      List (List UInt8 × List UInt8) ×
                                        UInt8 × UInt8 × Int64 × UInt8 × UInt8 × UInt64 × UInt64) ×
                        UInt64)) =>
          oite (!decide (Prod.fst x_7 = (0 : Int64))) (some (false, ()))
            (rec_1 w_2 e_2 (next_2 + (1 : UInt64)) t_4 t_1_2 t_2_2 (Prod.snd x_7))))
def F5_R259519 : Nat →
  Arr
      [PT.int IntKind.i64, PT.int IntKind.i64, PT.int IntKind.u64, PT.list (CTs.cons (CT.int IntKind.u8) CTs.nil),
        PT.int IntKind.i64, PT.int IntKind.i64,
        PT.opt
          (OTs.cons (OT.c (CT.int IntKind.i64))
            (OTs.cons (OT.c (CT.int IntKind.u64))
              (OTs.cons
                (OT.map (VT.one (CT.int IntKind.u64))
                  (VT.agg
                    (CTs.cons CT.bool
                      (CTs.cons (CT.int IntKind.u8)
                        (CTs.cons (CT.int IntKind.u64)
                          (CTs.cons (CT.int IntKind.u64)
                            (CTs.cons CT.str
                              (CTs.cons (CT.ro (CTs.cons CT.str (CTs.cons CT.str CTs.nil)))
                                (CTs.cons (CT.int IntKind.u8)
                                  (CTs.cons (CT.int IntKind.u8)
                                    (CTs.cons (CT.int IntKind.i64)
                                      (CTs.cons (CT.int IntKind.u8)
                                        (CTs.cons (CT.int IntKind.u8)
                                          (CTs.cons (CT.int IntKind.u64)
                                            (CTs.cons (CT.int IntKind.u64) CTs.nil)))))))))))))))
                (OTs.cons (OT.c (CT.int IntKind.u64)) OTs.nil))))]
      (Option (Bool × Unit)) →
    Nat →
      PT.T (PT.int IntKind.i64) →
        Int64 →
          UInt64 →
            List UInt8 →
              Int64 →
                Int64 →
                  Option
                      (Int64 ×
                        UInt64 ×
                          List
                              (UInt64 ×
                                Bool ×
                                  UInt8 ×
                                    UInt64 ×
                                      UInt64 ×
                                        List UInt8 ×
                                          List (List UInt8 × List UInt8) ×
                                            UInt8 × UInt8 × Int64 × UInt8 × UInt8 × UInt64 × UInt64) ×
                            UInt64) →
                    Option (Bool × Unit) := fun (n : Nat)
    (rec :
      Arr
        [PT.int IntKind.i64, PT.int IntKind.i64, PT.int IntKind.u64, PT.list (CTs.cons (CT.int IntKind.u8) CTs.nil),
          PT.int IntKind.i64, PT.int IntKind.i64,
          PT.opt
            (OTs.cons (OT.c (CT.int IntKind.i64))
              (OTs.cons (OT.c (CT.int IntKind.u64))
                (OTs.cons
                  (OT.map (VT.one (CT.int IntKind.u64))
                    (VT.agg
                      (CTs.cons CT.bool
                        (CTs.cons (CT.int IntKind.u8)
                          (CTs.cons (CT.int IntKind.u64)
                            (CTs.cons (CT.int IntKind.u64)
                              (CTs.cons CT.str
                                (CTs.cons (CT.ro (CTs.cons CT.str (CTs.cons CT.str CTs.nil)))
                                  (CTs.cons (CT.int IntKind.u8)
                                    (CTs.cons (CT.int IntKind.u8)
                                      (CTs.cons (CT.int IntKind.i64)
                                        (CTs.cons (CT.int IntKind.u8)
                                          (CTs.cons (CT.int IntKind.u8)
                                            (CTs.cons (CT.int IntKind.u64)
                                              (CTs.cons (CT.int IntKind.u64) CTs.nil)))))))))))))))
                  (OTs.cons (OT.c (CT.int IntKind.u64)) OTs.nil))))]
        (Option (Bool × Unit))) =>
  ofixA (259519 : Nat)
    [PT.int IntKind.i64, PT.int IntKind.i64, PT.int IntKind.u64, PT.list (CTs.cons (CT.int IntKind.u8) CTs.nil),
      PT.int IntKind.i64, PT.int IntKind.i64,
      PT.opt
        (OTs.cons (OT.c (CT.int IntKind.i64))
          (OTs.cons (OT.c (CT.int IntKind.u64))
            (OTs.cons
              (OT.map (VT.one (CT.int IntKind.u64))
                (VT.agg
                  (CTs.cons CT.bool
                    (CTs.cons (CT.int IntKind.u8)
                      (CTs.cons (CT.int IntKind.u64)
                        (CTs.cons (CT.int IntKind.u64)
                          (CTs.cons CT.str
                            (CTs.cons (CT.ro (CTs.cons CT.str (CTs.cons CT.str CTs.nil)))
                              (CTs.cons (CT.int IntKind.u8)
                                (CTs.cons (CT.int IntKind.u8)
                                  (CTs.cons (CT.int IntKind.i64)
                                    (CTs.cons (CT.int IntKind.u8)
                                      (CTs.cons (CT.int IntKind.u8)
                                        (CTs.cons (CT.int IntKind.u64)
                                          (CTs.cons (CT.int IntKind.u64) CTs.nil)))))))))))))))
              (OTs.cons (OT.c (CT.int IntKind.u64)) OTs.nil))))]
    (F5_L259519 n rec)
def F5_J32439 : Nat →
  Arr
      [PT.int IntKind.i64, PT.int IntKind.i64, PT.int IntKind.u64, PT.list (CTs.cons (CT.int IntKind.u8) CTs.nil),
        PT.int IntKind.i64, PT.int IntKind.i64,
        PT.opt
          (OTs.cons (OT.c (CT.int IntKind.i64))
            (OTs.cons (OT.c (CT.int IntKind.u64))
              (OTs.cons
                (OT.map (VT.one (CT.int IntKind.u64))
                  (VT.agg
                    (CTs.cons CT.bool
                      (CTs.cons (CT.int IntKind.u8)
                        (CTs.cons (CT.int IntKind.u64)
                          (CTs.cons (CT.int IntKind.u64)
                            (CTs.cons CT.str
                              (CTs.cons (CT.ro (CTs.cons CT.str (CTs.cons CT.str CTs.nil)))
                                (CTs.cons (CT.int IntKind.u8)
                                  (CTs.cons (CT.int IntKind.u8)
                                    (CTs.cons (CT.int IntKind.i64)
                                      (CTs.cons (CT.int IntKind.u8)
                                        (CTs.cons (CT.int IntKind.u8)
                                          (CTs.cons (CT.int IntKind.u64)
                                            (CTs.cons (CT.int IntKind.u64) CTs.nil)))))))))))))))
                (OTs.cons (OT.c (CT.int IntKind.u64)) OTs.nil))))]
      (Option (Bool × Unit)) →
    Int64 →
      Int64 →
        UInt64 →
          UInt64 →
            List UInt8 →
              Int64 →
                Int64 →
                  Option
                      (Int64 ×
                        UInt64 ×
                          List
                              (UInt64 ×
                                Bool ×
                                  UInt8 ×
                                    UInt64 ×
                                      UInt64 ×
                                        List UInt8 ×
                                          List (List UInt8 × List UInt8) ×
                                            UInt8 × UInt8 × Int64 × UInt8 × UInt8 × UInt64 × UInt64) ×
                            UInt64) →
                    Option (Bool × Unit) := fun (n : Nat)
    (rec :
      Arr
        [PT.int IntKind.i64, PT.int IntKind.i64, PT.int IntKind.u64, PT.list (CTs.cons (CT.int IntKind.u8) CTs.nil),
          PT.int IntKind.i64, PT.int IntKind.i64,
          PT.opt
            (OTs.cons (OT.c (CT.int IntKind.i64))
              (OTs.cons (OT.c (CT.int IntKind.u64))
                (OTs.cons
                  (OT.map (VT.one (CT.int IntKind.u64))
                    (VT.agg
                      (CTs.cons CT.bool
                        (CTs.cons (CT.int IntKind.u8)
                          (CTs.cons (CT.int IntKind.u64)
                            (CTs.cons (CT.int IntKind.u64)
                              (CTs.cons CT.str
                                (CTs.cons (CT.ro (CTs.cons CT.str (CTs.cons CT.str CTs.nil)))
                                  (CTs.cons (CT.int IntKind.u8)
                                    (CTs.cons (CT.int IntKind.u8)
                                      (CTs.cons (CT.int IntKind.i64)
                                        (CTs.cons (CT.int IntKind.u8)
                                          (CTs.cons (CT.int IntKind.u8)
                                            (CTs.cons (CT.int IntKind.u64)
                                              (CTs.cons (CT.int IntKind.u64) CTs.nil)))))))))))))))
                  (OTs.cons (OT.c (CT.int IntKind.u64)) OTs.nil))))]
        (Option (Bool × Unit)))
    (w_1 e_1 : Int64) (next_1 seq : UInt64) (t_3 : List UInt8) (t_1_1 t_2_1 : Int64)
    (r_1 :
      Option
        (Int64 ×
          UInt64 ×
            List
                (UInt64 ×
                  Bool ×
                    UInt8 ×
                      UInt64 ×
                        UInt64 ×
                          List UInt8 ×
                            List (List UInt8 × List UInt8) × UInt8 × UInt8 × Int64 × UInt8 × UInt8 × UInt64 × UInt64) ×
              UInt64)) =>
  obind
    (F9 n
      (false, (0 : UInt8), (0 : UInt8), (0 : UInt8), UInt16.ofInt ↑(UInt64.toNat seq), (0 : UInt16), (0 : UInt16),
        (0 : UInt8), (0 : UInt8), (0 : UInt8), false))
    fun
      (x_4 :
        (Bool ×
            UInt8 ×
              UInt64 ×
                UInt64 ×
                  List UInt8 ×
                    List (List UInt8 × List UInt8) × UInt8 × UInt8 × Int64 × UInt8 × UInt8 × UInt64 × UInt64) ×
          Unit) =>
    obind
      (F10 n
        (r_1, seq, Prod.fst (Prod.fst x_4), Prod.fst (Prod.snd (Prod.fst x_4)),
          Prod.fst (Prod.snd (Prod.snd (Prod.fst x_4))), Prod.fst (Prod.snd (Prod.snd (Prod.snd (Prod.fst x_4)))),
          Prod.fst (Prod.snd (Prod.snd (Prod.snd (Prod.snd (Prod.fst x_4))))),
          Prod.fst (Prod.snd (Prod.snd (Prod.snd (Prod.snd (Prod.snd (Prod.fst x_4)))))),
          Prod.fst (Prod.snd (Prod.snd (Prod.snd (Prod.snd (Prod.snd (Prod.snd (Prod.fst x_4))))))),
          Prod.fst (Prod.snd (Prod.snd (Prod.snd (Prod.snd (Prod.snd (Prod.snd (Prod.snd (Prod.fst x_4)))))))),
          Prod.fst
            (Prod.snd (Prod.snd (Prod.snd (Prod.snd (Prod.snd (Prod.snd (Prod.snd (Prod.snd (Prod.fst x_4))))))))),
          Prod.fst
            (Prod.snd
              (Prod.snd (Prod.snd (Prod.snd (Prod.snd (Prod.snd (Prod.snd (Prod.snd (Prod.snd (Prod.fst x_4)))))))))),
          Prod.fst
            (Prod.snd
              (Prod.snd
                (Prod.snd
                  (Prod.snd (Prod.snd (Prod.snd (Prod.snd (Prod.snd (Prod.snd (Prod.snd (Prod.fst x_4))))))))))),
          Prod.fst
            (Prod.snd
              (Prod.snd
                (Prod.snd
                  (Prod.snd
                    (Prod.snd (Prod.snd (Prod.snd (Prod.snd (Prod.snd (Prod.snd (Prod.snd (Prod.fst x_4)))))))))))),
          Prod.snd
            (Prod.snd
              (Prod.snd
                (Prod.snd
                  (Prod.snd
                    (Prod.snd (Prod.snd (Prod.snd (Prod.snd (Prod.snd (Prod.snd (Prod.snd (Prod.fst x_4))))))))))))))
      fun
        (x_5 :
          Int64 ×
            Option
              (Int64 ×
                UInt64 ×
                  List
                      (UInt64 ×
                        Bool ×
                          UInt8 ×
                            UInt64 ×
                              UInt64 ×
                                List UInt8 ×
                                  List (List UInt8 × List UInt8) ×
                                    UInt8 × UInt8 × Int64 × UInt8 × UInt8 × UInt64 × UInt64) ×
                    UInt64)) =>
      F5_R259519 n rec n w_1 e_1 next_1 t_3 t_1_1 t_2_1 (Prod.snd x_5)
def F5_L253 : Nat →
  Arr
      [PT.int IntKind.i64, PT.int IntKind.u64,
        PT.opt
          (OTs.cons (OT.c (CT.int IntKind.i64))
            (OTs.cons (OT.c (CT.int IntKind.u64))
              (OTs.cons
                (OT.map (VT.one (CT.int IntKind.u64))
                  (VT.agg
                    (CTs.cons CT.bool
                      (CTs.cons (CT.int IntKind.u8)
                        (CTs.cons (CT.int IntKind.u64)
                          (CTs.cons (CT.int IntKind.u64)
                            (CTs.cons CT.str
                              (CTs.cons (CT.ro (CTs.cons CT.str (CTs.cons CT.str CTs.nil)))
                                (CTs.cons (CT.int IntKind.u8)
                                  (CTs.cons (CT.int IntKind.u8)
                                    (CTs.cons (CT.int IntKind.i64)
                                      (CTs.cons (CT.int IntKind.u8)
                                        (CTs.cons (CT.int IntKind.u8)
                                          (CTs.cons (CT.int IntKind.u64)
                                            (CTs.cons (CT.int IntKind.u64) CTs.nil)))))))))))))))
                (OTs.cons (OT.c (CT.int IntKind.u64)) OTs.nil))))]
      (Option (Bool × Unit)) →
    Arr
        [PT.int IntKind.i64, PT.int IntKind.i64, PT.int IntKind.u64, PT.list (CTs.cons (CT.int IntKind.u8) CTs.nil),
          PT.int IntKind.i64, PT.int IntKind.i64,
          PT.opt
            (OTs.cons (OT.c (CT.int IntKind.i64))
              (OTs.cons (OT.c (CT.int IntKind.u64))
                (OTs.cons
                  (OT.map (VT.one (CT.int IntKind.u64))
                    (VT.agg
                      (CTs.cons CT.bool
                        (CTs.cons (CT.int IntKind.u8)
                          (CTs.cons (CT.int IntKind.u64)
                            (CTs.cons (CT.int IntKind.u64)
                              (CTs.cons CT.str
                                (CTs.cons (CT.ro (CTs.cons CT.str (CTs.cons CT.str CTs.nil)))
                                  (CTs.cons (CT.int IntKind.u8)
                                    (CTs.cons (CT.int IntKind.u8)
                                      (CTs.cons (CT.int IntKind.i64)
                                        (CTs.cons (CT.int IntKind.u8)
                                          (CTs.cons (CT.int IntKind.u8)
                                            (CTs.cons (CT.int IntKind.u64)
                                              (CTs.cons (CT.int IntKind.u64) CTs.nil)))))))))))))))
                  (OTs.cons (OT.c (CT.int IntKind.u64)) OTs.nil))))]
        (Option (Bool × Unit)) →
      Int64 →
        Int64 →
          UInt64 →
            List UInt8 →
              Int64 →
                Int64 →
                  Option
                      (Int64 ×
                        UInt64 ×
                          List
                              (UInt64 ×
                                Bool ×
                                  UInt8 ×
                                    UInt64 ×
                                      UInt64 ×
                                        List UInt8 ×
                                          List (List UInt8 × List UInt8) ×
                                            UInt8 × UInt8 × Int64 × UInt8 × UInt8 × UInt64 × UInt64) ×
                            UInt64) →
                    Option (Bool × Unit) := fun (n : Nat)
    (J :
      Arr
        [PT.int IntKind.i64, PT.int IntKind.u64,
          PT.opt
            (OTs.cons (OT.c (CT.int IntKind.i64))
              (OTs.cons (OT.c (CT.int IntKind.u64))
                (OTs.cons
                  (OT.map (VT.one (CT.int IntKind.u64))
                    (VT.agg
                      (CTs.cons CT.bool
                        (CTs.cons (CT.int IntKind.u8)
                          (CTs.cons (CT.int IntKind.u64)
                            (CTs.cons (CT.int IntKind.u64)
                              (CTs.cons CT.str
                                (CTs.cons (CT.ro (CTs.cons CT.str (CTs.cons CT.str CTs.nil)))
                                  (CTs.cons (CT.int IntKind.u8)
                                    (CTs.cons (CT.int IntKind.u8)
                                      (CTs.cons (CT.int IntKind.i64)
                                        (CTs.cons (CT.int IntKind.u8)
                                          (CTs.cons (CT.int IntKind.u8)
                                            (CTs.cons (CT.int IntKind.u64)
                                              (CTs.cons (CT.int IntKind.u64) CTs.nil)))))))))))))))
                  (OTs.cons (OT.c (CT.int IntKind.u64)) OTs.nil))))]
        (Option (Bool × Unit)))
    (rec :
      Arr
        [PT.int IntKind.i64, PT.int IntKind.i64, PT.int IntKind.u64, PT.list (CTs.cons (CT.int IntKind.u8) CTs.nil),
          PT.int IntKind.i64, PT.int IntKind.i64,
          PT.opt
            (OTs.cons (OT.c (CT.int IntKind.i64))
              (OTs.cons (OT.c (CT.int IntKind.u64))
                (OTs.cons
                  (OT.map (VT.one (CT.int IntKind.u64))
                    (VT.agg
                      (CTs.cons CT.bool
                        (CTs.cons (CT.int IntKind.u8)
                          (CTs.cons (CT.int IntKind.u64)
                            (CTs.cons (CT.int IntKind.u64)
                              (CTs.cons CT.str
                                (CTs.cons (CT.ro (CTs.cons CT.str (CTs.cons CT.str CTs.nil)))
                                  (CTs.cons (CT.int IntKind.u8)
                                    (CTs.cons (CT.int IntKind.u8)
                                      (CTs.cons (CT.int IntKind.i64)
                                        (CTs.cons (CT.int IntKind.u8)
                                          (CTs.cons (CT.int IntKind.u8)
                                            (CTs.cons (CT.int IntKind.u64)
                                              (CTs.cons (CT.int IntKind.u64) CTs.nil)))))))))))))))
                  (OTs.cons (OT.c (CT.int IntKind.u64)) OTs.nil))))]
        (Option (Bool × Unit)))
    (w e : Int64) (next : UInt64) (t : List UInt8) (t_1 t_2 : Int64)
    (r :
      Option
        (Int64 ×
          UInt64 ×
            List
                (UInt64 ×
                  Bool ×
                    UInt8 ×
                      UInt64 ×
                        UInt64 ×
                          List UInt8 ×
                            List (List UInt8 × List UInt8) × UInt8 × UInt8 × Int64 × UInt8 × UInt8 × UInt64 × UInt64) ×
              UInt64)) =>
  oite (decide (t_2 < t_1))
    (obind (at? t (Int64.toInt t_2)) fun (x_3 : UInt8) =>
      oite (decide ((200 : Int64) < t_2)) (J e next r)
        (oite (decide (UInt64.ofInt (Int64.toInt w) = (0 : UInt64))) none
          (ojoinA (32439 : Nat)
            [PT.int IntKind.i64, PT.int IntKind.i64, PT.int IntKind.u64, PT.int IntKind.u64,
              PT.list (CTs.cons (CT.int IntKind.u8) CTs.nil), PT.int IntKind.i64, PT.int IntKind.i64,
              PT.opt
                (OTs.cons (OT.c (CT.int IntKind.i64))
                  (OTs.cons (OT.c (CT.int IntKind.u64))
                    (OTs.cons
                      (OT.map (VT.one (CT.int IntKind.u64))
                        (VT.agg
                          (CTs.cons CT.bool
                            (CTs.cons (CT.int IntKind.u8)
                              (CTs.cons (CT.int IntKind.u64)
                                (CTs.cons (CT.int IntKind.u64)
                                  (CTs.cons CT.str
                                    (CTs.cons (CT.ro (CTs.cons CT.str (CTs.cons CT.str CTs.nil)))
                                      (CTs.cons (CT.int IntKind.u8)
                                        (CTs.cons (CT.int IntKind.u8)
                                          (CTs.cons (CT.int IntKind.i64)
                                            (CTs.cons (CT.int IntKind.u8)
                                              (CTs.cons (CT.int IntKind.u8)
                                                (CTs.cons (CT.int IntKind.u64)
                                                  (CTs.cons (CT.int IntKind.u64) CTs.nil)))))))))))))))
                      (OTs.cons (OT.c (CT.int IntKind.u64)) OTs.nil))))]
            (fun
                (J_1 :
                  Arr
                    [PT.int IntKind.i64, PT.int IntKind.i64, PT.int IntKind.u64, PT.int IntKind.u64,
                      PT.list (CTs.cons (CT.int IntKind.u8) CTs.nil), PT.int IntKind.i64, PT.int IntKind.i64,
                      PT.opt
                        (OTs.cons (OT.c (CT.int IntKind.i64))
                          (OTs.cons (OT.c (CT.int IntKind.u64))
                            (OTs.cons
                              (OT.map (VT.one (CT.int IntKind.u64))
                                (VT.agg
                                  (CTs.cons CT.bool
                                    (CTs.cons (CT.int IntKind.u8)
                                      (CTs.cons (CT.int IntKind.u64)
                                        (CTs.cons (CT.int IntKind.u64)
                                          (CTs.cons CT.str
                                            (CTs.cons (CT.ro (CTs.cons CT.str (CTs.cons CT.str CTs.nil)))
                                              (CTs.cons (CT.int IntKind.u8)
                                                (CTs.cons (CT.int IntKind.u8)
                                                  (CTs.cons (CT.int IntKind.i64)
                                                    (CTs.cons (CT.int IntKind.u8)
                                                      (CTs.cons (CT.int IntKind.u8)
                                                        (CTs.cons (CT.int IntKind.u64)
                                                          (CTs.cons (CT.int IntKind.u64) CTs.nil)))))))))))))))
                              (OTs.cons (OT.c (CT.int IntKind.u64)) OTs.nil))))]
                    (Option (Bool × Unit))) =>
              oite (decide ((200 : UInt8) < x_3))
                (oite (decide ((1 : UInt64) < next)) (J_1 w e next (next - (1 : UInt64)) t t_1 t_2 r)
                  (J_1 w e next (next + UInt64.ofInt ↑(UInt8.toNat x_3) % UInt64.ofInt (Int64.toInt w)) t t_1 t_2 r))
                (J_1 w e next (next + UInt64.ofInt ↑(UInt8.toNat x_3) % UInt64.ofInt (Int64.toInt w)) t t_1 t_2 r))
            (F5_J32439 n rec))))
    (J e next r)
def F5_R253 : Nat →
  Arr
      [PT.int IntKind.i64, PT.int IntKind.u64,
        PT.opt
          (OTs.cons (OT.c (CT.int IntKind.i64))
            (OTs.cons (OT.c (CT.int IntKind.u64))
              (OTs.cons
                (OT.map (VT.one (CT.int IntKind.u64))
                  (VT.agg
                    (CTs.cons CT.bool
                      (CTs.cons (CT.int IntKind.u8)
                        (CTs.cons (CT.int IntKind.u64)
                          (CTs.cons (CT.int IntKind.u64)
                            (CTs.cons CT.str
                              (CTs.cons (CT.ro (CTs.cons CT.str (CTs.cons CT.str CTs.nil)))
                                (CTs.cons (CT.int IntKind.u8)
                                  (CTs.cons (CT.int IntKind.u8)
                                    (CTs.cons (CT.int IntKind.i64)
                                      (CTs.cons (CT.int IntKind.u8)
                                        (CTs.cons (CT.int IntKind.u8)
                                          (CTs.cons (CT.int IntKind.u64)
                                            (CTs.cons (CT.int IntKind.u64) CTs.nil)))))))))))))))
                (OTs.cons (OT.c (CT.int IntKind.u64)) OTs.nil))))]
      (Option (Bool × Unit)) →
    Nat →
      PT.T (PT.int IntKind.i64) →
        Int64 →
          UInt64 →
            List UInt8 →
              Int64 →
                Int64 →
                  Option
                      (Int64 ×
                        UInt64 ×
                          List
                              (UInt64 ×
                                Bool ×
                                  UInt8 ×
                                    UInt64 ×
                                      UInt64 ×
                                        List UInt8 ×
                                          List (List UInt8 × List UInt8) ×
                                            UInt8 × UInt8 × Int64 × UInt8 × UInt8 × UInt64 × UInt64) ×
                            UInt64) →
                    Option (Bool × Unit) := fun (n : Nat)
    (J :
      Arr
        [PT.int IntKind.i64, PT.int IntKind.u64,
          PT.opt
            (OTs.cons (OT.c (CT.int IntKind.i64))
              (OTs.cons (OT.c (CT.int IntKind.u64))
                (OTs.cons
                  (OT.map (VT.one (CT.int IntKind.u64))
                    (VT.agg
                      (CTs.cons CT.bool
                        (CTs.cons (CT.int IntKind.u8)
                          (CTs.cons (CT.int IntKind.u64)
                            (CTs.cons (CT.int IntKind.u64)
                              (CTs.cons CT.str
                                (CTs.cons (CT.ro (CTs.cons CT.str (CTs.cons CT.str CTs.nil)))
                                  (CTs.cons (CT.int IntKind.u8)
                                    (CTs.cons (CT.int IntKind.u8)
                                      (CTs.cons (CT.int IntKind.i64)
                                        (CTs.cons (CT.int IntKind.u8)
                                          (CTs.cons (CT.int IntKind.u8)
                                            (CTs.cons (CT.int IntKind.u64)
                                              (CTs.cons (CT.int IntKind.u64) CTs.nil)))))))))))))))
                  (OTs.cons (OT.c (CT.int IntKind.u64)) OTs.nil))))]
        (Option (Bool × Unit))) =>
  ofixA (253 : Nat)
    [PT.int IntKind.i64, PT.int IntKind.i64, PT.int IntKind.u64, PT.list (CTs.cons (CT.int IntKind.u8) CTs.nil),
      PT.int IntKind.i64, PT.int IntKind.i64,
      PT.opt
        (OTs.cons (OT.c (CT.int IntKind.i64))
          (OTs.cons (OT.c (CT.int IntKind.u64))
            (OTs.cons
              (OT.map (VT.one (CT.int IntKind.u64))
                (VT.agg
                  (CTs.cons CT.bool
                    (CTs.cons (CT.int IntKind.u8)
                      (CTs.cons (CT.int IntKind.u64)
                        (CTs.cons (CT.int IntKind.u64)
                          (CTs.cons CT.str
                            (CTs.cons (CT.ro (CTs.cons CT.str (CTs.cons CT.str CTs.nil)))
                              (CTs.cons (CT.int IntKind.u8)
                                (CTs.cons (CT.int IntKind.u8)
                                  (CTs.cons (CT.int IntKind.i64)
                                    (CTs.cons (CT.int IntKind.u8)
                                      (CTs.cons (CT.int IntKind.u8)
                                        (CTs.cons (CT.int IntKind.u64)
                                          (CTs.cons (CT.int IntKind.u64) CTs.nil)))))))))))))))
              (OTs.cons (OT.c (CT.int IntKind.u64)) OTs.nil))))]
    (F5_L253 n J)
def F5 : Nat → UInt8 × List UInt8 → Option (Bool × Unit) := fun (n : Nat) (x : UInt8 × List UInt8) =>
  obind (F7 n ()) fun (x_1 : Bool × Unit) =>
    oite (!Prod.fst x_1) (some (false, ()))
      (obind (F8 n ((1 : Int64) + Int64.ofInt ↑(UInt8.toNat (Prod.fst x % (64 : UInt8)))))
        fun
          (x_2 :
            (Option
                  (Int64 ×
                    UInt64 ×
                      List
                          (UInt64 ×
                            Bool ×
                              UInt8 ×
                                UInt64 ×
                                  UInt64 ×
                                    List UInt8 ×
                                      List (List UInt8 × List UInt8) ×
                                        UInt8 × UInt8 × Int64 × UInt8 × UInt8 × UInt64 × UInt64) ×
                        UInt64) ×
                Int64) ×
              Unit) =>
        ojoinA (63 : Nat)
          [PT.int IntKind.i64, PT.int IntKind.u64,
            PT.opt
              (OTs.cons (OT.c (CT.int IntKind.i64))
                (OTs.cons (OT.c (CT.int IntKind.u64))
                  (OTs.cons
                    (OT.map (VT.one (CT.int IntKind.u64))
                      (VT.agg
                        (CTs.cons CT.bool
                          (CTs.cons (CT.int IntKind.u8)
                            (CTs.cons (CT.int IntKind.u64)
                              (CTs.cons (CT.int IntKind.u64)
                                (CTs.cons CT.str
                                  (CTs.cons (CT.ro (CTs.cons CT.str (CTs.cons CT.str CTs.nil)))
                                    (CTs.cons (CT.int IntKind.u8)
                                      (CTs.cons (CT.int IntKind.u8)
                                        (CTs.cons (CT.int IntKind.i64)
                                          (CTs.cons (CT.int IntKind.u8)
                                            (CTs.cons (CT.int IntKind.u8)
                                              (CTs.cons (CT.int IntKind.u64)
                                                (CTs.cons (CT.int IntKind.u64) CTs.nil)))))))))))))))
                    (OTs.cons (OT.c (CT.int IntKind.u64)) OTs.nil))))]
          (fun
              (J :
                Arr
                  [PT.int IntKind.i64, PT.int IntKind.u64,
                    PT.opt
                      (OTs.cons (OT.c (CT.int IntKind.i64))
                        (OTs.cons (OT.c (CT.int IntKind.u64))
                          (OTs.cons
                            (OT.map (VT.one (CT.int IntKind.u64))
                              (VT.agg
                                (CTs.cons CT.bool
                                  (CTs.cons (CT.int IntKind.u8)
                                    (CTs.cons (CT.int IntKind.u64)
                                      (CTs.cons (CT.int IntKind.u64)
                                        (CTs.cons CT.str
                                          (CTs.cons (CT.ro (CTs.cons CT.str (CTs.cons CT.str CTs.nil)))
                                            (CTs.cons (CT.int IntKind.u8)
                                              (CTs.cons (CT.int IntKind.u8)
                                                (CTs.cons (CT.int IntKind.i64)
                                                  (CTs.cons (CT.int IntKind.u8)
                                                    (CTs.cons (CT.int IntKind.u8)
                                                      (CTs.cons (CT.int IntKind.u64)
                                                        (CTs.cons (CT.int IntKind.u64) CTs.nil)))))))))))))))
                            (OTs.cons (OT.c (CT.int IntKind.u64)) OTs.nil))))]
                  (Option (Bool × Unit))) =>
            F5_R253 n J n ((1 : Int64) + Int64.ofInt ↑(UInt8.toNat (Prod.fst x % (64 : UInt8))))
              (Prod.snd (Prod.fst x_2)) (1 : UInt64) (Prod.snd x) (Int64.ofInt ↑(List.length (Prod.snd x))) (0 : Int64)
              (Prod.fst (Prod.fst x_2)))
          (F5_J63 n))
theorem F5_R259519_s (n : Nat) (rec : Arr [PT.int IntKind.i64, PT.int IntKind.i64, PT.int IntKind.u64, PT.list (CTs.cons (CT.int IntKind.u8) CTs.nil), PT.int IntKind.i64, PT.int IntKind.i64, PT.opt (OTs.cons (OT.c (CT.int IntKind.i64)) (OTs.cons (OT.c (CT.int IntKind.u64)) (OTs.cons (OT.map (VT.one (CT.int IntKind.u64)) (VT.agg (CTs.cons CT.bool (CTs.cons (CT.int IntKind.u8) (CTs.cons (CT.int IntKind.u64) (CTs.cons (CT.int IntKind.u64) (CTs.cons CT.str (CTs.cons (CT.ro (CTs.cons CT.str (CTs.cons CT.str CTs.nil))) (CTs.cons (CT.int IntKind.u8) (CTs.cons (CT.int IntKind.u8) (CTs.cons (CT.int IntKind.i64) (CTs.cons (CT.int IntKind.u8) (CTs.cons (CT.int IntKind.u8) (CTs.cons (CT.int IntKind.u64) (CTs.cons (CT.int IntKind.u64) CTs.nil))))))))))))))) (OTs.cons (OT.c (CT.int IntKind.u64)) OTs.nil))))] (Option (Bool × Unit))) (m_ : Nat) : F5_R259519 n rec (m_ + 1) = F5_L259519 n rec (F5_R259519 n rec m_) := rfl
theorem F5_R253_s (n : Nat) (J : Arr [PT.int IntKind.i64, PT.int IntKind.u64, PT.opt (OTs.cons (OT.c (CT.int IntKind.i64)) (OTs.cons (OT.c (CT.int IntKind.u64)) (OTs.cons (OT.map (VT.one (CT.int IntKind.u64)) (VT.agg (CTs.cons CT.bool (CTs.cons (CT.int IntKind.u8) (CTs.cons (CT.int IntKind.u64) (CTs.cons (CT.int IntKind.u64) (CTs.cons CT.str (CTs.cons (CT.ro (CTs.cons CT.str (CTs.cons CT.str CTs.nil))) (CTs.cons (CT.int IntKind.u8) (CTs.cons (CT.int IntKind.u8) (CTs.cons (CT.int IntKind.i64) (CTs.cons (CT.int IntKind.u8) (CTs.cons (CT.int IntKind.u8) (CTs.cons (CT.int IntKind.u64) (CTs.cons (CT.int IntKind.u64) CTs.nil))))))))))))))) (OTs.cons (OT.c (CT.int IntKind.u64)) OTs.nil))))] (Option (Bool × Unit))) (m_ : Nat) : F5_R253 n J (m_ + 1) = F5_L253 n J (F5_R253 n J m_) := rfl
theorem ok5 (n : Nat) : FunOK Try.prog ⟨5, sig5, F5 n⟩ :=
  fun_ok (hints := ⟨[(63, ⟨[(6, .one (.own 2)), (7, .one (.int .i64)), (8, .one (.int .u64))], [(2, .fold (.cons (.c (.int .i64)) (.cons (.c (.int .u64)) (.cons (.map (.one (.int .u64)) (.agg (.cons .bool (.cons (.int .u8) (.cons (.int .u64) (.cons (.int .u64) (.cons .str (.cons (.ro (.cons .str (.cons .str .nil))) (.cons (.int .u8) (.cons (.int .u8) (.cons (.int .i64) (.cons (.int .u8) (.cons (.int .u8) (.cons (.int .u64) (.cons (.int .u64) .nil))))))))))))))) (.cons (.c (.int .u64)) .nil)))))], 3⟩), (32439, ⟨[(5, .one (.int .i64)), (6, .one (.own 2)), (7, .one (.int .i64)), (8, .one (.int .u64)), (11, .one (.int .u64)), (29, .one (.ro (.cons (.int .u8) .nil))), (30, .one (.int .i64)), (31, .one (.int .i64))], [(2, .fold (.cons (.c (.int .i64)) (.cons (.c (.int .u64)) (.cons (.map (.one (.int .u64)) (.agg (.cons .bool (.cons (.int .u8) (.cons (.int .u64) (.cons (.int .u64) (.cons .str (.cons (.ro (.cons .str (.cons .str .nil))) (.cons (.int .u8) (.cons (.int .u8) (.cons (.int .i64) (.cons (.int .u8) (.cons (.int .u8) (.cons (.int .u64) (.cons (.int .u64) .nil))))))))))))))) (.cons (.c (.int .u64)) .nil)))))], 3⟩)], [(253, ⟨[(5, .one (.int .i64)), (6, .one (.own 2)), (7, .one (.int .i64)), (8, .one (.int .u64)), (29, .one (.ro (.cons (.int .u8) .nil))), (30, .one (.int .i64)), (31, .one (.int .i64))], [(2, .fold (.cons (.c (.int .i64)) (.cons (.c (.int .u64)) (.cons (.map (.one (.int .u64)) (.agg (.cons .bool (.cons (.int .u8) (.cons (.int .u64) (.cons (.int .u64) (.cons .str (.cons (.ro (.cons .str (.cons .str .nil))) (.cons (.int .u8) (.cons (.int .u8) (.cons (.int .i64) (.cons (.int .u8) (.cons (.int .u8) (.cons (.int .u64) (.cons (.int .u64) .nil))))))))))))))) (.cons (.c (.int .u64)) .nil)))))], 3⟩), (259519, ⟨[(5, .one (.int .i64)), (6, .one (.own 2)), (7, .one (.int .i64)), (8, .one (.int .u64)), (29, .one (.ro (.cons (.int .u8) .nil))), (30, .one (.int .i64)), (31, .one (.int .i64))], [(2, .fold (.cons (.c (.int .i64)) (.cons (.c (.int .u64)) (.cons (.map (.one (.int .u64)) (.agg (.cons .bool (.cons (.int .u8) (.cons (.int .u64) (.cons (.int .u64) (.cons .str (.cons (.ro (.cons .str (.cons .str .nil))) (.cons (.int .u8) (.cons (.int .u8) (.cons (.int .i64) (.cons (.int .u8) (.cons (.int .u8) (.cons (.int .u64) (.cons (.int .u64) .nil))))))))))))))) (.cons (.c (.int .u64)) .nil)))))], 3⟩)]⟩) (fuel := n) (c := Try.f5.body.getD .skip) (rs := Try.f5.results.toList) tt_ok mix (FsOK.cons (ok7 n) (FsOK.cons (ok8 n) (FsOK.cons (ok9 n) (FsOK.cons (ok10 n) (FsOK.cons (ok11 n) (FsOK.cons (ok13 n) (FsOK.cons (ok18 n) (FsOK.nil)))))))) Try.func5 (by kernel_rfl) (by kernel_rfl) rfl (by kernel_rfl) rfl rfl (by kernel_rfl)
-- watchfire/watchfirelaw11.RecvNone
def sig6 : Sig := ⟨(.cons (.one (.c (.int .i64))) (.cons (.one (.c (.int .u64))) (.cons (.agg (.cons .bool (.cons (.int .u8) (.cons (.int .u64) (.cons (.int .u64) (.cons .str (.cons (.ro (.cons .str (.cons .str .nil))) (.cons (.int .u8) (.cons (.int .u8) (.cons (.int .i64) (.cons (.int .u8) (.cons (.int .u8) (.cons (.int .u64) (.cons (.int .u64) .nil)))))))))))))) .nil))), (.cons (.one (.c .bool)) .nil)⟩
def F6_J511 : Nat →
  UInt64 →
    Int64 →
      Bool →
        UInt64 →
          UInt64 →
            UInt64 →
              Int64 →
                UInt64 →
                  Bool →
                    Bool →
                      UInt8 →
                        UInt64 →
                          UInt64 →
                            List UInt8 →
                              List (List UInt8 × List UInt8) →
                                UInt8 →
                                  UInt8 →
                                    Int64 →
                                      UInt8 →
                                        UInt8 →
                                          UInt64 →
                                            UInt64 →
                                              Option
                                                  (Int64 ×
                                                    UInt64 ×
                                                      List
                                                          (UInt64 ×
                                                            Bool ×
                                                              UInt8 ×
                                                                UInt64 ×
                                                                  UInt64 ×
                                                                    List UInt8 ×
                                                                      List (List UInt8 × List UInt8) ×
                                                                        UInt8 ×
                                                                          UInt8 ×
                                                                            Int64 × UInt8 × UInt8 × UInt64 × UInt64) ×
                                                        UInt64) →
                                                Option (Bool × Unit) := fun (n : Nat) (seq : UInt64) (e : Int64) (ok : Bool) (a b c : UInt64) (d : Int64) (f : UInt64) (right x0 : Bool)
    (x1 : UInt8) (x2 x3 : UInt64) (x4 : List UInt8) (x5 : List (List UInt8 × List UInt8)) (x6 x7 : UInt8) (x8 : Int64)
    (x9 x10 : UInt8) (x11 x12 : UInt64)
    (r :
      Option
        (Int64 ×
          UInt64 ×
            List
                (UInt64 ×
                  Bool ×
                    UInt8 ×
                      UInt64 ×
                        UInt64 ×
                          List UInt8 ×
                            List (List UInt8 × List UInt8) × UInt8 × UInt8 × Int64 × UInt8 × UInt8 × UInt64 × UInt64) ×
              UInt64)) =>
  obind (F8 n (1 : Int64))
    fun
      (x_6 :
        (Option
              (Int64 ×
                UInt64 ×
                  List
                      (UInt64 ×
                        Bool ×
                          UInt8 ×
                            UInt64 ×
                              UInt64 ×
                                List UInt8 ×
                                  List (List UInt8 × List UInt8) ×
                                    UInt8 × UInt8 × Int64 × UInt8 × UInt8 × UInt64 × UInt64) ×
                    UInt64) ×
            Int64) ×
          Unit) =>
    obind (F20 n (x0, x1, x2, x3, x4, x5, x6, x7, x8, x9, x10, x11, x12)) fun (x_7 : Int64 × Unit) =>
      oite (decide (e = (0 : Int64)) == right)
        (oite right
          (obind (F10 n (none, seq, x0, x1, x2, x3, x4, x5, x6, x7, x8, x9, x10, x11, x12))
            fun
              (x_8 :
                Int64 ×
                  Option
                    (Int64 ×
                      UInt64 ×
                        List
                            (UInt64 ×
                              Bool ×
                                UInt8 ×
                                  UInt64 ×
                                    UInt64 ×
                                      List UInt8 ×
                                        List (List UInt8 × List UInt8) ×
                                          UInt8 × UInt8 × Int64 × UInt8 × UInt8 × UInt64 × UInt64) ×
                          UInt64)) =>
            oite (decide (Prod.fst x_8 = (1 : Int64)))
              (obind (F13 n none)
                fun
                  (x_9 :
                    Int64 ×
                      Option
                        (Int64 ×
                          UInt64 ×
                            List
                                (UInt64 ×
                                  Bool ×
                                    UInt8 ×
                                      UInt64 ×
                                        UInt64 ×
                                          List UInt8 ×
                                            List (List UInt8 × List UInt8) ×
                                              UInt8 × UInt8 × Int64 × UInt8 × UInt8 × UInt64 × UInt64) ×
                              UInt64)) =>
                oite (decide (Prod.fst x_9 = (1 : Int64)))
                  (oite (!ok)
                    (oite (decide (a + b + c + f = (0 : UInt64)))
                      (oite (decide (d = (0 : Int64)))
                        (obind
                          (F10 n
                            (Prod.fst (Prod.fst x_6), (1 : UInt64), x0, x1, x2, x3, x4, x5, x6, x7, x8, x9, x10, x11,
                              x12))
                          fun
                            (x_10 :
                              Int64 ×
                                Option
                                  (Int64 ×
                                    UInt64 ×
                                      List
                                          (UInt64 ×
                                            Bool ×
                                              UInt8 ×
                                                UInt64 ×
                                                  UInt64 ×
                                                    List UInt8 ×
                                                      List (List UInt8 × List UInt8) ×
                                                        UInt8 × UInt8 × Int64 × UInt8 × UInt8 × UInt64 × UInt64) ×
                                        UInt64)) =>
                          oite (decide (Prod.fst x_10 = Prod.fst x_7))
                            (obind (F13 n (Prod.snd x_10))
                              fun
                                (x_11 :
                                  Int64 ×
                                    Option
                                      (Int64 ×
                                        UInt64 ×
                                          List
                                              (UInt64 ×
                                                Bool ×
                                                  UInt8 ×
                                                    UInt64 ×
                                                      UInt64 ×
                                                        List UInt8 ×
                                                          List (List UInt8 × List UInt8) ×
                                                            UInt8 × UInt8 × Int64 × UInt8 × UInt8 × UInt64 × UInt64) ×
                                            UInt64)) =>
                              some
                                (decide (Prod.fst x_11 = (0 : Int64)) == decide (Prod.fst x_7 = (0 : Int64)),
                                  ()))
                            (some (false, ())))
                        (some (false, ())))
                      (some (false, ())))
                    (some (false, ())))
                  (some (false, ())))
              (some (false, ())))
          (oite (decide (e = (19 : Int64)))
            (oelim r
              (obind (F10 n (none, seq, x0, x1, x2, x3, x4, x5, x6, x7, x8, x9, x10, x11, x12))
                fun
                  (x_8 :
                    Int64 ×
                      Option
                        (Int64 ×
                          UInt64 ×
                            List
                                (UInt64 ×
                                  Bool ×
                                    UInt8 ×
                                      UInt64 ×
                                        UInt64 ×
                                          List UInt8 ×
                                            List (List UInt8 × List UInt8) ×
                                              UInt8 × UInt8 × Int64 × UInt8 × UInt8 × UInt64 × UInt64) ×
                              UInt64)) =>
                oite (decide (Prod.fst x_8 = (1 : Int64)))
                  (obind (F13 n none)
                    fun
                      (x_9 :
                        Int64 ×
                          Option
                            (Int64 ×
                              UInt64 ×
                                List
                                    (UInt64 ×
                                      Bool ×
                                        UInt8 ×
                                          UInt64 ×
                                            UInt64 ×
                                              List UInt8 ×
                                                List (List UInt8 × List UInt8) ×
                                                  UInt8 × UInt8 × Int64 × UInt8 × UInt8 × UInt64 × UInt64) ×
                                  UInt64)) =>
                    oite (decide (Prod.fst x_9 = (1 : Int64)))
                      (oite (!ok)
                        (oite (decide (a + b + c + f = (0 : UInt64)))
                          (oite (decide (d = (0 : Int64)))
                            (obind
                              (F10 n
                                (Prod.fst (Prod.fst x_6), (1 : UInt64), x0, x1, x2, x3, x4, x5, x6, x7, x8, x9, x10,
                                  x11, x12))
                              fun
                                (x_10 :
                                  Int64 ×
                                    Option
                                      (Int64 ×
                                        UInt64 ×
                                          List
                                              (UInt64 ×
                                                Bool ×
                                                  UInt8 ×
                                                    UInt64 ×
                                                      UInt64 ×
                                                        List UInt8 ×
                                                          List (List UInt8 × List UInt8) ×
                                                            UInt8 × UInt8 × Int64 × UInt8 × UInt8 × UInt64 × UInt64) ×
                                            UInt64)) =>
                              oite (decide (Prod.fst x_10 = Prod.fst x_7))
                                (obind (F13 n (Prod.snd x_10))
                                  fun
                                    (x_11 :
                                      Int64 ×
                                        Option
                                          (Int64 ×
                                            UInt64 ×
                                              List
                                                  (UInt64 ×
                                                    Bool ×
                                                      UInt8 ×
                                                        UInt64 ×
                                                          UInt64 ×
                                                            List UInt8 ×
                                                              List (List UInt8 × List UInt8) ×
                                                                UInt8 ×
                                                                  UInt8 × Int64 × UInt8 × UInt8 × UInt64 × UInt64) ×
                                                UInt64)) =>
                                  some
                                    (decide (Prod.fst x_11 = (0 : Int64)) == decide (Prod.fst x_7 = (0 : Int64)),
                                      ()))
                                (some (false, ())))
                            (some (false, ())))
                          (some (false, ())))
                        (some (false, ())))
                      (some (false, ())))
                  (some (false, ())))
              fun
                (x_8 :
                  Int64 ×
                    UInt64 ×
                      List
                          (UInt64 ×
                            Bool ×
                              UInt8 ×
                                UInt64 ×
                                  UInt64 ×
                                    List UInt8 ×
                                      List (List UInt8 × List UInt8) ×
                                        UInt8 × UInt8 × Int64 × UInt8 × UInt8 × UInt64 × UInt64) ×
                        UInt64) =>
              some (false, ()))
            (some (false, ()))))
        (some (false, ()))
def F6 : Nat →
  Int64 ×
      UInt64 ×
        Bool ×
          UInt8 ×
            UInt64 ×
              UInt64 ×
                List UInt8 × List (List UInt8 × List UInt8) × UInt8 × UInt8 × Int64 × UInt8 × UInt8 × UInt64 × UInt64 →
    Option (Bool × Unit) := fun (n : Nat)
    (x :
      Int64 ×
        UInt64 ×
          Bool ×
            UInt8 ×
              UInt64 ×
                UInt64 ×
                  List UInt8 ×
                    List (List UInt8 × List UInt8) × UInt8 × UInt8 × Int64 × UInt8 × UInt8 × UInt64 × UInt64) =>
  obind (F7 n ()) fun (x_1 : Bool × Unit) =>
    oite (!Prod.fst x_1) (some (false, ()))
      (oite
        (decide
          ((12 : Int64) <
            Int64.ofInt
              ↑(List.length (Prod.fst (Prod.snd (Prod.snd (Prod.snd (Prod.snd (Prod.snd (Prod.snd (Prod.snd x)))))))))))
        (some (true, ()))
        (obind (F8 n (Prod.fst x))
          fun
            (x_2 :
              (Option
                    (Int64 ×
                      UInt64 ×
                        List
                            (UInt64 ×
                              Bool ×
                                UInt8 ×
                                  UInt64 ×
                                    UInt64 ×
                                      List UInt8 ×
                                        List (List UInt8 × List UInt8) ×
                                          UInt8 × UInt8 × Int64 × UInt8 × UInt8 × UInt64 × UInt64) ×
                          UInt64) ×
                  Int64) ×
                Unit) =>
          obind (F11 n none)
            fun
              (x_3 :
                ((Bool ×
                      UInt8 ×
                        UInt64 ×
                          UInt64 ×
                            List UInt8 ×
                              List (List UInt8 × List UInt8) ×
                                UInt8 × UInt8 × Int64 × UInt8 × UInt8 × UInt64 × UInt64) ×
                    Bool) ×
                  Option
                    (Int64 ×
                      UInt64 ×
                        List
                            (UInt64 ×
                              Bool ×
                                UInt8 ×
                                  UInt64 ×
                                    UInt64 ×
                                      List UInt8 ×
                                        List (List UInt8 × List UInt8) ×
                                          UInt8 × UInt8 × Int64 × UInt8 × UInt8 × UInt64 × UInt64) ×
                          UInt64)) =>
            obind (F17 n none)
              fun
                (x_4 :
                  (UInt64 × UInt64) ×
                    Option
                      (Int64 ×
                        UInt64 ×
                          List
                              (UInt64 ×
                                Bool ×
                                  UInt8 ×
                                    UInt64 ×
                                      UInt64 ×
                                        List UInt8 ×
                                          List (List UInt8 × List UInt8) ×
                                            UInt8 × UInt8 × Int64 × UInt8 × UInt8 × UInt64 × UInt64) ×
                            UInt64)) =>
              obind (F18 n none)
                fun
                  (x_5 :
                    (UInt64 × Int64 × UInt64) ×
                      Option
                        (Int64 ×
                          UInt64 ×
                            List
                                (UInt64 ×
                                  Bool ×
                                    UInt8 ×
                                      UInt64 ×
                                        UInt64 ×
                                          List UInt8 ×
                                            List (List UInt8 × List UInt8) ×
                                              UInt8 × UInt8 × Int64 × UInt8 × UInt8 × UInt64 × UInt64) ×
                              UInt64)) =>
                ojoinA (511 : Nat)
                  [PT.int IntKind.u64, PT.int IntKind.i64, PT.bool, PT.int IntKind.u64, PT.int IntKind.u64,
                    PT.int IntKind.u64, PT.int IntKind.i64, PT.int IntKind.u64, PT.bool, PT.bool, PT.int IntKind.u8,
                    PT.int IntKind.u64, PT.int IntKind.u64, PT.bytes,
                    PT.list (CTs.cons CT.str (CTs.cons CT.str CTs.nil)), PT.int IntKind.u8, PT.int IntKind.u8,
                    PT.int IntKind.i64, PT.int IntKind.u8, PT.int IntKind.u8, PT.int IntKind.u64, PT.int IntKind.u64,
                    PT.opt
                      (OTs.cons (OT.c (CT.int IntKind.i64))
                        (OTs.cons (OT.c (CT.int IntKind.u64))
                          (OTs.cons
                            (OT.map (VT.one (CT.int IntKind.u64))
                              (VT.agg
                                (CTs.cons CT.bool
                                  (CTs.cons (CT.int IntKind.u8)
                                    (CTs.cons (CT.int IntKind.u64)
                                      (CTs.cons (CT.int IntKind.u64)
                                        (CTs.cons CT.str
                                          (CTs.cons (CT.ro (CTs.cons CT.str (CTs.cons CT.str CTs.nil)))
                                            (CTs.cons (CT.int IntKind.u8)
                                              (CTs.cons (CT.int IntKind.u8)
                                                (CTs.cons (CT.int IntKind.i64)
                                                  (CTs.cons (CT.int IntKind.u8)
                                                    (CTs.cons (CT.int IntKind.u8)
                                                      (CTs.cons (CT.int IntKind.u64)
                                                        (CTs.cons (CT.int IntKind.u64) CTs.nil)))))))))))))))
                            (OTs.cons (OT.c (CT.int IntKind.u64)) OTs.nil))))]
                  (fun
                      (J :
                        Arr
                          [PT.int IntKind.u64, PT.int IntKind.i64, PT.bool, PT.int IntKind.u64, PT.int IntKind.u64,
                            PT.int IntKind.u64, PT.int IntKind.i64, PT.int IntKind.u64, PT.bool, PT.bool,
                            PT.int IntKind.u8, PT.int IntKind.u64, PT.int IntKind.u64, PT.bytes,
                            PT.list (CTs.cons CT.str (CTs.cons CT.str CTs.nil)), PT.int IntKind.u8, PT.int IntKind.u8,
                            PT.int IntKind.i64, PT.int IntKind.u8, PT.int IntKind.u8, PT.int IntKind.u64,
                            PT.int IntKind.u64,
                            PT.opt
                              (OTs.cons (OT.c (CT.int IntKind.i64))
                                (OTs.cons (OT.c (CT.int IntKind.u64))
                                  (OTs.cons
                                    (OT.map (VT.one (CT.int IntKind.u64))
                                      (VT.agg
                                        (CTs.cons CT.bool
                                          (CTs.cons (CT.int IntKind.u8)
                                            (CTs.cons (CT.int IntKind.u64)
                                              (CTs.cons (CT.int IntKind.u64)
                                                (CTs.cons CT.str
                                                  (CTs.cons (CT.ro (CTs.cons CT.str (CTs.cons CT.str CTs.nil)))
                                                    (CTs.cons (CT.int IntKind.u8)
                                                      (CTs.cons (CT.int IntKind.u8)
                                                        (CTs.cons (CT.int IntKind.i64)
                                                          (CTs.cons (CT.int IntKind.u8)
                                                            (CTs.cons (CT.int IntKind.u8)
                                                              (CTs.cons (CT.int IntKind.u64)
                                                                (CTs.cons (CT.int IntKind.u64) CTs.nil)))))))))))))))
                                    (OTs.cons (OT.c (CT.int IntKind.u64)) OTs.nil))))]
                          (Option (Bool × Unit))) =>
                    oite (decide ((1 : Int64) ≤ Prod.fst x))
                      (J (Prod.fst (Prod.snd x)) (Prod.snd (Prod.fst x_2)) (Prod.snd (Prod.fst x_3))
                        (Prod.fst (Prod.fst x_4)) (Prod.snd (Prod.fst x_4)) (Prod.fst (Prod.fst x_5))
                        (Prod.fst (Prod.snd (Prod.fst x_5))) (Prod.snd (Prod.snd (Prod.fst x_5)))
                        (decide (Prod.fst x ≤ (64 : Int64))) (Prod.fst (Prod.snd (Prod.snd x)))
                        (Prod.fst (Prod.snd (Prod.snd (Prod.snd x))))
                        (Prod.fst (Prod.snd (Prod.snd (Prod.snd (Prod.snd x)))))
                        (Prod.fst (Prod.snd (Prod.snd (Prod.snd (Prod.snd (Prod.snd x))))))
                        (Prod.fst (Prod.snd (Prod.snd (Prod.snd (Prod.snd (Prod.snd (Prod.snd x)))))))
                        (Prod.fst (Prod.snd (Prod.snd (Prod.snd (Prod.snd (Prod.snd (Prod.snd (Prod.snd x))))))))
                        (Prod.fst
                          (Prod.snd (Prod.snd (Prod.snd (Prod.snd (Prod.snd (Prod.snd (Prod.snd (Prod.snd x)))))))))
                        (Prod.fst
                          (Prod.snd
                            (Prod.snd (Prod.snd (Prod.snd (Prod.snd (Prod.snd (Prod.snd (Prod.snd (Prod.snd x))))))))))
                        (Prod.fst
                          (Prod.snd
                            (Prod.snd
                              (Prod.snd
                                (Prod.snd (Prod.snd (Prod.snd (Prod.snd (Prod.snd (Prod.snd (Prod.snd x)))))))))))
                        (Prod.fst
                          (Prod.snd
                            (Prod.snd
                              (Prod.snd
                                (Prod.snd
                                  (Prod.snd (Prod.snd (Prod.snd (Prod.snd (Prod.snd (Prod.snd (Prod.snd x))))))))))))
                        (Prod.fst
                          (Prod.snd
                            (Prod.snd
                              (Prod.snd
                                (Prod.snd
                                  (Prod.snd
                                    (Prod.snd (Prod.snd (Prod.snd (Prod.snd (Prod.snd (Prod.snd (Prod.snd x)))))))))))))
                        (Prod.fst
                          (Prod.snd
                            (Prod.snd
                              (Prod.snd
                                (Prod.snd
                                  (Prod.snd
                                    (Prod.snd
                                      (Prod.snd
                                        (Prod.snd (Prod.snd (Prod.snd (Prod.snd (Prod.snd (Prod.snd x))))))))))))))
                        (Prod.snd
                          (Prod.snd
                            (Prod.snd
                              (Prod.snd
                                (Prod.snd
                                  (Prod.snd
                                    (Prod.snd
                                      (Prod.snd
                                        (Prod.snd (Prod.snd (Prod.snd (Prod.snd (Prod.snd (Prod.snd x))))))))))))))
                        (Prod.fst (Prod.fst x_2)))
                      (J (Prod.fst (Prod.snd x)) (Prod.snd (Prod.fst x_2)) (Prod.snd (Prod.fst x_3))
                        (Prod.fst (Prod.fst x_4)) (Prod.snd (Prod.fst x_4)) (Prod.fst (Prod.fst x_5))
                        (Prod.fst (Prod.snd (Prod.fst x_5))) (Prod.snd (Prod.snd (Prod.fst x_5))) false
                        (Prod.fst (Prod.snd (Prod.snd x))) (Prod.fst (Prod.snd (Prod.snd (Prod.snd x))))
                        (Prod.fst (Prod.snd (Prod.snd (Prod.snd (Prod.snd x)))))
                        (Prod.fst (Prod.snd (Prod.snd (Prod.snd (Prod.snd (Prod.snd x))))))
                        (Prod.fst (Prod.snd (Prod.snd (Prod.snd (Prod.snd (Prod.snd (Prod.snd x)))))))
                        (Prod.fst (Prod.snd (Prod.snd (Prod.snd (Prod.snd (Prod.snd (Prod.snd (Prod.snd x))))))))
                        (Prod.fst
                          (Prod.snd (Prod.snd (Prod.snd (Prod.snd (Prod.snd (Prod.snd (Prod.snd (Prod.snd x)))))))))
                        (Prod.fst
                          (Prod.snd
                            (Prod.snd (Prod.snd (Prod.snd (Prod.snd (Prod.snd (Prod.snd (Prod.snd (Prod.snd x))))))))))
                        (Prod.fst
                          (Prod.snd
                            (Prod.snd
                              (Prod.snd
                                (Prod.snd (Prod.snd (Prod.snd (Prod.snd (Prod.snd (Prod.snd (Prod.snd x)))))))))))
                        (Prod.fst
                          (Prod.snd
                            (Prod.snd
                              (Prod.snd
                                (Prod.snd
                                  (Prod.snd (Prod.snd (Prod.snd (Prod.snd (Prod.snd (Prod.snd (Prod.snd x))))))))))))
                        (Prod.fst
                          (Prod.snd
                            (Prod.snd
                              (Prod.snd
                                (Prod.snd
                                  (Prod.snd
                                    (Prod.snd (Prod.snd (Prod.snd (Prod.snd (Prod.snd (Prod.snd (Prod.snd x)))))))))))))
                        (Prod.fst
                          (Prod.snd
                            (Prod.snd
                              (Prod.snd
                                (Prod.snd
                                  (Prod.snd
                                    (Prod.snd
                                      (Prod.snd
                                        (Prod.snd (Prod.snd (Prod.snd (Prod.snd (Prod.snd (Prod.snd x))))))))))))))
                        (Prod.snd
                          (Prod.snd
                            (Prod.snd
                              (Prod.snd
                                (Prod.snd
                                  (Prod.snd
                                    (Prod.snd
                                      (Prod.snd
                                        (Prod.snd (Prod.snd (Prod.snd (Prod.snd (Prod.snd (Prod.snd x))))))))))))))
                        (Prod.fst (Prod.fst x_2))))
                  (F6_J511 n)))
theorem ok6 (n : Nat) : FunOK Try.prog ⟨6, sig6, F6 n⟩ :=
  fun_ok (hints := ⟨[(511, ⟨[(1, .one (.int .u64)), (5, .one (.own 3)), (7, .one (.own 4)), (8, .one (.int .i64)), (9, .one (.nilp)), (11, .one (.bool)), (12, .one (.int .u64)), (13, .one (.int .u64)), (14, .one (.int .u64)), (15, .one (.int .i64)), (16, .one (.int .u64)), (17, .one (.bool))], [(3, .cells [.bool, .int .u8, .int .u64, .int .u64, .str, .ro (.cons .str (.cons .str .nil)), .int .u8, .int .u8, .int .i64, .int .u8, .int .u8, .int .u64, .int .u64]), (4, .fold (.cons (.c (.int .i64)) (.cons (.c (.int .u64)) (.cons (.map (.one (.int .u64)) (.agg (.cons .bool (.cons (.int .u8) (.cons (.int .u64) (.cons (.int .u64) (.cons .str (.cons (.ro (.cons .str (.cons .str .nil))) (.cons (.int .u8) (.cons (.int .u8) (.cons (.int .i64) (.cons (.int .u8) (.cons (.int .u8) (.cons (.int .u64) (.cons (.int .u64) .nil))))))))))))))) (.cons (.c (.int .u64)) .nil)))))], 5⟩)], []⟩) (fuel := n) (c := Try.f6.body.getD .skip) (rs := Try.f6.results.toList) tt_ok mix (FsOK.cons (ok7 n) (FsOK.cons (ok8 n) (FsOK.cons (ok11 n) (FsOK.cons (ok17 n) (FsOK.cons (ok18 n) (FsOK.cons (ok20 n) (FsOK.cons (ok10 n) (FsOK.cons (ok13 n) (FsOK.nil))))))))) Try.func6 (by kernel_rfl) (by kernel_rfl) rfl (by kernel_rfl) rfl rfl (by kernel_rfl)
end Go.Proofs.Ytllfmmonieelpaa
