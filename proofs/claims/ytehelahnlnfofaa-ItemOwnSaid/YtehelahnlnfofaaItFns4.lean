/- What the functions of this seat compute, found by walking their code symbolically: each F is what the walk finds, each ok says that the Go function keeps it as a contract. Printed by a program of this repo's. -/
import Derived.Test.YtehelahnlnfofaaItFns3
open Go Go.Sx
namespace Go.Proofs.Ytehelahnlnfofaa
set_option maxRecDepth 100000
set_option linter.unusedVariables false
-- watchfire/watchfirelaw04.ItemParts
def sig4 : Sig := ⟨(.cons (.agg (.cons .bool (.cons (.int .u8) (.cons (.int .u64) (.cons (.int .u64) (.cons .str (.cons (.ro (.cons .str (.cons .str .nil))) (.cons (.int .u8) (.cons (.int .u8) (.cons (.int .i64) (.cons (.int .u8) (.cons (.int .u8) (.cons (.int .u64) (.cons (.int .u64) .nil)))))))))))))) (.cons (.agg (.cons .bool (.cons (.int .u8) (.cons (.int .u64) (.cons (.int .u64) (.cons .str (.cons (.ro (.cons .str (.cons .str .nil))) (.cons (.int .u8) (.cons (.int .u8) (.cons (.int .i64) (.cons (.int .u8) (.cons (.int .u8) (.cons (.int .u64) (.cons (.int .u64) .nil)))))))))))))) (.cons (.agg (.cons .bool (.cons (.int .u8) (.cons (.int .u8) (.cons (.int .u8) (.cons (.int .u16) (.cons (.int .u16) (.cons (.int .u16) (.cons (.int .u8) (.cons (.int .u8) (.cons (.int .u8) (.cons .bool .nil)))))))))))) (.cons (.agg (.cons .bool (.cons (.int .u8) (.cons (.int .u8) (.cons (.int .u8) (.cons (.int .u16) (.cons (.int .u16) (.cons (.int .u16) (.cons (.int .u8) (.cons (.int .u8) (.cons (.int .u8) (.cons .bool .nil)))))))))))) (.cons (.one (.c (.int .u64))) (.cons (.one (.c .bool)) .nil)))))), (.cons (.one (.c .bool)) .nil)⟩
def F4_J519039 : Nat →
  Arr
      [PT.int IntKind.u64, PT.int IntKind.i64, PT.int IntKind.i64,
        PT.list
          (CTs.cons CT.bool
            (CTs.cons (CT.int IntKind.u8)
              (CTs.cons (CT.int IntKind.u64)
                (CTs.cons (CT.int IntKind.u64)
                  (CTs.cons CT.str
                    (CTs.cons (CT.ro (CTs.cons CT.str (CTs.cons CT.str CTs.nil)))
                      (CTs.cons (CT.int IntKind.u8)
                        (CTs.cons (CT.int IntKind.u8)
                          (CTs.cons (CT.int IntKind.i64)
                            (CTs.cons (CT.int IntKind.u8)
                              (CTs.cons (CT.int IntKind.u8)
                                (CTs.cons (CT.int IntKind.u64)
                                  (CTs.cons (CT.int IntKind.u64)
                                    (CTs.cons CT.bool
                                      (CTs.cons (CT.int IntKind.u8)
                                        (CTs.cons (CT.int IntKind.u64)
                                          (CTs.cons (CT.int IntKind.u64)
                                            (CTs.cons CT.str
                                              (CTs.cons (CT.ro (CTs.cons CT.str (CTs.cons CT.str CTs.nil)))
                                                (CTs.cons (CT.int IntKind.u8)
                                                  (CTs.cons (CT.int IntKind.u8)
                                                    (CTs.cons (CT.int IntKind.i64)
                                                      (CTs.cons (CT.int IntKind.u8)
                                                        (CTs.cons (CT.int IntKind.u8)
                                                          (CTs.cons (CT.int IntKind.u64)
                                                            (CTs.cons (CT.int IntKind.u64)
                                                              CTs.nil))))))))))))))))))))))))))]
      (Option (Bool × Unit)) →
    UInt64 →
      Bool →
        Bool →
          Int64 →
            Int64 →
              Bool →
                UInt8 →
                  UInt64 →
                    UInt64 →
                      List UInt8 →
                        List (List UInt8 × List UInt8) →
                          UInt8 →
                            UInt8 →
                              Int64 →
                                UInt8 →
                                  UInt8 →
                                    UInt64 →
                                      UInt64 →
                                        UInt8 →
                                          UInt64 →
                                            UInt64 →
                                              UInt8 →
                                                UInt64 →
                                                  UInt64 →
                                                    List
                                                        (Bool ×
                                                          UInt8 ×
                                                            UInt64 ×
                                                              UInt64 ×
                                                                List UInt8 ×
                                                                  List (List UInt8 × List UInt8) ×
                                                                    UInt8 ×
                                                                      UInt8 ×
                                                                        Int64 ×
                                                                          UInt8 ×
                                                                            UInt8 ×
                                                                              UInt64 ×
                                                                                UInt64 ×
                                                                                  Bool ×
                                                                                    UInt8 ×
                                                                                      UInt64 ×
                                                                                        UInt64 ×
                                                                                          List UInt8 ×
                                                                                            List
                                                                                                (List UInt8 ×
                                                                                                  List UInt8) ×
                                                                                              UInt8 ×
                                                                                                UInt8 ×
                                                                                                  Int64 ×
                                                                                                    UInt8 ×
                                                                                                      UInt8 ×
                                                                                                        UInt64 ×
                                                                                                          UInt64) →
                                                      Option (Bool × Unit) := fun (n : Nat)
    (rec :
      Arr
        [PT.int IntKind.u64, PT.int IntKind.i64, PT.int IntKind.i64,
          PT.list
            (CTs.cons CT.bool
              (CTs.cons (CT.int IntKind.u8)
                (CTs.cons (CT.int IntKind.u64)
                  (CTs.cons (CT.int IntKind.u64)
                    (CTs.cons CT.str
                      (CTs.cons (CT.ro (CTs.cons CT.str (CTs.cons CT.str CTs.nil)))
                        (CTs.cons (CT.int IntKind.u8)
                          (CTs.cons (CT.int IntKind.u8)
                            (CTs.cons (CT.int IntKind.i64)
                              (CTs.cons (CT.int IntKind.u8)
                                (CTs.cons (CT.int IntKind.u8)
                                  (CTs.cons (CT.int IntKind.u64)
                                    (CTs.cons (CT.int IntKind.u64)
                                      (CTs.cons CT.bool
                                        (CTs.cons (CT.int IntKind.u8)
                                          (CTs.cons (CT.int IntKind.u64)
                                            (CTs.cons (CT.int IntKind.u64)
                                              (CTs.cons CT.str
                                                (CTs.cons (CT.ro (CTs.cons CT.str (CTs.cons CT.str CTs.nil)))
                                                  (CTs.cons (CT.int IntKind.u8)
                                                    (CTs.cons (CT.int IntKind.u8)
                                                      (CTs.cons (CT.int IntKind.i64)
                                                        (CTs.cons (CT.int IntKind.u8)
                                                          (CTs.cons (CT.int IntKind.u8)
                                                            (CTs.cons (CT.int IntKind.u64)
                                                              (CTs.cons (CT.int IntKind.u64)
                                                                CTs.nil))))))))))))))))))))))))))]
        (Option (Bool × Unit)))
    (above_4 : UInt64) (ok want : Bool) (t_7 t_1_3 : Int64) (j0 : Bool) (j1 : UInt8) (j2 j3 : UInt64) (j4 : List UInt8)
    (j5 : List (List UInt8 × List UInt8)) (j6 j7 : UInt8) (j8 : Int64) (j9 j10 : UInt8) (j11 j12 : UInt64) (k0 : UInt8)
    (k1 k2 : UInt64) (l0 : UInt8) (l1 l2 : UInt64)
    (t_2_3 :
      List
        (Bool ×
          UInt8 ×
            UInt64 ×
              UInt64 ×
                List UInt8 ×
                  List (List UInt8 × List UInt8) ×
                    UInt8 ×
                      UInt8 ×
                        Int64 ×
                          UInt8 ×
                            UInt8 ×
                              UInt64 ×
                                UInt64 ×
                                  Bool ×
                                    UInt8 ×
                                      UInt64 ×
                                        UInt64 ×
                                          List UInt8 ×
                                            List (List UInt8 × List UInt8) ×
                                              UInt8 × UInt8 × Int64 × UInt8 × UInt8 × UInt64 × UInt64)) =>
  oite (!ok == want) (some (false, ()))
    (oite ok
      (obind
        (F16 n
          ((j0, j1, j2, j3, j4, j5, j6, j7, j8, j9, j10, j11, j12), true, (0 : UInt8), (0 : UInt64), (0 : UInt64), [],
            [], (0 : UInt8), (0 : UInt8), (0 : Int64), (0 : UInt8), k0, k1, l2))
        fun (x_8 : Bool × Unit) =>
        oite (!Prod.fst x_8) (some (false, ()))
          (oite (!ok)
            (obind
              (F16 n
                ((j0, j1, j2, j3, j4, j5, j6, j7, j8, j9, j10, j11, j12), false, (0 : UInt8), (0 : UInt64),
                  (0 : UInt64), [], [], (0 : UInt8), (0 : UInt8), (0 : Int64), (0 : UInt8), (0 : UInt8), (0 : UInt64),
                  (0 : UInt64)))
              fun (x_9 : Bool × Unit) =>
              oite (!Prod.fst x_9) (some (false, ())) (rec above_4 t_7 (t_1_3 + (1 : Int64)) t_2_3))
            (rec above_4 t_7 (t_1_3 + (1 : Int64)) t_2_3)))
      (oite (!ok)
        (obind
          (F16 n
            ((j0, j1, j2, j3, j4, j5, j6, j7, j8, j9, j10, j11, j12), false, (0 : UInt8), (0 : UInt64), (0 : UInt64),
              [], [], (0 : UInt8), (0 : UInt8), (0 : Int64), (0 : UInt8), (0 : UInt8), (0 : UInt64), (0 : UInt64)))
          fun (x_8 : Bool × Unit) =>
          oite (!Prod.fst x_8) (some (false, ())) (rec above_4 t_7 (t_1_3 + (1 : Int64)) t_2_3))
        (rec above_4 t_7 (t_1_3 + (1 : Int64)) t_2_3)))
def F4_J64879 : Nat →
  Arr
      [PT.int IntKind.u64, PT.int IntKind.i64, PT.int IntKind.i64,
        PT.list
          (CTs.cons CT.bool
            (CTs.cons (CT.int IntKind.u8)
              (CTs.cons (CT.int IntKind.u64)
                (CTs.cons (CT.int IntKind.u64)
                  (CTs.cons CT.str
                    (CTs.cons (CT.ro (CTs.cons CT.str (CTs.cons CT.str CTs.nil)))
                      (CTs.cons (CT.int IntKind.u8)
                        (CTs.cons (CT.int IntKind.u8)
                          (CTs.cons (CT.int IntKind.i64)
                            (CTs.cons (CT.int IntKind.u8)
                              (CTs.cons (CT.int IntKind.u8)
                                (CTs.cons (CT.int IntKind.u64)
                                  (CTs.cons (CT.int IntKind.u64)
                                    (CTs.cons CT.bool
                                      (CTs.cons (CT.int IntKind.u8)
                                        (CTs.cons (CT.int IntKind.u64)
                                          (CTs.cons (CT.int IntKind.u64)
                                            (CTs.cons CT.str
                                              (CTs.cons (CT.ro (CTs.cons CT.str (CTs.cons CT.str CTs.nil)))
                                                (CTs.cons (CT.int IntKind.u8)
                                                  (CTs.cons (CT.int IntKind.u8)
                                                    (CTs.cons (CT.int IntKind.i64)
                                                      (CTs.cons (CT.int IntKind.u8)
                                                        (CTs.cons (CT.int IntKind.u8)
                                                          (CTs.cons (CT.int IntKind.u64)
                                                            (CTs.cons (CT.int IntKind.u64)
                                                              CTs.nil))))))))))))))))))))))))))]
      (Option (Bool × Unit)) →
    UInt64 →
      Int64 →
        Int64 →
          Bool →
            UInt8 →
              UInt64 →
                UInt64 →
                  List UInt8 →
                    List (List UInt8 × List UInt8) →
                      UInt8 →
                        UInt8 →
                          Int64 →
                            UInt8 →
                              UInt8 →
                                UInt64 →
                                  UInt64 →
                                    Bool →
                                      UInt8 →
                                        UInt64 →
                                          UInt64 →
                                            List UInt8 →
                                              List (List UInt8 × List UInt8) →
                                                UInt8 →
                                                  UInt8 →
                                                    Int64 →
                                                      UInt8 →
                                                        UInt8 →
                                                          UInt64 →
                                                            UInt64 →
                                                              List
                                                                  (Bool ×
                                                                    UInt8 ×
                                                                      UInt64 ×
                                                                        UInt64 ×
                                                                          List UInt8 ×
                                                                            List (List UInt8 × List UInt8) ×
                                                                              UInt8 ×
                                                                                UInt8 ×
                                                                                  Int64 ×
                                                                                    UInt8 ×
                                                                                      UInt8 ×
                                                                                        UInt64 ×
                                                                                          UInt64 ×
                                                                                            Bool ×
                                                                                              UInt8 ×
                                                                                                UInt64 ×
                                                                                                  UInt64 ×
                                                                                                    List UInt8 ×
                                                                                                      List
                                                                                                          (List UInt8 ×
                                                                                                            List
                                                                                                              UInt8) ×
                                                                                                        UInt8 ×
                                                                                                          UInt8 ×
                                                                                                            Int64 ×
                                                                                                              UInt8 ×
                                                                                                                UInt8 ×
                                                                                                                  UInt64 ×
                                                                                                                    UInt64) →
                                                                Option (Bool × Unit) := fun (n : Nat)
    (rec :
      Arr
        [PT.int IntKind.u64, PT.int IntKind.i64, PT.int IntKind.i64,
          PT.list
            (CTs.cons CT.bool
              (CTs.cons (CT.int IntKind.u8)
                (CTs.cons (CT.int IntKind.u64)
                  (CTs.cons (CT.int IntKind.u64)
                    (CTs.cons CT.str
                      (CTs.cons (CT.ro (CTs.cons CT.str (CTs.cons CT.str CTs.nil)))
                        (CTs.cons (CT.int IntKind.u8)
                          (CTs.cons (CT.int IntKind.u8)
                            (CTs.cons (CT.int IntKind.i64)
                              (CTs.cons (CT.int IntKind.u8)
                                (CTs.cons (CT.int IntKind.u8)
                                  (CTs.cons (CT.int IntKind.u64)
                                    (CTs.cons (CT.int IntKind.u64)
                                      (CTs.cons CT.bool
                                        (CTs.cons (CT.int IntKind.u8)
                                          (CTs.cons (CT.int IntKind.u64)
                                            (CTs.cons (CT.int IntKind.u64)
                                              (CTs.cons CT.str
                                                (CTs.cons (CT.ro (CTs.cons CT.str (CTs.cons CT.str CTs.nil)))
                                                  (CTs.cons (CT.int IntKind.u8)
                                                    (CTs.cons (CT.int IntKind.u8)
                                                      (CTs.cons (CT.int IntKind.i64)
                                                        (CTs.cons (CT.int IntKind.u8)
                                                          (CTs.cons (CT.int IntKind.u8)
                                                            (CTs.cons (CT.int IntKind.u64)
                                                              (CTs.cons (CT.int IntKind.u64)
                                                                CTs.nil))))))))))))))))))))))))))]
        (Option (Bool × Unit)))
    (above_3 : UInt64) (t_6 t_1_2 : Int64) (p0_1 : Bool) (p1_1 : UInt8) (p2_1 p3_1 : UInt64) (p4_1 : List UInt8)
    (p5_1 : List (List UInt8 × List UInt8)) (p6_1 p7_1 : UInt8) (p8_1 : Int64) (p9_1 p10_1 : UInt8)
    (p11_1 p12_1 : UInt64) (p13_1 : Bool) (p14_1 : UInt8) (p15_1 p16_1 : UInt64) (p17_1 : List UInt8)
    (p18_1 : List (List UInt8 × List UInt8)) (p19_1 p20_1 : UInt8) (p21_1 : Int64) (p22_1 p23_1 : UInt8)
    (p24_1 p25_1 : UInt64)
    (t_2_2 :
      List
        (Bool ×
          UInt8 ×
            UInt64 ×
              UInt64 ×
                List UInt8 ×
                  List (List UInt8 × List UInt8) ×
                    UInt8 ×
                      UInt8 ×
                        Int64 ×
                          UInt8 ×
                            UInt8 ×
                              UInt64 ×
                                UInt64 ×
                                  Bool ×
                                    UInt8 ×
                                      UInt64 ×
                                        UInt64 ×
                                          List UInt8 ×
                                            List (List UInt8 × List UInt8) ×
                                              UInt8 × UInt8 × Int64 × UInt8 × UInt8 × UInt64 × UInt64)) =>
  obind
    (F20 n
      ((p0_1, p1_1, p2_1, p3_1, p4_1, p5_1, p6_1, p7_1, p8_1, p9_1, p10_1, p11_1, p12_1), p13_1, p14_1, p15_1, p16_1,
        p17_1, p18_1, p19_1, p20_1, p21_1, p22_1, p23_1, p24_1, p25_1))
    fun
      (x_7 :
        ((Bool ×
              UInt8 ×
                UInt64 ×
                  UInt64 ×
                    List UInt8 ×
                      List (List UInt8 × List UInt8) × UInt8 × UInt8 × Int64 × UInt8 × UInt8 × UInt64 × UInt64) ×
            Bool) ×
          Unit) =>
    ojoinA (519039 : Nat)
      [PT.int IntKind.u64, PT.bool, PT.bool, PT.int IntKind.i64, PT.int IntKind.i64, PT.bool, PT.int IntKind.u8,
        PT.int IntKind.u64, PT.int IntKind.u64, PT.bytes, PT.list (CTs.cons CT.str (CTs.cons CT.str CTs.nil)),
        PT.int IntKind.u8, PT.int IntKind.u8, PT.int IntKind.i64, PT.int IntKind.u8, PT.int IntKind.u8,
        PT.int IntKind.u64, PT.int IntKind.u64, PT.int IntKind.u8, PT.int IntKind.u64, PT.int IntKind.u64,
        PT.int IntKind.u8, PT.int IntKind.u64, PT.int IntKind.u64,
        PT.list
          (CTs.cons CT.bool
            (CTs.cons (CT.int IntKind.u8)
              (CTs.cons (CT.int IntKind.u64)
                (CTs.cons (CT.int IntKind.u64)
                  (CTs.cons CT.str
                    (CTs.cons (CT.ro (CTs.cons CT.str (CTs.cons CT.str CTs.nil)))
                      (CTs.cons (CT.int IntKind.u8)
                        (CTs.cons (CT.int IntKind.u8)
                          (CTs.cons (CT.int IntKind.i64)
                            (CTs.cons (CT.int IntKind.u8)
                              (CTs.cons (CT.int IntKind.u8)
                                (CTs.cons (CT.int IntKind.u64)
                                  (CTs.cons (CT.int IntKind.u64)
                                    (CTs.cons CT.bool
                                      (CTs.cons (CT.int IntKind.u8)
                                        (CTs.cons (CT.int IntKind.u64)
                                          (CTs.cons (CT.int IntKind.u64)
                                            (CTs.cons CT.str
                                              (CTs.cons (CT.ro (CTs.cons CT.str (CTs.cons CT.str CTs.nil)))
                                                (CTs.cons (CT.int IntKind.u8)
                                                  (CTs.cons (CT.int IntKind.u8)
                                                    (CTs.cons (CT.int IntKind.i64)
                                                      (CTs.cons (CT.int IntKind.u8)
                                                        (CTs.cons (CT.int IntKind.u8)
                                                          (CTs.cons (CT.int IntKind.u64)
                                                            (CTs.cons (CT.int IntKind.u64)
                                                              CTs.nil))))))))))))))))))))))))))]
      (fun
          (J :
            Arr
              [PT.int IntKind.u64, PT.bool, PT.bool, PT.int IntKind.i64, PT.int IntKind.i64, PT.bool, PT.int IntKind.u8,
                PT.int IntKind.u64, PT.int IntKind.u64, PT.bytes, PT.list (CTs.cons CT.str (CTs.cons CT.str CTs.nil)),
                PT.int IntKind.u8, PT.int IntKind.u8, PT.int IntKind.i64, PT.int IntKind.u8, PT.int IntKind.u8,
                PT.int IntKind.u64, PT.int IntKind.u64, PT.int IntKind.u8, PT.int IntKind.u64, PT.int IntKind.u64,
                PT.int IntKind.u8, PT.int IntKind.u64, PT.int IntKind.u64,
                PT.list
                  (CTs.cons CT.bool
                    (CTs.cons (CT.int IntKind.u8)
                      (CTs.cons (CT.int IntKind.u64)
                        (CTs.cons (CT.int IntKind.u64)
                          (CTs.cons CT.str
                            (CTs.cons (CT.ro (CTs.cons CT.str (CTs.cons CT.str CTs.nil)))
                              (CTs.cons (CT.int IntKind.u8)
                                (CTs.cons (CT.int IntKind.u8)
                                  (CTs.cons (CT.int IntKind.i64)
                                    (CTs.cons (CT.int IntKind.u8)
                                      (CTs.cons (CT.int IntKind.u8)
                                        (CTs.cons (CT.int IntKind.u64)
                                          (CTs.cons (CT.int IntKind.u64)
                                            (CTs.cons CT.bool
                                              (CTs.cons (CT.int IntKind.u8)
                                                (CTs.cons (CT.int IntKind.u64)
                                                  (CTs.cons (CT.int IntKind.u64)
                                                    (CTs.cons CT.str
                                                      (CTs.cons (CT.ro (CTs.cons CT.str (CTs.cons CT.str CTs.nil)))
                                                        (CTs.cons (CT.int IntKind.u8)
                                                          (CTs.cons (CT.int IntKind.u8)
                                                            (CTs.cons (CT.int IntKind.i64)
                                                              (CTs.cons (CT.int IntKind.u8)
                                                                (CTs.cons (CT.int IntKind.u8)
                                                                  (CTs.cons (CT.int IntKind.u64)
                                                                    (CTs.cons (CT.int IntKind.u64)
                                                                      CTs.nil))))))))))))))))))))))))))]
              (Option (Bool × Unit))) =>
        oite p0_1
          (oite p13_1
            (oite (decide (p10_1 = p23_1))
              (oite (decide ((0 : UInt64) < p24_1))
                (oite (decide (p24_1 - (1 : UInt64) = p12_1))
                  (J above_3 (Prod.snd (Prod.fst x_7)) (decide (p24_1 ≤ p25_1)) t_6 t_1_2
                    (Prod.fst (Prod.fst (Prod.fst x_7))) (Prod.fst (Prod.snd (Prod.fst (Prod.fst x_7))))
                    (Prod.fst (Prod.snd (Prod.snd (Prod.fst (Prod.fst x_7)))))
                    (Prod.fst (Prod.snd (Prod.snd (Prod.snd (Prod.fst (Prod.fst x_7))))))
                    (Prod.fst (Prod.snd (Prod.snd (Prod.snd (Prod.snd (Prod.fst (Prod.fst x_7)))))))
                    (Prod.fst (Prod.snd (Prod.snd (Prod.snd (Prod.snd (Prod.snd (Prod.fst (Prod.fst x_7))))))))
                    (Prod.fst
                      (Prod.snd (Prod.snd (Prod.snd (Prod.snd (Prod.snd (Prod.snd (Prod.fst (Prod.fst x_7)))))))))
                    (Prod.fst
                      (Prod.snd
                        (Prod.snd (Prod.snd (Prod.snd (Prod.snd (Prod.snd (Prod.snd (Prod.fst (Prod.fst x_7))))))))))
                    (Prod.fst
                      (Prod.snd
                        (Prod.snd
                          (Prod.snd (Prod.snd (Prod.snd (Prod.snd (Prod.snd (Prod.snd (Prod.fst (Prod.fst x_7)))))))))))
                    (Prod.fst
                      (Prod.snd
                        (Prod.snd
                          (Prod.snd
                            (Prod.snd
                              (Prod.snd (Prod.snd (Prod.snd (Prod.snd (Prod.snd (Prod.fst (Prod.fst x_7))))))))))))
                    (Prod.fst
                      (Prod.snd
                        (Prod.snd
                          (Prod.snd
                            (Prod.snd
                              (Prod.snd
                                (Prod.snd (Prod.snd (Prod.snd (Prod.snd (Prod.snd (Prod.fst (Prod.fst x_7)))))))))))))
                    (Prod.fst
                      (Prod.snd
                        (Prod.snd
                          (Prod.snd
                            (Prod.snd
                              (Prod.snd
                                (Prod.snd
                                  (Prod.snd
                                    (Prod.snd (Prod.snd (Prod.snd (Prod.snd (Prod.fst (Prod.fst x_7))))))))))))))
                    (Prod.snd
                      (Prod.snd
                        (Prod.snd
                          (Prod.snd
                            (Prod.snd
                              (Prod.snd
                                (Prod.snd
                                  (Prod.snd
                                    (Prod.snd (Prod.snd (Prod.snd (Prod.snd (Prod.fst (Prod.fst x_7))))))))))))))
                    p10_1 p11_1 p12_1 p23_1 p24_1 p25_1 t_2_2)
                  (J above_3 (Prod.snd (Prod.fst x_7)) false t_6 t_1_2 (Prod.fst (Prod.fst (Prod.fst x_7)))
                    (Prod.fst (Prod.snd (Prod.fst (Prod.fst x_7))))
                    (Prod.fst (Prod.snd (Prod.snd (Prod.fst (Prod.fst x_7)))))
                    (Prod.fst (Prod.snd (Prod.snd (Prod.snd (Prod.fst (Prod.fst x_7))))))
                    (Prod.fst (Prod.snd (Prod.snd (Prod.snd (Prod.snd (Prod.fst (Prod.fst x_7)))))))
                    (Prod.fst (Prod.snd (Prod.snd (Prod.snd (Prod.snd (Prod.snd (Prod.fst (Prod.fst x_7))))))))
                    (Prod.fst
                      (Prod.snd (Prod.snd (Prod.snd (Prod.snd (Prod.snd (Prod.snd (Prod.fst (Prod.fst x_7)))))))))
                    (Prod.fst
                      (Prod.snd
                        (Prod.snd (Prod.snd (Prod.snd (Prod.snd (Prod.snd (Prod.snd (Prod.fst (Prod.fst x_7))))))))))
                    (Prod.fst
                      (Prod.snd
                        (Prod.snd
                          (Prod.snd (Prod.snd (Prod.snd (Prod.snd (Prod.snd (Prod.snd (Prod.fst (Prod.fst x_7)))))))))))
                    (Prod.fst
                      (Prod.snd
                        (Prod.snd
                          (Prod.snd
                            (Prod.snd
                              (Prod.snd (Prod.snd (Prod.snd (Prod.snd (Prod.snd (Prod.fst (Prod.fst x_7))))))))))))
                    (Prod.fst
                      (Prod.snd
                        (Prod.snd
                          (Prod.snd
                            (Prod.snd
                              (Prod.snd
                                (Prod.snd (Prod.snd (Prod.snd (Prod.snd (Prod.snd (Prod.fst (Prod.fst x_7)))))))))))))
                    (Prod.fst
                      (Prod.snd
                        (Prod.snd
                          (Prod.snd
                            (Prod.snd
                              (Prod.snd
                                (Prod.snd
                                  (Prod.snd
                                    (Prod.snd (Prod.snd (Prod.snd (Prod.snd (Prod.fst (Prod.fst x_7))))))))))))))
                    (Prod.snd
                      (Prod.snd
                        (Prod.snd
                          (Prod.snd
                            (Prod.snd
                              (Prod.snd
                                (Prod.snd
                                  (Prod.snd
                                    (Prod.snd (Prod.snd (Prod.snd (Prod.snd (Prod.fst (Prod.fst x_7))))))))))))))
                    p10_1 p11_1 p12_1 p23_1 p24_1 p25_1 t_2_2))
                (J above_3 (Prod.snd (Prod.fst x_7)) false t_6 t_1_2 (Prod.fst (Prod.fst (Prod.fst x_7)))
                  (Prod.fst (Prod.snd (Prod.fst (Prod.fst x_7))))
                  (Prod.fst (Prod.snd (Prod.snd (Prod.fst (Prod.fst x_7)))))
                  (Prod.fst (Prod.snd (Prod.snd (Prod.snd (Prod.fst (Prod.fst x_7))))))
                  (Prod.fst (Prod.snd (Prod.snd (Prod.snd (Prod.snd (Prod.fst (Prod.fst x_7)))))))
                  (Prod.fst (Prod.snd (Prod.snd (Prod.snd (Prod.snd (Prod.snd (Prod.fst (Prod.fst x_7))))))))
                  (Prod.fst (Prod.snd (Prod.snd (Prod.snd (Prod.snd (Prod.snd (Prod.snd (Prod.fst (Prod.fst x_7)))))))))
                  (Prod.fst
                    (Prod.snd
                      (Prod.snd (Prod.snd (Prod.snd (Prod.snd (Prod.snd (Prod.snd (Prod.fst (Prod.fst x_7))))))))))
                  (Prod.fst
                    (Prod.snd
                      (Prod.snd
                        (Prod.snd (Prod.snd (Prod.snd (Prod.snd (Prod.snd (Prod.snd (Prod.fst (Prod.fst x_7)))))))))))
                  (Prod.fst
                    (Prod.snd
                      (Prod.snd
                        (Prod.snd
                          (Prod.snd
                            (Prod.snd (Prod.snd (Prod.snd (Prod.snd (Prod.snd (Prod.fst (Prod.fst x_7))))))))))))
                  (Prod.fst
                    (Prod.snd
                      (Prod.snd
                        (Prod.snd
                          (Prod.snd
                            (Prod.snd
                              (Prod.snd (Prod.snd (Prod.snd (Prod.snd (Prod.snd (Prod.fst (Prod.fst x_7)))))))))))))
                  (Prod.fst
                    (Prod.snd
                      (Prod.snd
                        (Prod.snd
                          (Prod.snd
                            (Prod.snd
                              (Prod.snd
                                (Prod.snd (Prod.snd (Prod.snd (Prod.snd (Prod.snd (Prod.fst (Prod.fst x_7))))))))))))))
                  (Prod.snd
                    (Prod.snd
                      (Prod.snd
                        (Prod.snd
                          (Prod.snd
                            (Prod.snd
                              (Prod.snd
                                (Prod.snd (Prod.snd (Prod.snd (Prod.snd (Prod.snd (Prod.fst (Prod.fst x_7))))))))))))))
                  p10_1 p11_1 p12_1 p23_1 p24_1 p25_1 t_2_2))
              (J above_3 (Prod.snd (Prod.fst x_7)) false t_6 t_1_2 (Prod.fst (Prod.fst (Prod.fst x_7)))
                (Prod.fst (Prod.snd (Prod.fst (Prod.fst x_7))))
                (Prod.fst (Prod.snd (Prod.snd (Prod.fst (Prod.fst x_7)))))
                (Prod.fst (Prod.snd (Prod.snd (Prod.snd (Prod.fst (Prod.fst x_7))))))
                (Prod.fst (Prod.snd (Prod.snd (Prod.snd (Prod.snd (Prod.fst (Prod.fst x_7)))))))
                (Prod.fst (Prod.snd (Prod.snd (Prod.snd (Prod.snd (Prod.snd (Prod.fst (Prod.fst x_7))))))))
                (Prod.fst (Prod.snd (Prod.snd (Prod.snd (Prod.snd (Prod.snd (Prod.snd (Prod.fst (Prod.fst x_7)))))))))
                (Prod.fst
                  (Prod.snd
                    (Prod.snd (Prod.snd (Prod.snd (Prod.snd (Prod.snd (Prod.snd (Prod.fst (Prod.fst x_7))))))))))
                (Prod.fst
                  (Prod.snd
                    (Prod.snd
                      (Prod.snd (Prod.snd (Prod.snd (Prod.snd (Prod.snd (Prod.snd (Prod.fst (Prod.fst x_7)))))))))))
                (Prod.fst
                  (Prod.snd
                    (Prod.snd
                      (Prod.snd
                        (Prod.snd (Prod.snd (Prod.snd (Prod.snd (Prod.snd (Prod.snd (Prod.fst (Prod.fst x_7))))))))))))
                (Prod.fst
                  (Prod.snd
                    (Prod.snd
                      (Prod.snd
                        (Prod.snd
                          (Prod.snd
                            (Prod.snd (Prod.snd (Prod.snd (Prod.snd (Prod.snd (Prod.fst (Prod.fst x_7)))))))))))))
                (Prod.fst
                  (Prod.snd
                    (Prod.snd
                      (Prod.snd
                        (Prod.snd
                          (Prod.snd
                            (Prod.snd
                              (Prod.snd (Prod.snd (Prod.snd (Prod.snd (Prod.snd (Prod.fst (Prod.fst x_7))))))))))))))
                (Prod.snd
                  (Prod.snd
                    (Prod.snd
                      (Prod.snd
                        (Prod.snd
                          (Prod.snd
                            (Prod.snd
                              (Prod.snd (Prod.snd (Prod.snd (Prod.snd (Prod.snd (Prod.fst (Prod.fst x_7))))))))))))))
                p10_1 p11_1 p12_1 p23_1 p24_1 p25_1 t_2_2))
            (J above_3 (Prod.snd (Prod.fst x_7)) false t_6 t_1_2 (Prod.fst (Prod.fst (Prod.fst x_7)))
              (Prod.fst (Prod.snd (Prod.fst (Prod.fst x_7)))) (Prod.fst (Prod.snd (Prod.snd (Prod.fst (Prod.fst x_7)))))
              (Prod.fst (Prod.snd (Prod.snd (Prod.snd (Prod.fst (Prod.fst x_7))))))
              (Prod.fst (Prod.snd (Prod.snd (Prod.snd (Prod.snd (Prod.fst (Prod.fst x_7)))))))
              (Prod.fst (Prod.snd (Prod.snd (Prod.snd (Prod.snd (Prod.snd (Prod.fst (Prod.fst x_7))))))))
              (Prod.fst (Prod.snd (Prod.snd (Prod.snd (Prod.snd (Prod.snd (Prod.snd (Prod.fst (Prod.fst x_7)))))))))
              (Prod.fst
                (Prod.snd (Prod.snd (Prod.snd (Prod.snd (Prod.snd (Prod.snd (Prod.snd (Prod.fst (Prod.fst x_7))))))))))
              (Prod.fst
                (Prod.snd
                  (Prod.snd
                    (Prod.snd (Prod.snd (Prod.snd (Prod.snd (Prod.snd (Prod.snd (Prod.fst (Prod.fst x_7)))))))))))
              (Prod.fst
                (Prod.snd
                  (Prod.snd
                    (Prod.snd
                      (Prod.snd (Prod.snd (Prod.snd (Prod.snd (Prod.snd (Prod.snd (Prod.fst (Prod.fst x_7))))))))))))
              (Prod.fst
                (Prod.snd
                  (Prod.snd
                    (Prod.snd
                      (Prod.snd
                        (Prod.snd (Prod.snd (Prod.snd (Prod.snd (Prod.snd (Prod.snd (Prod.fst (Prod.fst x_7)))))))))))))
              (Prod.fst
                (Prod.snd
                  (Prod.snd
                    (Prod.snd
                      (Prod.snd
                        (Prod.snd
                          (Prod.snd
                            (Prod.snd (Prod.snd (Prod.snd (Prod.snd (Prod.snd (Prod.fst (Prod.fst x_7))))))))))))))
              (Prod.snd
                (Prod.snd
                  (Prod.snd
                    (Prod.snd
                      (Prod.snd
                        (Prod.snd
                          (Prod.snd
                            (Prod.snd (Prod.snd (Prod.snd (Prod.snd (Prod.snd (Prod.fst (Prod.fst x_7))))))))))))))
              p10_1 p11_1 p12_1 p23_1 p24_1 p25_1 t_2_2))
          (J above_3 (Prod.snd (Prod.fst x_7)) false t_6 t_1_2 (Prod.fst (Prod.fst (Prod.fst x_7)))
            (Prod.fst (Prod.snd (Prod.fst (Prod.fst x_7)))) (Prod.fst (Prod.snd (Prod.snd (Prod.fst (Prod.fst x_7)))))
            (Prod.fst (Prod.snd (Prod.snd (Prod.snd (Prod.fst (Prod.fst x_7))))))
            (Prod.fst (Prod.snd (Prod.snd (Prod.snd (Prod.snd (Prod.fst (Prod.fst x_7)))))))
            (Prod.fst (Prod.snd (Prod.snd (Prod.snd (Prod.snd (Prod.snd (Prod.fst (Prod.fst x_7))))))))
            (Prod.fst (Prod.snd (Prod.snd (Prod.snd (Prod.snd (Prod.snd (Prod.snd (Prod.fst (Prod.fst x_7)))))))))
            (Prod.fst
              (Prod.snd (Prod.snd (Prod.snd (Prod.snd (Prod.snd (Prod.snd (Prod.snd (Prod.fst (Prod.fst x_7))))))))))
            (Prod.fst
              (Prod.snd
                (Prod.snd (Prod.snd (Prod.snd (Prod.snd (Prod.snd (Prod.snd (Prod.snd (Prod.fst (Prod.fst x_7)))))))))))
            (Prod.fst
              (Prod.snd
                (Prod.snd
                  (Prod.snd
                    (Prod.snd (Prod.snd (Prod.snd (Prod.snd (Prod.snd (Prod.snd (Prod.fst (Prod.fst x_7))))))))))))
            (Prod.fst
              (Prod.snd
                (Prod.snd
                  (Prod.snd
                    (Prod.snd
                      (Prod.snd (Prod.snd (Prod.snd (Prod.snd (Prod.snd (Prod.snd (Prod.fst (Prod.fst x_7)))))))))))))
            (Prod.fst
              (Prod.snd
                (Prod.snd
                  (Prod.snd
                    (Prod.snd
                      (Prod.snd
                        (Prod.snd
                          (Prod.snd (Prod.snd (Prod.snd (Prod.snd (Prod.snd (Prod.fst (Prod.fst x_7))))))))))))))
            (Prod.snd
              (Prod.snd
                (Prod.snd
                  (Prod.snd
                    (Prod.snd
                      (Prod.snd
                        (Prod.snd
                          (Prod.snd (Prod.snd (Prod.snd (Prod.snd (Prod.snd (Prod.fst (Prod.fst x_7))))))))))))))
            p10_1 p11_1 p12_1 p23_1 p24_1 p25_1 t_2_2))
      (F4_J519039 n rec)
def F4_L32437 : Nat →
  Arr
      [PT.int IntKind.u64, PT.int IntKind.i64, PT.int IntKind.i64,
        PT.list
          (CTs.cons CT.bool
            (CTs.cons (CT.int IntKind.u8)
              (CTs.cons (CT.int IntKind.u64)
                (CTs.cons (CT.int IntKind.u64)
                  (CTs.cons CT.str
                    (CTs.cons (CT.ro (CTs.cons CT.str (CTs.cons CT.str CTs.nil)))
                      (CTs.cons (CT.int IntKind.u8)
                        (CTs.cons (CT.int IntKind.u8)
                          (CTs.cons (CT.int IntKind.i64)
                            (CTs.cons (CT.int IntKind.u8)
                              (CTs.cons (CT.int IntKind.u8)
                                (CTs.cons (CT.int IntKind.u64)
                                  (CTs.cons (CT.int IntKind.u64)
                                    (CTs.cons CT.bool
                                      (CTs.cons (CT.int IntKind.u8)
                                        (CTs.cons (CT.int IntKind.u64)
                                          (CTs.cons (CT.int IntKind.u64)
                                            (CTs.cons CT.str
                                              (CTs.cons (CT.ro (CTs.cons CT.str (CTs.cons CT.str CTs.nil)))
                                                (CTs.cons (CT.int IntKind.u8)
                                                  (CTs.cons (CT.int IntKind.u8)
                                                    (CTs.cons (CT.int IntKind.i64)
                                                      (CTs.cons (CT.int IntKind.u8)
                                                        (CTs.cons (CT.int IntKind.u8)
                                                          (CTs.cons (CT.int IntKind.u64)
                                                            (CTs.cons (CT.int IntKind.u64)
                                                              CTs.nil))))))))))))))))))))))))))]
      (Option (Bool × Unit)) →
    Arr
        [PT.int IntKind.u64, PT.int IntKind.i64, PT.int IntKind.i64, PT.int IntKind.i64, PT.int IntKind.i64, PT.bool,
          PT.int IntKind.u8, PT.int IntKind.u64, PT.int IntKind.u64, PT.bytes,
          PT.list (CTs.cons CT.str (CTs.cons CT.str CTs.nil)), PT.int IntKind.u8, PT.int IntKind.u8, PT.int IntKind.i64,
          PT.int IntKind.u8, PT.int IntKind.u8, PT.int IntKind.u64, PT.int IntKind.u64, PT.bool, PT.int IntKind.u8,
          PT.int IntKind.u64, PT.int IntKind.u64, PT.bytes, PT.list (CTs.cons CT.str (CTs.cons CT.str CTs.nil)),
          PT.int IntKind.u8, PT.int IntKind.u8, PT.int IntKind.i64, PT.int IntKind.u8, PT.int IntKind.u8,
          PT.int IntKind.u64, PT.int IntKind.u64,
          PT.list
            (CTs.cons CT.bool
              (CTs.cons (CT.int IntKind.u8)
                (CTs.cons (CT.int IntKind.u64)
                  (CTs.cons (CT.int IntKind.u64)
                    (CTs.cons CT.str
                      (CTs.cons (CT.ro (CTs.cons CT.str (CTs.cons CT.str CTs.nil)))
                        (CTs.cons (CT.int IntKind.u8)
                          (CTs.cons (CT.int IntKind.u8)
                            (CTs.cons (CT.int IntKind.i64)
                              (CTs.cons (CT.int IntKind.u8)
                                (CTs.cons (CT.int IntKind.u8)
                                  (CTs.cons (CT.int IntKind.u64)
                                    (CTs.cons (CT.int IntKind.u64)
                                      (CTs.cons CT.bool
                                        (CTs.cons (CT.int IntKind.u8)
                                          (CTs.cons (CT.int IntKind.u64)
                                            (CTs.cons (CT.int IntKind.u64)
                                              (CTs.cons CT.str
                                                (CTs.cons (CT.ro (CTs.cons CT.str (CTs.cons CT.str CTs.nil)))
                                                  (CTs.cons (CT.int IntKind.u8)
                                                    (CTs.cons (CT.int IntKind.u8)
                                                      (CTs.cons (CT.int IntKind.i64)
                                                        (CTs.cons (CT.int IntKind.u8)
                                                          (CTs.cons (CT.int IntKind.u8)
                                                            (CTs.cons (CT.int IntKind.u64)
                                                              (CTs.cons (CT.int IntKind.u64)
                                                                CTs.nil)))))))))))))))))))))))))),
          PT.list (CTs.cons (CT.int IntKind.u64) CTs.nil)]
        (Option (Bool × Unit)) →
      UInt64 →
        Int64 →
          Int64 →
            Int64 →
              Int64 →
                Bool →
                  UInt8 →
                    UInt64 →
                      UInt64 →
                        List UInt8 →
                          List (List UInt8 × List UInt8) →
                            UInt8 →
                              UInt8 →
                                Int64 →
                                  UInt8 →
                                    UInt8 →
                                      UInt64 →
                                        UInt64 →
                                          Bool →
                                            UInt8 →
                                              UInt64 →
                                                UInt64 →
                                                  List UInt8 →
                                                    List (List UInt8 × List UInt8) →
                                                      UInt8 →
                                                        UInt8 →
                                                          Int64 →
                                                            UInt8 →
                                                              UInt8 →
                                                                UInt64 →
                                                                  UInt64 →
                                                                    List
                                                                        (Bool ×
                                                                          UInt8 ×
                                                                            UInt64 ×
                                                                              UInt64 ×
                                                                                List UInt8 ×
                                                                                  List (List UInt8 × List UInt8) ×
                                                                                    UInt8 ×
                                                                                      UInt8 ×
                                                                                        Int64 ×
                                                                                          UInt8 ×
                                                                                            UInt8 ×
                                                                                              UInt64 ×
                                                                                                UInt64 ×
                                                                                                  Bool ×
                                                                                                    UInt8 ×
                                                                                                      UInt64 ×
                                                                                                        UInt64 ×
                                                                                                          List UInt8 ×
                                                                                                            List
                                                                                                                (List
                                                                                                                    UInt8 ×
                                                                                                                  List
                                                                                                                    UInt8) ×
                                                                                                              UInt8 ×
                                                                                                                UInt8 ×
                                                                                                                  Int64 ×
                                                                                                                    UInt8 ×
                                                                                                                      UInt8 ×
                                                                                                                        UInt64 ×
                                                                                                                          UInt64) →
                                                                      List UInt64 → Option (Bool × Unit) := fun (n : Nat)
    (rec :
      Arr
        [PT.int IntKind.u64, PT.int IntKind.i64, PT.int IntKind.i64,
          PT.list
            (CTs.cons CT.bool
              (CTs.cons (CT.int IntKind.u8)
                (CTs.cons (CT.int IntKind.u64)
                  (CTs.cons (CT.int IntKind.u64)
                    (CTs.cons CT.str
                      (CTs.cons (CT.ro (CTs.cons CT.str (CTs.cons CT.str CTs.nil)))
                        (CTs.cons (CT.int IntKind.u8)
                          (CTs.cons (CT.int IntKind.u8)
                            (CTs.cons (CT.int IntKind.i64)
                              (CTs.cons (CT.int IntKind.u8)
                                (CTs.cons (CT.int IntKind.u8)
                                  (CTs.cons (CT.int IntKind.u64)
                                    (CTs.cons (CT.int IntKind.u64)
                                      (CTs.cons CT.bool
                                        (CTs.cons (CT.int IntKind.u8)
                                          (CTs.cons (CT.int IntKind.u64)
                                            (CTs.cons (CT.int IntKind.u64)
                                              (CTs.cons CT.str
                                                (CTs.cons (CT.ro (CTs.cons CT.str (CTs.cons CT.str CTs.nil)))
                                                  (CTs.cons (CT.int IntKind.u8)
                                                    (CTs.cons (CT.int IntKind.u8)
                                                      (CTs.cons (CT.int IntKind.i64)
                                                        (CTs.cons (CT.int IntKind.u8)
                                                          (CTs.cons (CT.int IntKind.u8)
                                                            (CTs.cons (CT.int IntKind.u64)
                                                              (CTs.cons (CT.int IntKind.u64)
                                                                CTs.nil))))))))))))))))))))))))))]
        (Option (Bool × Unit)))
    (rec_1 :
      Arr
        [PT.int IntKind.u64, PT.int IntKind.i64, PT.int IntKind.i64, PT.int IntKind.i64, PT.int IntKind.i64, PT.bool,
          PT.int IntKind.u8, PT.int IntKind.u64, PT.int IntKind.u64, PT.bytes,
          PT.list (CTs.cons CT.str (CTs.cons CT.str CTs.nil)), PT.int IntKind.u8, PT.int IntKind.u8, PT.int IntKind.i64,
          PT.int IntKind.u8, PT.int IntKind.u8, PT.int IntKind.u64, PT.int IntKind.u64, PT.bool, PT.int IntKind.u8,
          PT.int IntKind.u64, PT.int IntKind.u64, PT.bytes, PT.list (CTs.cons CT.str (CTs.cons CT.str CTs.nil)),
          PT.int IntKind.u8, PT.int IntKind.u8, PT.int IntKind.i64, PT.int IntKind.u8, PT.int IntKind.u8,
          PT.int IntKind.u64, PT.int IntKind.u64,
          PT.list
            (CTs.cons CT.bool
              (CTs.cons (CT.int IntKind.u8)
                (CTs.cons (CT.int IntKind.u64)
                  (CTs.cons (CT.int IntKind.u64)
                    (CTs.cons CT.str
                      (CTs.cons (CT.ro (CTs.cons CT.str (CTs.cons CT.str CTs.nil)))
                        (CTs.cons (CT.int IntKind.u8)
                          (CTs.cons (CT.int IntKind.u8)
                            (CTs.cons (CT.int IntKind.i64)
                              (CTs.cons (CT.int IntKind.u8)
                                (CTs.cons (CT.int IntKind.u8)
                                  (CTs.cons (CT.int IntKind.u64)
                                    (CTs.cons (CT.int IntKind.u64)
                                      (CTs.cons CT.bool
                                        (CTs.cons (CT.int IntKind.u8)
                                          (CTs.cons (CT.int IntKind.u64)
                                            (CTs.cons (CT.int IntKind.u64)
                                              (CTs.cons CT.str
                                                (CTs.cons (CT.ro (CTs.cons CT.str (CTs.cons CT.str CTs.nil)))
                                                  (CTs.cons (CT.int IntKind.u8)
                                                    (CTs.cons (CT.int IntKind.u8)
                                                      (CTs.cons (CT.int IntKind.i64)
                                                        (CTs.cons (CT.int IntKind.u8)
                                                          (CTs.cons (CT.int IntKind.u8)
                                                            (CTs.cons (CT.int IntKind.u64)
                                                              (CTs.cons (CT.int IntKind.u64)
                                                                CTs.nil)))))))))))))))))))))))))),
          PT.list (CTs.cons (CT.int IntKind.u64) CTs.nil)]
        (Option (Bool × Unit)))
    (above_2 : UInt64) (t_3 t_1_1 t_2_1 t_3_1 : Int64) (p0 : Bool) (p1 : UInt8) (p2 p3 : UInt64) (p4 : List UInt8)
    (p5 : List (List UInt8 × List UInt8)) (p6 p7 : UInt8) (p8 : Int64) (p9 p10 : UInt8) (p11 p12 : UInt64) (p13 : Bool)
    (p14 : UInt8) (p15 p16 : UInt64) (p17 : List UInt8) (p18 : List (List UInt8 × List UInt8)) (p19 p20 : UInt8)
    (p21 : Int64) (p22 p23 : UInt8) (p24 p25 : UInt64)
    (t_4 :
      List
        (Bool ×
          UInt8 ×
            UInt64 ×
              UInt64 ×
                List UInt8 ×
                  List (List UInt8 × List UInt8) ×
                    UInt8 ×
                      UInt8 ×
                        Int64 ×
                          UInt8 ×
                            UInt8 ×
                              UInt64 ×
                                UInt64 ×
                                  Bool ×
                                    UInt8 ×
                                      UInt64 ×
                                        UInt64 ×
                                          List UInt8 ×
                                            List (List UInt8 × List UInt8) ×
                                              UInt8 × UInt8 × Int64 × UInt8 × UInt8 × UInt64 × UInt64))
    (t_5 : List UInt64) =>
  oite (decide (t_3_1 < t_2_1))
    (oite (decide ((0 : Int) ≤ Int64.toInt t_3_1) && Nat.blt (Int.toNat (Int64.toInt t_3_1)) (List.length t_5))
      (obind t_5[Int.toNat (Int64.toInt t_3_1)]? fun (x_5 : UInt64) =>
        obind (F14 n ((p0, p1, p2, p3, p4, p5, p6, p7, p8, p9, p10, p11, p12), x_5))
          fun
            (x_6 :
              ((Bool ×
                    UInt8 ×
                      UInt64 ×
                        UInt64 ×
                          List UInt8 ×
                            List (List UInt8 × List UInt8) × UInt8 × UInt8 × Int64 × UInt8 × UInt8 × UInt64 × UInt64) ×
                  Bool) ×
                Unit) =>
          obind (F15 n ((p0, p1, p2, p3, p4, p5, p6, p7, p8, p9, p10, p11, p12), x_5))
            fun
              (x_7 :
                ((Bool ×
                      UInt8 ×
                        UInt64 ×
                          UInt64 ×
                            List UInt8 ×
                              List (List UInt8 × List UInt8) ×
                                UInt8 × UInt8 × Int64 × UInt8 × UInt8 × UInt64 × UInt64) ×
                    Bool) ×
                  Unit) =>
            oite (!Prod.snd (Prod.fst x_6) == Prod.snd (Prod.fst x_7)) (some (false, ()))
              (obind
                (F16 n
                  ((Prod.fst (Prod.fst (Prod.fst x_6)), Prod.fst (Prod.snd (Prod.fst (Prod.fst x_6))),
                      Prod.fst (Prod.snd (Prod.snd (Prod.fst (Prod.fst x_6)))),
                      Prod.fst (Prod.snd (Prod.snd (Prod.snd (Prod.fst (Prod.fst x_6))))),
                      Prod.fst (Prod.snd (Prod.snd (Prod.snd (Prod.snd (Prod.fst (Prod.fst x_6)))))),
                      Prod.fst (Prod.snd (Prod.snd (Prod.snd (Prod.snd (Prod.snd (Prod.fst (Prod.fst x_6))))))),
                      Prod.fst
                        (Prod.snd (Prod.snd (Prod.snd (Prod.snd (Prod.snd (Prod.snd (Prod.fst (Prod.fst x_6)))))))),
                      Prod.fst
                        (Prod.snd
                          (Prod.snd (Prod.snd (Prod.snd (Prod.snd (Prod.snd (Prod.snd (Prod.fst (Prod.fst x_6))))))))),
                      Prod.fst
                        (Prod.snd
                          (Prod.snd
                            (Prod.snd
                              (Prod.snd (Prod.snd (Prod.snd (Prod.snd (Prod.snd (Prod.fst (Prod.fst x_6)))))))))),
                      Prod.fst
                        (Prod.snd
                          (Prod.snd
                            (Prod.snd
                              (Prod.snd
                                (Prod.snd (Prod.snd (Prod.snd (Prod.snd (Prod.snd (Prod.fst (Prod.fst x_6))))))))))),
                      Prod.fst
                        (Prod.snd
                          (Prod.snd
                            (Prod.snd
                              (Prod.snd
                                (Prod.snd
                                  (Prod.snd (Prod.snd (Prod.snd (Prod.snd (Prod.snd (Prod.fst (Prod.fst x_6)))))))))))),
                      Prod.fst
                        (Prod.snd
                          (Prod.snd
                            (Prod.snd
                              (Prod.snd
                                (Prod.snd
                                  (Prod.snd
                                    (Prod.snd
                                      (Prod.snd (Prod.snd (Prod.snd (Prod.snd (Prod.fst (Prod.fst x_6))))))))))))),
                      Prod.snd
                        (Prod.snd
                          (Prod.snd
                            (Prod.snd
                              (Prod.snd
                                (Prod.snd
                                  (Prod.snd
                                    (Prod.snd
                                      (Prod.snd (Prod.snd (Prod.snd (Prod.snd (Prod.fst (Prod.fst x_6)))))))))))))),
                    Prod.fst (Prod.fst (Prod.fst x_7)), Prod.fst (Prod.snd (Prod.fst (Prod.fst x_7))),
                    Prod.fst (Prod.snd (Prod.snd (Prod.fst (Prod.fst x_7)))),
                    Prod.fst (Prod.snd (Prod.snd (Prod.snd (Prod.fst (Prod.fst x_7))))),
                    Prod.fst (Prod.snd (Prod.snd (Prod.snd (Prod.snd (Prod.fst (Prod.fst x_7)))))),
                    Prod.fst (Prod.snd (Prod.snd (Prod.snd (Prod.snd (Prod.snd (Prod.fst (Prod.fst x_7))))))),
                    Prod.fst
                      (Prod.snd (Prod.snd (Prod.snd (Prod.snd (Prod.snd (Prod.snd (Prod.fst (Prod.fst x_7)))))))),
                    Prod.fst
                      (Prod.snd
                        (Prod.snd (Prod.snd (Prod.snd (Prod.snd (Prod.snd (Prod.snd (Prod.fst (Prod.fst x_7))))))))),
                    Prod.fst
                      (Prod.snd
                        (Prod.snd
                          (Prod.snd (Prod.snd (Prod.snd (Prod.snd (Prod.snd (Prod.snd (Prod.fst (Prod.fst x_7)))))))))),
                    Prod.fst
                      (Prod.snd
                        (Prod.snd
                          (Prod.snd
                            (Prod.snd
                              (Prod.snd (Prod.snd (Prod.snd (Prod.snd (Prod.snd (Prod.fst (Prod.fst x_7))))))))))),
                    Prod.fst
                      (Prod.snd
                        (Prod.snd
                          (Prod.snd
                            (Prod.snd
                              (Prod.snd
                                (Prod.snd (Prod.snd (Prod.snd (Prod.snd (Prod.snd (Prod.fst (Prod.fst x_7)))))))))))),
                    Prod.fst
                      (Prod.snd
                        (Prod.snd
                          (Prod.snd
                            (Prod.snd
                              (Prod.snd
                                (Prod.snd
                                  (Prod.snd
                                    (Prod.snd (Prod.snd (Prod.snd (Prod.snd (Prod.fst (Prod.fst x_7))))))))))))),
                    Prod.snd
                      (Prod.snd
                        (Prod.snd
                          (Prod.snd
                            (Prod.snd
                              (Prod.snd
                                (Prod.snd
                                  (Prod.snd
                                    (Prod.snd (Prod.snd (Prod.snd (Prod.snd (Prod.fst (Prod.fst x_7)))))))))))))))
                fun (x_8 : Bool × Unit) =>
                oite (!Prod.fst x_8) (some (false, ()))
                  (rec_1 above_2 t_3 t_1_1 t_2_1 (t_3_1 + (1 : Int64)) p0 p1 p2 p3 p4 p5 p6 p7 p8 p9 p10 p11 p12 p13 p14
                    p15 p16 p17 p18 p19 p20 p21 p22 p23 p24 p25 t_4 t_5)))
      none)
    (obind (F17 n (p0, p1, p2, p3, p4, p5, p6, p7, p8, p9, p10, p11, p12))
      fun (x_5 : (UInt8 × UInt64 × UInt64) × Unit) =>
      obind (F18 n (p0, p1, p2, p3, p4, p5, p6, p7, p8, p9, p10, p11, p12))
        fun (x_6 : (UInt8 × UInt64 × UInt64) × Unit) =>
        ojoinA (64879 : Nat)
          [PT.int IntKind.u64, PT.int IntKind.i64, PT.int IntKind.i64, PT.bool, PT.int IntKind.u8, PT.int IntKind.u64,
            PT.int IntKind.u64, PT.bytes, PT.list (CTs.cons CT.str (CTs.cons CT.str CTs.nil)), PT.int IntKind.u8,
            PT.int IntKind.u8, PT.int IntKind.i64, PT.int IntKind.u8, PT.int IntKind.u8, PT.int IntKind.u64,
            PT.int IntKind.u64, PT.bool, PT.int IntKind.u8, PT.int IntKind.u64, PT.int IntKind.u64, PT.bytes,
            PT.list (CTs.cons CT.str (CTs.cons CT.str CTs.nil)), PT.int IntKind.u8, PT.int IntKind.u8,
            PT.int IntKind.i64, PT.int IntKind.u8, PT.int IntKind.u8, PT.int IntKind.u64, PT.int IntKind.u64,
            PT.list
              (CTs.cons CT.bool
                (CTs.cons (CT.int IntKind.u8)
                  (CTs.cons (CT.int IntKind.u64)
                    (CTs.cons (CT.int IntKind.u64)
                      (CTs.cons CT.str
                        (CTs.cons (CT.ro (CTs.cons CT.str (CTs.cons CT.str CTs.nil)))
                          (CTs.cons (CT.int IntKind.u8)
                            (CTs.cons (CT.int IntKind.u8)
                              (CTs.cons (CT.int IntKind.i64)
                                (CTs.cons (CT.int IntKind.u8)
                                  (CTs.cons (CT.int IntKind.u8)
                                    (CTs.cons (CT.int IntKind.u64)
                                      (CTs.cons (CT.int IntKind.u64)
                                        (CTs.cons CT.bool
                                          (CTs.cons (CT.int IntKind.u8)
                                            (CTs.cons (CT.int IntKind.u64)
                                              (CTs.cons (CT.int IntKind.u64)
                                                (CTs.cons CT.str
                                                  (CTs.cons (CT.ro (CTs.cons CT.str (CTs.cons CT.str CTs.nil)))
                                                    (CTs.cons (CT.int IntKind.u8)
                                                      (CTs.cons (CT.int IntKind.u8)
                                                        (CTs.cons (CT.int IntKind.i64)
                                                          (CTs.cons (CT.int IntKind.u8)
                                                            (CTs.cons (CT.int IntKind.u8)
                                                              (CTs.cons (CT.int IntKind.u64)
                                                                (CTs.cons (CT.int IntKind.u64)
                                                                  CTs.nil))))))))))))))))))))))))))]
          (fun
              (J :
                Arr
                  [PT.int IntKind.u64, PT.int IntKind.i64, PT.int IntKind.i64, PT.bool, PT.int IntKind.u8,
                    PT.int IntKind.u64, PT.int IntKind.u64, PT.bytes,
                    PT.list (CTs.cons CT.str (CTs.cons CT.str CTs.nil)), PT.int IntKind.u8, PT.int IntKind.u8,
                    PT.int IntKind.i64, PT.int IntKind.u8, PT.int IntKind.u8, PT.int IntKind.u64, PT.int IntKind.u64,
                    PT.bool, PT.int IntKind.u8, PT.int IntKind.u64, PT.int IntKind.u64, PT.bytes,
                    PT.list (CTs.cons CT.str (CTs.cons CT.str CTs.nil)), PT.int IntKind.u8, PT.int IntKind.u8,
                    PT.int IntKind.i64, PT.int IntKind.u8, PT.int IntKind.u8, PT.int IntKind.u64, PT.int IntKind.u64,
                    PT.list
                      (CTs.cons CT.bool
                        (CTs.cons (CT.int IntKind.u8)
                          (CTs.cons (CT.int IntKind.u64)
                            (CTs.cons (CT.int IntKind.u64)
                              (CTs.cons CT.str
                                (CTs.cons (CT.ro (CTs.cons CT.str (CTs.cons CT.str CTs.nil)))
                                  (CTs.cons (CT.int IntKind.u8)
                                    (CTs.cons (CT.int IntKind.u8)
                                      (CTs.cons (CT.int IntKind.i64)
                                        (CTs.cons (CT.int IntKind.u8)
                                          (CTs.cons (CT.int IntKind.u8)
                                            (CTs.cons (CT.int IntKind.u64)
                                              (CTs.cons (CT.int IntKind.u64)
                                                (CTs.cons CT.bool
                                                  (CTs.cons (CT.int IntKind.u8)
                                                    (CTs.cons (CT.int IntKind.u64)
                                                      (CTs.cons (CT.int IntKind.u64)
                                                        (CTs.cons CT.str
                                                          (CTs.cons (CT.ro (CTs.cons CT.str (CTs.cons CT.str CTs.nil)))
                                                            (CTs.cons (CT.int IntKind.u8)
                                                              (CTs.cons (CT.int IntKind.u8)
                                                                (CTs.cons (CT.int IntKind.i64)
                                                                  (CTs.cons (CT.int IntKind.u8)
                                                                    (CTs.cons (CT.int IntKind.u8)
                                                                      (CTs.cons (CT.int IntKind.u64)
                                                                        (CTs.cons (CT.int IntKind.u64)
                                                                          CTs.nil))))))))))))))))))))))))))]
                  (Option (Bool × Unit))) =>
            oite (!decide (Prod.fst (Prod.fst x_5) = Prod.fst (Prod.fst x_6))) (some (false, ()))
              (oite (!decide (Prod.fst (Prod.snd (Prod.fst x_5)) = Prod.fst (Prod.snd (Prod.fst x_6))))
                (some (false, ()))
                (oite (!decide (Prod.snd (Prod.snd (Prod.fst x_5)) = Prod.snd (Prod.snd (Prod.fst x_6))))
                  (some (false, ()))
                  (obind (F19 n (p0, p1, p2, p3, p4, p5, p6, p7, p8, p9, p10, p11, p12)) fun (x_7 : Bool × Unit) =>
                    oite p0
                      (oite (!Prod.fst x_7 == true) (some (false, ()))
                        (J above_2 t_3 t_1_1 p0 p1 p2 p3 p4 p5 p6 p7 p8 p9 p10 p11 p12 p13 p14 p15 p16 p17 p18 p19 p20
                          p21 p22 p23 p24 p25 t_4))
                      (oite (!Prod.fst x_7 == decide ((0 : UInt8) < p9)) (some (false, ()))
                        (J above_2 t_3 t_1_1 p0 p1 p2 p3 p4 p5 p6 p7 p8 p9 p10 p11 p12 p13 p14 p15 p16 p17 p18 p19 p20
                          p21 p22 p23 p24 p25 t_4))))))
          (F4_J64879 n rec))
def F4_R32437 : Nat →
  Arr
      [PT.int IntKind.u64, PT.int IntKind.i64, PT.int IntKind.i64,
        PT.list
          (CTs.cons CT.bool
            (CTs.cons (CT.int IntKind.u8)
              (CTs.cons (CT.int IntKind.u64)
                (CTs.cons (CT.int IntKind.u64)
                  (CTs.cons CT.str
                    (CTs.cons (CT.ro (CTs.cons CT.str (CTs.cons CT.str CTs.nil)))
                      (CTs.cons (CT.int IntKind.u8)
                        (CTs.cons (CT.int IntKind.u8)
                          (CTs.cons (CT.int IntKind.i64)
                            (CTs.cons (CT.int IntKind.u8)
                              (CTs.cons (CT.int IntKind.u8)
                                (CTs.cons (CT.int IntKind.u64)
                                  (CTs.cons (CT.int IntKind.u64)
                                    (CTs.cons CT.bool
                                      (CTs.cons (CT.int IntKind.u8)
                                        (CTs.cons (CT.int IntKind.u64)
                                          (CTs.cons (CT.int IntKind.u64)
                                            (CTs.cons CT.str
                                              (CTs.cons (CT.ro (CTs.cons CT.str (CTs.cons CT.str CTs.nil)))
                                                (CTs.cons (CT.int IntKind.u8)
                                                  (CTs.cons (CT.int IntKind.u8)
                                                    (CTs.cons (CT.int IntKind.i64)
                                                      (CTs.cons (CT.int IntKind.u8)
                                                        (CTs.cons (CT.int IntKind.u8)
                                                          (CTs.cons (CT.int IntKind.u64)
                                                            (CTs.cons (CT.int IntKind.u64)
                                                              CTs.nil))))))))))))))))))))))))))]
      (Option (Bool × Unit)) →
    Nat →
      PT.T (PT.int IntKind.u64) →
        Int64 →
          Int64 →
            Int64 →
              Int64 →
                Bool →
                  UInt8 →
                    UInt64 →
                      UInt64 →
                        List UInt8 →
                          List (List UInt8 × List UInt8) →
                            UInt8 →
                              UInt8 →
                                Int64 →
                                  UInt8 →
                                    UInt8 →
                                      UInt64 →
                                        UInt64 →
                                          Bool →
                                            UInt8 →
                                              UInt64 →
                                                UInt64 →
                                                  List UInt8 →
                                                    List (List UInt8 × List UInt8) →
                                                      UInt8 →
                                                        UInt8 →
                                                          Int64 →
                                                            UInt8 →
                                                              UInt8 →
                                                                UInt64 →
                                                                  UInt64 →
                                                                    List
                                                                        (Bool ×
                                                                          UInt8 ×
                                                                            UInt64 ×
                                                                              UInt64 ×
                                                                                List UInt8 ×
                                                                                  List (List UInt8 × List UInt8) ×
                                                                                    UInt8 ×
                                                                                      UInt8 ×
                                                                                        Int64 ×
                                                                                          UInt8 ×
                                                                                            UInt8 ×
                                                                                              UInt64 ×
                                                                                                UInt64 ×
                                                                                                  Bool ×
                                                                                                    UInt8 ×
                                                                                                      UInt64 ×
                                                                                                        UInt64 ×
                                                                                                          List UInt8 ×
                                                                                                            List
                                                                                                                (List
                                                                                                                    UInt8 ×
                                                                                                                  List
                                                                                                                    UInt8) ×
                                                                                                              UInt8 ×
                                                                                                                UInt8 ×
                                                                                                                  Int64 ×
                                                                                                                    UInt8 ×
                                                                                                                      UInt8 ×
                                                                                                                        UInt64 ×
                                                                                                                          UInt64) →
                                                                      List UInt64 → Option (Bool × Unit) := fun (n : Nat)
    (rec :
      Arr
        [PT.int IntKind.u64, PT.int IntKind.i64, PT.int IntKind.i64,
          PT.list
            (CTs.cons CT.bool
              (CTs.cons (CT.int IntKind.u8)
                (CTs.cons (CT.int IntKind.u64)
                  (CTs.cons (CT.int IntKind.u64)
                    (CTs.cons CT.str
                      (CTs.cons (CT.ro (CTs.cons CT.str (CTs.cons CT.str CTs.nil)))
                        (CTs.cons (CT.int IntKind.u8)
                          (CTs.cons (CT.int IntKind.u8)
                            (CTs.cons (CT.int IntKind.i64)
                              (CTs.cons (CT.int IntKind.u8)
                                (CTs.cons (CT.int IntKind.u8)
                                  (CTs.cons (CT.int IntKind.u64)
                                    (CTs.cons (CT.int IntKind.u64)
                                      (CTs.cons CT.bool
                                        (CTs.cons (CT.int IntKind.u8)
                                          (CTs.cons (CT.int IntKind.u64)
                                            (CTs.cons (CT.int IntKind.u64)
                                              (CTs.cons CT.str
                                                (CTs.cons (CT.ro (CTs.cons CT.str (CTs.cons CT.str CTs.nil)))
                                                  (CTs.cons (CT.int IntKind.u8)
                                                    (CTs.cons (CT.int IntKind.u8)
                                                      (CTs.cons (CT.int IntKind.i64)
                                                        (CTs.cons (CT.int IntKind.u8)
                                                          (CTs.cons (CT.int IntKind.u8)
                                                            (CTs.cons (CT.int IntKind.u64)
                                                              (CTs.cons (CT.int IntKind.u64)
                                                                CTs.nil))))))))))))))))))))))))))]
        (Option (Bool × Unit))) =>
  ofixA (32437 : Nat)
    [PT.int IntKind.u64, PT.int IntKind.i64, PT.int IntKind.i64, PT.int IntKind.i64, PT.int IntKind.i64, PT.bool,
      PT.int IntKind.u8, PT.int IntKind.u64, PT.int IntKind.u64, PT.bytes,
      PT.list (CTs.cons CT.str (CTs.cons CT.str CTs.nil)), PT.int IntKind.u8, PT.int IntKind.u8, PT.int IntKind.i64,
      PT.int IntKind.u8, PT.int IntKind.u8, PT.int IntKind.u64, PT.int IntKind.u64, PT.bool, PT.int IntKind.u8,
      PT.int IntKind.u64, PT.int IntKind.u64, PT.bytes, PT.list (CTs.cons CT.str (CTs.cons CT.str CTs.nil)),
      PT.int IntKind.u8, PT.int IntKind.u8, PT.int IntKind.i64, PT.int IntKind.u8, PT.int IntKind.u8,
      PT.int IntKind.u64, PT.int IntKind.u64,
      PT.list
        (CTs.cons CT.bool
          (CTs.cons (CT.int IntKind.u8)
            (CTs.cons (CT.int IntKind.u64)
              (CTs.cons (CT.int IntKind.u64)
                (CTs.cons CT.str
                  (CTs.cons (CT.ro (CTs.cons CT.str (CTs.cons CT.str CTs.nil)))
                    (CTs.cons (CT.int IntKind.u8)
                      (CTs.cons (CT.int IntKind.u8)
                        (CTs.cons (CT.int IntKind.i64)
                          (CTs.cons (CT.int IntKind.u8)
                            (CTs.cons (CT.int IntKind.u8)
                              (CTs.cons (CT.int IntKind.u64)
                                (CTs.cons (CT.int IntKind.u64)
                                  (CTs.cons CT.bool
                                    (CTs.cons (CT.int IntKind.u8)
                                      (CTs.cons (CT.int IntKind.u64)
                                        (CTs.cons (CT.int IntKind.u64)
                                          (CTs.cons CT.str
                                            (CTs.cons (CT.ro (CTs.cons CT.str (CTs.cons CT.str CTs.nil)))
                                              (CTs.cons (CT.int IntKind.u8)
                                                (CTs.cons (CT.int IntKind.u8)
                                                  (CTs.cons (CT.int IntKind.i64)
                                                    (CTs.cons (CT.int IntKind.u8)
                                                      (CTs.cons (CT.int IntKind.u8)
                                                        (CTs.cons (CT.int IntKind.u64)
                                                          (CTs.cons (CT.int IntKind.u64)
                                                            CTs.nil)))))))))))))))))))))))))),
      PT.list (CTs.cons (CT.int IntKind.u64) CTs.nil)]
    (F4_L32437 n rec)
def F4_L253 : Nat →
  Arr
      [PT.int IntKind.u64, PT.int IntKind.i64, PT.int IntKind.i64,
        PT.list
          (CTs.cons CT.bool
            (CTs.cons (CT.int IntKind.u8)
              (CTs.cons (CT.int IntKind.u64)
                (CTs.cons (CT.int IntKind.u64)
                  (CTs.cons CT.str
                    (CTs.cons (CT.ro (CTs.cons CT.str (CTs.cons CT.str CTs.nil)))
                      (CTs.cons (CT.int IntKind.u8)
                        (CTs.cons (CT.int IntKind.u8)
                          (CTs.cons (CT.int IntKind.i64)
                            (CTs.cons (CT.int IntKind.u8)
                              (CTs.cons (CT.int IntKind.u8)
                                (CTs.cons (CT.int IntKind.u64)
                                  (CTs.cons (CT.int IntKind.u64)
                                    (CTs.cons CT.bool
                                      (CTs.cons (CT.int IntKind.u8)
                                        (CTs.cons (CT.int IntKind.u64)
                                          (CTs.cons (CT.int IntKind.u64)
                                            (CTs.cons CT.str
                                              (CTs.cons (CT.ro (CTs.cons CT.str (CTs.cons CT.str CTs.nil)))
                                                (CTs.cons (CT.int IntKind.u8)
                                                  (CTs.cons (CT.int IntKind.u8)
                                                    (CTs.cons (CT.int IntKind.i64)
                                                      (CTs.cons (CT.int IntKind.u8)
                                                        (CTs.cons (CT.int IntKind.u8)
                                                          (CTs.cons (CT.int IntKind.u64)
                                                            (CTs.cons (CT.int IntKind.u64)
                                                              CTs.nil))))))))))))))))))))))))))]
      (Option (Bool × Unit)) →
    UInt64 →
      Int64 →
        Int64 →
          List
              (Bool ×
                UInt8 ×
                  UInt64 ×
                    UInt64 ×
                      List UInt8 ×
                        List (List UInt8 × List UInt8) ×
                          UInt8 ×
                            UInt8 ×
                              Int64 ×
                                UInt8 ×
                                  UInt8 ×
                                    UInt64 ×
                                      UInt64 ×
                                        Bool ×
                                          UInt8 ×
                                            UInt64 ×
                                              UInt64 ×
                                                List UInt8 ×
                                                  List (List UInt8 × List UInt8) ×
                                                    UInt8 × UInt8 × Int64 × UInt8 × UInt8 × UInt64 × UInt64) →
            Option (Bool × Unit) := fun (n : Nat)
    (rec :
      Arr
        [PT.int IntKind.u64, PT.int IntKind.i64, PT.int IntKind.i64,
          PT.list
            (CTs.cons CT.bool
              (CTs.cons (CT.int IntKind.u8)
                (CTs.cons (CT.int IntKind.u64)
                  (CTs.cons (CT.int IntKind.u64)
                    (CTs.cons CT.str
                      (CTs.cons (CT.ro (CTs.cons CT.str (CTs.cons CT.str CTs.nil)))
                        (CTs.cons (CT.int IntKind.u8)
                          (CTs.cons (CT.int IntKind.u8)
                            (CTs.cons (CT.int IntKind.i64)
                              (CTs.cons (CT.int IntKind.u8)
                                (CTs.cons (CT.int IntKind.u8)
                                  (CTs.cons (CT.int IntKind.u64)
                                    (CTs.cons (CT.int IntKind.u64)
                                      (CTs.cons CT.bool
                                        (CTs.cons (CT.int IntKind.u8)
                                          (CTs.cons (CT.int IntKind.u64)
                                            (CTs.cons (CT.int IntKind.u64)
                                              (CTs.cons CT.str
                                                (CTs.cons (CT.ro (CTs.cons CT.str (CTs.cons CT.str CTs.nil)))
                                                  (CTs.cons (CT.int IntKind.u8)
                                                    (CTs.cons (CT.int IntKind.u8)
                                                      (CTs.cons (CT.int IntKind.i64)
                                                        (CTs.cons (CT.int IntKind.u8)
                                                          (CTs.cons (CT.int IntKind.u8)
                                                            (CTs.cons (CT.int IntKind.u64)
                                                              (CTs.cons (CT.int IntKind.u64)
                                                                CTs.nil))))))))))))))))))))))))))]
        (Option (Bool × Unit)))
    (above_1 : UInt64) (t t_1 : Int64)
    (t_2 :
      List
        (Bool ×
          UInt8 ×
            UInt64 ×
              UInt64 ×
                List UInt8 ×
                  List (List UInt8 × List UInt8) ×
                    UInt8 ×
                      UInt8 ×
                        Int64 ×
                          UInt8 ×
                            UInt8 ×
                              UInt64 ×
                                UInt64 ×
                                  Bool ×
                                    UInt8 ×
                                      UInt64 ×
                                        UInt64 ×
                                          List UInt8 ×
                                            List (List UInt8 × List UInt8) ×
                                              UInt8 × UInt8 × Int64 × UInt8 × UInt8 × UInt64 × UInt64)) =>
  oite (decide (t_1 < t))
    (oite (decide ((0 : Int) ≤ Int64.toInt t_1) && Nat.blt (Int.toNat (Int64.toInt t_1)) (List.length t_2))
      (obind t_2[Int.toNat (Int64.toInt t_1)]?
        fun
          (x_4 :
            Bool ×
              UInt8 ×
                UInt64 ×
                  UInt64 ×
                    List UInt8 ×
                      List (List UInt8 × List UInt8) ×
                        UInt8 ×
                          UInt8 ×
                            Int64 ×
                              UInt8 ×
                                UInt8 ×
                                  UInt64 ×
                                    UInt64 ×
                                      Bool ×
                                        UInt8 ×
                                          UInt64 ×
                                            UInt64 ×
                                              List UInt8 ×
                                                List (List UInt8 × List UInt8) ×
                                                  UInt8 × UInt8 × Int64 × UInt8 × UInt8 × UInt64 × UInt64) =>
        F4_R32437 n rec n above_1 t t_1 (Int64.ofInt ↑(List.length [above_1, above_1 % (70000 : UInt64)])) (0 : Int64)
          (Prod.fst x_4) (Prod.fst (Prod.snd x_4)) (Prod.fst (Prod.snd (Prod.snd x_4)))
          (Prod.fst (Prod.snd (Prod.snd (Prod.snd x_4)))) (Prod.fst (Prod.snd (Prod.snd (Prod.snd (Prod.snd x_4)))))
          (Prod.fst (Prod.snd (Prod.snd (Prod.snd (Prod.snd (Prod.snd x_4))))))
          (Prod.fst (Prod.snd (Prod.snd (Prod.snd (Prod.snd (Prod.snd (Prod.snd x_4)))))))
          (Prod.fst (Prod.snd (Prod.snd (Prod.snd (Prod.snd (Prod.snd (Prod.snd (Prod.snd x_4))))))))
          (Prod.fst (Prod.snd (Prod.snd (Prod.snd (Prod.snd (Prod.snd (Prod.snd (Prod.snd (Prod.snd x_4)))))))))
          (Prod.fst
            (Prod.snd (Prod.snd (Prod.snd (Prod.snd (Prod.snd (Prod.snd (Prod.snd (Prod.snd (Prod.snd x_4))))))))))
          (Prod.fst
            (Prod.snd
              (Prod.snd (Prod.snd (Prod.snd (Prod.snd (Prod.snd (Prod.snd (Prod.snd (Prod.snd (Prod.snd x_4)))))))))))
          (Prod.fst
            (Prod.snd
              (Prod.snd
                (Prod.snd
                  (Prod.snd (Prod.snd (Prod.snd (Prod.snd (Prod.snd (Prod.snd (Prod.snd (Prod.snd x_4))))))))))))
          (Prod.fst
            (Prod.snd
              (Prod.snd
                (Prod.snd
                  (Prod.snd
                    (Prod.snd (Prod.snd (Prod.snd (Prod.snd (Prod.snd (Prod.snd (Prod.snd (Prod.snd x_4)))))))))))))
          (Prod.fst
            (Prod.snd
              (Prod.snd
                (Prod.snd
                  (Prod.snd
                    (Prod.snd
                      (Prod.snd (Prod.snd (Prod.snd (Prod.snd (Prod.snd (Prod.snd (Prod.snd (Prod.snd x_4))))))))))))))
          (Prod.fst
            (Prod.snd
              (Prod.snd
                (Prod.snd
                  (Prod.snd
                    (Prod.snd
                      (Prod.snd
                        (Prod.snd
                          (Prod.snd (Prod.snd (Prod.snd (Prod.snd (Prod.snd (Prod.snd (Prod.snd x_4)))))))))))))))
          (Prod.fst
            (Prod.snd
              (Prod.snd
                (Prod.snd
                  (Prod.snd
                    (Prod.snd
                      (Prod.snd
                        (Prod.snd
                          (Prod.snd
                            (Prod.snd (Prod.snd (Prod.snd (Prod.snd (Prod.snd (Prod.snd (Prod.snd x_4))))))))))))))))
          (Prod.fst
            (Prod.snd
              (Prod.snd
                (Prod.snd
                  (Prod.snd
                    (Prod.snd
                      (Prod.snd
                        (Prod.snd
                          (Prod.snd
                            (Prod.snd
                              (Prod.snd (Prod.snd (Prod.snd (Prod.snd (Prod.snd (Prod.snd (Prod.snd x_4)))))))))))))))))
          (Prod.fst
            (Prod.snd
              (Prod.snd
                (Prod.snd
                  (Prod.snd
                    (Prod.snd
                      (Prod.snd
                        (Prod.snd
                          (Prod.snd
                            (Prod.snd
                              (Prod.snd
                                (Prod.snd
                                  (Prod.snd (Prod.snd (Prod.snd (Prod.snd (Prod.snd (Prod.snd x_4))))))))))))))))))
          (Prod.fst
            (Prod.snd
              (Prod.snd
                (Prod.snd
                  (Prod.snd
                    (Prod.snd
                      (Prod.snd
                        (Prod.snd
                          (Prod.snd
                            (Prod.snd
                              (Prod.snd
                                (Prod.snd
                                  (Prod.snd
                                    (Prod.snd (Prod.snd (Prod.snd (Prod.snd (Prod.snd (Prod.snd x_4)))))))))))))))))))
          (Prod.fst
            (Prod.snd
              (Prod.snd
                (Prod.snd
                  (Prod.snd
                    (Prod.snd
                      (Prod.snd
                        (Prod.snd
                          (Prod.snd
                            (Prod.snd
                              (Prod.snd
                                (Prod.snd
                                  (Prod.snd
                                    (Prod.snd
                                      (Prod.snd
                                        (Prod.snd (Prod.snd (Prod.snd (Prod.snd (Prod.snd x_4))))))))))))))))))))
          (Prod.fst
            (Prod.snd
              (Prod.snd
                (Prod.snd
                  (Prod.snd
                    (Prod.snd
                      (Prod.snd
                        (Prod.snd
                          (Prod.snd
                            (Prod.snd
                              (Prod.snd
                                (Prod.snd
                                  (Prod.snd
                                    (Prod.snd
                                      (Prod.snd
                                        (Prod.snd
                                          (Prod.snd (Prod.snd (Prod.snd (Prod.snd (Prod.snd x_4)))))))))))))))))))))
          (Prod.fst
            (Prod.snd
              (Prod.snd
                (Prod.snd
                  (Prod.snd
                    (Prod.snd
                      (Prod.snd
                        (Prod.snd
                          (Prod.snd
                            (Prod.snd
                              (Prod.snd
                                (Prod.snd
                                  (Prod.snd
                                    (Prod.snd
                                      (Prod.snd
                                        (Prod.snd
                                          (Prod.snd
                                            (Prod.snd (Prod.snd (Prod.snd (Prod.snd (Prod.snd x_4))))))))))))))))))))))
          (Prod.fst
            (Prod.snd
              (Prod.snd
                (Prod.snd
                  (Prod.snd
                    (Prod.snd
                      (Prod.snd
                        (Prod.snd
                          (Prod.snd
                            (Prod.snd
                              (Prod.snd
                                (Prod.snd
                                  (Prod.snd
                                    (Prod.snd
                                      (Prod.snd
                                        (Prod.snd
                                          (Prod.snd
                                            (Prod.snd
                                              (Prod.snd
                                                (Prod.snd (Prod.snd (Prod.snd (Prod.snd x_4)))))))))))))))))))))))
          (Prod.fst
            (Prod.snd
              (Prod.snd
                (Prod.snd
                  (Prod.snd
                    (Prod.snd
                      (Prod.snd
                        (Prod.snd
                          (Prod.snd
                            (Prod.snd
                              (Prod.snd
                                (Prod.snd
                                  (Prod.snd
                                    (Prod.snd
                                      (Prod.snd
                                        (Prod.snd
                                          (Prod.snd
                                            (Prod.snd
                                              (Prod.snd
                                                (Prod.snd
                                                  (Prod.snd (Prod.snd (Prod.snd (Prod.snd x_4))))))))))))))))))))))))
          (Prod.fst
            (Prod.snd
              (Prod.snd
                (Prod.snd
                  (Prod.snd
                    (Prod.snd
                      (Prod.snd
                        (Prod.snd
                          (Prod.snd
                            (Prod.snd
                              (Prod.snd
                                (Prod.snd
                                  (Prod.snd
                                    (Prod.snd
                                      (Prod.snd
                                        (Prod.snd
                                          (Prod.snd
                                            (Prod.snd
                                              (Prod.snd
                                                (Prod.snd
                                                  (Prod.snd
                                                    (Prod.snd (Prod.snd (Prod.snd (Prod.snd x_4)))))))))))))))))))))))))
          (Prod.snd
            (Prod.snd
              (Prod.snd
                (Prod.snd
                  (Prod.snd
                    (Prod.snd
                      (Prod.snd
                        (Prod.snd
                          (Prod.snd
                            (Prod.snd
                              (Prod.snd
                                (Prod.snd
                                  (Prod.snd
                                    (Prod.snd
                                      (Prod.snd
                                        (Prod.snd
                                          (Prod.snd
                                            (Prod.snd
                                              (Prod.snd
                                                (Prod.snd
                                                  (Prod.snd
                                                    (Prod.snd (Prod.snd (Prod.snd (Prod.snd x_4)))))))))))))))))))))))))
          t_2 [above_1, above_1 % (70000 : UInt64)])
      none)
    (some (true, ()))
def F4_R253 : Nat →
  Nat →
    PT.T (PT.int IntKind.u64) →
      Int64 →
        Int64 →
          List
              (Bool ×
                UInt8 ×
                  UInt64 ×
                    UInt64 ×
                      List UInt8 ×
                        List (List UInt8 × List UInt8) ×
                          UInt8 ×
                            UInt8 ×
                              Int64 ×
                                UInt8 ×
                                  UInt8 ×
                                    UInt64 ×
                                      UInt64 ×
                                        Bool ×
                                          UInt8 ×
                                            UInt64 ×
                                              UInt64 ×
                                                List UInt8 ×
                                                  List (List UInt8 × List UInt8) ×
                                                    UInt8 × UInt8 × Int64 × UInt8 × UInt8 × UInt64 × UInt64) →
            Option (Bool × Unit) := fun (n : Nat) =>
  ofixA (253 : Nat)
    [PT.int IntKind.u64, PT.int IntKind.i64, PT.int IntKind.i64,
      PT.list
        (CTs.cons CT.bool
          (CTs.cons (CT.int IntKind.u8)
            (CTs.cons (CT.int IntKind.u64)
              (CTs.cons (CT.int IntKind.u64)
                (CTs.cons CT.str
                  (CTs.cons (CT.ro (CTs.cons CT.str (CTs.cons CT.str CTs.nil)))
                    (CTs.cons (CT.int IntKind.u8)
                      (CTs.cons (CT.int IntKind.u8)
                        (CTs.cons (CT.int IntKind.i64)
                          (CTs.cons (CT.int IntKind.u8)
                            (CTs.cons (CT.int IntKind.u8)
                              (CTs.cons (CT.int IntKind.u64)
                                (CTs.cons (CT.int IntKind.u64)
                                  (CTs.cons CT.bool
                                    (CTs.cons (CT.int IntKind.u8)
                                      (CTs.cons (CT.int IntKind.u64)
                                        (CTs.cons (CT.int IntKind.u64)
                                          (CTs.cons CT.str
                                            (CTs.cons (CT.ro (CTs.cons CT.str (CTs.cons CT.str CTs.nil)))
                                              (CTs.cons (CT.int IntKind.u8)
                                                (CTs.cons (CT.int IntKind.u8)
                                                  (CTs.cons (CT.int IntKind.i64)
                                                    (CTs.cons (CT.int IntKind.u8)
                                                      (CTs.cons (CT.int IntKind.u8)
                                                        (CTs.cons (CT.int IntKind.u64)
                                                          (CTs.cons (CT.int IntKind.u64)
                                                            CTs.nil))))))))))))))))))))))))))]
    (F4_L253 n)
def F4_J31 : Nat →
  UInt64 →
    Bool →
      UInt8 →
        UInt64 →
          UInt64 →
            List UInt8 →
              List (List UInt8 × List UInt8) →
                UInt8 →
                  UInt8 →
                    Int64 →
                      UInt8 →
                        UInt8 →
                          UInt64 →
                            UInt64 →
                              Bool →
                                UInt8 →
                                  UInt64 →
                                    UInt64 →
                                      List UInt8 →
                                        List (List UInt8 × List UInt8) →
                                          UInt8 →
                                            UInt8 →
                                              Int64 →
                                                UInt8 →
                                                  UInt8 →
                                                    UInt64 →
                                                      UInt64 →
                                                        Bool →
                                                          UInt8 →
                                                            UInt64 →
                                                              UInt64 →
                                                                List UInt8 →
                                                                  List (List UInt8 × List UInt8) →
                                                                    UInt8 →
                                                                      UInt8 →
                                                                        Int64 →
                                                                          UInt8 →
                                                                            UInt8 →
                                                                              UInt64 →
                                                                                UInt64 →
                                                                                  Bool →
                                                                                    UInt8 →
                                                                                      UInt64 →
                                                                                        UInt64 →
                                                                                          List UInt8 →
                                                                                            List
                                                                                                (List UInt8 ×
                                                                                                  List UInt8) →
                                                                                              UInt8 →
                                                                                                UInt8 →
                                                                                                  Int64 →
                                                                                                    UInt8 →
                                                                                                      UInt8 →
                                                                                                        UInt64 →
                                                                                                          UInt64 →
                                                                                                            Option
                                                                                                              (Bool ×
                                                                                                                Unit) := fun (n : Nat) (above : UInt64) (a0 : Bool) (a1 : UInt8) (a2 a3 : UInt64) (a4 : List UInt8)
    (a5 : List (List UInt8 × List UInt8)) (a6 a7 : UInt8) (a8 : Int64) (a9 a10 : UInt8) (a11 a12 : UInt64) (b0 : Bool)
    (b1 : UInt8) (b2 b3 : UInt64) (b4 : List UInt8) (b5 : List (List UInt8 × List UInt8)) (b6 b7 : UInt8) (b8 : Int64)
    (b9 b10 : UInt8) (b11 b12 : UInt64) (x0 : Bool) (x1 : UInt8) (x2 x3 : UInt64) (x4 : List UInt8)
    (x5 : List (List UInt8 × List UInt8)) (x6 x7 : UInt8) (x8 : Int64) (x9 x10 : UInt8) (x11 x12 : UInt64) (y0 : Bool)
    (y1 : UInt8) (y2 y3 : UInt64) (y4 : List UInt8) (y5 : List (List UInt8 × List UInt8)) (y6 y7 : UInt8) (y8 : Int64)
    (y9 y10 : UInt8) (y11 y12 : UInt64) =>
  F4_R253 n n above
    (Int64.ofInt
      ↑(List.length
          [(a0, a1, a2, a3, a4, a5, a6, a7, a8, a9, a10, a11, a12, b0, b1, b2, b3, b4, b5, b6, b7, b8, b9, b10, b11,
              b12),
            (x0, x1, x2, x3, x4, x5, x6, x7, x8, x9, x10, x11, x12, y0, y1, y2, y3, y4, y5, y6, y7, y8, y9, y10, y11,
              y12)]))
    (0 : Int64)
    [(a0, a1, a2, a3, a4, a5, a6, a7, a8, a9, a10, a11, a12, b0, b1, b2, b3, b4, b5, b6, b7, b8, b9, b10, b11, b12),
      (x0, x1, x2, x3, x4, x5, x6, x7, x8, x9, x10, x11, x12, y0, y1, y2, y3, y4, y5, y6, y7, y8, y9, y10, y11, y12)]
def F4 : Nat →
  (Bool ×
        UInt8 ×
          UInt64 ×
            UInt64 ×
              List UInt8 × List (List UInt8 × List UInt8) × UInt8 × UInt8 × Int64 × UInt8 × UInt8 × UInt64 × UInt64) ×
      (Bool ×
          UInt8 ×
            UInt64 ×
              UInt64 ×
                List UInt8 × List (List UInt8 × List UInt8) × UInt8 × UInt8 × Int64 × UInt8 × UInt8 × UInt64 × UInt64) ×
        (Bool × UInt8 × UInt8 × UInt8 × UInt16 × UInt16 × UInt16 × UInt8 × UInt8 × UInt8 × Bool) ×
          (Bool × UInt8 × UInt8 × UInt8 × UInt16 × UInt16 × UInt16 × UInt8 × UInt8 × UInt8 × Bool) × UInt64 × Bool →
    Option (Bool × Unit) := fun (n : Nat)
    (x :
      (Bool ×
          UInt8 ×
            UInt64 ×
              UInt64 ×
                List UInt8 × List (List UInt8 × List UInt8) × UInt8 × UInt8 × Int64 × UInt8 × UInt8 × UInt64 × UInt64) ×
        (Bool ×
            UInt8 ×
              UInt64 ×
                UInt64 ×
                  List UInt8 ×
                    List (List UInt8 × List UInt8) × UInt8 × UInt8 × Int64 × UInt8 × UInt8 × UInt64 × UInt64) ×
          (Bool × UInt8 × UInt8 × UInt8 × UInt16 × UInt16 × UInt16 × UInt8 × UInt8 × UInt8 × Bool) ×
            (Bool × UInt8 × UInt8 × UInt8 × UInt16 × UInt16 × UInt16 × UInt8 × UInt8 × UInt8 × Bool) × UInt64 × Bool) =>
  obind (F8 n ()) fun (x_1 : Bool × Unit) =>
    oite (!Prod.fst x_1) (some (false, ()))
      (oite
        (decide
          ((20 : Int64) <
            Int64.ofInt ↑(List.length (Prod.fst (Prod.snd (Prod.snd (Prod.snd (Prod.snd (Prod.snd (Prod.fst x))))))))))
        (some (true, ()))
        (oite
          (decide
            ((20 : Int64) <
              Int64.ofInt
                ↑(List.length
                    (Prod.fst (Prod.snd (Prod.snd (Prod.snd (Prod.snd (Prod.snd (Prod.fst (Prod.snd x)))))))))))
          (some (true, ()))
          (obind
            (F9 n
              (Prod.fst (Prod.fst (Prod.snd (Prod.snd x))), Prod.fst (Prod.snd (Prod.fst (Prod.snd (Prod.snd x)))),
                Prod.fst (Prod.snd (Prod.snd (Prod.fst (Prod.snd (Prod.snd x))))),
                Prod.fst (Prod.snd (Prod.snd (Prod.snd (Prod.fst (Prod.snd (Prod.snd x)))))),
                Prod.fst (Prod.snd (Prod.snd (Prod.snd (Prod.snd (Prod.fst (Prod.snd (Prod.snd x))))))),
                Prod.fst (Prod.snd (Prod.snd (Prod.snd (Prod.snd (Prod.snd (Prod.fst (Prod.snd (Prod.snd x)))))))),
                Prod.fst
                  (Prod.snd (Prod.snd (Prod.snd (Prod.snd (Prod.snd (Prod.snd (Prod.fst (Prod.snd (Prod.snd x))))))))),
                Prod.fst
                  (Prod.snd
                    (Prod.snd
                      (Prod.snd (Prod.snd (Prod.snd (Prod.snd (Prod.snd (Prod.fst (Prod.snd (Prod.snd x)))))))))),
                Prod.fst
                  (Prod.snd
                    (Prod.snd
                      (Prod.snd
                        (Prod.snd (Prod.snd (Prod.snd (Prod.snd (Prod.snd (Prod.fst (Prod.snd (Prod.snd x))))))))))),
                Prod.fst
                  (Prod.snd
                    (Prod.snd
                      (Prod.snd
                        (Prod.snd
                          (Prod.snd (Prod.snd (Prod.snd (Prod.snd (Prod.snd (Prod.fst (Prod.snd (Prod.snd x)))))))))))),
                Prod.snd
                  (Prod.snd
                    (Prod.snd
                      (Prod.snd
                        (Prod.snd
                          (Prod.snd
                            (Prod.snd (Prod.snd (Prod.snd (Prod.snd (Prod.fst (Prod.snd (Prod.snd x))))))))))))))
            fun
              (x_2 :
                (Bool ×
                    UInt8 ×
                      UInt64 ×
                        UInt64 ×
                          List UInt8 ×
                            List (List UInt8 × List UInt8) × UInt8 × UInt8 × Int64 × UInt8 × UInt8 × UInt64 × UInt64) ×
                  Unit) =>
            obind
              (F9 n
                (Prod.fst (Prod.fst (Prod.snd (Prod.snd (Prod.snd x)))),
                  Prod.fst (Prod.snd (Prod.fst (Prod.snd (Prod.snd (Prod.snd x))))),
                  Prod.fst (Prod.snd (Prod.snd (Prod.fst (Prod.snd (Prod.snd (Prod.snd x)))))),
                  Prod.fst (Prod.snd (Prod.snd (Prod.snd (Prod.fst (Prod.snd (Prod.snd (Prod.snd x))))))),
                  Prod.fst (Prod.snd (Prod.snd (Prod.snd (Prod.snd (Prod.fst (Prod.snd (Prod.snd (Prod.snd x)))))))),
                  Prod.fst
                    (Prod.snd
                      (Prod.snd (Prod.snd (Prod.snd (Prod.snd (Prod.fst (Prod.snd (Prod.snd (Prod.snd x))))))))),
                  Prod.fst
                    (Prod.snd
                      (Prod.snd
                        (Prod.snd (Prod.snd (Prod.snd (Prod.snd (Prod.fst (Prod.snd (Prod.snd (Prod.snd x)))))))))),
                  Prod.fst
                    (Prod.snd
                      (Prod.snd
                        (Prod.snd
                          (Prod.snd (Prod.snd (Prod.snd (Prod.snd (Prod.fst (Prod.snd (Prod.snd (Prod.snd x))))))))))),
                  Prod.fst
                    (Prod.snd
                      (Prod.snd
                        (Prod.snd
                          (Prod.snd
                            (Prod.snd
                              (Prod.snd (Prod.snd (Prod.snd (Prod.fst (Prod.snd (Prod.snd (Prod.snd x)))))))))))),
                  Prod.fst
                    (Prod.snd
                      (Prod.snd
                        (Prod.snd
                          (Prod.snd
                            (Prod.snd
                              (Prod.snd
                                (Prod.snd (Prod.snd (Prod.snd (Prod.fst (Prod.snd (Prod.snd (Prod.snd x))))))))))))),
                  Prod.snd
                    (Prod.snd
                      (Prod.snd
                        (Prod.snd
                          (Prod.snd
                            (Prod.snd
                              (Prod.snd
                                (Prod.snd (Prod.snd (Prod.snd (Prod.fst (Prod.snd (Prod.snd (Prod.snd x)))))))))))))))
              fun
                (x_3 :
                  (Bool ×
                      UInt8 ×
                        UInt64 ×
                          UInt64 ×
                            List UInt8 ×
                              List (List UInt8 × List UInt8) ×
                                UInt8 × UInt8 × Int64 × UInt8 × UInt8 × UInt64 × UInt64) ×
                    Unit) =>
              ojoinA (31 : Nat)
                [PT.int IntKind.u64, PT.bool, PT.int IntKind.u8, PT.int IntKind.u64, PT.int IntKind.u64, PT.bytes,
                  PT.list (CTs.cons CT.str (CTs.cons CT.str CTs.nil)), PT.int IntKind.u8, PT.int IntKind.u8,
                  PT.int IntKind.i64, PT.int IntKind.u8, PT.int IntKind.u8, PT.int IntKind.u64, PT.int IntKind.u64,
                  PT.bool, PT.int IntKind.u8, PT.int IntKind.u64, PT.int IntKind.u64, PT.bytes,
                  PT.list (CTs.cons CT.str (CTs.cons CT.str CTs.nil)), PT.int IntKind.u8, PT.int IntKind.u8,
                  PT.int IntKind.i64, PT.int IntKind.u8, PT.int IntKind.u8, PT.int IntKind.u64, PT.int IntKind.u64,
                  PT.bool, PT.int IntKind.u8, PT.int IntKind.u64, PT.int IntKind.u64, PT.bytes,
                  PT.list (CTs.cons CT.str (CTs.cons CT.str CTs.nil)), PT.int IntKind.u8, PT.int IntKind.u8,
                  PT.int IntKind.i64, PT.int IntKind.u8, PT.int IntKind.u8, PT.int IntKind.u64, PT.int IntKind.u64,
                  PT.bool, PT.int IntKind.u8, PT.int IntKind.u64, PT.int IntKind.u64, PT.bytes,
                  PT.list (CTs.cons CT.str (CTs.cons CT.str CTs.nil)), PT.int IntKind.u8, PT.int IntKind.u8,
                  PT.int IntKind.i64, PT.int IntKind.u8, PT.int IntKind.u8, PT.int IntKind.u64, PT.int IntKind.u64]
                (fun
                    (J :
                      Arr
                        [PT.int IntKind.u64, PT.bool, PT.int IntKind.u8, PT.int IntKind.u64, PT.int IntKind.u64,
                          PT.bytes, PT.list (CTs.cons CT.str (CTs.cons CT.str CTs.nil)), PT.int IntKind.u8,
                          PT.int IntKind.u8, PT.int IntKind.i64, PT.int IntKind.u8, PT.int IntKind.u8,
                          PT.int IntKind.u64, PT.int IntKind.u64, PT.bool, PT.int IntKind.u8, PT.int IntKind.u64,
                          PT.int IntKind.u64, PT.bytes, PT.list (CTs.cons CT.str (CTs.cons CT.str CTs.nil)),
                          PT.int IntKind.u8, PT.int IntKind.u8, PT.int IntKind.i64, PT.int IntKind.u8,
                          PT.int IntKind.u8, PT.int IntKind.u64, PT.int IntKind.u64, PT.bool, PT.int IntKind.u8,
                          PT.int IntKind.u64, PT.int IntKind.u64, PT.bytes,
                          PT.list (CTs.cons CT.str (CTs.cons CT.str CTs.nil)), PT.int IntKind.u8, PT.int IntKind.u8,
                          PT.int IntKind.i64, PT.int IntKind.u8, PT.int IntKind.u8, PT.int IntKind.u64,
                          PT.int IntKind.u64, PT.bool, PT.int IntKind.u8, PT.int IntKind.u64, PT.int IntKind.u64,
                          PT.bytes, PT.list (CTs.cons CT.str (CTs.cons CT.str CTs.nil)), PT.int IntKind.u8,
                          PT.int IntKind.u8, PT.int IntKind.i64, PT.int IntKind.u8, PT.int IntKind.u8,
                          PT.int IntKind.u64, PT.int IntKind.u64]
                        (Option (Bool × Unit))) =>
                  oite (Prod.snd (Prod.snd (Prod.snd (Prod.snd (Prod.snd x)))))
                    (oite (Prod.fst (Prod.fst x_2))
                      (oite (Prod.fst (Prod.fst x_3))
                        (J (Prod.fst (Prod.snd (Prod.snd (Prod.snd (Prod.snd x))))) (Prod.fst (Prod.fst x))
                          (Prod.fst (Prod.snd (Prod.fst x))) (Prod.fst (Prod.snd (Prod.snd (Prod.fst x))))
                          (Prod.fst (Prod.snd (Prod.snd (Prod.snd (Prod.fst x)))))
                          (Prod.fst (Prod.snd (Prod.snd (Prod.snd (Prod.snd (Prod.fst x))))))
                          (Prod.fst (Prod.snd (Prod.snd (Prod.snd (Prod.snd (Prod.snd (Prod.fst x)))))))
                          (Prod.fst (Prod.snd (Prod.snd (Prod.snd (Prod.snd (Prod.snd (Prod.snd (Prod.fst x))))))))
                          (Prod.fst
                            (Prod.snd (Prod.snd (Prod.snd (Prod.snd (Prod.snd (Prod.snd (Prod.snd (Prod.fst x)))))))))
                          (Prod.fst
                            (Prod.snd
                              (Prod.snd
                                (Prod.snd (Prod.snd (Prod.snd (Prod.snd (Prod.snd (Prod.snd (Prod.fst x))))))))))
                          (Prod.fst
                            (Prod.snd
                              (Prod.snd
                                (Prod.snd
                                  (Prod.snd (Prod.snd (Prod.snd (Prod.snd (Prod.snd (Prod.snd (Prod.fst x)))))))))))
                          (Prod.fst
                            (Prod.snd
                              (Prod.snd
                                (Prod.snd
                                  (Prod.snd
                                    (Prod.snd (Prod.snd (Prod.snd (Prod.snd (Prod.snd (Prod.snd (Prod.fst x))))))))))))
                          (Prod.fst
                            (Prod.snd
                              (Prod.snd
                                (Prod.snd
                                  (Prod.snd
                                    (Prod.snd
                                      (Prod.snd
                                        (Prod.snd (Prod.snd (Prod.snd (Prod.snd (Prod.snd (Prod.fst x)))))))))))))
                          (Prod.snd
                            (Prod.snd
                              (Prod.snd
                                (Prod.snd
                                  (Prod.snd
                                    (Prod.snd
                                      (Prod.snd
                                        (Prod.snd (Prod.snd (Prod.snd (Prod.snd (Prod.snd (Prod.fst x)))))))))))))
                          (Prod.fst (Prod.fst (Prod.snd x))) (Prod.fst (Prod.snd (Prod.fst (Prod.snd x))))
                          (Prod.fst (Prod.snd (Prod.snd (Prod.fst (Prod.snd x)))))
                          (Prod.fst (Prod.snd (Prod.snd (Prod.snd (Prod.fst (Prod.snd x))))))
                          (Prod.fst (Prod.snd (Prod.snd (Prod.snd (Prod.snd (Prod.fst (Prod.snd x)))))))
                          (Prod.fst (Prod.snd (Prod.snd (Prod.snd (Prod.snd (Prod.snd (Prod.fst (Prod.snd x))))))))
                          (Prod.fst
                            (Prod.snd (Prod.snd (Prod.snd (Prod.snd (Prod.snd (Prod.snd (Prod.fst (Prod.snd x)))))))))
                          (Prod.fst
                            (Prod.snd
                              (Prod.snd
                                (Prod.snd (Prod.snd (Prod.snd (Prod.snd (Prod.snd (Prod.fst (Prod.snd x))))))))))
                          (Prod.fst
                            (Prod.snd
                              (Prod.snd
                                (Prod.snd
                                  (Prod.snd (Prod.snd (Prod.snd (Prod.snd (Prod.snd (Prod.fst (Prod.snd x)))))))))))
                          (Prod.fst
                            (Prod.snd
                              (Prod.snd
                                (Prod.snd
                                  (Prod.snd
                                    (Prod.snd (Prod.snd (Prod.snd (Prod.snd (Prod.snd (Prod.fst (Prod.snd x))))))))))))
                          (Prod.fst
                            (Prod.snd
                              (Prod.snd
                                (Prod.snd
                                  (Prod.snd
                                    (Prod.snd
                                      (Prod.snd
                                        (Prod.snd (Prod.snd (Prod.snd (Prod.snd (Prod.fst (Prod.snd x)))))))))))))
                          (Prod.fst
                            (Prod.snd
                              (Prod.snd
                                (Prod.snd
                                  (Prod.snd
                                    (Prod.snd
                                      (Prod.snd
                                        (Prod.snd
                                          (Prod.snd (Prod.snd (Prod.snd (Prod.snd (Prod.fst (Prod.snd x))))))))))))))
                          (Prod.snd
                            (Prod.snd
                              (Prod.snd
                                (Prod.snd
                                  (Prod.snd
                                    (Prod.snd
                                      (Prod.snd
                                        (Prod.snd
                                          (Prod.snd (Prod.snd (Prod.snd (Prod.snd (Prod.fst (Prod.snd x))))))))))))))
                          (Prod.fst (Prod.fst x_2)) (Prod.fst (Prod.snd (Prod.fst x_2)))
                          (Prod.fst (Prod.snd (Prod.snd (Prod.fst x_2))))
                          (Prod.fst (Prod.snd (Prod.snd (Prod.snd (Prod.fst x_2)))))
                          (Prod.fst (Prod.snd (Prod.snd (Prod.snd (Prod.snd (Prod.fst x_2))))))
                          (Prod.fst (Prod.snd (Prod.snd (Prod.snd (Prod.snd (Prod.snd (Prod.fst x_2)))))))
                          (Prod.fst (Prod.snd (Prod.snd (Prod.snd (Prod.snd (Prod.snd (Prod.snd (Prod.fst x_2))))))))
                          (Prod.fst
                            (Prod.snd (Prod.snd (Prod.snd (Prod.snd (Prod.snd (Prod.snd (Prod.snd (Prod.fst x_2)))))))))
                          (Prod.fst
                            (Prod.snd
                              (Prod.snd
                                (Prod.snd (Prod.snd (Prod.snd (Prod.snd (Prod.snd (Prod.snd (Prod.fst x_2))))))))))
                          (Prod.fst
                            (Prod.snd
                              (Prod.snd
                                (Prod.snd
                                  (Prod.snd (Prod.snd (Prod.snd (Prod.snd (Prod.snd (Prod.snd (Prod.fst x_2)))))))))))
                          (Prod.fst
                            (Prod.snd
                              (Prod.snd
                                (Prod.snd
                                  (Prod.snd
                                    (Prod.snd
                                      (Prod.snd (Prod.snd (Prod.snd (Prod.snd (Prod.snd (Prod.fst x_2))))))))))))
                          (Prod.fst
                            (Prod.snd
                              (Prod.snd
                                (Prod.snd
                                  (Prod.snd
                                    (Prod.snd
                                      (Prod.snd
                                        (Prod.snd (Prod.snd (Prod.snd (Prod.snd (Prod.snd (Prod.fst x_2)))))))))))))
                          (Prod.snd
                            (Prod.snd
                              (Prod.snd
                                (Prod.snd
                                  (Prod.snd
                                    (Prod.snd
                                      (Prod.snd
                                        (Prod.snd (Prod.snd (Prod.snd (Prod.snd (Prod.snd (Prod.fst x_2)))))))))))))
                          (Prod.fst (Prod.fst x_3)) (Prod.fst (Prod.snd (Prod.fst x_3)))
                          (Prod.fst (Prod.snd (Prod.snd (Prod.fst x_3))))
                          (Prod.fst (Prod.snd (Prod.snd (Prod.snd (Prod.fst x_3)))))
                          (Prod.fst (Prod.snd (Prod.snd (Prod.snd (Prod.snd (Prod.fst x_3))))))
                          (Prod.fst (Prod.snd (Prod.snd (Prod.snd (Prod.snd (Prod.snd (Prod.fst x_3)))))))
                          (Prod.fst (Prod.snd (Prod.snd (Prod.snd (Prod.snd (Prod.snd (Prod.snd (Prod.fst x_3))))))))
                          (Prod.fst
                            (Prod.snd (Prod.snd (Prod.snd (Prod.snd (Prod.snd (Prod.snd (Prod.snd (Prod.fst x_3)))))))))
                          (Prod.fst
                            (Prod.snd
                              (Prod.snd
                                (Prod.snd (Prod.snd (Prod.snd (Prod.snd (Prod.snd (Prod.snd (Prod.fst x_3))))))))))
                          (Prod.fst
                            (Prod.snd
                              (Prod.snd
                                (Prod.snd
                                  (Prod.snd (Prod.snd (Prod.snd (Prod.snd (Prod.snd (Prod.snd (Prod.fst x_3)))))))))))
                          (Prod.fst
                            (Prod.snd
                              (Prod.snd
                                (Prod.snd
                                  (Prod.snd
                                    (Prod.snd
                                      (Prod.snd (Prod.snd (Prod.snd (Prod.snd (Prod.snd (Prod.fst x_2))))))))))))
                          (Prod.snd
                              (Prod.snd
                                (Prod.snd
                                  (Prod.snd
                                    (Prod.snd
                                      (Prod.snd
                                        (Prod.snd
                                          (Prod.snd (Prod.snd (Prod.snd (Prod.snd (Prod.snd (Prod.fst x_2)))))))))))) +
                            (1 : UInt64))
                          (Prod.snd
                                  (Prod.snd
                                    (Prod.snd
                                      (Prod.snd
                                        (Prod.snd
                                          (Prod.snd
                                            (Prod.snd
                                              (Prod.snd
                                                (Prod.snd (Prod.snd (Prod.snd (Prod.snd (Prod.fst x_2)))))))))))) +
                                (1 : UInt64) +
                              Prod.snd
                                (Prod.snd
                                  (Prod.snd
                                    (Prod.snd
                                      (Prod.snd
                                        (Prod.snd
                                          (Prod.snd
                                            (Prod.snd
                                              (Prod.snd (Prod.snd (Prod.snd (Prod.snd (Prod.fst x_3)))))))))))) -
                            Prod.fst
                              (Prod.snd
                                (Prod.snd
                                  (Prod.snd
                                    (Prod.snd
                                      (Prod.snd
                                        (Prod.snd
                                          (Prod.snd (Prod.snd (Prod.snd (Prod.snd (Prod.snd (Prod.fst x_3))))))))))))))
                        (J (Prod.fst (Prod.snd (Prod.snd (Prod.snd (Prod.snd x))))) (Prod.fst (Prod.fst x))
                          (Prod.fst (Prod.snd (Prod.fst x))) (Prod.fst (Prod.snd (Prod.snd (Prod.fst x))))
                          (Prod.fst (Prod.snd (Prod.snd (Prod.snd (Prod.fst x)))))
                          (Prod.fst (Prod.snd (Prod.snd (Prod.snd (Prod.snd (Prod.fst x))))))
                          (Prod.fst (Prod.snd (Prod.snd (Prod.snd (Prod.snd (Prod.snd (Prod.fst x)))))))
                          (Prod.fst (Prod.snd (Prod.snd (Prod.snd (Prod.snd (Prod.snd (Prod.snd (Prod.fst x))))))))
                          (Prod.fst
                            (Prod.snd (Prod.snd (Prod.snd (Prod.snd (Prod.snd (Prod.snd (Prod.snd (Prod.fst x)))))))))
                          (Prod.fst
                            (Prod.snd
                              (Prod.snd
                                (Prod.snd (Prod.snd (Prod.snd (Prod.snd (Prod.snd (Prod.snd (Prod.fst x))))))))))
                          (Prod.fst
                            (Prod.snd
                              (Prod.snd
                                (Prod.snd
                                  (Prod.snd (Prod.snd (Prod.snd (Prod.snd (Prod.snd (Prod.snd (Prod.fst x)))))))))))
                          (Prod.fst
                            (Prod.snd
                              (Prod.snd
                                (Prod.snd
                                  (Prod.snd
                                    (Prod.snd (Prod.snd (Prod.snd (Prod.snd (Prod.snd (Prod.snd (Prod.fst x))))))))))))
                          (Prod.fst
                            (Prod.snd
                              (Prod.snd
                                (Prod.snd
                                  (Prod.snd
                                    (Prod.snd
                                      (Prod.snd
                                        (Prod.snd (Prod.snd (Prod.snd (Prod.snd (Prod.snd (Prod.fst x)))))))))))))
                          (Prod.snd
                            (Prod.snd
                              (Prod.snd
                                (Prod.snd
                                  (Prod.snd
                                    (Prod.snd
                                      (Prod.snd
                                        (Prod.snd (Prod.snd (Prod.snd (Prod.snd (Prod.snd (Prod.fst x)))))))))))))
                          (Prod.fst (Prod.fst (Prod.snd x))) (Prod.fst (Prod.snd (Prod.fst (Prod.snd x))))
                          (Prod.fst (Prod.snd (Prod.snd (Prod.fst (Prod.snd x)))))
                          (Prod.fst (Prod.snd (Prod.snd (Prod.snd (Prod.fst (Prod.snd x))))))
                          (Prod.fst (Prod.snd (Prod.snd (Prod.snd (Prod.snd (Prod.fst (Prod.snd x)))))))
                          (Prod.fst (Prod.snd (Prod.snd (Prod.snd (Prod.snd (Prod.snd (Prod.fst (Prod.snd x))))))))
                          (Prod.fst
                            (Prod.snd (Prod.snd (Prod.snd (Prod.snd (Prod.snd (Prod.snd (Prod.fst (Prod.snd x)))))))))
                          (Prod.fst
                            (Prod.snd
                              (Prod.snd
                                (Prod.snd (Prod.snd (Prod.snd (Prod.snd (Prod.snd (Prod.fst (Prod.snd x))))))))))
                          (Prod.fst
                            (Prod.snd
                              (Prod.snd
                                (Prod.snd
                                  (Prod.snd (Prod.snd (Prod.snd (Prod.snd (Prod.snd (Prod.fst (Prod.snd x)))))))))))
                          (Prod.fst
                            (Prod.snd
                              (Prod.snd
                                (Prod.snd
                                  (Prod.snd
                                    (Prod.snd (Prod.snd (Prod.snd (Prod.snd (Prod.snd (Prod.fst (Prod.snd x))))))))))))
                          (Prod.fst
                            (Prod.snd
                              (Prod.snd
                                (Prod.snd
                                  (Prod.snd
                                    (Prod.snd
                                      (Prod.snd
                                        (Prod.snd (Prod.snd (Prod.snd (Prod.snd (Prod.fst (Prod.snd x)))))))))))))
                          (Prod.fst
                            (Prod.snd
                              (Prod.snd
                                (Prod.snd
                                  (Prod.snd
                                    (Prod.snd
                                      (Prod.snd
                                        (Prod.snd
                                          (Prod.snd (Prod.snd (Prod.snd (Prod.snd (Prod.fst (Prod.snd x))))))))))))))
                          (Prod.snd
                            (Prod.snd
                              (Prod.snd
                                (Prod.snd
                                  (Prod.snd
                                    (Prod.snd
                                      (Prod.snd
                                        (Prod.snd
                                          (Prod.snd (Prod.snd (Prod.snd (Prod.snd (Prod.fst (Prod.snd x))))))))))))))
                          (Prod.fst (Prod.fst x_2)) (Prod.fst (Prod.snd (Prod.fst x_2)))
                          (Prod.fst (Prod.snd (Prod.snd (Prod.fst x_2))))
                          (Prod.fst (Prod.snd (Prod.snd (Prod.snd (Prod.fst x_2)))))
                          (Prod.fst (Prod.snd (Prod.snd (Prod.snd (Prod.snd (Prod.fst x_2))))))
                          (Prod.fst (Prod.snd (Prod.snd (Prod.snd (Prod.snd (Prod.snd (Prod.fst x_2)))))))
                          (Prod.fst (Prod.snd (Prod.snd (Prod.snd (Prod.snd (Prod.snd (Prod.snd (Prod.fst x_2))))))))
                          (Prod.fst
                            (Prod.snd (Prod.snd (Prod.snd (Prod.snd (Prod.snd (Prod.snd (Prod.snd (Prod.fst x_2)))))))))
                          (Prod.fst
                            (Prod.snd
                              (Prod.snd
                                (Prod.snd (Prod.snd (Prod.snd (Prod.snd (Prod.snd (Prod.snd (Prod.fst x_2))))))))))
                          (Prod.fst
                            (Prod.snd
                              (Prod.snd
                                (Prod.snd
                                  (Prod.snd (Prod.snd (Prod.snd (Prod.snd (Prod.snd (Prod.snd (Prod.fst x_2)))))))))))
                          (Prod.fst
                            (Prod.snd
                              (Prod.snd
                                (Prod.snd
                                  (Prod.snd
                                    (Prod.snd
                                      (Prod.snd (Prod.snd (Prod.snd (Prod.snd (Prod.snd (Prod.fst x_2))))))))))))
                          (Prod.fst
                            (Prod.snd
                              (Prod.snd
                                (Prod.snd
                                  (Prod.snd
                                    (Prod.snd
                                      (Prod.snd
                                        (Prod.snd (Prod.snd (Prod.snd (Prod.snd (Prod.snd (Prod.fst x_2)))))))))))))
                          (Prod.snd
                            (Prod.snd
                              (Prod.snd
                                (Prod.snd
                                  (Prod.snd
                                    (Prod.snd
                                      (Prod.snd
                                        (Prod.snd (Prod.snd (Prod.snd (Prod.snd (Prod.snd (Prod.fst x_2)))))))))))))
                          (Prod.fst (Prod.fst x_3)) (Prod.fst (Prod.snd (Prod.fst x_3)))
                          (Prod.fst (Prod.snd (Prod.snd (Prod.fst x_3))))
                          (Prod.fst (Prod.snd (Prod.snd (Prod.snd (Prod.fst x_3)))))
                          (Prod.fst (Prod.snd (Prod.snd (Prod.snd (Prod.snd (Prod.fst x_3))))))
                          (Prod.fst (Prod.snd (Prod.snd (Prod.snd (Prod.snd (Prod.snd (Prod.fst x_3)))))))
                          (Prod.fst (Prod.snd (Prod.snd (Prod.snd (Prod.snd (Prod.snd (Prod.snd (Prod.fst x_3))))))))
                          (Prod.fst
                            (Prod.snd (Prod.snd (Prod.snd (Prod.snd (Prod.snd (Prod.snd (Prod.snd (Prod.fst x_3)))))))))
                          (Prod.fst
                            (Prod.snd
                              (Prod.snd
                                (Prod.snd (Prod.snd (Prod.snd (Prod.snd (Prod.snd (Prod.snd (Prod.fst x_3))))))))))
                          (Prod.fst
                            (Prod.snd
                              (Prod.snd
                                (Prod.snd
                                  (Prod.snd (Prod.snd (Prod.snd (Prod.snd (Prod.snd (Prod.snd (Prod.fst x_3)))))))))))
                          (Prod.fst
                            (Prod.snd
                              (Prod.snd
                                (Prod.snd
                                  (Prod.snd
                                    (Prod.snd
                                      (Prod.snd (Prod.snd (Prod.snd (Prod.snd (Prod.snd (Prod.fst x_3))))))))))))
                          (Prod.fst
                            (Prod.snd
                              (Prod.snd
                                (Prod.snd
                                  (Prod.snd
                                    (Prod.snd
                                      (Prod.snd
                                        (Prod.snd (Prod.snd (Prod.snd (Prod.snd (Prod.snd (Prod.fst x_3)))))))))))))
                          (Prod.snd
                            (Prod.snd
                              (Prod.snd
                                (Prod.snd
                                  (Prod.snd
                                    (Prod.snd
                                      (Prod.snd
                                        (Prod.snd (Prod.snd (Prod.snd (Prod.snd (Prod.snd (Prod.fst x_3)))))))))))))))
                      (J (Prod.fst (Prod.snd (Prod.snd (Prod.snd (Prod.snd x))))) (Prod.fst (Prod.fst x))
                        (Prod.fst (Prod.snd (Prod.fst x))) (Prod.fst (Prod.snd (Prod.snd (Prod.fst x))))
                        (Prod.fst (Prod.snd (Prod.snd (Prod.snd (Prod.fst x)))))
                        (Prod.fst (Prod.snd (Prod.snd (Prod.snd (Prod.snd (Prod.fst x))))))
                        (Prod.fst (Prod.snd (Prod.snd (Prod.snd (Prod.snd (Prod.snd (Prod.fst x)))))))
                        (Prod.fst (Prod.snd (Prod.snd (Prod.snd (Prod.snd (Prod.snd (Prod.snd (Prod.fst x))))))))
                        (Prod.fst
                          (Prod.snd (Prod.snd (Prod.snd (Prod.snd (Prod.snd (Prod.snd (Prod.snd (Prod.fst x)))))))))
                        (Prod.fst
                          (Prod.snd
                            (Prod.snd (Prod.snd (Prod.snd (Prod.snd (Prod.snd (Prod.snd (Prod.snd (Prod.fst x))))))))))
                        (Prod.fst
                          (Prod.snd
                            (Prod.snd
                              (Prod.snd
                                (Prod.snd (Prod.snd (Prod.snd (Prod.snd (Prod.snd (Prod.snd (Prod.fst x)))))))))))
                        (Prod.fst
                          (Prod.snd
                            (Prod.snd
                              (Prod.snd
                                (Prod.snd
                                  (Prod.snd (Prod.snd (Prod.snd (Prod.snd (Prod.snd (Prod.snd (Prod.fst x))))))))))))
                        (Prod.fst
                          (Prod.snd
                            (Prod.snd
                              (Prod.snd
                                (Prod.snd
                                  (Prod.snd
                                    (Prod.snd (Prod.snd (Prod.snd (Prod.snd (Prod.snd (Prod.snd (Prod.fst x)))))))))))))
                        (Prod.snd
                          (Prod.snd
                            (Prod.snd
                              (Prod.snd
                                (Prod.snd
                                  (Prod.snd
                                    (Prod.snd (Prod.snd (Prod.snd (Prod.snd (Prod.snd (Prod.snd (Prod.fst x)))))))))))))
                        (Prod.fst (Prod.fst (Prod.snd x))) (Prod.fst (Prod.snd (Prod.fst (Prod.snd x))))
                        (Prod.fst (Prod.snd (Prod.snd (Prod.fst (Prod.snd x)))))
                        (Prod.fst (Prod.snd (Prod.snd (Prod.snd (Prod.fst (Prod.snd x))))))
                        (Prod.fst (Prod.snd (Prod.snd (Prod.snd (Prod.snd (Prod.fst (Prod.snd x)))))))
                        (Prod.fst (Prod.snd (Prod.snd (Prod.snd (Prod.snd (Prod.snd (Prod.fst (Prod.snd x))))))))
                        (Prod.fst
                          (Prod.snd (Prod.snd (Prod.snd (Prod.snd (Prod.snd (Prod.snd (Prod.fst (Prod.snd x)))))))))
                        (Prod.fst
                          (Prod.snd
                            (Prod.snd (Prod.snd (Prod.snd (Prod.snd (Prod.snd (Prod.snd (Prod.fst (Prod.snd x))))))))))
                        (Prod.fst
                          (Prod.snd
                            (Prod.snd
                              (Prod.snd
                                (Prod.snd (Prod.snd (Prod.snd (Prod.snd (Prod.snd (Prod.fst (Prod.snd x)))))))))))
                        (Prod.fst
                          (Prod.snd
                            (Prod.snd
                              (Prod.snd
                                (Prod.snd
                                  (Prod.snd (Prod.snd (Prod.snd (Prod.snd (Prod.snd (Prod.fst (Prod.snd x))))))))))))
                        (Prod.fst
                          (Prod.snd
                            (Prod.snd
                              (Prod.snd
                                (Prod.snd
                                  (Prod.snd
                                    (Prod.snd (Prod.snd (Prod.snd (Prod.snd (Prod.snd (Prod.fst (Prod.snd x)))))))))))))
                        (Prod.fst
                          (Prod.snd
                            (Prod.snd
                              (Prod.snd
                                (Prod.snd
                                  (Prod.snd
                                    (Prod.snd
                                      (Prod.snd
                                        (Prod.snd (Prod.snd (Prod.snd (Prod.snd (Prod.fst (Prod.snd x))))))))))))))
                        (Prod.snd
                          (Prod.snd
                            (Prod.snd
                              (Prod.snd
                                (Prod.snd
                                  (Prod.snd
                                    (Prod.snd
                                      (Prod.snd
                                        (Prod.snd (Prod.snd (Prod.snd (Prod.snd (Prod.fst (Prod.snd x))))))))))))))
                        (Prod.fst (Prod.fst x_2)) (Prod.fst (Prod.snd (Prod.fst x_2)))
                        (Prod.fst (Prod.snd (Prod.snd (Prod.fst x_2))))
                        (Prod.fst (Prod.snd (Prod.snd (Prod.snd (Prod.fst x_2)))))
                        (Prod.fst (Prod.snd (Prod.snd (Prod.snd (Prod.snd (Prod.fst x_2))))))
                        (Prod.fst (Prod.snd (Prod.snd (Prod.snd (Prod.snd (Prod.snd (Prod.fst x_2)))))))
                        (Prod.fst (Prod.snd (Prod.snd (Prod.snd (Prod.snd (Prod.snd (Prod.snd (Prod.fst x_2))))))))
                        (Prod.fst
                          (Prod.snd (Prod.snd (Prod.snd (Prod.snd (Prod.snd (Prod.snd (Prod.snd (Prod.fst x_2)))))))))
                        (Prod.fst
                          (Prod.snd
                            (Prod.snd
                              (Prod.snd (Prod.snd (Prod.snd (Prod.snd (Prod.snd (Prod.snd (Prod.fst x_2))))))))))
                        (Prod.fst
                          (Prod.snd
                            (Prod.snd
                              (Prod.snd
                                (Prod.snd (Prod.snd (Prod.snd (Prod.snd (Prod.snd (Prod.snd (Prod.fst x_2)))))))))))
                        (Prod.fst
                          (Prod.snd
                            (Prod.snd
                              (Prod.snd
                                (Prod.snd
                                  (Prod.snd (Prod.snd (Prod.snd (Prod.snd (Prod.snd (Prod.snd (Prod.fst x_2))))))))))))
                        (Prod.fst
                          (Prod.snd
                            (Prod.snd
                              (Prod.snd
                                (Prod.snd
                                  (Prod.snd
                                    (Prod.snd
                                      (Prod.snd (Prod.snd (Prod.snd (Prod.snd (Prod.snd (Prod.fst x_2)))))))))))))
                        (Prod.snd
                          (Prod.snd
                            (Prod.snd
                              (Prod.snd
                                (Prod.snd
                                  (Prod.snd
                                    (Prod.snd
                                      (Prod.snd (Prod.snd (Prod.snd (Prod.snd (Prod.snd (Prod.fst x_2)))))))))))))
                        (Prod.fst (Prod.fst x_3)) (Prod.fst (Prod.snd (Prod.fst x_3)))
                        (Prod.fst (Prod.snd (Prod.snd (Prod.fst x_3))))
                        (Prod.fst (Prod.snd (Prod.snd (Prod.snd (Prod.fst x_3)))))
                        (Prod.fst (Prod.snd (Prod.snd (Prod.snd (Prod.snd (Prod.fst x_3))))))
                        (Prod.fst (Prod.snd (Prod.snd (Prod.snd (Prod.snd (Prod.snd (Prod.fst x_3)))))))
                        (Prod.fst (Prod.snd (Prod.snd (Prod.snd (Prod.snd (Prod.snd (Prod.snd (Prod.fst x_3))))))))
                        (Prod.fst
                          (Prod.snd (Prod.snd (Prod.snd (Prod.snd (Prod.snd (Prod.snd (Prod.snd (Prod.fst x_3)))))))))
                        (Prod.fst
                          (Prod.snd
                            (Prod.snd
                              (Prod.snd (Prod.snd (Prod.snd (Prod.snd (Prod.snd (Prod.snd (Prod.fst x_3))))))))))
                        (Prod.fst
                          (Prod.snd
                            (Prod.snd
                              (Prod.snd
                                (Prod.snd (Prod.snd (Prod.snd (Prod.snd (Prod.snd (Prod.snd (Prod.fst x_3)))))))))))
                        (Prod.fst
                          (Prod.snd
                            (Prod.snd
                              (Prod.snd
                                (Prod.snd
                                  (Prod.snd (Prod.snd (Prod.snd (Prod.snd (Prod.snd (Prod.snd (Prod.fst x_3))))))))))))
                        (Prod.fst
                          (Prod.snd
                            (Prod.snd
                              (Prod.snd
                                (Prod.snd
                                  (Prod.snd
                                    (Prod.snd
                                      (Prod.snd (Prod.snd (Prod.snd (Prod.snd (Prod.snd (Prod.fst x_3)))))))))))))
                        (Prod.snd
                          (Prod.snd
                            (Prod.snd
                              (Prod.snd
                                (Prod.snd
                                  (Prod.snd
                                    (Prod.snd
                                      (Prod.snd (Prod.snd (Prod.snd (Prod.snd (Prod.snd (Prod.fst x_3)))))))))))))))
                    (J (Prod.fst (Prod.snd (Prod.snd (Prod.snd (Prod.snd x))))) (Prod.fst (Prod.fst x))
                      (Prod.fst (Prod.snd (Prod.fst x))) (Prod.fst (Prod.snd (Prod.snd (Prod.fst x))))
                      (Prod.fst (Prod.snd (Prod.snd (Prod.snd (Prod.fst x)))))
                      (Prod.fst (Prod.snd (Prod.snd (Prod.snd (Prod.snd (Prod.fst x))))))
                      (Prod.fst (Prod.snd (Prod.snd (Prod.snd (Prod.snd (Prod.snd (Prod.fst x)))))))
                      (Prod.fst (Prod.snd (Prod.snd (Prod.snd (Prod.snd (Prod.snd (Prod.snd (Prod.fst x))))))))
                      (Prod.fst
                        (Prod.snd (Prod.snd (Prod.snd (Prod.snd (Prod.snd (Prod.snd (Prod.snd (Prod.fst x)))))))))
                      (Prod.fst
                        (Prod.snd
                          (Prod.snd (Prod.snd (Prod.snd (Prod.snd (Prod.snd (Prod.snd (Prod.snd (Prod.fst x))))))))))
                      (Prod.fst
                        (Prod.snd
                          (Prod.snd
                            (Prod.snd (Prod.snd (Prod.snd (Prod.snd (Prod.snd (Prod.snd (Prod.snd (Prod.fst x)))))))))))
                      (Prod.fst
                        (Prod.snd
                          (Prod.snd
                            (Prod.snd
                              (Prod.snd
                                (Prod.snd (Prod.snd (Prod.snd (Prod.snd (Prod.snd (Prod.snd (Prod.fst x))))))))))))
                      (Prod.fst
                        (Prod.snd
                          (Prod.snd
                            (Prod.snd
                              (Prod.snd
                                (Prod.snd
                                  (Prod.snd (Prod.snd (Prod.snd (Prod.snd (Prod.snd (Prod.snd (Prod.fst x)))))))))))))
                      (Prod.snd
                        (Prod.snd
                          (Prod.snd
                            (Prod.snd
                              (Prod.snd
                                (Prod.snd
                                  (Prod.snd (Prod.snd (Prod.snd (Prod.snd (Prod.snd (Prod.snd (Prod.fst x)))))))))))))
                      (Prod.fst (Prod.fst (Prod.snd x))) (Prod.fst (Prod.snd (Prod.fst (Prod.snd x))))
                      (Prod.fst (Prod.snd (Prod.snd (Prod.fst (Prod.snd x)))))
                      (Prod.fst (Prod.snd (Prod.snd (Prod.snd (Prod.fst (Prod.snd x))))))
                      (Prod.fst (Prod.snd (Prod.snd (Prod.snd (Prod.snd (Prod.fst (Prod.snd x)))))))
                      (Prod.fst (Prod.snd (Prod.snd (Prod.snd (Prod.snd (Prod.snd (Prod.fst (Prod.snd x))))))))
                      (Prod.fst
                        (Prod.snd (Prod.snd (Prod.snd (Prod.snd (Prod.snd (Prod.snd (Prod.fst (Prod.snd x)))))))))
                      (Prod.fst
                        (Prod.snd
                          (Prod.snd (Prod.snd (Prod.snd (Prod.snd (Prod.snd (Prod.snd (Prod.fst (Prod.snd x))))))))))
                      (Prod.fst
                        (Prod.snd
                          (Prod.snd
                            (Prod.snd (Prod.snd (Prod.snd (Prod.snd (Prod.snd (Prod.snd (Prod.fst (Prod.snd x)))))))))))
                      (Prod.fst
                        (Prod.snd
                          (Prod.snd
                            (Prod.snd
                              (Prod.snd
                                (Prod.snd (Prod.snd (Prod.snd (Prod.snd (Prod.snd (Prod.fst (Prod.snd x))))))))))))
                      (Prod.fst
                        (Prod.snd
                          (Prod.snd
                            (Prod.snd
                              (Prod.snd
                                (Prod.snd
                                  (Prod.snd (Prod.snd (Prod.snd (Prod.snd (Prod.snd (Prod.fst (Prod.snd x)))))))))))))
                      (Prod.fst
                        (Prod.snd
                          (Prod.snd
                            (Prod.snd
                              (Prod.snd
                                (Prod.snd
                                  (Prod.snd
                                    (Prod.snd
                                      (Prod.snd (Prod.snd (Prod.snd (Prod.snd (Prod.fst (Prod.snd x))))))))))))))
                      (Prod.snd
                        (Prod.snd
                          (Prod.snd
                            (Prod.snd
                              (Prod.snd
                                (Prod.snd
                                  (Prod.snd
                                    (Prod.snd
                                      (Prod.snd (Prod.snd (Prod.snd (Prod.snd (Prod.fst (Prod.snd x))))))))))))))
                      (Prod.fst (Prod.fst x_2)) (Prod.fst (Prod.snd (Prod.fst x_2)))
                      (Prod.fst (Prod.snd (Prod.snd (Prod.fst x_2))))
                      (Prod.fst (Prod.snd (Prod.snd (Prod.snd (Prod.fst x_2)))))
                      (Prod.fst (Prod.snd (Prod.snd (Prod.snd (Prod.snd (Prod.fst x_2))))))
                      (Prod.fst (Prod.snd (Prod.snd (Prod.snd (Prod.snd (Prod.snd (Prod.fst x_2)))))))
                      (Prod.fst (Prod.snd (Prod.snd (Prod.snd (Prod.snd (Prod.snd (Prod.snd (Prod.fst x_2))))))))
                      (Prod.fst
                        (Prod.snd (Prod.snd (Prod.snd (Prod.snd (Prod.snd (Prod.snd (Prod.snd (Prod.fst x_2)))))))))
                      (Prod.fst
                        (Prod.snd
                          (Prod.snd (Prod.snd (Prod.snd (Prod.snd (Prod.snd (Prod.snd (Prod.snd (Prod.fst x_2))))))))))
                      (Prod.fst
                        (Prod.snd
                          (Prod.snd
                            (Prod.snd
                              (Prod.snd (Prod.snd (Prod.snd (Prod.snd (Prod.snd (Prod.snd (Prod.fst x_2)))))))))))
                      (Prod.fst
                        (Prod.snd
                          (Prod.snd
                            (Prod.snd
                              (Prod.snd
                                (Prod.snd (Prod.snd (Prod.snd (Prod.snd (Prod.snd (Prod.snd (Prod.fst x_2))))))))))))
                      (Prod.fst
                        (Prod.snd
                          (Prod.snd
                            (Prod.snd
                              (Prod.snd
                                (Prod.snd
                                  (Prod.snd (Prod.snd (Prod.snd (Prod.snd (Prod.snd (Prod.snd (Prod.fst x_2)))))))))))))
                      (Prod.snd
                        (Prod.snd
                          (Prod.snd
                            (Prod.snd
                              (Prod.snd
                                (Prod.snd
                                  (Prod.snd (Prod.snd (Prod.snd (Prod.snd (Prod.snd (Prod.snd (Prod.fst x_2)))))))))))))
                      (Prod.fst (Prod.fst x_3)) (Prod.fst (Prod.snd (Prod.fst x_3)))
                      (Prod.fst (Prod.snd (Prod.snd (Prod.fst x_3))))
                      (Prod.fst (Prod.snd (Prod.snd (Prod.snd (Prod.fst x_3)))))
                      (Prod.fst (Prod.snd (Prod.snd (Prod.snd (Prod.snd (Prod.fst x_3))))))
                      (Prod.fst (Prod.snd (Prod.snd (Prod.snd (Prod.snd (Prod.snd (Prod.fst x_3)))))))
                      (Prod.fst (Prod.snd (Prod.snd (Prod.snd (Prod.snd (Prod.snd (Prod.snd (Prod.fst x_3))))))))
                      (Prod.fst
                        (Prod.snd (Prod.snd (Prod.snd (Prod.snd (Prod.snd (Prod.snd (Prod.snd (Prod.fst x_3)))))))))
                      (Prod.fst
                        (Prod.snd
                          (Prod.snd (Prod.snd (Prod.snd (Prod.snd (Prod.snd (Prod.snd (Prod.snd (Prod.fst x_3))))))))))
                      (Prod.fst
                        (Prod.snd
                          (Prod.snd
                            (Prod.snd
                              (Prod.snd (Prod.snd (Prod.snd (Prod.snd (Prod.snd (Prod.snd (Prod.fst x_3)))))))))))
                      (Prod.fst
                        (Prod.snd
                          (Prod.snd
                            (Prod.snd
                              (Prod.snd
                                (Prod.snd (Prod.snd (Prod.snd (Prod.snd (Prod.snd (Prod.snd (Prod.fst x_3))))))))))))
                      (Prod.fst
                        (Prod.snd
                          (Prod.snd
                            (Prod.snd
                              (Prod.snd
                                (Prod.snd
                                  (Prod.snd (Prod.snd (Prod.snd (Prod.snd (Prod.snd (Prod.snd (Prod.fst x_3)))))))))))))
                      (Prod.snd
                        (Prod.snd
                          (Prod.snd
                            (Prod.snd
                              (Prod.snd
                                (Prod.snd
                                  (Prod.snd
                                    (Prod.snd (Prod.snd (Prod.snd (Prod.snd (Prod.snd (Prod.fst x_3)))))))))))))))
                (F4_J31 n))))
theorem F4_R32437_s (n : Nat) (rec : Arr [PT.int IntKind.u64, PT.int IntKind.i64, PT.int IntKind.i64, PT.list (CTs.cons CT.bool (CTs.cons (CT.int IntKind.u8) (CTs.cons (CT.int IntKind.u64) (CTs.cons (CT.int IntKind.u64) (CTs.cons CT.str (CTs.cons (CT.ro (CTs.cons CT.str (CTs.cons CT.str CTs.nil))) (CTs.cons (CT.int IntKind.u8) (CTs.cons (CT.int IntKind.u8) (CTs.cons (CT.int IntKind.i64) (CTs.cons (CT.int IntKind.u8) (CTs.cons (CT.int IntKind.u8) (CTs.cons (CT.int IntKind.u64) (CTs.cons (CT.int IntKind.u64) (CTs.cons CT.bool (CTs.cons (CT.int IntKind.u8) (CTs.cons (CT.int IntKind.u64) (CTs.cons (CT.int IntKind.u64) (CTs.cons CT.str (CTs.cons (CT.ro (CTs.cons CT.str (CTs.cons CT.str CTs.nil))) (CTs.cons (CT.int IntKind.u8) (CTs.cons (CT.int IntKind.u8) (CTs.cons (CT.int IntKind.i64) (CTs.cons (CT.int IntKind.u8) (CTs.cons (CT.int IntKind.u8) (CTs.cons (CT.int IntKind.u64) (CTs.cons (CT.int IntKind.u64) CTs.nil))))))))))))))))))))))))))] (Option (Bool × Unit))) (m_ : Nat) : F4_R32437 n rec (m_ + 1) = F4_L32437 n rec (F4_R32437 n rec m_) := rfl
theorem F4_R253_s (n : Nat) (m_ : Nat) : F4_R253 n (m_ + 1) = F4_L253 n (F4_R253 n m_) := rfl
theorem ok4 (n : Nat) : FunOK Try.prog ⟨4, sig4, F4 n⟩ :=
  fun_ok (hints := ⟨[(31, ⟨[(4, .one (.int .u64)), (6, .one (.own 6)), (7, .one (.own 7)), (13, .one (.own 8)), (14, .one (.own 9))], [(6, .cells [.bool, .int .u8, .int .u64, .int .u64, .str, .ro (.cons .str (.cons .str .nil)), .int .u8, .int .u8, .int .i64, .int .u8, .int .u8, .int .u64, .int .u64]), (7, .cells [.bool, .int .u8, .int .u64, .int .u64, .str, .ro (.cons .str (.cons .str .nil)), .int .u8, .int .u8, .int .i64, .int .u8, .int .u8, .int .u64, .int .u64]), (8, .cells [.bool, .int .u8, .int .u64, .int .u64, .str, .ro (.cons .str (.cons .str .nil)), .int .u8, .int .u8, .int .i64, .int .u8, .int .u8, .int .u64, .int .u64]), (9, .cells [.bool, .int .u8, .int .u64, .int .u64, .str, .ro (.cons .str (.cons .str .nil)), .int .u8, .int .u8, .int .i64, .int .u8, .int .u8, .int .u64, .int .u64])], 10⟩), (64879, ⟨[(4, .one (.int .u64)), (16, .one (.own 6)), (92, .one (.own 7)), (93, .one (.int .i64)), (94, .one (.int .i64))], [(6, .cells [.bool, .int .u8, .int .u64, .int .u64, .str, .ro (.cons .str (.cons .str .nil)), .int .u8, .int .u8, .int .i64, .int .u8, .int .u8, .int .u64, .int .u64, .bool, .int .u8, .int .u64, .int .u64, .str, .ro (.cons .str (.cons .str .nil)), .int .u8, .int .u8, .int .i64, .int .u8, .int .u8, .int .u64, .int .u64]), (7, .row (.cons .bool (.cons (.int .u8) (.cons (.int .u64) (.cons (.int .u64) (.cons .str (.cons (.ro (.cons .str (.cons .str .nil))) (.cons (.int .u8) (.cons (.int .u8) (.cons (.int .i64) (.cons (.int .u8) (.cons (.int .u8) (.cons (.int .u64) (.cons (.int .u64) (.cons .bool (.cons (.int .u8) (.cons (.int .u64) (.cons (.int .u64) (.cons .str (.cons (.ro (.cons .str (.cons .str .nil))) (.cons (.int .u8) (.cons (.int .u8) (.cons (.int .i64) (.cons (.int .u8) (.cons (.int .u8) (.cons (.int .u64) (.cons (.int .u64) .nil)))))))))))))))))))))))))))], 8⟩), (519039, ⟨[(4, .one (.int .u64)), (29, .one (.own 6)), (30, .one (.bool)), (31, .one (.own 7)), (32, .one (.own 8)), (33, .one (.bool)), (92, .one (.own 9)), (93, .one (.int .i64)), (94, .one (.int .i64))], [(6, .cells [.bool, .int .u8, .int .u64, .int .u64, .str, .ro (.cons .str (.cons .str .nil)), .int .u8, .int .u8, .int .i64, .int .u8, .int .u8, .int .u64, .int .u64]), (7, .cells [.int .u8, .int .u64, .int .u64]), (8, .cells [.int .u8, .int .u64, .int .u64]), (9, .row (.cons .bool (.cons (.int .u8) (.cons (.int .u64) (.cons (.int .u64) (.cons .str (.cons (.ro (.cons .str (.cons .str .nil))) (.cons (.int .u8) (.cons (.int .u8) (.cons (.int .i64) (.cons (.int .u8) (.cons (.int .u8) (.cons (.int .u64) (.cons (.int .u64) (.cons .bool (.cons (.int .u8) (.cons (.int .u64) (.cons (.int .u64) (.cons .str (.cons (.ro (.cons .str (.cons .str .nil))) (.cons (.int .u8) (.cons (.int .u8) (.cons (.int .i64) (.cons (.int .u8) (.cons (.int .u8) (.cons (.int .u64) (.cons (.int .u64) .nil)))))))))))))))))))))))))))], 10⟩)], [(253, ⟨[(4, .one (.int .u64)), (92, .one (.own 6)), (93, .one (.int .i64)), (94, .one (.int .i64))], [(6, .row (.cons .bool (.cons (.int .u8) (.cons (.int .u64) (.cons (.int .u64) (.cons .str (.cons (.ro (.cons .str (.cons .str .nil))) (.cons (.int .u8) (.cons (.int .u8) (.cons (.int .i64) (.cons (.int .u8) (.cons (.int .u8) (.cons (.int .u64) (.cons (.int .u64) (.cons .bool (.cons (.int .u8) (.cons (.int .u64) (.cons (.int .u64) (.cons .str (.cons (.ro (.cons .str (.cons .str .nil))) (.cons (.int .u8) (.cons (.int .u8) (.cons (.int .i64) (.cons (.int .u8) (.cons (.int .u8) (.cons (.int .u64) (.cons (.int .u64) .nil)))))))))))))))))))))))))))], 7⟩), (32437, ⟨[(4, .one (.int .u64)), (16, .one (.own 6)), (92, .one (.own 7)), (93, .one (.int .i64)), (94, .one (.int .i64)), (101, .one (.own 8)), (102, .one (.int .i64)), (103, .one (.int .i64))], [(6, .cells [.bool, .int .u8, .int .u64, .int .u64, .str, .ro (.cons .str (.cons .str .nil)), .int .u8, .int .u8, .int .i64, .int .u8, .int .u8, .int .u64, .int .u64, .bool, .int .u8, .int .u64, .int .u64, .str, .ro (.cons .str (.cons .str .nil)), .int .u8, .int .u8, .int .i64, .int .u8, .int .u8, .int .u64, .int .u64]), (7, .row (.cons .bool (.cons (.int .u8) (.cons (.int .u64) (.cons (.int .u64) (.cons .str (.cons (.ro (.cons .str (.cons .str .nil))) (.cons (.int .u8) (.cons (.int .u8) (.cons (.int .i64) (.cons (.int .u8) (.cons (.int .u8) (.cons (.int .u64) (.cons (.int .u64) (.cons .bool (.cons (.int .u8) (.cons (.int .u64) (.cons (.int .u64) (.cons .str (.cons (.ro (.cons .str (.cons .str .nil))) (.cons (.int .u8) (.cons (.int .u8) (.cons (.int .i64) (.cons (.int .u8) (.cons (.int .u8) (.cons (.int .u64) (.cons (.int .u64) .nil))))))))))))))))))))))))))), (8, .row (.cons (.int .u64) .nil))], 9⟩)]⟩) (fuel := n) (c := Try.f4.body.getD .skip) (rs := Try.f4.results.toList) tt_ok mix (FsOK.cons (ok8 n) (FsOK.cons (ok9 n) (FsOK.cons (ok14 n) (FsOK.cons (ok15 n) (FsOK.cons (ok16 n) (FsOK.cons (ok17 n) (FsOK.cons (ok18 n) (FsOK.cons (ok19 n) (FsOK.cons (ok20 n) (FsOK.nil)))))))))) Try.func4 (by kernel_rfl) (by kernel_rfl) rfl (by kernel_rfl) rfl rfl (by kernel_rfl)
end Go.Proofs.Ytehelahnlnfofaa
