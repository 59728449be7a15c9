/- What the functions of this seat compute, found by walking their code symbolically: each F is what the walk finds, each ok says that the Go function keeps it as a contract. Printed by a program of this repo's. -/
import Derived.Test.YtllfmmonieelpaaReFns3
open Go Go.Sx
namespace Go.Proofs.Ytllfmmonieelpaa
set_option maxRecDepth 100000
set_option linter.unusedVariables false
-- watchfire/watchfirelaw11.RecvPlays
def sig4 : Sig := ⟨(.cons (.one (.c (.int .u8))) (.cons (.one (.c (.ro (.cons (.int .u8) (.cons (.int .u64) (.cons .bool (.cons (.int .u8) (.cons (.int .u8) (.cons (.int .u8) (.cons (.int .u16) (.cons (.int .u16) (.cons (.int .u16) (.cons (.int .u8) (.cons (.int .u8) (.cons (.int .u8) (.cons .bool (.cons .bool (.cons (.int .u8) (.cons (.int .u64) (.cons (.int .u64) (.cons .str (.cons (.ro (.cons .str (.cons .str .nil))) (.cons (.int .u8) (.cons (.int .u8) (.cons (.int .i64) (.cons (.int .u8) (.cons (.int .u8) (.cons (.int .u64) (.cons (.int .u64) (.cons .bool .nil)))))))))))))))))))))))))))))) .nil)), (.cons (.one (.c .bool)) .nil)⟩
def F4_J2076159 : Arr
    [PT.int IntKind.i64, PT.int IntKind.i64,
      PT.list
        (CTs.cons (CT.int IntKind.u8)
          (CTs.cons (CT.int IntKind.u64)
            (CTs.cons CT.bool
              (CTs.cons (CT.int IntKind.u8)
                (CTs.cons (CT.int IntKind.u8)
                  (CTs.cons (CT.int IntKind.u8)
                    (CTs.cons (CT.int IntKind.u16)
                      (CTs.cons (CT.int IntKind.u16)
                        (CTs.cons (CT.int IntKind.u16)
                          (CTs.cons (CT.int IntKind.u8)
                            (CTs.cons (CT.int IntKind.u8)
                              (CTs.cons (CT.int IntKind.u8)
                                (CTs.cons CT.bool
                                  (CTs.cons CT.bool
                                    (CTs.cons (CT.int IntKind.u8)
                                      (CTs.cons (CT.int IntKind.u64)
                                        (CTs.cons (CT.int IntKind.u64)
                                          (CTs.cons CT.str
                                            (CTs.cons (CT.ro (CTs.cons CT.str (CTs.cons CT.str CTs.nil)))
                                              (CTs.cons (CT.int IntKind.u8)
                                                (CTs.cons (CT.int IntKind.u8)
                                                  (CTs.cons (CT.int IntKind.i64)
                                                    (CTs.cons (CT.int IntKind.u8)
                                                      (CTs.cons (CT.int IntKind.u8)
                                                        (CTs.cons (CT.int IntKind.u64)
                                                          (CTs.cons (CT.int IntKind.u64)
                                                            (CTs.cons CT.bool CTs.nil))))))))))))))))))))))))))),
      PT.int IntKind.i64, PT.int IntKind.i64,
      PT.opt
        (OTs.cons (OT.c (CT.int IntKind.i64))
          (OTs.cons (OT.c (CT.int IntKind.u64))
            (OTs.cons
              (OT.map (VT.one (CT.int IntKind.u64))
                (VT.agg
                  (CTs.cons CT.bool
                    (CTs.cons (CT.int IntKind.u8)
                      (CTs.cons (CT.int IntKind.u64)
                        (CTs.cons (CT.int IntKind.u64)
                          (CTs.cons CT.str
                            (CTs.cons (CT.ro (CTs.cons CT.str (CTs.cons CT.str CTs.nil)))
                              (CTs.cons (CT.int IntKind.u8)
                                (CTs.cons (CT.int IntKind.u8)
                                  (CTs.cons (CT.int IntKind.i64)
                                    (CTs.cons (CT.int IntKind.u8)
                                      (CTs.cons (CT.int IntKind.u8)
                                        (CTs.cons (CT.int IntKind.u64)
                                          (CTs.cons (CT.int IntKind.u64) CTs.nil)))))))))))))))
              (OTs.cons (OT.c (CT.int IntKind.u64)) OTs.nil)))),
      PT.opt
        (OTs.cons (OT.c (CT.int IntKind.i64))
          (OTs.cons (OT.c (CT.int IntKind.u64))
            (OTs.cons (OT.c (CT.int IntKind.u64))
              (OTs.cons
                (OT.row
                  (CTs.cons (CT.int IntKind.u64)
                    (CTs.cons CT.bool
                      (CTs.cons (CT.int IntKind.u8)
                        (CTs.cons (CT.int IntKind.u64)
                          (CTs.cons (CT.int IntKind.u64)
                            (CTs.cons CT.str
                              (CTs.cons (CT.ro (CTs.cons CT.str (CTs.cons CT.str CTs.nil)))
                                (CTs.cons (CT.int IntKind.u8)
                                  (CTs.cons (CT.int IntKind.u8)
                                    (CTs.cons (CT.int IntKind.i64)
                                      (CTs.cons (CT.int IntKind.u8)
                                        (CTs.cons (CT.int IntKind.u8)
                                          (CTs.cons (CT.int IntKind.u64)
                                            (CTs.cons (CT.int IntKind.u64) CTs.nil)))))))))))))))
                OTs.nil))))]
    (Option (Bool × Unit)) →
  Int64 →
    Int64 →
      List
          (UInt8 ×
            UInt64 ×
              Bool ×
                UInt8 ×
                  UInt8 ×
                    UInt8 ×
                      UInt16 ×
                        UInt16 ×
                          UInt16 ×
                            UInt8 ×
                              UInt8 ×
                                UInt8 ×
                                  Bool ×
                                    Bool ×
                                      UInt8 ×
                                        UInt64 ×
                                          UInt64 ×
                                            List UInt8 ×
                                              List (List UInt8 × List UInt8) ×
                                                UInt8 × UInt8 × Int64 × UInt8 × UInt8 × UInt64 × UInt64 × Bool) →
        Int64 →
          Int64 →
            Bool →
              Option
                  (Int64 ×
                    UInt64 ×
                      List
                          (UInt64 ×
                            Bool ×
                              UInt8 ×
                                UInt64 ×
                                  UInt64 ×
                                    List UInt8 ×
                                      List (List UInt8 × List UInt8) ×
                                        UInt8 × UInt8 × Int64 × UInt8 × UInt8 × UInt64 × UInt64) ×
                        UInt64) →
                Option
                    (Int64 ×
                      UInt64 ×
                        UInt64 ×
                          List
                            (UInt64 ×
                              Bool ×
                                UInt8 ×
                                  UInt64 ×
                                    UInt64 ×
                                      List UInt8 ×
                                        List (List UInt8 × List UInt8) ×
                                          UInt8 × UInt8 × Int64 × UInt8 × UInt8 × UInt64 × UInt64)) →
                  Option (Bool × Unit) := fun
    (rec :
      Arr
        [PT.int IntKind.i64, PT.int IntKind.i64,
          PT.list
            (CTs.cons (CT.int IntKind.u8)
              (CTs.cons (CT.int IntKind.u64)
                (CTs.cons CT.bool
                  (CTs.cons (CT.int IntKind.u8)
                    (CTs.cons (CT.int IntKind.u8)
                      (CTs.cons (CT.int IntKind.u8)
                        (CTs.cons (CT.int IntKind.u16)
                          (CTs.cons (CT.int IntKind.u16)
                            (CTs.cons (CT.int IntKind.u16)
                              (CTs.cons (CT.int IntKind.u8)
                                (CTs.cons (CT.int IntKind.u8)
                                  (CTs.cons (CT.int IntKind.u8)
                                    (CTs.cons CT.bool
                                      (CTs.cons CT.bool
                                        (CTs.cons (CT.int IntKind.u8)
                                          (CTs.cons (CT.int IntKind.u64)
                                            (CTs.cons (CT.int IntKind.u64)
                                              (CTs.cons CT.str
                                                (CTs.cons (CT.ro (CTs.cons CT.str (CTs.cons CT.str CTs.nil)))
                                                  (CTs.cons (CT.int IntKind.u8)
                                                    (CTs.cons (CT.int IntKind.u8)
                                                      (CTs.cons (CT.int IntKind.i64)
                                                        (CTs.cons (CT.int IntKind.u8)
                                                          (CTs.cons (CT.int IntKind.u8)
                                                            (CTs.cons (CT.int IntKind.u64)
                                                              (CTs.cons (CT.int IntKind.u64)
                                                                (CTs.cons CT.bool CTs.nil))))))))))))))))))))))))))),
          PT.int IntKind.i64, PT.int IntKind.i64,
          PT.opt
            (OTs.cons (OT.c (CT.int IntKind.i64))
              (OTs.cons (OT.c (CT.int IntKind.u64))
                (OTs.cons
                  (OT.map (VT.one (CT.int IntKind.u64))
                    (VT.agg
                      (CTs.cons CT.bool
                        (CTs.cons (CT.int IntKind.u8)
                          (CTs.cons (CT.int IntKind.u64)
                            (CTs.cons (CT.int IntKind.u64)
                              (CTs.cons CT.str
                                (CTs.cons (CT.ro (CTs.cons CT.str (CTs.cons CT.str CTs.nil)))
                                  (CTs.cons (CT.int IntKind.u8)
                                    (CTs.cons (CT.int IntKind.u8)
                                      (CTs.cons (CT.int IntKind.i64)
                                        (CTs.cons (CT.int IntKind.u8)
                                          (CTs.cons (CT.int IntKind.u8)
                                            (CTs.cons (CT.int IntKind.u64)
                                              (CTs.cons (CT.int IntKind.u64) CTs.nil)))))))))))))))
                  (OTs.cons (OT.c (CT.int IntKind.u64)) OTs.nil)))),
          PT.opt
            (OTs.cons (OT.c (CT.int IntKind.i64))
              (OTs.cons (OT.c (CT.int IntKind.u64))
                (OTs.cons (OT.c (CT.int IntKind.u64))
                  (OTs.cons
                    (OT.row
                      (CTs.cons (CT.int IntKind.u64)
                        (CTs.cons CT.bool
                          (CTs.cons (CT.int IntKind.u8)
                            (CTs.cons (CT.int IntKind.u64)
                              (CTs.cons (CT.int IntKind.u64)
                                (CTs.cons CT.str
                                  (CTs.cons (CT.ro (CTs.cons CT.str (CTs.cons CT.str CTs.nil)))
                                    (CTs.cons (CT.int IntKind.u8)
                                      (CTs.cons (CT.int IntKind.u8)
                                        (CTs.cons (CT.int IntKind.i64)
                                          (CTs.cons (CT.int IntKind.u8)
                                            (CTs.cons (CT.int IntKind.u8)
                                              (CTs.cons (CT.int IntKind.u64)
                                                (CTs.cons (CT.int IntKind.u64) CTs.nil)))))))))))))))
                    OTs.nil))))]
        (Option (Bool × Unit)))
    (w_2 e_2 : Int64)
    (t_4 :
      List
        (UInt8 ×
          UInt64 ×
            Bool ×
              UInt8 ×
                UInt8 ×
                  UInt8 ×
                    UInt16 ×
                      UInt16 ×
                        UInt16 ×
                          UInt8 ×
                            UInt8 ×
                              UInt8 ×
                                Bool ×
                                  Bool ×
                                    UInt8 ×
                                      UInt64 ×
                                        UInt64 ×
                                          List UInt8 ×
                                            List (List UInt8 × List UInt8) ×
                                              UInt8 × UInt8 × Int64 × UInt8 × UInt8 × UInt64 × UInt64 × Bool))
    (t_1_2 t_2_2 : Int64) (t_3_1 : Bool)
    (r_2 :
      Option
        (Int64 ×
          UInt64 ×
            List
                (UInt64 ×
                  Bool ×
                    UInt8 ×
                      UInt64 ×
                        UInt64 ×
                          List UInt8 ×
                            List (List UInt8 × List UInt8) × UInt8 × UInt8 × Int64 × UInt8 × UInt8 × UInt64 × UInt64) ×
              UInt64))
    (m_2 :
      Option
        (Int64 ×
          UInt64 ×
            UInt64 ×
              List
                (UInt64 ×
                  Bool ×
                    UInt8 ×
                      UInt64 ×
                        UInt64 ×
                          List UInt8 ×
                            List (List UInt8 × List UInt8) ×
                              UInt8 × UInt8 × Int64 × UInt8 × UInt8 × UInt64 × UInt64))) =>
  oite t_3_1 (some (false, ())) (rec w_2 e_2 t_4 t_1_2 (t_2_2 + (1 : Int64)) r_2 m_2)
def F4_J32439 : Nat →
  Arr
      [PT.int IntKind.i64, PT.int IntKind.i64,
        PT.list
          (CTs.cons (CT.int IntKind.u8)
            (CTs.cons (CT.int IntKind.u64)
              (CTs.cons CT.bool
                (CTs.cons (CT.int IntKind.u8)
                  (CTs.cons (CT.int IntKind.u8)
                    (CTs.cons (CT.int IntKind.u8)
                      (CTs.cons (CT.int IntKind.u16)
                        (CTs.cons (CT.int IntKind.u16)
                          (CTs.cons (CT.int IntKind.u16)
                            (CTs.cons (CT.int IntKind.u8)
                              (CTs.cons (CT.int IntKind.u8)
                                (CTs.cons (CT.int IntKind.u8)
                                  (CTs.cons CT.bool
                                    (CTs.cons CT.bool
                                      (CTs.cons (CT.int IntKind.u8)
                                        (CTs.cons (CT.int IntKind.u64)
                                          (CTs.cons (CT.int IntKind.u64)
                                            (CTs.cons CT.str
                                              (CTs.cons (CT.ro (CTs.cons CT.str (CTs.cons CT.str CTs.nil)))
                                                (CTs.cons (CT.int IntKind.u8)
                                                  (CTs.cons (CT.int IntKind.u8)
                                                    (CTs.cons (CT.int IntKind.i64)
                                                      (CTs.cons (CT.int IntKind.u8)
                                                        (CTs.cons (CT.int IntKind.u8)
                                                          (CTs.cons (CT.int IntKind.u64)
                                                            (CTs.cons (CT.int IntKind.u64)
                                                              (CTs.cons CT.bool CTs.nil))))))))))))))))))))))))))),
        PT.int IntKind.i64, PT.int IntKind.i64,
        PT.opt
          (OTs.cons (OT.c (CT.int IntKind.i64))
            (OTs.cons (OT.c (CT.int IntKind.u64))
              (OTs.cons
                (OT.map (VT.one (CT.int IntKind.u64))
                  (VT.agg
                    (CTs.cons CT.bool
                      (CTs.cons (CT.int IntKind.u8)
                        (CTs.cons (CT.int IntKind.u64)
                          (CTs.cons (CT.int IntKind.u64)
                            (CTs.cons CT.str
                              (CTs.cons (CT.ro (CTs.cons CT.str (CTs.cons CT.str CTs.nil)))
                                (CTs.cons (CT.int IntKind.u8)
                                  (CTs.cons (CT.int IntKind.u8)
                                    (CTs.cons (CT.int IntKind.i64)
                                      (CTs.cons (CT.int IntKind.u8)
                                        (CTs.cons (CT.int IntKind.u8)
                                          (CTs.cons (CT.int IntKind.u64)
                                            (CTs.cons (CT.int IntKind.u64) CTs.nil)))))))))))))))
                (OTs.cons (OT.c (CT.int IntKind.u64)) OTs.nil)))),
        PT.opt
          (OTs.cons (OT.c (CT.int IntKind.i64))
            (OTs.cons (OT.c (CT.int IntKind.u64))
              (OTs.cons (OT.c (CT.int IntKind.u64))
                (OTs.cons
                  (OT.row
                    (CTs.cons (CT.int IntKind.u64)
                      (CTs.cons CT.bool
                        (CTs.cons (CT.int IntKind.u8)
                          (CTs.cons (CT.int IntKind.u64)
                            (CTs.cons (CT.int IntKind.u64)
                              (CTs.cons CT.str
                                (CTs.cons (CT.ro (CTs.cons CT.str (CTs.cons CT.str CTs.nil)))
                                  (CTs.cons (CT.int IntKind.u8)
                                    (CTs.cons (CT.int IntKind.u8)
                                      (CTs.cons (CT.int IntKind.i64)
                                        (CTs.cons (CT.int IntKind.u8)
                                          (CTs.cons (CT.int IntKind.u8)
                                            (CTs.cons (CT.int IntKind.u64)
                                              (CTs.cons (CT.int IntKind.u64) CTs.nil)))))))))))))))
                  OTs.nil))))]
      (Option (Bool × Unit)) →
    Int64 →
      Int64 →
        Int64 →
          Int64 →
            List
                (UInt8 ×
                  UInt64 ×
                    Bool ×
                      UInt8 ×
                        UInt8 ×
                          UInt8 ×
                            UInt16 ×
                              UInt16 ×
                                UInt16 ×
                                  UInt8 ×
                                    UInt8 ×
                                      UInt8 ×
                                        Bool ×
                                          Bool ×
                                            UInt8 ×
                                              UInt64 ×
                                                UInt64 ×
                                                  List UInt8 ×
                                                    List (List UInt8 × List UInt8) ×
                                                      UInt8 × UInt8 × Int64 × UInt8 × UInt8 × UInt64 × UInt64 × Bool) →
              Int64 →
                Int64 →
                  Option
                      (Int64 ×
                        UInt64 ×
                          List
                              (UInt64 ×
                                Bool ×
                                  UInt8 ×
                                    UInt64 ×
                                      UInt64 ×
                                        List UInt8 ×
                                          List (List UInt8 × List UInt8) ×
                                            UInt8 × UInt8 × Int64 × UInt8 × UInt8 × UInt64 × UInt64) ×
                            UInt64) →
                    Option
                        (Int64 ×
                          UInt64 ×
                            UInt64 ×
                              List
                                (UInt64 ×
                                  Bool ×
                                    UInt8 ×
                                      UInt64 ×
                                        UInt64 ×
                                          List UInt8 ×
                                            List (List UInt8 × List UInt8) ×
                                              UInt8 × UInt8 × Int64 × UInt8 × UInt8 × UInt64 × UInt64)) →
                      Option (Bool × Unit) := fun (n : Nat)
    (rec :
      Arr
        [PT.int IntKind.i64, PT.int IntKind.i64,
          PT.list
            (CTs.cons (CT.int IntKind.u8)
              (CTs.cons (CT.int IntKind.u64)
                (CTs.cons CT.bool
                  (CTs.cons (CT.int IntKind.u8)
                    (CTs.cons (CT.int IntKind.u8)
                      (CTs.cons (CT.int IntKind.u8)
                        (CTs.cons (CT.int IntKind.u16)
                          (CTs.cons (CT.int IntKind.u16)
                            (CTs.cons (CT.int IntKind.u16)
                              (CTs.cons (CT.int IntKind.u8)
                                (CTs.cons (CT.int IntKind.u8)
                                  (CTs.cons (CT.int IntKind.u8)
                                    (CTs.cons CT.bool
                                      (CTs.cons CT.bool
                                        (CTs.cons (CT.int IntKind.u8)
                                          (CTs.cons (CT.int IntKind.u64)
                                            (CTs.cons (CT.int IntKind.u64)
                                              (CTs.cons CT.str
                                                (CTs.cons (CT.ro (CTs.cons CT.str (CTs.cons CT.str CTs.nil)))
                                                  (CTs.cons (CT.int IntKind.u8)
                                                    (CTs.cons (CT.int IntKind.u8)
                                                      (CTs.cons (CT.int IntKind.i64)
                                                        (CTs.cons (CT.int IntKind.u8)
                                                          (CTs.cons (CT.int IntKind.u8)
                                                            (CTs.cons (CT.int IntKind.u64)
                                                              (CTs.cons (CT.int IntKind.u64)
                                                                (CTs.cons CT.bool CTs.nil))))))))))))))))))))))))))),
          PT.int IntKind.i64, PT.int IntKind.i64,
          PT.opt
            (OTs.cons (OT.c (CT.int IntKind.i64))
              (OTs.cons (OT.c (CT.int IntKind.u64))
                (OTs.cons
                  (OT.map (VT.one (CT.int IntKind.u64))
                    (VT.agg
                      (CTs.cons CT.bool
                        (CTs.cons (CT.int IntKind.u8)
                          (CTs.cons (CT.int IntKind.u64)
                            (CTs.cons (CT.int IntKind.u64)
                              (CTs.cons CT.str
                                (CTs.cons (CT.ro (CTs.cons CT.str (CTs.cons CT.str CTs.nil)))
                                  (CTs.cons (CT.int IntKind.u8)
                                    (CTs.cons (CT.int IntKind.u8)
                                      (CTs.cons (CT.int IntKind.i64)
                                        (CTs.cons (CT.int IntKind.u8)
                                          (CTs.cons (CT.int IntKind.u8)
                                            (CTs.cons (CT.int IntKind.u64)
                                              (CTs.cons (CT.int IntKind.u64) CTs.nil)))))))))))))))
                  (OTs.cons (OT.c (CT.int IntKind.u64)) OTs.nil)))),
          PT.opt
            (OTs.cons (OT.c (CT.int IntKind.i64))
              (OTs.cons (OT.c (CT.int IntKind.u64))
                (OTs.cons (OT.c (CT.int IntKind.u64))
                  (OTs.cons
                    (OT.row
                      (CTs.cons (CT.int IntKind.u64)
                        (CTs.cons CT.bool
                          (CTs.cons (CT.int IntKind.u8)
                            (CTs.cons (CT.int IntKind.u64)
                              (CTs.cons (CT.int IntKind.u64)
                                (CTs.cons CT.str
                                  (CTs.cons (CT.ro (CTs.cons CT.str (CTs.cons CT.str CTs.nil)))
                                    (CTs.cons (CT.int IntKind.u8)
                                      (CTs.cons (CT.int IntKind.u8)
                                        (CTs.cons (CT.int IntKind.i64)
                                          (CTs.cons (CT.int IntKind.u8)
                                            (CTs.cons (CT.int IntKind.u8)
                                              (CTs.cons (CT.int IntKind.u64)
                                                (CTs.cons (CT.int IntKind.u64) CTs.nil)))))))))))))))
                    OTs.nil))))]
        (Option (Bool × Unit)))
    (w_1 e_1 f code : Int64)
    (t_3 :
      List
        (UInt8 ×
          UInt64 ×
            Bool ×
              UInt8 ×
                UInt8 ×
                  UInt8 ×
                    UInt16 ×
                      UInt16 ×
                        UInt16 ×
                          UInt8 ×
                            UInt8 ×
                              UInt8 ×
                                Bool ×
                                  Bool ×
                                    UInt8 ×
                                      UInt64 ×
                                        UInt64 ×
                                          List UInt8 ×
                                            List (List UInt8 × List UInt8) ×
                                              UInt8 × UInt8 × Int64 × UInt8 × UInt8 × UInt64 × UInt64 × Bool))
    (t_1_1 t_2_1 : Int64)
    (r_1 :
      Option
        (Int64 ×
          UInt64 ×
            List
                (UInt64 ×
                  Bool ×
                    UInt8 ×
                      UInt64 ×
                        UInt64 ×
                          List UInt8 ×
                            List (List UInt8 × List UInt8) × UInt8 × UInt8 × Int64 × UInt8 × UInt8 × UInt64 × UInt64) ×
              UInt64))
    (m_1 :
      Option
        (Int64 ×
          UInt64 ×
            UInt64 ×
              List
                (UInt64 ×
                  Bool ×
                    UInt8 ×
                      UInt64 ×
                        UInt64 ×
                          List UInt8 ×
                            List (List UInt8 × List UInt8) ×
                              UInt8 × UInt8 × Int64 × UInt8 × UInt8 × UInt64 × UInt64))) =>
  oite (!decide (f = code)) (some (false, ()))
    (obind (F11 n r_1)
      fun
        (x_4 :
          ((Bool ×
                UInt8 ×
                  UInt64 ×
                    UInt64 ×
                      List UInt8 ×
                        List (List UInt8 × List UInt8) × UInt8 × UInt8 × Int64 × UInt8 × UInt8 × UInt64 × UInt64) ×
              Bool) ×
            Option
              (Int64 ×
                UInt64 ×
                  List
                      (UInt64 ×
                        Bool ×
                          UInt8 ×
                            UInt64 ×
                              UInt64 ×
                                List UInt8 ×
                                  List (List UInt8 × List UInt8) ×
                                    UInt8 × UInt8 × Int64 × UInt8 × UInt8 × UInt64 × UInt64) ×
                    UInt64)) =>
      obind m_1
        fun
          (x_5 :
            Int64 ×
              UInt64 ×
                UInt64 ×
                  List
                    (UInt64 ×
                      Bool ×
                        UInt8 ×
                          UInt64 ×
                            UInt64 ×
                              List UInt8 ×
                                List (List UInt8 × List UInt8) ×
                                  UInt8 × UInt8 × Int64 × UInt8 × UInt8 × UInt64 × UInt64)) =>
        obind
          (F16 n
            (some
                (Prod.fst x_5, Prod.fst (Prod.snd x_5), Prod.fst (Prod.snd (Prod.snd x_5)),
                  Prod.snd (Prod.snd (Prod.snd x_5))),
              Prod.fst (Prod.snd x_5)))
          fun
            (x_6 :
              Int64 ×
                Option
                  (Int64 ×
                    UInt64 ×
                      UInt64 ×
                        List
                          (UInt64 ×
                            Bool ×
                              UInt8 ×
                                UInt64 ×
                                  UInt64 ×
                                    List UInt8 ×
                                      List (List UInt8 × List UInt8) ×
                                        UInt8 × UInt8 × Int64 × UInt8 × UInt8 × UInt64 × UInt64))) =>
          obind (F17 n (Prod.snd x_4))
            fun
              (x_7 :
                (UInt64 × UInt64) ×
                  Option
                    (Int64 ×
                      UInt64 ×
                        List
                            (UInt64 ×
                              Bool ×
                                UInt8 ×
                                  UInt64 ×
                                    UInt64 ×
                                      List UInt8 ×
                                        List (List UInt8 × List UInt8) ×
                                          UInt8 × UInt8 × Int64 × UInt8 × UInt8 × UInt64 × UInt64) ×
                          UInt64)) =>
            obind (F18 n (Prod.snd x_7))
              fun
                (x_8 :
                  (UInt64 × Int64 × UInt64) ×
                    Option
                      (Int64 ×
                        UInt64 ×
                          List
                              (UInt64 ×
                                Bool ×
                                  UInt8 ×
                                    UInt64 ×
                                      UInt64 ×
                                        List UInt8 ×
                                          List (List UInt8 × List UInt8) ×
                                            UInt8 × UInt8 × Int64 × UInt8 × UInt8 × UInt64 × UInt64) ×
                            UInt64)) =>
              ojoinA (2076159 : Nat)
                [PT.int IntKind.i64, PT.int IntKind.i64,
                  PT.list
                    (CTs.cons (CT.int IntKind.u8)
                      (CTs.cons (CT.int IntKind.u64)
                        (CTs.cons CT.bool
                          (CTs.cons (CT.int IntKind.u8)
                            (CTs.cons (CT.int IntKind.u8)
                              (CTs.cons (CT.int IntKind.u8)
                                (CTs.cons (CT.int IntKind.u16)
                                  (CTs.cons (CT.int IntKind.u16)
                                    (CTs.cons (CT.int IntKind.u16)
                                      (CTs.cons (CT.int IntKind.u8)
                                        (CTs.cons (CT.int IntKind.u8)
                                          (CTs.cons (CT.int IntKind.u8)
                                            (CTs.cons CT.bool
                                              (CTs.cons CT.bool
                                                (CTs.cons (CT.int IntKind.u8)
                                                  (CTs.cons (CT.int IntKind.u64)
                                                    (CTs.cons (CT.int IntKind.u64)
                                                      (CTs.cons CT.str
                                                        (CTs.cons (CT.ro (CTs.cons CT.str (CTs.cons CT.str CTs.nil)))
                                                          (CTs.cons (CT.int IntKind.u8)
                                                            (CTs.cons (CT.int IntKind.u8)
                                                              (CTs.cons (CT.int IntKind.i64)
                                                                (CTs.cons (CT.int IntKind.u8)
                                                                  (CTs.cons (CT.int IntKind.u8)
                                                                    (CTs.cons (CT.int IntKind.u64)
                                                                      (CTs.cons (CT.int IntKind.u64)
                                                                        (CTs.cons CT.bool
                                                                          CTs.nil))))))))))))))))))))))))))),
                  PT.int IntKind.i64, PT.int IntKind.i64, PT.bool,
                  PT.opt
                    (OTs.cons (OT.c (CT.int IntKind.i64))
                      (OTs.cons (OT.c (CT.int IntKind.u64))
                        (OTs.cons
                          (OT.map (VT.one (CT.int IntKind.u64))
                            (VT.agg
                              (CTs.cons CT.bool
                                (CTs.cons (CT.int IntKind.u8)
                                  (CTs.cons (CT.int IntKind.u64)
                                    (CTs.cons (CT.int IntKind.u64)
                                      (CTs.cons CT.str
                                        (CTs.cons (CT.ro (CTs.cons CT.str (CTs.cons CT.str CTs.nil)))
                                          (CTs.cons (CT.int IntKind.u8)
                                            (CTs.cons (CT.int IntKind.u8)
                                              (CTs.cons (CT.int IntKind.i64)
                                                (CTs.cons (CT.int IntKind.u8)
                                                  (CTs.cons (CT.int IntKind.u8)
                                                    (CTs.cons (CT.int IntKind.u64)
                                                      (CTs.cons (CT.int IntKind.u64) CTs.nil)))))))))))))))
                          (OTs.cons (OT.c (CT.int IntKind.u64)) OTs.nil)))),
                  PT.opt
                    (OTs.cons (OT.c (CT.int IntKind.i64))
                      (OTs.cons (OT.c (CT.int IntKind.u64))
                        (OTs.cons (OT.c (CT.int IntKind.u64))
                          (OTs.cons
                            (OT.row
                              (CTs.cons (CT.int IntKind.u64)
                                (CTs.cons CT.bool
                                  (CTs.cons (CT.int IntKind.u8)
                                    (CTs.cons (CT.int IntKind.u64)
                                      (CTs.cons (CT.int IntKind.u64)
                                        (CTs.cons CT.str
                                          (CTs.cons (CT.ro (CTs.cons CT.str (CTs.cons CT.str CTs.nil)))
                                            (CTs.cons (CT.int IntKind.u8)
                                              (CTs.cons (CT.int IntKind.u8)
                                                (CTs.cons (CT.int IntKind.i64)
                                                  (CTs.cons (CT.int IntKind.u8)
                                                    (CTs.cons (CT.int IntKind.u8)
                                                      (CTs.cons (CT.int IntKind.u64)
                                                        (CTs.cons (CT.int IntKind.u64) CTs.nil)))))))))))))))
                            OTs.nil))))]
                (fun
                    (J :
                      Arr
                        [PT.int IntKind.i64, PT.int IntKind.i64,
                          PT.list
                            (CTs.cons (CT.int IntKind.u8)
                              (CTs.cons (CT.int IntKind.u64)
                                (CTs.cons CT.bool
                                  (CTs.cons (CT.int IntKind.u8)
                                    (CTs.cons (CT.int IntKind.u8)
                                      (CTs.cons (CT.int IntKind.u8)
                                        (CTs.cons (CT.int IntKind.u16)
                                          (CTs.cons (CT.int IntKind.u16)
                                            (CTs.cons (CT.int IntKind.u16)
                                              (CTs.cons (CT.int IntKind.u8)
                                                (CTs.cons (CT.int IntKind.u8)
                                                  (CTs.cons (CT.int IntKind.u8)
                                                    (CTs.cons CT.bool
                                                      (CTs.cons CT.bool
                                                        (CTs.cons (CT.int IntKind.u8)
                                                          (CTs.cons (CT.int IntKind.u64)
                                                            (CTs.cons (CT.int IntKind.u64)
                                                              (CTs.cons CT.str
                                                                (CTs.cons
                                                                  (CT.ro (CTs.cons CT.str (CTs.cons CT.str CTs.nil)))
                                                                  (CTs.cons (CT.int IntKind.u8)
                                                                    (CTs.cons (CT.int IntKind.u8)
                                                                      (CTs.cons (CT.int IntKind.i64)
                                                                        (CTs.cons (CT.int IntKind.u8)
                                                                          (CTs.cons (CT.int IntKind.u8)
                                                                            (CTs.cons (CT.int IntKind.u64)
                                                                              (CTs.cons (CT.int IntKind.u64)
                                                                                (CTs.cons CT.bool
                                                                                  CTs.nil))))))))))))))))))))))))))),
                          PT.int IntKind.i64, PT.int IntKind.i64, PT.bool,
                          PT.opt
                            (OTs.cons (OT.c (CT.int IntKind.i64))
                              (OTs.cons (OT.c (CT.int IntKind.u64))
                                (OTs.cons
                                  (OT.map (VT.one (CT.int IntKind.u64))
                                    (VT.agg
                                      (CTs.cons CT.bool
                                        (CTs.cons (CT.int IntKind.u8)
                                          (CTs.cons (CT.int IntKind.u64)
                                            (CTs.cons (CT.int IntKind.u64)
                                              (CTs.cons CT.str
                                                (CTs.cons (CT.ro (CTs.cons CT.str (CTs.cons CT.str CTs.nil)))
                                                  (CTs.cons (CT.int IntKind.u8)
                                                    (CTs.cons (CT.int IntKind.u8)
                                                      (CTs.cons (CT.int IntKind.i64)
                                                        (CTs.cons (CT.int IntKind.u8)
                                                          (CTs.cons (CT.int IntKind.u8)
                                                            (CTs.cons (CT.int IntKind.u64)
                                                              (CTs.cons (CT.int IntKind.u64) CTs.nil)))))))))))))))
                                  (OTs.cons (OT.c (CT.int IntKind.u64)) OTs.nil)))),
                          PT.opt
                            (OTs.cons (OT.c (CT.int IntKind.i64))
                              (OTs.cons (OT.c (CT.int IntKind.u64))
                                (OTs.cons (OT.c (CT.int IntKind.u64))
                                  (OTs.cons
                                    (OT.row
                                      (CTs.cons (CT.int IntKind.u64)
                                        (CTs.cons CT.bool
                                          (CTs.cons (CT.int IntKind.u8)
                                            (CTs.cons (CT.int IntKind.u64)
                                              (CTs.cons (CT.int IntKind.u64)
                                                (CTs.cons CT.str
                                                  (CTs.cons (CT.ro (CTs.cons CT.str (CTs.cons CT.str CTs.nil)))
                                                    (CTs.cons (CT.int IntKind.u8)
                                                      (CTs.cons (CT.int IntKind.u8)
                                                        (CTs.cons (CT.int IntKind.i64)
                                                          (CTs.cons (CT.int IntKind.u8)
                                                            (CTs.cons (CT.int IntKind.u8)
                                                              (CTs.cons (CT.int IntKind.u64)
                                                                (CTs.cons (CT.int IntKind.u64) CTs.nil)))))))))))))))
                                    OTs.nil))))]
                        (Option (Bool × Unit))) =>
                  oite (!Prod.snd (Prod.fst x_4) == decide ((0 : Int64) ≤ Prod.fst x_6))
                    (J w_1 e_1 t_3 t_1_1 t_2_1 true (Prod.snd x_8) (Prod.snd x_6))
                    (oite (Prod.snd (Prod.fst x_4))
                      (obind (Prod.snd x_6)
                        fun
                          (x_9 :
                            Int64 ×
                              UInt64 ×
                                UInt64 ×
                                  List
                                    (UInt64 ×
                                      Bool ×
                                        UInt8 ×
                                          UInt64 ×
                                            UInt64 ×
                                              List UInt8 ×
                                                List (List UInt8 × List UInt8) ×
                                                  UInt8 × UInt8 × Int64 × UInt8 × UInt8 × UInt64 × UInt64)) =>
                        oite
                          (decide ((0 : Int) ≤ Int64.toInt (Prod.fst x_6)) &&
                            Nat.blt (Int.toNat (Int64.toInt (Prod.fst x_6)))
                              (List.length (Prod.snd (Prod.snd (Prod.snd x_9)))))
                          (obind (Prod.snd (Prod.snd (Prod.snd x_9)))[Int.toNat (Int64.toInt (Prod.fst x_6))]?
                            fun
                              (x_10 :
                                UInt64 ×
                                  Bool ×
                                    UInt8 ×
                                      UInt64 ×
                                        UInt64 ×
                                          List UInt8 ×
                                            List (List UInt8 × List UInt8) ×
                                              UInt8 × UInt8 × Int64 × UInt8 × UInt8 × UInt64 × UInt64) =>
                            obind
                              (F12 n
                                ((Prod.fst (Prod.fst (Prod.fst x_4)), Prod.fst (Prod.snd (Prod.fst (Prod.fst x_4))),
                                    Prod.fst (Prod.snd (Prod.snd (Prod.fst (Prod.fst x_4)))),
                                    Prod.fst (Prod.snd (Prod.snd (Prod.snd (Prod.fst (Prod.fst x_4))))),
                                    Prod.fst (Prod.snd (Prod.snd (Prod.snd (Prod.snd (Prod.fst (Prod.fst x_4)))))),
                                    Prod.fst
                                      (Prod.snd (Prod.snd (Prod.snd (Prod.snd (Prod.snd (Prod.fst (Prod.fst x_4))))))),
                                    Prod.fst
                                      (Prod.snd
                                        (Prod.snd
                                          (Prod.snd (Prod.snd (Prod.snd (Prod.snd (Prod.fst (Prod.fst x_4)))))))),
                                    Prod.fst
                                      (Prod.snd
                                        (Prod.snd
                                          (Prod.snd
                                            (Prod.snd (Prod.snd (Prod.snd (Prod.snd (Prod.fst (Prod.fst x_4))))))))),
                                    Prod.fst
                                      (Prod.snd
                                        (Prod.snd
                                          (Prod.snd
                                            (Prod.snd
                                              (Prod.snd (Prod.snd (Prod.snd (Prod.snd (Prod.fst (Prod.fst x_4)))))))))),
                                    Prod.fst
                                      (Prod.snd
                                        (Prod.snd
                                          (Prod.snd
                                            (Prod.snd
                                              (Prod.snd
                                                (Prod.snd
                                                  (Prod.snd (Prod.snd (Prod.snd (Prod.fst (Prod.fst x_4))))))))))),
                                    Prod.fst
                                      (Prod.snd
                                        (Prod.snd
                                          (Prod.snd
                                            (Prod.snd
                                              (Prod.snd
                                                (Prod.snd
                                                  (Prod.snd
                                                    (Prod.snd (Prod.snd (Prod.snd (Prod.fst (Prod.fst x_4)))))))))))),
                                    Prod.fst
                                      (Prod.snd
                                        (Prod.snd
                                          (Prod.snd
                                            (Prod.snd
                                              (Prod.snd
                                                (Prod.snd
                                                  (Prod.snd
                                                    (Prod.snd
                                                      (Prod.snd
                                                        (Prod.snd (Prod.snd (Prod.fst (Prod.fst x_4))))))))))))),
                                    Prod.snd
                                      (Prod.snd
                                        (Prod.snd
                                          (Prod.snd
                                            (Prod.snd
                                              (Prod.snd
                                                (Prod.snd
                                                  (Prod.snd
                                                    (Prod.snd
                                                      (Prod.snd
                                                        (Prod.snd (Prod.snd (Prod.fst (Prod.fst x_4)))))))))))))),
                                  Prod.fst (Prod.snd x_10), Prod.fst (Prod.snd (Prod.snd x_10)),
                                  Prod.fst (Prod.snd (Prod.snd (Prod.snd x_10))),
                                  Prod.fst (Prod.snd (Prod.snd (Prod.snd (Prod.snd x_10)))),
                                  Prod.fst (Prod.snd (Prod.snd (Prod.snd (Prod.snd (Prod.snd x_10))))),
                                  Prod.fst (Prod.snd (Prod.snd (Prod.snd (Prod.snd (Prod.snd (Prod.snd x_10)))))),
                                  Prod.fst
                                    (Prod.snd (Prod.snd (Prod.snd (Prod.snd (Prod.snd (Prod.snd (Prod.snd x_10))))))),
                                  Prod.fst
                                    (Prod.snd
                                      (Prod.snd
                                        (Prod.snd (Prod.snd (Prod.snd (Prod.snd (Prod.snd (Prod.snd x_10)))))))),
                                  Prod.fst
                                    (Prod.snd
                                      (Prod.snd
                                        (Prod.snd
                                          (Prod.snd (Prod.snd (Prod.snd (Prod.snd (Prod.snd (Prod.snd x_10))))))))),
                                  Prod.fst
                                    (Prod.snd
                                      (Prod.snd
                                        (Prod.snd
                                          (Prod.snd
                                            (Prod.snd (Prod.snd (Prod.snd (Prod.snd (Prod.snd (Prod.snd x_10)))))))))),
                                  Prod.fst
                                    (Prod.snd
                                      (Prod.snd
                                        (Prod.snd
                                          (Prod.snd
                                            (Prod.snd
                                              (Prod.snd
                                                (Prod.snd (Prod.snd (Prod.snd (Prod.snd (Prod.snd x_10))))))))))),
                                  Prod.fst
                                    (Prod.snd
                                      (Prod.snd
                                        (Prod.snd
                                          (Prod.snd
                                            (Prod.snd
                                              (Prod.snd
                                                (Prod.snd
                                                  (Prod.snd (Prod.snd (Prod.snd (Prod.snd (Prod.snd x_10)))))))))))),
                                  Prod.snd
                                    (Prod.snd
                                      (Prod.snd
                                        (Prod.snd
                                          (Prod.snd
                                            (Prod.snd
                                              (Prod.snd
                                                (Prod.snd
                                                  (Prod.snd (Prod.snd (Prod.snd (Prod.snd (Prod.snd x_10))))))))))))))
                              fun (x_11 : Bool × Unit) =>
                              oite (!Prod.fst x_11)
                                (J w_1 e_1 t_3 t_1_1 t_2_1 true (Prod.snd x_8)
                                  (some
                                    (Prod.fst x_9, Prod.fst (Prod.snd x_9), Prod.fst (Prod.snd (Prod.snd x_9)),
                                      Prod.snd (Prod.snd (Prod.snd x_9)))))
                                (oite (!decide (Prod.fst (Prod.fst x_7) = Prod.fst (Prod.snd x_9) - (1 : UInt64)))
                                  (J w_1 e_1 t_3 t_1_1 t_2_1 true (Prod.snd x_8)
                                    (some
                                      (Prod.fst x_9, Prod.fst (Prod.snd x_9), Prod.fst (Prod.snd (Prod.snd x_9)),
                                        Prod.snd (Prod.snd (Prod.snd x_9)))))
                                  (obind
                                    (F19 n
                                      (some
                                        (Prod.fst x_9, Prod.fst (Prod.snd x_9), Prod.fst (Prod.snd (Prod.snd x_9)),
                                          Prod.snd (Prod.snd (Prod.snd x_9)))))
                                    fun
                                      (x_12 :
                                        UInt64 ×
                                          Option
                                            (Int64 ×
                                              UInt64 ×
                                                UInt64 ×
                                                  List
                                                    (UInt64 ×
                                                      Bool ×
                                                        UInt8 ×
                                                          UInt64 ×
                                                            UInt64 ×
                                                              List UInt8 ×
                                                                List (List UInt8 × List UInt8) ×
                                                                  UInt8 ×
                                                                    UInt8 ×
                                                                      Int64 × UInt8 × UInt8 × UInt64 × UInt64))) =>
                                    oite (!decide (Prod.snd (Prod.fst x_7) = Prod.fst x_12))
                                      (J w_1 e_1 t_3 t_1_1 t_2_1 true (Prod.snd x_8) (Prod.snd x_12))
                                      (obind (Prod.snd x_12)
                                        fun
                                          (x_13 :
                                            Int64 ×
                                              UInt64 ×
                                                UInt64 ×
                                                  List
                                                    (UInt64 ×
                                                      Bool ×
                                                        UInt8 ×
                                                          UInt64 ×
                                                            UInt64 ×
                                                              List UInt8 ×
                                                                List (List UInt8 × List UInt8) ×
                                                                  UInt8 ×
                                                                    UInt8 × Int64 × UInt8 × UInt8 × UInt64 × UInt64)) =>
                                        oite (!decide (Prod.fst (Prod.fst x_8) = Prod.fst (Prod.snd x_13)))
                                          (J w_1 e_1 t_3 t_1_1 t_2_1 true (Prod.snd x_8)
                                            (some
                                              (Prod.fst x_13, Prod.fst (Prod.snd x_13),
                                                Prod.fst (Prod.snd (Prod.snd x_13)),
                                                Prod.snd (Prod.snd (Prod.snd x_13)))))
                                          (oite
                                            (!decide
                                                (Prod.fst (Prod.snd (Prod.fst x_8)) =
                                                  Int64.ofInt ↑(List.length (Prod.snd (Prod.snd (Prod.snd x_13))))))
                                            (J w_1 e_1 t_3 t_1_1 t_2_1 true (Prod.snd x_8)
                                              (some
                                                (Prod.fst x_13, Prod.fst (Prod.snd x_13),
                                                  Prod.fst (Prod.snd (Prod.snd x_13)),
                                                  Prod.snd (Prod.snd (Prod.snd x_13)))))
                                            (oite (decide (w_1 < Prod.fst (Prod.snd (Prod.fst x_8))))
                                              (J w_1 e_1 t_3 t_1_1 t_2_1 true (Prod.snd x_8)
                                                (some
                                                  (Prod.fst x_13, Prod.fst (Prod.snd x_13),
                                                    Prod.fst (Prod.snd (Prod.snd x_13)),
                                                    Prod.snd (Prod.snd (Prod.snd x_13)))))
                                              (J w_1 e_1 t_3 t_1_1 t_2_1
                                                (!decide
                                                    (Prod.snd (Prod.snd (Prod.fst x_8)) =
                                                      Prod.fst (Prod.snd (Prod.snd x_13))))
                                                (Prod.snd x_8)
                                                (some
                                                  (Prod.fst x_13, Prod.fst (Prod.snd x_13),
                                                    Prod.fst (Prod.snd (Prod.snd x_13)),
                                                    Prod.snd (Prod.snd (Prod.snd x_13)))))))))))
                          none)
                      (obind (Prod.snd x_6)
                        fun
                          (x_9 :
                            Int64 ×
                              UInt64 ×
                                UInt64 ×
                                  List
                                    (UInt64 ×
                                      Bool ×
                                        UInt8 ×
                                          UInt64 ×
                                            UInt64 ×
                                              List UInt8 ×
                                                List (List UInt8 × List UInt8) ×
                                                  UInt8 × UInt8 × Int64 × UInt8 × UInt8 × UInt64 × UInt64)) =>
                        oite (!decide (Prod.fst (Prod.fst x_7) = Prod.fst (Prod.snd x_9) - (1 : UInt64)))
                          (J w_1 e_1 t_3 t_1_1 t_2_1 true (Prod.snd x_8)
                            (some
                              (Prod.fst x_9, Prod.fst (Prod.snd x_9), Prod.fst (Prod.snd (Prod.snd x_9)),
                                Prod.snd (Prod.snd (Prod.snd x_9)))))
                          (obind
                            (F19 n
                              (some
                                (Prod.fst x_9, Prod.fst (Prod.snd x_9), Prod.fst (Prod.snd (Prod.snd x_9)),
                                  Prod.snd (Prod.snd (Prod.snd x_9)))))
                            fun
                              (x_10 :
                                UInt64 ×
                                  Option
                                    (Int64 ×
                                      UInt64 ×
                                        UInt64 ×
                                          List
                                            (UInt64 ×
                                              Bool ×
                                                UInt8 ×
                                                  UInt64 ×
                                                    UInt64 ×
                                                      List UInt8 ×
                                                        List (List UInt8 × List UInt8) ×
                                                          UInt8 × UInt8 × Int64 × UInt8 × UInt8 × UInt64 × UInt64))) =>
                            oite (!decide (Prod.snd (Prod.fst x_7) = Prod.fst x_10))
                              (J w_1 e_1 t_3 t_1_1 t_2_1 true (Prod.snd x_8) (Prod.snd x_10))
                              (obind (Prod.snd x_10)
                                fun
                                  (x_11 :
                                    Int64 ×
                                      UInt64 ×
                                        UInt64 ×
                                          List
                                            (UInt64 ×
                                              Bool ×
                                                UInt8 ×
                                                  UInt64 ×
                                                    UInt64 ×
                                                      List UInt8 ×
                                                        List (List UInt8 × List UInt8) ×
                                                          UInt8 × UInt8 × Int64 × UInt8 × UInt8 × UInt64 × UInt64)) =>
                                oite (!decide (Prod.fst (Prod.fst x_8) = Prod.fst (Prod.snd x_11)))
                                  (J w_1 e_1 t_3 t_1_1 t_2_1 true (Prod.snd x_8)
                                    (some
                                      (Prod.fst x_11, Prod.fst (Prod.snd x_11), Prod.fst (Prod.snd (Prod.snd x_11)),
                                        Prod.snd (Prod.snd (Prod.snd x_11)))))
                                  (oite
                                    (!decide
                                        (Prod.fst (Prod.snd (Prod.fst x_8)) =
                                          Int64.ofInt ↑(List.length (Prod.snd (Prod.snd (Prod.snd x_11))))))
                                    (J w_1 e_1 t_3 t_1_1 t_2_1 true (Prod.snd x_8)
                                      (some
                                        (Prod.fst x_11, Prod.fst (Prod.snd x_11), Prod.fst (Prod.snd (Prod.snd x_11)),
                                          Prod.snd (Prod.snd (Prod.snd x_11)))))
                                    (oite (decide (w_1 < Prod.fst (Prod.snd (Prod.fst x_8))))
                                      (J w_1 e_1 t_3 t_1_1 t_2_1 true (Prod.snd x_8)
                                        (some
                                          (Prod.fst x_11, Prod.fst (Prod.snd x_11), Prod.fst (Prod.snd (Prod.snd x_11)),
                                            Prod.snd (Prod.snd (Prod.snd x_11)))))
                                      (J w_1 e_1 t_3 t_1_1 t_2_1
                                        (!decide
                                            (Prod.snd (Prod.snd (Prod.fst x_8)) = Prod.fst (Prod.snd (Prod.snd x_11))))
                                        (Prod.snd x_8)
                                        (some
                                          (Prod.fst x_11, Prod.fst (Prod.snd x_11), Prod.fst (Prod.snd (Prod.snd x_11)),
                                            Prod.snd (Prod.snd (Prod.snd x_11))))))))))))
                (F4_J2076159 rec))
def F4_J1038063 : Nat →
  Arr
      [PT.int IntKind.i64, PT.int IntKind.i64, PT.int IntKind.i64, PT.int IntKind.i64,
        PT.list
          (CTs.cons (CT.int IntKind.u8)
            (CTs.cons (CT.int IntKind.u64)
              (CTs.cons CT.bool
                (CTs.cons (CT.int IntKind.u8)
                  (CTs.cons (CT.int IntKind.u8)
                    (CTs.cons (CT.int IntKind.u8)
                      (CTs.cons (CT.int IntKind.u16)
                        (CTs.cons (CT.int IntKind.u16)
                          (CTs.cons (CT.int IntKind.u16)
                            (CTs.cons (CT.int IntKind.u8)
                              (CTs.cons (CT.int IntKind.u8)
                                (CTs.cons (CT.int IntKind.u8)
                                  (CTs.cons CT.bool
                                    (CTs.cons CT.bool
                                      (CTs.cons (CT.int IntKind.u8)
                                        (CTs.cons (CT.int IntKind.u64)
                                          (CTs.cons (CT.int IntKind.u64)
                                            (CTs.cons CT.str
                                              (CTs.cons (CT.ro (CTs.cons CT.str (CTs.cons CT.str CTs.nil)))
                                                (CTs.cons (CT.int IntKind.u8)
                                                  (CTs.cons (CT.int IntKind.u8)
                                                    (CTs.cons (CT.int IntKind.i64)
                                                      (CTs.cons (CT.int IntKind.u8)
                                                        (CTs.cons (CT.int IntKind.u8)
                                                          (CTs.cons (CT.int IntKind.u64)
                                                            (CTs.cons (CT.int IntKind.u64)
                                                              (CTs.cons CT.bool CTs.nil))))))))))))))))))))))))))),
        PT.int IntKind.i64, PT.int IntKind.i64,
        PT.opt
          (OTs.cons (OT.c (CT.int IntKind.i64))
            (OTs.cons (OT.c (CT.int IntKind.u64))
              (OTs.cons
                (OT.map (VT.one (CT.int IntKind.u64))
                  (VT.agg
                    (CTs.cons CT.bool
                      (CTs.cons (CT.int IntKind.u8)
                        (CTs.cons (CT.int IntKind.u64)
                          (CTs.cons (CT.int IntKind.u64)
                            (CTs.cons CT.str
                              (CTs.cons (CT.ro (CTs.cons CT.str (CTs.cons CT.str CTs.nil)))
                                (CTs.cons (CT.int IntKind.u8)
                                  (CTs.cons (CT.int IntKind.u8)
                                    (CTs.cons (CT.int IntKind.i64)
                                      (CTs.cons (CT.int IntKind.u8)
                                        (CTs.cons (CT.int IntKind.u8)
                                          (CTs.cons (CT.int IntKind.u64)
                                            (CTs.cons (CT.int IntKind.u64) CTs.nil)))))))))))))))
                (OTs.cons (OT.c (CT.int IntKind.u64)) OTs.nil)))),
        PT.opt
          (OTs.cons (OT.c (CT.int IntKind.i64))
            (OTs.cons (OT.c (CT.int IntKind.u64))
              (OTs.cons (OT.c (CT.int IntKind.u64))
                (OTs.cons
                  (OT.row
                    (CTs.cons (CT.int IntKind.u64)
                      (CTs.cons CT.bool
                        (CTs.cons (CT.int IntKind.u8)
                          (CTs.cons (CT.int IntKind.u64)
                            (CTs.cons (CT.int IntKind.u64)
                              (CTs.cons CT.str
                                (CTs.cons (CT.ro (CTs.cons CT.str (CTs.cons CT.str CTs.nil)))
                                  (CTs.cons (CT.int IntKind.u8)
                                    (CTs.cons (CT.int IntKind.u8)
                                      (CTs.cons (CT.int IntKind.i64)
                                        (CTs.cons (CT.int IntKind.u8)
                                          (CTs.cons (CT.int IntKind.u8)
                                            (CTs.cons (CT.int IntKind.u64)
                                              (CTs.cons (CT.int IntKind.u64) CTs.nil)))))))))))))))
                  OTs.nil))))]
      (Option (Bool × Unit)) →
    Int64 →
      Int64 →
        UInt64 →
          List
              (UInt8 ×
                UInt64 ×
                  Bool ×
                    UInt8 ×
                      UInt8 ×
                        UInt8 ×
                          UInt16 ×
                            UInt16 ×
                              UInt16 ×
                                UInt8 ×
                                  UInt8 ×
                                    UInt8 ×
                                      Bool ×
                                        Bool ×
                                          UInt8 ×
                                            UInt64 ×
                                              UInt64 ×
                                                List UInt8 ×
                                                  List (List UInt8 × List UInt8) ×
                                                    UInt8 × UInt8 × Int64 × UInt8 × UInt8 × UInt64 × UInt64 × Bool) →
            Int64 →
              Int64 →
                Option
                    (Int64 ×
                      UInt64 ×
                        List
                            (UInt64 ×
                              Bool ×
                                UInt8 ×
                                  UInt64 ×
                                    UInt64 ×
                                      List UInt8 ×
                                        List (List UInt8 × List UInt8) ×
                                          UInt8 × UInt8 × Int64 × UInt8 × UInt8 × UInt64 × UInt64) ×
                          UInt64) →
                  Int64 →
                    UInt64 →
                      UInt64 →
                        Bool →
                          UInt8 →
                            UInt64 →
                              UInt64 →
                                List UInt8 →
                                  List (List UInt8 × List UInt8) →
                                    UInt8 →
                                      UInt8 →
                                        Int64 →
                                          UInt8 →
                                            UInt8 →
                                              UInt64 →
                                                UInt64 →
                                                  List
                                                      (UInt64 ×
                                                        Bool ×
                                                          UInt8 ×
                                                            UInt64 ×
                                                              UInt64 ×
                                                                List UInt8 ×
                                                                  List (List UInt8 × List UInt8) ×
                                                                    UInt8 ×
                                                                      UInt8 × Int64 × UInt8 × UInt8 × UInt64 × UInt64) →
                                                    Option (Bool × Unit) := fun (n : Nat)
    (J :
      Arr
        [PT.int IntKind.i64, PT.int IntKind.i64, PT.int IntKind.i64, PT.int IntKind.i64,
          PT.list
            (CTs.cons (CT.int IntKind.u8)
              (CTs.cons (CT.int IntKind.u64)
                (CTs.cons CT.bool
                  (CTs.cons (CT.int IntKind.u8)
                    (CTs.cons (CT.int IntKind.u8)
                      (CTs.cons (CT.int IntKind.u8)
                        (CTs.cons (CT.int IntKind.u16)
                          (CTs.cons (CT.int IntKind.u16)
                            (CTs.cons (CT.int IntKind.u16)
                              (CTs.cons (CT.int IntKind.u8)
                                (CTs.cons (CT.int IntKind.u8)
                                  (CTs.cons (CT.int IntKind.u8)
                                    (CTs.cons CT.bool
                                      (CTs.cons CT.bool
                                        (CTs.cons (CT.int IntKind.u8)
                                          (CTs.cons (CT.int IntKind.u64)
                                            (CTs.cons (CT.int IntKind.u64)
                                              (CTs.cons CT.str
                                                (CTs.cons (CT.ro (CTs.cons CT.str (CTs.cons CT.str CTs.nil)))
                                                  (CTs.cons (CT.int IntKind.u8)
                                                    (CTs.cons (CT.int IntKind.u8)
                                                      (CTs.cons (CT.int IntKind.i64)
                                                        (CTs.cons (CT.int IntKind.u8)
                                                          (CTs.cons (CT.int IntKind.u8)
                                                            (CTs.cons (CT.int IntKind.u64)
                                                              (CTs.cons (CT.int IntKind.u64)
                                                                (CTs.cons CT.bool CTs.nil))))))))))))))))))))))))))),
          PT.int IntKind.i64, PT.int IntKind.i64,
          PT.opt
            (OTs.cons (OT.c (CT.int IntKind.i64))
              (OTs.cons (OT.c (CT.int IntKind.u64))
                (OTs.cons
                  (OT.map (VT.one (CT.int IntKind.u64))
                    (VT.agg
                      (CTs.cons CT.bool
                        (CTs.cons (CT.int IntKind.u8)
                          (CTs.cons (CT.int IntKind.u64)
                            (CTs.cons (CT.int IntKind.u64)
                              (CTs.cons CT.str
                                (CTs.cons (CT.ro (CTs.cons CT.str (CTs.cons CT.str CTs.nil)))
                                  (CTs.cons (CT.int IntKind.u8)
                                    (CTs.cons (CT.int IntKind.u8)
                                      (CTs.cons (CT.int IntKind.i64)
                                        (CTs.cons (CT.int IntKind.u8)
                                          (CTs.cons (CT.int IntKind.u8)
                                            (CTs.cons (CT.int IntKind.u64)
                                              (CTs.cons (CT.int IntKind.u64) CTs.nil)))))))))))))))
                  (OTs.cons (OT.c (CT.int IntKind.u64)) OTs.nil)))),
          PT.opt
            (OTs.cons (OT.c (CT.int IntKind.i64))
              (OTs.cons (OT.c (CT.int IntKind.u64))
                (OTs.cons (OT.c (CT.int IntKind.u64))
                  (OTs.cons
                    (OT.row
                      (CTs.cons (CT.int IntKind.u64)
                        (CTs.cons CT.bool
                          (CTs.cons (CT.int IntKind.u8)
                            (CTs.cons (CT.int IntKind.u64)
                              (CTs.cons (CT.int IntKind.u64)
                                (CTs.cons CT.str
                                  (CTs.cons (CT.ro (CTs.cons CT.str (CTs.cons CT.str CTs.nil)))
                                    (CTs.cons (CT.int IntKind.u8)
                                      (CTs.cons (CT.int IntKind.u8)
                                        (CTs.cons (CT.int IntKind.i64)
                                          (CTs.cons (CT.int IntKind.u8)
                                            (CTs.cons (CT.int IntKind.u8)
                                              (CTs.cons (CT.int IntKind.u64)
                                                (CTs.cons (CT.int IntKind.u64) CTs.nil)))))))))))))))
                    OTs.nil))))]
        (Option (Bool × Unit)))
    (w_2 e_2 : Int64) (seq_1 : UInt64)
    (t_4 :
      List
        (UInt8 ×
          UInt64 ×
            Bool ×
              UInt8 ×
                UInt8 ×
                  UInt8 ×
                    UInt16 ×
                      UInt16 ×
                        UInt16 ×
                          UInt8 ×
                            UInt8 ×
                              UInt8 ×
                                Bool ×
                                  Bool ×
                                    UInt8 ×
                                      UInt64 ×
                                        UInt64 ×
                                          List UInt8 ×
                                            List (List UInt8 × List UInt8) ×
                                              UInt8 × UInt8 × Int64 × UInt8 × UInt8 × UInt64 × UInt64 × Bool))
    (t_1_2 t_2_2 : Int64)
    (r_2 :
      Option
        (Int64 ×
          UInt64 ×
            List
                (UInt64 ×
                  Bool ×
                    UInt8 ×
                      UInt64 ×
                        UInt64 ×
                          List UInt8 ×
                            List (List UInt8 × List UInt8) × UInt8 × UInt8 × Int64 × UInt8 × UInt8 × UInt64 × UInt64) ×
              UInt64))
    (m0_1 : Int64) (m1_1 m2_1 : UInt64) (x0_1 : Bool) (x1_1 : UInt8) (x2_1 x3_1 : UInt64) (x4_1 : List UInt8)
    (x5_1 : List (List UInt8 × List UInt8)) (x6_1 x7_1 : UInt8) (x8_1 : Int64) (x9_1 x10_1 : UInt8)
    (x11_1 x12_1 : UInt64)
    (ml_1 :
      List
        (UInt64 ×
          Bool ×
            UInt8 ×
              UInt64 ×
                UInt64 ×
                  List UInt8 ×
                    List (List UInt8 × List UInt8) × UInt8 × UInt8 × Int64 × UInt8 × UInt8 × UInt64 × UInt64)) =>
  obind (F10 n (r_2, seq_1, x0_1, x1_1, x2_1, x3_1, x4_1, x5_1, x6_1, x7_1, x8_1, x9_1, x10_1, x11_1, x12_1))
    fun
      (x_6 :
        Int64 ×
          Option
            (Int64 ×
              UInt64 ×
                List
                    (UInt64 ×
                      Bool ×
                        UInt8 ×
                          UInt64 ×
                            UInt64 ×
                              List UInt8 ×
                                List (List UInt8 × List UInt8) ×
                                  UInt8 × UInt8 × Int64 × UInt8 × UInt8 × UInt64 × UInt64) ×
                  UInt64)) =>
    obind
      (F15 n
        (some (m0_1, m1_1, m2_1, ml_1), seq_1, x0_1, x1_1, x2_1, x3_1, x4_1, x5_1, x6_1, x7_1, x8_1, x9_1, x10_1, x11_1,
          x12_1))
      fun
        (x_7 :
          Int64 ×
            Option
              (Int64 ×
                UInt64 ×
                  UInt64 ×
                    List
                      (UInt64 ×
                        Bool ×
                          UInt8 ×
                            UInt64 ×
                              UInt64 ×
                                List UInt8 ×
                                  List (List UInt8 × List UInt8) ×
                                    UInt8 × UInt8 × Int64 × UInt8 × UInt8 × UInt64 × UInt64))) =>
      J w_2 e_2 (Prod.fst x_6) (Prod.fst x_7) t_4 t_1_2 t_2_2 (Prod.snd x_6) (Prod.snd x_7)
def F4_J519031 : Nat →
  Arr
      [PT.int IntKind.i64, PT.int IntKind.i64, PT.int IntKind.i64, PT.int IntKind.i64,
        PT.list
          (CTs.cons (CT.int IntKind.u8)
            (CTs.cons (CT.int IntKind.u64)
              (CTs.cons CT.bool
                (CTs.cons (CT.int IntKind.u8)
                  (CTs.cons (CT.int IntKind.u8)
                    (CTs.cons (CT.int IntKind.u8)
                      (CTs.cons (CT.int IntKind.u16)
                        (CTs.cons (CT.int IntKind.u16)
                          (CTs.cons (CT.int IntKind.u16)
                            (CTs.cons (CT.int IntKind.u8)
                              (CTs.cons (CT.int IntKind.u8)
                                (CTs.cons (CT.int IntKind.u8)
                                  (CTs.cons CT.bool
                                    (CTs.cons CT.bool
                                      (CTs.cons (CT.int IntKind.u8)
                                        (CTs.cons (CT.int IntKind.u64)
                                          (CTs.cons (CT.int IntKind.u64)
                                            (CTs.cons CT.str
                                              (CTs.cons (CT.ro (CTs.cons CT.str (CTs.cons CT.str CTs.nil)))
                                                (CTs.cons (CT.int IntKind.u8)
                                                  (CTs.cons (CT.int IntKind.u8)
                                                    (CTs.cons (CT.int IntKind.i64)
                                                      (CTs.cons (CT.int IntKind.u8)
                                                        (CTs.cons (CT.int IntKind.u8)
                                                          (CTs.cons (CT.int IntKind.u64)
                                                            (CTs.cons (CT.int IntKind.u64)
                                                              (CTs.cons CT.bool CTs.nil))))))))))))))))))))))))))),
        PT.int IntKind.i64, PT.int IntKind.i64,
        PT.opt
          (OTs.cons (OT.c (CT.int IntKind.i64))
            (OTs.cons (OT.c (CT.int IntKind.u64))
              (OTs.cons
                (OT.map (VT.one (CT.int IntKind.u64))
                  (VT.agg
                    (CTs.cons CT.bool
                      (CTs.cons (CT.int IntKind.u8)
                        (CTs.cons (CT.int IntKind.u64)
                          (CTs.cons (CT.int IntKind.u64)
                            (CTs.cons CT.str
                              (CTs.cons (CT.ro (CTs.cons CT.str (CTs.cons CT.str CTs.nil)))
                                (CTs.cons (CT.int IntKind.u8)
                                  (CTs.cons (CT.int IntKind.u8)
                                    (CTs.cons (CT.int IntKind.i64)
                                      (CTs.cons (CT.int IntKind.u8)
                                        (CTs.cons (CT.int IntKind.u8)
                                          (CTs.cons (CT.int IntKind.u64)
                                            (CTs.cons (CT.int IntKind.u64) CTs.nil)))))))))))))))
                (OTs.cons (OT.c (CT.int IntKind.u64)) OTs.nil)))),
        PT.opt
          (OTs.cons (OT.c (CT.int IntKind.i64))
            (OTs.cons (OT.c (CT.int IntKind.u64))
              (OTs.cons (OT.c (CT.int IntKind.u64))
                (OTs.cons
                  (OT.row
                    (CTs.cons (CT.int IntKind.u64)
                      (CTs.cons CT.bool
                        (CTs.cons (CT.int IntKind.u8)
                          (CTs.cons (CT.int IntKind.u64)
                            (CTs.cons (CT.int IntKind.u64)
                              (CTs.cons CT.str
                                (CTs.cons (CT.ro (CTs.cons CT.str (CTs.cons CT.str CTs.nil)))
                                  (CTs.cons (CT.int IntKind.u8)
                                    (CTs.cons (CT.int IntKind.u8)
                                      (CTs.cons (CT.int IntKind.i64)
                                        (CTs.cons (CT.int IntKind.u8)
                                          (CTs.cons (CT.int IntKind.u8)
                                            (CTs.cons (CT.int IntKind.u64)
                                              (CTs.cons (CT.int IntKind.u64) CTs.nil)))))))))))))))
                  OTs.nil))))]
      (Option (Bool × Unit)) →
    Int64 →
      Int64 →
        UInt64 →
          List
              (UInt8 ×
                UInt64 ×
                  Bool ×
                    UInt8 ×
                      UInt8 ×
                        UInt8 ×
                          UInt16 ×
                            UInt16 ×
                              UInt16 ×
                                UInt8 ×
                                  UInt8 ×
                                    UInt8 ×
                                      Bool ×
                                        Bool ×
                                          UInt8 ×
                                            UInt64 ×
                                              UInt64 ×
                                                List UInt8 ×
                                                  List (List UInt8 × List UInt8) ×
                                                    UInt8 × UInt8 × Int64 × UInt8 × UInt8 × UInt64 × UInt64 × Bool) →
            Int64 →
              Int64 →
                Option
                    (Int64 ×
                      UInt64 ×
                        List
                            (UInt64 ×
                              Bool ×
                                UInt8 ×
                                  UInt64 ×
                                    UInt64 ×
                                      List UInt8 ×
                                        List (List UInt8 × List UInt8) ×
                                          UInt8 × UInt8 × Int64 × UInt8 × UInt8 × UInt64 × UInt64) ×
                          UInt64) →
                  Int64 →
                    UInt64 →
                      UInt64 →
                        UInt8 →
                          UInt64 →
                            Bool →
                              UInt8 →
                                UInt8 →
                                  UInt8 →
                                    UInt16 →
                                      UInt16 →
                                        UInt16 →
                                          UInt8 →
                                            UInt8 →
                                              UInt8 →
                                                Bool →
                                                  Bool →
                                                    UInt8 →
                                                      UInt64 →
                                                        UInt64 →
                                                          List UInt8 →
                                                            List (List UInt8 × List UInt8) →
                                                              UInt8 →
                                                                UInt8 →
                                                                  Int64 →
                                                                    UInt8 →
                                                                      UInt8 →
                                                                        UInt64 →
                                                                          UInt64 →
                                                                            Bool →
                                                                              Bool →
                                                                                UInt8 →
                                                                                  UInt64 →
                                                                                    UInt64 →
                                                                                      List UInt8 →
                                                                                        List (List UInt8 × List UInt8) →
                                                                                          UInt8 →
                                                                                            UInt8 →
                                                                                              Int64 →
                                                                                                UInt8 →
                                                                                                  UInt8 →
                                                                                                    UInt64 →
                                                                                                      UInt64 →
                                                                                                        List
                                                                                                            (UInt64 ×
                                                                                                              Bool ×
                                                                                                                UInt8 ×
                                                                                                                  UInt64 ×
                                                                                                                    UInt64 ×
                                                                                                                      List
                                                                                                                          UInt8 ×
                                                                                                                        List
                                                                                                                            (List
                                                                                                                                UInt8 ×
                                                                                                                              List
                                                                                                                                UInt8) ×
                                                                                                                          UInt8 ×
                                                                                                                            UInt8 ×
                                                                                                                              Int64 ×
                                                                                                                                UInt8 ×
                                                                                                                                  UInt8 ×
                                                                                                                                    UInt64 ×
                                                                                                                                      UInt64) →
                                                                                                          Option
                                                                                                            (Bool ×
                                                                                                              Unit) := fun (n : Nat)
    (J :
      Arr
        [PT.int IntKind.i64, PT.int IntKind.i64, PT.int IntKind.i64, PT.int IntKind.i64,
          PT.list
            (CTs.cons (CT.int IntKind.u8)
              (CTs.cons (CT.int IntKind.u64)
                (CTs.cons CT.bool
                  (CTs.cons (CT.int IntKind.u8)
                    (CTs.cons (CT.int IntKind.u8)
                      (CTs.cons (CT.int IntKind.u8)
                        (CTs.cons (CT.int IntKind.u16)
                          (CTs.cons (CT.int IntKind.u16)
                            (CTs.cons (CT.int IntKind.u16)
                              (CTs.cons (CT.int IntKind.u8)
                                (CTs.cons (CT.int IntKind.u8)
                                  (CTs.cons (CT.int IntKind.u8)
                                    (CTs.cons CT.bool
                                      (CTs.cons CT.bool
                                        (CTs.cons (CT.int IntKind.u8)
                                          (CTs.cons (CT.int IntKind.u64)
                                            (CTs.cons (CT.int IntKind.u64)
                                              (CTs.cons CT.str
                                                (CTs.cons (CT.ro (CTs.cons CT.str (CTs.cons CT.str CTs.nil)))
                                                  (CTs.cons (CT.int IntKind.u8)
                                                    (CTs.cons (CT.int IntKind.u8)
                                                      (CTs.cons (CT.int IntKind.i64)
                                                        (CTs.cons (CT.int IntKind.u8)
                                                          (CTs.cons (CT.int IntKind.u8)
                                                            (CTs.cons (CT.int IntKind.u64)
                                                              (CTs.cons (CT.int IntKind.u64)
                                                                (CTs.cons CT.bool CTs.nil))))))))))))))))))))))))))),
          PT.int IntKind.i64, PT.int IntKind.i64,
          PT.opt
            (OTs.cons (OT.c (CT.int IntKind.i64))
              (OTs.cons (OT.c (CT.int IntKind.u64))
                (OTs.cons
                  (OT.map (VT.one (CT.int IntKind.u64))
                    (VT.agg
                      (CTs.cons CT.bool
                        (CTs.cons (CT.int IntKind.u8)
                          (CTs.cons (CT.int IntKind.u64)
                            (CTs.cons (CT.int IntKind.u64)
                              (CTs.cons CT.str
                                (CTs.cons (CT.ro (CTs.cons CT.str (CTs.cons CT.str CTs.nil)))
                                  (CTs.cons (CT.int IntKind.u8)
                                    (CTs.cons (CT.int IntKind.u8)
                                      (CTs.cons (CT.int IntKind.i64)
                                        (CTs.cons (CT.int IntKind.u8)
                                          (CTs.cons (CT.int IntKind.u8)
                                            (CTs.cons (CT.int IntKind.u64)
                                              (CTs.cons (CT.int IntKind.u64) CTs.nil)))))))))))))))
                  (OTs.cons (OT.c (CT.int IntKind.u64)) OTs.nil)))),
          PT.opt
            (OTs.cons (OT.c (CT.int IntKind.i64))
              (OTs.cons (OT.c (CT.int IntKind.u64))
                (OTs.cons (OT.c (CT.int IntKind.u64))
                  (OTs.cons
                    (OT.row
                      (CTs.cons (CT.int IntKind.u64)
                        (CTs.cons CT.bool
                          (CTs.cons (CT.int IntKind.u8)
                            (CTs.cons (CT.int IntKind.u64)
                              (CTs.cons (CT.int IntKind.u64)
                                (CTs.cons CT.str
                                  (CTs.cons (CT.ro (CTs.cons CT.str (CTs.cons CT.str CTs.nil)))
                                    (CTs.cons (CT.int IntKind.u8)
                                      (CTs.cons (CT.int IntKind.u8)
                                        (CTs.cons (CT.int IntKind.i64)
                                          (CTs.cons (CT.int IntKind.u8)
                                            (CTs.cons (CT.int IntKind.u8)
                                              (CTs.cons (CT.int IntKind.u64)
                                                (CTs.cons (CT.int IntKind.u64) CTs.nil)))))))))))))))
                    OTs.nil))))]
        (Option (Bool × Unit)))
    (w_1 e_1 : Int64) (seq : UInt64)
    (t_3 :
      List
        (UInt8 ×
          UInt64 ×
            Bool ×
              UInt8 ×
                UInt8 ×
                  UInt8 ×
                    UInt16 ×
                      UInt16 ×
                        UInt16 ×
                          UInt8 ×
                            UInt8 ×
                              UInt8 ×
                                Bool ×
                                  Bool ×
                                    UInt8 ×
                                      UInt64 ×
                                        UInt64 ×
                                          List UInt8 ×
                                            List (List UInt8 × List UInt8) ×
                                              UInt8 × UInt8 × Int64 × UInt8 × UInt8 × UInt64 × UInt64 × Bool))
    (t_1_1 t_2_1 : Int64)
    (r_1 :
      Option
        (Int64 ×
          UInt64 ×
            List
                (UInt64 ×
                  Bool ×
                    UInt8 ×
                      UInt64 ×
                        UInt64 ×
                          List UInt8 ×
                            List (List UInt8 × List UInt8) × UInt8 × UInt8 × Int64 × UInt8 × UInt8 × UInt64 × UInt64) ×
              UInt64))
    (m0 : Int64) (m1 m2 : UInt64) (a0 : UInt8) (a1 : UInt64) (a2 : Bool) (a3 a4 a5 : UInt8) (a6 a7 a8 : UInt16)
    (a9 a10 a11 : UInt8) (a12 a13 : Bool) (a14 : UInt8) (a15 a16 : UInt64) (a17 : List UInt8)
    (a18 : List (List UInt8 × List UInt8)) (a19 a20 : UInt8) (a21 : Int64) (a22 a23 : UInt8) (a24 a25 : UInt64)
    (a26 x0 : Bool) (x1 : UInt8) (x2 x3 : UInt64) (x4 : List UInt8) (x5 : List (List UInt8 × List UInt8))
    (x6 x7 : UInt8) (x8 : Int64) (x9 x10 : UInt8) (x11 x12 : UInt64)
    (ml :
      List
        (UInt64 ×
          Bool ×
            UInt8 ×
              UInt64 ×
                UInt64 ×
                  List UInt8 ×
                    List (List UInt8 × List UInt8) × UInt8 × UInt8 × Int64 × UInt8 × UInt8 × UInt64 × UInt64)) =>
  ojoinA (1038063 : Nat)
    [PT.int IntKind.i64, PT.int IntKind.i64, PT.int IntKind.u64,
      PT.list
        (CTs.cons (CT.int IntKind.u8)
          (CTs.cons (CT.int IntKind.u64)
            (CTs.cons CT.bool
              (CTs.cons (CT.int IntKind.u8)
                (CTs.cons (CT.int IntKind.u8)
                  (CTs.cons (CT.int IntKind.u8)
                    (CTs.cons (CT.int IntKind.u16)
                      (CTs.cons (CT.int IntKind.u16)
                        (CTs.cons (CT.int IntKind.u16)
                          (CTs.cons (CT.int IntKind.u8)
                            (CTs.cons (CT.int IntKind.u8)
                              (CTs.cons (CT.int IntKind.u8)
                                (CTs.cons CT.bool
                                  (CTs.cons CT.bool
                                    (CTs.cons (CT.int IntKind.u8)
                                      (CTs.cons (CT.int IntKind.u64)
                                        (CTs.cons (CT.int IntKind.u64)
                                          (CTs.cons CT.str
                                            (CTs.cons (CT.ro (CTs.cons CT.str (CTs.cons CT.str CTs.nil)))
                                              (CTs.cons (CT.int IntKind.u8)
                                                (CTs.cons (CT.int IntKind.u8)
                                                  (CTs.cons (CT.int IntKind.i64)
                                                    (CTs.cons (CT.int IntKind.u8)
                                                      (CTs.cons (CT.int IntKind.u8)
                                                        (CTs.cons (CT.int IntKind.u64)
                                                          (CTs.cons (CT.int IntKind.u64)
                                                            (CTs.cons CT.bool CTs.nil))))))))))))))))))))))))))),
      PT.int IntKind.i64, PT.int IntKind.i64,
      PT.opt
        (OTs.cons (OT.c (CT.int IntKind.i64))
          (OTs.cons (OT.c (CT.int IntKind.u64))
            (OTs.cons
              (OT.map (VT.one (CT.int IntKind.u64))
                (VT.agg
                  (CTs.cons CT.bool
                    (CTs.cons (CT.int IntKind.u8)
                      (CTs.cons (CT.int IntKind.u64)
                        (CTs.cons (CT.int IntKind.u64)
                          (CTs.cons CT.str
                            (CTs.cons (CT.ro (CTs.cons CT.str (CTs.cons CT.str CTs.nil)))
                              (CTs.cons (CT.int IntKind.u8)
                                (CTs.cons (CT.int IntKind.u8)
                                  (CTs.cons (CT.int IntKind.i64)
                                    (CTs.cons (CT.int IntKind.u8)
                                      (CTs.cons (CT.int IntKind.u8)
                                        (CTs.cons (CT.int IntKind.u64)
                                          (CTs.cons (CT.int IntKind.u64) CTs.nil)))))))))))))))
              (OTs.cons (OT.c (CT.int IntKind.u64)) OTs.nil)))),
      PT.int IntKind.i64, PT.int IntKind.u64, PT.int IntKind.u64, PT.bool, PT.int IntKind.u8, PT.int IntKind.u64,
      PT.int IntKind.u64, PT.bytes, PT.list (CTs.cons CT.str (CTs.cons CT.str CTs.nil)), PT.int IntKind.u8,
      PT.int IntKind.u8, PT.int IntKind.i64, PT.int IntKind.u8, PT.int IntKind.u8, PT.int IntKind.u64,
      PT.int IntKind.u64,
      PT.list
        (CTs.cons (CT.int IntKind.u64)
          (CTs.cons CT.bool
            (CTs.cons (CT.int IntKind.u8)
              (CTs.cons (CT.int IntKind.u64)
                (CTs.cons (CT.int IntKind.u64)
                  (CTs.cons CT.str
                    (CTs.cons (CT.ro (CTs.cons CT.str (CTs.cons CT.str CTs.nil)))
                      (CTs.cons (CT.int IntKind.u8)
                        (CTs.cons (CT.int IntKind.u8)
                          (CTs.cons (CT.int IntKind.i64)
                            (CTs.cons (CT.int IntKind.u8)
                              (CTs.cons (CT.int IntKind.u8)
                                (CTs.cons (CT.int IntKind.u64) (CTs.cons (CT.int IntKind.u64) CTs.nil))))))))))))))]
    (fun
        (J_1 :
          Arr
            [PT.int IntKind.i64, PT.int IntKind.i64, PT.int IntKind.u64,
              PT.list
                (CTs.cons (CT.int IntKind.u8)
                  (CTs.cons (CT.int IntKind.u64)
                    (CTs.cons CT.bool
                      (CTs.cons (CT.int IntKind.u8)
                        (CTs.cons (CT.int IntKind.u8)
                          (CTs.cons (CT.int IntKind.u8)
                            (CTs.cons (CT.int IntKind.u16)
                              (CTs.cons (CT.int IntKind.u16)
                                (CTs.cons (CT.int IntKind.u16)
                                  (CTs.cons (CT.int IntKind.u8)
                                    (CTs.cons (CT.int IntKind.u8)
                                      (CTs.cons (CT.int IntKind.u8)
                                        (CTs.cons CT.bool
                                          (CTs.cons CT.bool
                                            (CTs.cons (CT.int IntKind.u8)
                                              (CTs.cons (CT.int IntKind.u64)
                                                (CTs.cons (CT.int IntKind.u64)
                                                  (CTs.cons CT.str
                                                    (CTs.cons (CT.ro (CTs.cons CT.str (CTs.cons CT.str CTs.nil)))
                                                      (CTs.cons (CT.int IntKind.u8)
                                                        (CTs.cons (CT.int IntKind.u8)
                                                          (CTs.cons (CT.int IntKind.i64)
                                                            (CTs.cons (CT.int IntKind.u8)
                                                              (CTs.cons (CT.int IntKind.u8)
                                                                (CTs.cons (CT.int IntKind.u64)
                                                                  (CTs.cons (CT.int IntKind.u64)
                                                                    (CTs.cons CT.bool
                                                                      CTs.nil))))))))))))))))))))))))))),
              PT.int IntKind.i64, PT.int IntKind.i64,
              PT.opt
                (OTs.cons (OT.c (CT.int IntKind.i64))
                  (OTs.cons (OT.c (CT.int IntKind.u64))
                    (OTs.cons
                      (OT.map (VT.one (CT.int IntKind.u64))
                        (VT.agg
                          (CTs.cons CT.bool
                            (CTs.cons (CT.int IntKind.u8)
                              (CTs.cons (CT.int IntKind.u64)
                                (CTs.cons (CT.int IntKind.u64)
                                  (CTs.cons CT.str
                                    (CTs.cons (CT.ro (CTs.cons CT.str (CTs.cons CT.str CTs.nil)))
                                      (CTs.cons (CT.int IntKind.u8)
                                        (CTs.cons (CT.int IntKind.u8)
                                          (CTs.cons (CT.int IntKind.i64)
                                            (CTs.cons (CT.int IntKind.u8)
                                              (CTs.cons (CT.int IntKind.u8)
                                                (CTs.cons (CT.int IntKind.u64)
                                                  (CTs.cons (CT.int IntKind.u64) CTs.nil)))))))))))))))
                      (OTs.cons (OT.c (CT.int IntKind.u64)) OTs.nil)))),
              PT.int IntKind.i64, PT.int IntKind.u64, PT.int IntKind.u64, PT.bool, PT.int IntKind.u8,
              PT.int IntKind.u64, PT.int IntKind.u64, PT.bytes, PT.list (CTs.cons CT.str (CTs.cons CT.str CTs.nil)),
              PT.int IntKind.u8, PT.int IntKind.u8, PT.int IntKind.i64, PT.int IntKind.u8, PT.int IntKind.u8,
              PT.int IntKind.u64, PT.int IntKind.u64,
              PT.list
                (CTs.cons (CT.int IntKind.u64)
                  (CTs.cons CT.bool
                    (CTs.cons (CT.int IntKind.u8)
                      (CTs.cons (CT.int IntKind.u64)
                        (CTs.cons (CT.int IntKind.u64)
                          (CTs.cons CT.str
                            (CTs.cons (CT.ro (CTs.cons CT.str (CTs.cons CT.str CTs.nil)))
                              (CTs.cons (CT.int IntKind.u8)
                                (CTs.cons (CT.int IntKind.u8)
                                  (CTs.cons (CT.int IntKind.i64)
                                    (CTs.cons (CT.int IntKind.u8)
                                      (CTs.cons (CT.int IntKind.u8)
                                        (CTs.cons (CT.int IntKind.u64)
                                          (CTs.cons (CT.int IntKind.u64) CTs.nil))))))))))))))]
            (Option (Bool × Unit))) =>
      oite a26 (J_1 w_1 e_1 a1 t_3 t_1_1 t_2_1 r_1 m0 m1 m2 a13 a14 a15 a16 a17 a18 a19 a20 a21 a22 a23 a24 a25 ml)
        (J_1 w_1 e_1 seq t_3 t_1_1 t_2_1 r_1 m0 m1 m2 x0 x1 x2 x3 x4 x5 x6 x7 x8 x9 x10 x11 x12 ml))
    (F4_J1038063 n J)
def F4_L253 : Nat →
  Arr
      [PT.int IntKind.i64, PT.int IntKind.i64,
        PT.list
          (CTs.cons (CT.int IntKind.u8)
            (CTs.cons (CT.int IntKind.u64)
              (CTs.cons CT.bool
                (CTs.cons (CT.int IntKind.u8)
                  (CTs.cons (CT.int IntKind.u8)
                    (CTs.cons (CT.int IntKind.u8)
                      (CTs.cons (CT.int IntKind.u16)
                        (CTs.cons (CT.int IntKind.u16)
                          (CTs.cons (CT.int IntKind.u16)
                            (CTs.cons (CT.int IntKind.u8)
                              (CTs.cons (CT.int IntKind.u8)
                                (CTs.cons (CT.int IntKind.u8)
                                  (CTs.cons CT.bool
                                    (CTs.cons CT.bool
                                      (CTs.cons (CT.int IntKind.u8)
                                        (CTs.cons (CT.int IntKind.u64)
                                          (CTs.cons (CT.int IntKind.u64)
                                            (CTs.cons CT.str
                                              (CTs.cons (CT.ro (CTs.cons CT.str (CTs.cons CT.str CTs.nil)))
                                                (CTs.cons (CT.int IntKind.u8)
                                                  (CTs.cons (CT.int IntKind.u8)
                                                    (CTs.cons (CT.int IntKind.i64)
                                                      (CTs.cons (CT.int IntKind.u8)
                                                        (CTs.cons (CT.int IntKind.u8)
                                                          (CTs.cons (CT.int IntKind.u64)
                                                            (CTs.cons (CT.int IntKind.u64)
                                                              (CTs.cons CT.bool CTs.nil))))))))))))))))))))))))))),
        PT.int IntKind.i64, PT.int IntKind.i64,
        PT.opt
          (OTs.cons (OT.c (CT.int IntKind.i64))
            (OTs.cons (OT.c (CT.int IntKind.u64))
              (OTs.cons
                (OT.map (VT.one (CT.int IntKind.u64))
                  (VT.agg
                    (CTs.cons CT.bool
                      (CTs.cons (CT.int IntKind.u8)
                        (CTs.cons (CT.int IntKind.u64)
                          (CTs.cons (CT.int IntKind.u64)
                            (CTs.cons CT.str
                              (CTs.cons (CT.ro (CTs.cons CT.str (CTs.cons CT.str CTs.nil)))
                                (CTs.cons (CT.int IntKind.u8)
                                  (CTs.cons (CT.int IntKind.u8)
                                    (CTs.cons (CT.int IntKind.i64)
                                      (CTs.cons (CT.int IntKind.u8)
                                        (CTs.cons (CT.int IntKind.u8)
                                          (CTs.cons (CT.int IntKind.u64)
                                            (CTs.cons (CT.int IntKind.u64) CTs.nil)))))))))))))))
                (OTs.cons (OT.c (CT.int IntKind.u64)) OTs.nil)))),
        PT.opt
          (OTs.cons (OT.c (CT.int IntKind.i64))
            (OTs.cons (OT.c (CT.int IntKind.u64))
              (OTs.cons (OT.c (CT.int IntKind.u64))
                (OTs.cons
                  (OT.row
                    (CTs.cons (CT.int IntKind.u64)
                      (CTs.cons CT.bool
                        (CTs.cons (CT.int IntKind.u8)
                          (CTs.cons (CT.int IntKind.u64)
                            (CTs.cons (CT.int IntKind.u64)
                              (CTs.cons CT.str
                                (CTs.cons (CT.ro (CTs.cons CT.str (CTs.cons CT.str CTs.nil)))
                                  (CTs.cons (CT.int IntKind.u8)
                                    (CTs.cons (CT.int IntKind.u8)
                                      (CTs.cons (CT.int IntKind.i64)
                                        (CTs.cons (CT.int IntKind.u8)
                                          (CTs.cons (CT.int IntKind.u8)
                                            (CTs.cons (CT.int IntKind.u64)
                                              (CTs.cons (CT.int IntKind.u64) CTs.nil)))))))))))))))
                  OTs.nil))))]
      (Option (Bool × Unit)) →
    Int64 →
      Int64 →
        List
            (UInt8 ×
              UInt64 ×
                Bool ×
                  UInt8 ×
                    UInt8 ×
                      UInt8 ×
                        UInt16 ×
                          UInt16 ×
                            UInt16 ×
                              UInt8 ×
                                UInt8 ×
                                  UInt8 ×
                                    Bool ×
                                      Bool ×
                                        UInt8 ×
                                          UInt64 ×
                                            UInt64 ×
                                              List UInt8 ×
                                                List (List UInt8 × List UInt8) ×
                                                  UInt8 × UInt8 × Int64 × UInt8 × UInt8 × UInt64 × UInt64 × Bool) →
          Int64 →
            Int64 →
              Option
                  (Int64 ×
                    UInt64 ×
                      List
                          (UInt64 ×
                            Bool ×
                              UInt8 ×
                                UInt64 ×
                                  UInt64 ×
                                    List UInt8 ×
                                      List (List UInt8 × List UInt8) ×
                                        UInt8 × UInt8 × Int64 × UInt8 × UInt8 × UInt64 × UInt64) ×
                        UInt64) →
                Option
                    (Int64 ×
                      UInt64 ×
                        UInt64 ×
                          List
                            (UInt64 ×
                              Bool ×
                                UInt8 ×
                                  UInt64 ×
                                    UInt64 ×
                                      List UInt8 ×
                                        List (List UInt8 × List UInt8) ×
                                          UInt8 × UInt8 × Int64 × UInt8 × UInt8 × UInt64 × UInt64)) →
                  Option (Bool × Unit) := fun (n : Nat)
    (rec :
      Arr
        [PT.int IntKind.i64, PT.int IntKind.i64,
          PT.list
            (CTs.cons (CT.int IntKind.u8)
              (CTs.cons (CT.int IntKind.u64)
                (CTs.cons CT.bool
                  (CTs.cons (CT.int IntKind.u8)
                    (CTs.cons (CT.int IntKind.u8)
                      (CTs.cons (CT.int IntKind.u8)
                        (CTs.cons (CT.int IntKind.u16)
                          (CTs.cons (CT.int IntKind.u16)
                            (CTs.cons (CT.int IntKind.u16)
                              (CTs.cons (CT.int IntKind.u8)
                                (CTs.cons (CT.int IntKind.u8)
                                  (CTs.cons (CT.int IntKind.u8)
                                    (CTs.cons CT.bool
                                      (CTs.cons CT.bool
                                        (CTs.cons (CT.int IntKind.u8)
                                          (CTs.cons (CT.int IntKind.u64)
                                            (CTs.cons (CT.int IntKind.u64)
                                              (CTs.cons CT.str
                                                (CTs.cons (CT.ro (CTs.cons CT.str (CTs.cons CT.str CTs.nil)))
                                                  (CTs.cons (CT.int IntKind.u8)
                                                    (CTs.cons (CT.int IntKind.u8)
                                                      (CTs.cons (CT.int IntKind.i64)
                                                        (CTs.cons (CT.int IntKind.u8)
                                                          (CTs.cons (CT.int IntKind.u8)
                                                            (CTs.cons (CT.int IntKind.u64)
                                                              (CTs.cons (CT.int IntKind.u64)
                                                                (CTs.cons CT.bool CTs.nil))))))))))))))))))))))))))),
          PT.int IntKind.i64, PT.int IntKind.i64,
          PT.opt
            (OTs.cons (OT.c (CT.int IntKind.i64))
              (OTs.cons (OT.c (CT.int IntKind.u64))
                (OTs.cons
                  (OT.map (VT.one (CT.int IntKind.u64))
                    (VT.agg
                      (CTs.cons CT.bool
                        (CTs.cons (CT.int IntKind.u8)
                          (CTs.cons (CT.int IntKind.u64)
                            (CTs.cons (CT.int IntKind.u64)
                              (CTs.cons CT.str
                                (CTs.cons (CT.ro (CTs.cons CT.str (CTs.cons CT.str CTs.nil)))
                                  (CTs.cons (CT.int IntKind.u8)
                                    (CTs.cons (CT.int IntKind.u8)
                                      (CTs.cons (CT.int IntKind.i64)
                                        (CTs.cons (CT.int IntKind.u8)
                                          (CTs.cons (CT.int IntKind.u8)
                                            (CTs.cons (CT.int IntKind.u64)
                                              (CTs.cons (CT.int IntKind.u64) CTs.nil)))))))))))))))
                  (OTs.cons (OT.c (CT.int IntKind.u64)) OTs.nil)))),
          PT.opt
            (OTs.cons (OT.c (CT.int IntKind.i64))
              (OTs.cons (OT.c (CT.int IntKind.u64))
                (OTs.cons (OT.c (CT.int IntKind.u64))
                  (OTs.cons
                    (OT.row
                      (CTs.cons (CT.int IntKind.u64)
                        (CTs.cons CT.bool
                          (CTs.cons (CT.int IntKind.u8)
                            (CTs.cons (CT.int IntKind.u64)
                              (CTs.cons (CT.int IntKind.u64)
                                (CTs.cons CT.str
                                  (CTs.cons (CT.ro (CTs.cons CT.str (CTs.cons CT.str CTs.nil)))
                                    (CTs.cons (CT.int IntKind.u8)
                                      (CTs.cons (CT.int IntKind.u8)
                                        (CTs.cons (CT.int IntKind.i64)
                                          (CTs.cons (CT.int IntKind.u8)
                                            (CTs.cons (CT.int IntKind.u8)
                                              (CTs.cons (CT.int IntKind.u64)
                                                (CTs.cons (CT.int IntKind.u64) CTs.nil)))))))))))))))
                    OTs.nil))))]
        (Option (Bool × Unit)))
    (w e : Int64)
    (t :
      List
        (UInt8 ×
          UInt64 ×
            Bool ×
              UInt8 ×
                UInt8 ×
                  UInt8 ×
                    UInt16 ×
                      UInt16 ×
                        UInt16 ×
                          UInt8 ×
                            UInt8 ×
                              UInt8 ×
                                Bool ×
                                  Bool ×
                                    UInt8 ×
                                      UInt64 ×
                                        UInt64 ×
                                          List UInt8 ×
                                            List (List UInt8 × List UInt8) ×
                                              UInt8 × UInt8 × Int64 × UInt8 × UInt8 × UInt64 × UInt64 × Bool))
    (t_1 t_2 : Int64)
    (r :
      Option
        (Int64 ×
          UInt64 ×
            List
                (UInt64 ×
                  Bool ×
                    UInt8 ×
                      UInt64 ×
                        UInt64 ×
                          List UInt8 ×
                            List (List UInt8 × List UInt8) × UInt8 × UInt8 × Int64 × UInt8 × UInt8 × UInt64 × UInt64) ×
              UInt64))
    (m :
      Option
        (Int64 ×
          UInt64 ×
            UInt64 ×
              List
                (UInt64 ×
                  Bool ×
                    UInt8 ×
                      UInt64 ×
                        UInt64 ×
                          List UInt8 ×
                            List (List UInt8 × List UInt8) ×
                              UInt8 × UInt8 × Int64 × UInt8 × UInt8 × UInt64 × UInt64))) =>
  oite (decide (t_2 < t_1))
    (obind (at? t (Int64.toInt t_2))
      fun
        (x_3 :
          UInt8 ×
            UInt64 ×
              Bool ×
                UInt8 ×
                  UInt8 ×
                    UInt8 ×
                      UInt16 ×
                        UInt16 ×
                          UInt16 ×
                            UInt8 ×
                              UInt8 ×
                                UInt8 ×
                                  Bool ×
                                    Bool ×
                                      UInt8 ×
                                        UInt64 ×
                                          UInt64 ×
                                            List UInt8 ×
                                              List (List UInt8 × List UInt8) ×
                                                UInt8 × UInt8 × Int64 × UInt8 × UInt8 × UInt64 × UInt64 × Bool) =>
      oite (decide ((100 : Int64) < t_2)) (some (decide (e = (0 : Int64)), ()))
        (oite
          (decide
            ((12 : Int64) <
              Int64.ofInt
                ↑(List.length
                    (Prod.fst
                      (Prod.snd
                        (Prod.snd
                          (Prod.snd
                            (Prod.snd
                              (Prod.snd
                                (Prod.snd
                                  (Prod.snd
                                    (Prod.snd
                                      (Prod.snd
                                        (Prod.snd
                                          (Prod.snd
                                            (Prod.snd
                                              (Prod.snd
                                                (Prod.snd
                                                  (Prod.snd (Prod.snd (Prod.snd (Prod.snd x_3))))))))))))))))))))))
          (some (decide (e = (0 : Int64)), ()))
          (ojoinA (32439 : Nat)
            [PT.int IntKind.i64, PT.int IntKind.i64, PT.int IntKind.i64, PT.int IntKind.i64,
              PT.list
                (CTs.cons (CT.int IntKind.u8)
                  (CTs.cons (CT.int IntKind.u64)
                    (CTs.cons CT.bool
                      (CTs.cons (CT.int IntKind.u8)
                        (CTs.cons (CT.int IntKind.u8)
                          (CTs.cons (CT.int IntKind.u8)
                            (CTs.cons (CT.int IntKind.u16)
                              (CTs.cons (CT.int IntKind.u16)
                                (CTs.cons (CT.int IntKind.u16)
                                  (CTs.cons (CT.int IntKind.u8)
                                    (CTs.cons (CT.int IntKind.u8)
                                      (CTs.cons (CT.int IntKind.u8)
                                        (CTs.cons CT.bool
                                          (CTs.cons CT.bool
                                            (CTs.cons (CT.int IntKind.u8)
                                              (CTs.cons (CT.int IntKind.u64)
                                                (CTs.cons (CT.int IntKind.u64)
                                                  (CTs.cons CT.str
                                                    (CTs.cons (CT.ro (CTs.cons CT.str (CTs.cons CT.str CTs.nil)))
                                                      (CTs.cons (CT.int IntKind.u8)
                                                        (CTs.cons (CT.int IntKind.u8)
                                                          (CTs.cons (CT.int IntKind.i64)
                                                            (CTs.cons (CT.int IntKind.u8)
                                                              (CTs.cons (CT.int IntKind.u8)
                                                                (CTs.cons (CT.int IntKind.u64)
                                                                  (CTs.cons (CT.int IntKind.u64)
                                                                    (CTs.cons CT.bool
                                                                      CTs.nil))))))))))))))))))))))))))),
              PT.int IntKind.i64, PT.int IntKind.i64,
              PT.opt
                (OTs.cons (OT.c (CT.int IntKind.i64))
                  (OTs.cons (OT.c (CT.int IntKind.u64))
                    (OTs.cons
                      (OT.map (VT.one (CT.int IntKind.u64))
                        (VT.agg
                          (CTs.cons CT.bool
                            (CTs.cons (CT.int IntKind.u8)
                              (CTs.cons (CT.int IntKind.u64)
                                (CTs.cons (CT.int IntKind.u64)
                                  (CTs.cons CT.str
                                    (CTs.cons (CT.ro (CTs.cons CT.str (CTs.cons CT.str CTs.nil)))
                                      (CTs.cons (CT.int IntKind.u8)
                                        (CTs.cons (CT.int IntKind.u8)
                                          (CTs.cons (CT.int IntKind.i64)
                                            (CTs.cons (CT.int IntKind.u8)
                                              (CTs.cons (CT.int IntKind.u8)
                                                (CTs.cons (CT.int IntKind.u64)
                                                  (CTs.cons (CT.int IntKind.u64) CTs.nil)))))))))))))))
                      (OTs.cons (OT.c (CT.int IntKind.u64)) OTs.nil)))),
              PT.opt
                (OTs.cons (OT.c (CT.int IntKind.i64))
                  (OTs.cons (OT.c (CT.int IntKind.u64))
                    (OTs.cons (OT.c (CT.int IntKind.u64))
                      (OTs.cons
                        (OT.row
                          (CTs.cons (CT.int IntKind.u64)
                            (CTs.cons CT.bool
                              (CTs.cons (CT.int IntKind.u8)
                                (CTs.cons (CT.int IntKind.u64)
                                  (CTs.cons (CT.int IntKind.u64)
                                    (CTs.cons CT.str
                                      (CTs.cons (CT.ro (CTs.cons CT.str (CTs.cons CT.str CTs.nil)))
                                        (CTs.cons (CT.int IntKind.u8)
                                          (CTs.cons (CT.int IntKind.u8)
                                            (CTs.cons (CT.int IntKind.i64)
                                              (CTs.cons (CT.int IntKind.u8)
                                                (CTs.cons (CT.int IntKind.u8)
                                                  (CTs.cons (CT.int IntKind.u64)
                                                    (CTs.cons (CT.int IntKind.u64) CTs.nil)))))))))))))))
                        OTs.nil))))]
            (fun
                (J :
                  Arr
                    [PT.int IntKind.i64, PT.int IntKind.i64, PT.int IntKind.i64, PT.int IntKind.i64,
                      PT.list
                        (CTs.cons (CT.int IntKind.u8)
                          (CTs.cons (CT.int IntKind.u64)
                            (CTs.cons CT.bool
                              (CTs.cons (CT.int IntKind.u8)
                                (CTs.cons (CT.int IntKind.u8)
                                  (CTs.cons (CT.int IntKind.u8)
                                    (CTs.cons (CT.int IntKind.u16)
                                      (CTs.cons (CT.int IntKind.u16)
                                        (CTs.cons (CT.int IntKind.u16)
                                          (CTs.cons (CT.int IntKind.u8)
                                            (CTs.cons (CT.int IntKind.u8)
                                              (CTs.cons (CT.int IntKind.u8)
                                                (CTs.cons CT.bool
                                                  (CTs.cons CT.bool
                                                    (CTs.cons (CT.int IntKind.u8)
                                                      (CTs.cons (CT.int IntKind.u64)
                                                        (CTs.cons (CT.int IntKind.u64)
                                                          (CTs.cons CT.str
                                                            (CTs.cons
                                                              (CT.ro (CTs.cons CT.str (CTs.cons CT.str CTs.nil)))
                                                              (CTs.cons (CT.int IntKind.u8)
                                                                (CTs.cons (CT.int IntKind.u8)
                                                                  (CTs.cons (CT.int IntKind.i64)
                                                                    (CTs.cons (CT.int IntKind.u8)
                                                                      (CTs.cons (CT.int IntKind.u8)
                                                                        (CTs.cons (CT.int IntKind.u64)
                                                                          (CTs.cons (CT.int IntKind.u64)
                                                                            (CTs.cons CT.bool
                                                                              CTs.nil))))))))))))))))))))))))))),
                      PT.int IntKind.i64, PT.int IntKind.i64,
                      PT.opt
                        (OTs.cons (OT.c (CT.int IntKind.i64))
                          (OTs.cons (OT.c (CT.int IntKind.u64))
                            (OTs.cons
                              (OT.map (VT.one (CT.int IntKind.u64))
                                (VT.agg
                                  (CTs.cons CT.bool
                                    (CTs.cons (CT.int IntKind.u8)
                                      (CTs.cons (CT.int IntKind.u64)
                                        (CTs.cons (CT.int IntKind.u64)
                                          (CTs.cons CT.str
                                            (CTs.cons (CT.ro (CTs.cons CT.str (CTs.cons CT.str CTs.nil)))
                                              (CTs.cons (CT.int IntKind.u8)
                                                (CTs.cons (CT.int IntKind.u8)
                                                  (CTs.cons (CT.int IntKind.i64)
                                                    (CTs.cons (CT.int IntKind.u8)
                                                      (CTs.cons (CT.int IntKind.u8)
                                                        (CTs.cons (CT.int IntKind.u64)
                                                          (CTs.cons (CT.int IntKind.u64) CTs.nil)))))))))))))))
                              (OTs.cons (OT.c (CT.int IntKind.u64)) OTs.nil)))),
                      PT.opt
                        (OTs.cons (OT.c (CT.int IntKind.i64))
                          (OTs.cons (OT.c (CT.int IntKind.u64))
                            (OTs.cons (OT.c (CT.int IntKind.u64))
                              (OTs.cons
                                (OT.row
                                  (CTs.cons (CT.int IntKind.u64)
                                    (CTs.cons CT.bool
                                      (CTs.cons (CT.int IntKind.u8)
                                        (CTs.cons (CT.int IntKind.u64)
                                          (CTs.cons (CT.int IntKind.u64)
                                            (CTs.cons CT.str
                                              (CTs.cons (CT.ro (CTs.cons CT.str (CTs.cons CT.str CTs.nil)))
                                                (CTs.cons (CT.int IntKind.u8)
                                                  (CTs.cons (CT.int IntKind.u8)
                                                    (CTs.cons (CT.int IntKind.i64)
                                                      (CTs.cons (CT.int IntKind.u8)
                                                        (CTs.cons (CT.int IntKind.u8)
                                                          (CTs.cons (CT.int IntKind.u64)
                                                            (CTs.cons (CT.int IntKind.u64) CTs.nil)))))))))))))))
                                OTs.nil))))]
                    (Option (Bool × Unit))) =>
              oite (decide ((5 : UInt8) ≤ Prod.fst x_3 % (8 : UInt8)))
                (obind (F13 n r)
                  fun
                    (x_4 :
                      Int64 ×
                        Option
                          (Int64 ×
                            UInt64 ×
                              List
                                  (UInt64 ×
                                    Bool ×
                                      UInt8 ×
                                        UInt64 ×
                                          UInt64 ×
                                            List UInt8 ×
                                              List (List UInt8 × List UInt8) ×
                                                UInt8 × UInt8 × Int64 × UInt8 × UInt8 × UInt64 × UInt64) ×
                                UInt64)) =>
                  obind (F14 n m)
                    fun
                      (x_5 :
                        Int64 ×
                          Option
                            (Int64 ×
                              UInt64 ×
                                UInt64 ×
                                  List
                                    (UInt64 ×
                                      Bool ×
                                        UInt8 ×
                                          UInt64 ×
                                            UInt64 ×
                                              List UInt8 ×
                                                List (List UInt8 × List UInt8) ×
                                                  UInt8 × UInt8 × Int64 × UInt8 × UInt8 × UInt64 × UInt64))) =>
                    J w e (Prod.fst x_4) (Prod.fst x_5) t t_1 t_2 (Prod.snd x_4) (Prod.snd x_5))
                (obind m
                  fun
                    (x_4 :
                      Int64 ×
                        UInt64 ×
                          UInt64 ×
                            List
                              (UInt64 ×
                                Bool ×
                                  UInt8 ×
                                    UInt64 ×
                                      UInt64 ×
                                        List UInt8 ×
                                          List (List UInt8 × List UInt8) ×
                                            UInt8 × UInt8 × Int64 × UInt8 × UInt8 × UInt64 × UInt64)) =>
                  oite (decide (UInt64.ofInt (Int64.toInt (w + (3 : Int64))) = (0 : UInt64))) none
                    (obind
                      (F9 n
                        (Prod.fst (Prod.snd (Prod.snd x_3)), Prod.fst (Prod.snd (Prod.snd (Prod.snd x_3))),
                          Prod.fst (Prod.snd (Prod.snd (Prod.snd (Prod.snd x_3)))),
                          Prod.fst (Prod.snd (Prod.snd (Prod.snd (Prod.snd (Prod.snd x_3))))),
                          Prod.fst (Prod.snd (Prod.snd (Prod.snd (Prod.snd (Prod.snd (Prod.snd x_3)))))),
                          Prod.fst (Prod.snd (Prod.snd (Prod.snd (Prod.snd (Prod.snd (Prod.snd (Prod.snd x_3))))))),
                          Prod.fst
                            (Prod.snd (Prod.snd (Prod.snd (Prod.snd (Prod.snd (Prod.snd (Prod.snd (Prod.snd x_3)))))))),
                          Prod.fst
                            (Prod.snd
                              (Prod.snd
                                (Prod.snd (Prod.snd (Prod.snd (Prod.snd (Prod.snd (Prod.snd (Prod.snd x_3))))))))),
                          Prod.fst
                            (Prod.snd
                              (Prod.snd
                                (Prod.snd
                                  (Prod.snd (Prod.snd (Prod.snd (Prod.snd (Prod.snd (Prod.snd (Prod.snd x_3)))))))))),
                          Prod.fst
                            (Prod.snd
                              (Prod.snd
                                (Prod.snd
                                  (Prod.snd
                                    (Prod.snd
                                      (Prod.snd (Prod.snd (Prod.snd (Prod.snd (Prod.snd (Prod.snd x_3))))))))))),
                          Prod.fst
                            (Prod.snd
                              (Prod.snd
                                (Prod.snd
                                  (Prod.snd
                                    (Prod.snd
                                      (Prod.snd
                                        (Prod.snd (Prod.snd (Prod.snd (Prod.snd (Prod.snd (Prod.snd x_3))))))))))))))
                      fun
                        (x_5 :
                          (Bool ×
                              UInt8 ×
                                UInt64 ×
                                  UInt64 ×
                                    List UInt8 ×
                                      List (List UInt8 × List UInt8) ×
                                        UInt8 × UInt8 × Int64 × UInt8 × UInt8 × UInt64 × UInt64) ×
                            Unit) =>
                      ojoinA (519031 : Nat)
                        [PT.int IntKind.i64, PT.int IntKind.i64, PT.int IntKind.u64,
                          PT.list
                            (CTs.cons (CT.int IntKind.u8)
                              (CTs.cons (CT.int IntKind.u64)
                                (CTs.cons CT.bool
                                  (CTs.cons (CT.int IntKind.u8)
                                    (CTs.cons (CT.int IntKind.u8)
                                      (CTs.cons (CT.int IntKind.u8)
                                        (CTs.cons (CT.int IntKind.u16)
                                          (CTs.cons (CT.int IntKind.u16)
                                            (CTs.cons (CT.int IntKind.u16)
                                              (CTs.cons (CT.int IntKind.u8)
                                                (CTs.cons (CT.int IntKind.u8)
                                                  (CTs.cons (CT.int IntKind.u8)
                                                    (CTs.cons CT.bool
                                                      (CTs.cons CT.bool
                                                        (CTs.cons (CT.int IntKind.u8)
                                                          (CTs.cons (CT.int IntKind.u64)
                                                            (CTs.cons (CT.int IntKind.u64)
                                                              (CTs.cons CT.str
                                                                (CTs.cons
                                                                  (CT.ro (CTs.cons CT.str (CTs.cons CT.str CTs.nil)))
                                                                  (CTs.cons (CT.int IntKind.u8)
                                                                    (CTs.cons (CT.int IntKind.u8)
                                                                      (CTs.cons (CT.int IntKind.i64)
                                                                        (CTs.cons (CT.int IntKind.u8)
                                                                          (CTs.cons (CT.int IntKind.u8)
                                                                            (CTs.cons (CT.int IntKind.u64)
                                                                              (CTs.cons (CT.int IntKind.u64)
                                                                                (CTs.cons CT.bool
                                                                                  CTs.nil))))))))))))))))))))))))))),
                          PT.int IntKind.i64, PT.int IntKind.i64,
                          PT.opt
                            (OTs.cons (OT.c (CT.int IntKind.i64))
                              (OTs.cons (OT.c (CT.int IntKind.u64))
                                (OTs.cons
                                  (OT.map (VT.one (CT.int IntKind.u64))
                                    (VT.agg
                                      (CTs.cons CT.bool
                                        (CTs.cons (CT.int IntKind.u8)
                                          (CTs.cons (CT.int IntKind.u64)
                                            (CTs.cons (CT.int IntKind.u64)
                                              (CTs.cons CT.str
                                                (CTs.cons (CT.ro (CTs.cons CT.str (CTs.cons CT.str CTs.nil)))
                                                  (CTs.cons (CT.int IntKind.u8)
                                                    (CTs.cons (CT.int IntKind.u8)
                                                      (CTs.cons (CT.int IntKind.i64)
                                                        (CTs.cons (CT.int IntKind.u8)
                                                          (CTs.cons (CT.int IntKind.u8)
                                                            (CTs.cons (CT.int IntKind.u64)
                                                              (CTs.cons (CT.int IntKind.u64) CTs.nil)))))))))))))))
                                  (OTs.cons (OT.c (CT.int IntKind.u64)) OTs.nil)))),
                          PT.int IntKind.i64, PT.int IntKind.u64, PT.int IntKind.u64, PT.int IntKind.u8,
                          PT.int IntKind.u64, PT.bool, PT.int IntKind.u8, PT.int IntKind.u8, PT.int IntKind.u8,
                          PT.int IntKind.u16, PT.int IntKind.u16, PT.int IntKind.u16, PT.int IntKind.u8,
                          PT.int IntKind.u8, PT.int IntKind.u8, PT.bool, PT.bool, PT.int IntKind.u8, PT.int IntKind.u64,
                          PT.int IntKind.u64, PT.bytes, PT.list (CTs.cons CT.str (CTs.cons CT.str CTs.nil)),
                          PT.int IntKind.u8, PT.int IntKind.u8, PT.int IntKind.i64, PT.int IntKind.u8,
                          PT.int IntKind.u8, PT.int IntKind.u64, PT.int IntKind.u64, PT.bool, PT.bool,
                          PT.int IntKind.u8, PT.int IntKind.u64, PT.int IntKind.u64, PT.bytes,
                          PT.list (CTs.cons CT.str (CTs.cons CT.str CTs.nil)), PT.int IntKind.u8, PT.int IntKind.u8,
                          PT.int IntKind.i64, PT.int IntKind.u8, PT.int IntKind.u8, PT.int IntKind.u64,
                          PT.int IntKind.u64,
                          PT.list
                            (CTs.cons (CT.int IntKind.u64)
                              (CTs.cons CT.bool
                                (CTs.cons (CT.int IntKind.u8)
                                  (CTs.cons (CT.int IntKind.u64)
                                    (CTs.cons (CT.int IntKind.u64)
                                      (CTs.cons CT.str
                                        (CTs.cons (CT.ro (CTs.cons CT.str (CTs.cons CT.str CTs.nil)))
                                          (CTs.cons (CT.int IntKind.u8)
                                            (CTs.cons (CT.int IntKind.u8)
                                              (CTs.cons (CT.int IntKind.i64)
                                                (CTs.cons (CT.int IntKind.u8)
                                                  (CTs.cons (CT.int IntKind.u8)
                                                    (CTs.cons (CT.int IntKind.u64)
                                                      (CTs.cons (CT.int IntKind.u64) CTs.nil))))))))))))))]
                        (fun
                            (J_1 :
                              Arr
                                [PT.int IntKind.i64, PT.int IntKind.i64, PT.int IntKind.u64,
                                  PT.list
                                    (CTs.cons (CT.int IntKind.u8)
                                      (CTs.cons (CT.int IntKind.u64)
                                        (CTs.cons CT.bool
                                          (CTs.cons (CT.int IntKind.u8)
                                            (CTs.cons (CT.int IntKind.u8)
                                              (CTs.cons (CT.int IntKind.u8)
                                                (CTs.cons (CT.int IntKind.u16)
                                                  (CTs.cons (CT.int IntKind.u16)
                                                    (CTs.cons (CT.int IntKind.u16)
                                                      (CTs.cons (CT.int IntKind.u8)
                                                        (CTs.cons (CT.int IntKind.u8)
                                                          (CTs.cons (CT.int IntKind.u8)
                                                            (CTs.cons CT.bool
                                                              (CTs.cons CT.bool
                                                                (CTs.cons (CT.int IntKind.u8)
                                                                  (CTs.cons (CT.int IntKind.u64)
                                                                    (CTs.cons (CT.int IntKind.u64)
                                                                      (CTs.cons CT.str
                                                                        (CTs.cons
                                                                          (CT.ro
                                                                            (CTs.cons CT.str (CTs.cons CT.str CTs.nil)))
                                                                          (CTs.cons (CT.int IntKind.u8)
                                                                            (CTs.cons (CT.int IntKind.u8)
                                                                              (CTs.cons (CT.int IntKind.i64)
                                                                                (CTs.cons (CT.int IntKind.u8)
                                                                                  (CTs.cons (CT.int IntKind.u8)
                                                                                    (CTs.cons (CT.int IntKind.u64)
                                                                                      (CTs.cons (CT.int IntKind.u64)
                                                                                        (CTs.cons CT.bool
                                                                                          CTs.nil))))))))))))))))))))))))))),
                                  PT.int IntKind.i64, PT.int IntKind.i64,
                                  PT.opt
                                    (OTs.cons (OT.c (CT.int IntKind.i64))
                                      (OTs.cons (OT.c (CT.int IntKind.u64))
                                        (OTs.cons
                                          (OT.map (VT.one (CT.int IntKind.u64))
                                            (VT.agg
                                              (CTs.cons CT.bool
                                                (CTs.cons (CT.int IntKind.u8)
                                                  (CTs.cons (CT.int IntKind.u64)
                                                    (CTs.cons (CT.int IntKind.u64)
                                                      (CTs.cons CT.str
                                                        (CTs.cons (CT.ro (CTs.cons CT.str (CTs.cons CT.str CTs.nil)))
                                                          (CTs.cons (CT.int IntKind.u8)
                                                            (CTs.cons (CT.int IntKind.u8)
                                                              (CTs.cons (CT.int IntKind.i64)
                                                                (CTs.cons (CT.int IntKind.u8)
                                                                  (CTs.cons (CT.int IntKind.u8)
                                                                    (CTs.cons (CT.int IntKind.u64)
                                                                      (CTs.cons (CT.int IntKind.u64)
                                                                        CTs.nil)))))))))))))))
                                          (OTs.cons (OT.c (CT.int IntKind.u64)) OTs.nil)))),
                                  PT.int IntKind.i64, PT.int IntKind.u64, PT.int IntKind.u64, PT.int IntKind.u8,
                                  PT.int IntKind.u64, PT.bool, PT.int IntKind.u8, PT.int IntKind.u8, PT.int IntKind.u8,
                                  PT.int IntKind.u16, PT.int IntKind.u16, PT.int IntKind.u16, PT.int IntKind.u8,
                                  PT.int IntKind.u8, PT.int IntKind.u8, PT.bool, PT.bool, PT.int IntKind.u8,
                                  PT.int IntKind.u64, PT.int IntKind.u64, PT.bytes,
                                  PT.list (CTs.cons CT.str (CTs.cons CT.str CTs.nil)), PT.int IntKind.u8,
                                  PT.int IntKind.u8, PT.int IntKind.i64, PT.int IntKind.u8, PT.int IntKind.u8,
                                  PT.int IntKind.u64, PT.int IntKind.u64, PT.bool, PT.bool, PT.int IntKind.u8,
                                  PT.int IntKind.u64, PT.int IntKind.u64, PT.bytes,
                                  PT.list (CTs.cons CT.str (CTs.cons CT.str CTs.nil)), PT.int IntKind.u8,
                                  PT.int IntKind.u8, PT.int IntKind.i64, PT.int IntKind.u8, PT.int IntKind.u8,
                                  PT.int IntKind.u64, PT.int IntKind.u64,
                                  PT.list
                                    (CTs.cons (CT.int IntKind.u64)
                                      (CTs.cons CT.bool
                                        (CTs.cons (CT.int IntKind.u8)
                                          (CTs.cons (CT.int IntKind.u64)
                                            (CTs.cons (CT.int IntKind.u64)
                                              (CTs.cons CT.str
                                                (CTs.cons (CT.ro (CTs.cons CT.str (CTs.cons CT.str CTs.nil)))
                                                  (CTs.cons (CT.int IntKind.u8)
                                                    (CTs.cons (CT.int IntKind.u8)
                                                      (CTs.cons (CT.int IntKind.i64)
                                                        (CTs.cons (CT.int IntKind.u8)
                                                          (CTs.cons (CT.int IntKind.u8)
                                                            (CTs.cons (CT.int IntKind.u64)
                                                              (CTs.cons (CT.int IntKind.u64) CTs.nil))))))))))))))]
                                (Option (Bool × Unit))) =>
                          oite
                            (decide
                              ((1 : UInt64) <
                                Prod.fst (Prod.snd x_4) +
                                  Prod.fst (Prod.snd x_3) % UInt64.ofInt (Int64.toInt (w + (3 : Int64)))))
                            (J_1 w e
                              (Prod.fst (Prod.snd x_4) +
                                  Prod.fst (Prod.snd x_3) % UInt64.ofInt (Int64.toInt (w + (3 : Int64))) -
                                (1 : UInt64))
                              t t_1 t_2 r (Prod.fst x_4) (Prod.fst (Prod.snd x_4)) (Prod.fst (Prod.snd (Prod.snd x_4)))
                              (Prod.fst x_3) (Prod.fst (Prod.snd x_3)) (Prod.fst (Prod.snd (Prod.snd x_3)))
                              (Prod.fst (Prod.snd (Prod.snd (Prod.snd x_3))))
                              (Prod.fst (Prod.snd (Prod.snd (Prod.snd (Prod.snd x_3)))))
                              (Prod.fst (Prod.snd (Prod.snd (Prod.snd (Prod.snd (Prod.snd x_3))))))
                              (Prod.fst (Prod.snd (Prod.snd (Prod.snd (Prod.snd (Prod.snd (Prod.snd x_3)))))))
                              (Prod.fst
                                (Prod.snd (Prod.snd (Prod.snd (Prod.snd (Prod.snd (Prod.snd (Prod.snd x_3))))))))
                              (Prod.fst
                                (Prod.snd
                                  (Prod.snd (Prod.snd (Prod.snd (Prod.snd (Prod.snd (Prod.snd (Prod.snd x_3)))))))))
                              (Prod.fst
                                (Prod.snd
                                  (Prod.snd
                                    (Prod.snd (Prod.snd (Prod.snd (Prod.snd (Prod.snd (Prod.snd (Prod.snd x_3))))))))))
                              (Prod.fst
                                (Prod.snd
                                  (Prod.snd
                                    (Prod.snd
                                      (Prod.snd
                                        (Prod.snd (Prod.snd (Prod.snd (Prod.snd (Prod.snd (Prod.snd x_3)))))))))))
                              (Prod.fst
                                (Prod.snd
                                  (Prod.snd
                                    (Prod.snd
                                      (Prod.snd
                                        (Prod.snd
                                          (Prod.snd (Prod.snd (Prod.snd (Prod.snd (Prod.snd (Prod.snd x_3))))))))))))
                              (Prod.fst
                                (Prod.snd
                                  (Prod.snd
                                    (Prod.snd
                                      (Prod.snd
                                        (Prod.snd
                                          (Prod.snd
                                            (Prod.snd (Prod.snd (Prod.snd (Prod.snd (Prod.snd (Prod.snd x_3)))))))))))))
                              (Prod.fst
                                (Prod.snd
                                  (Prod.snd
                                    (Prod.snd
                                      (Prod.snd
                                        (Prod.snd
                                          (Prod.snd
                                            (Prod.snd
                                              (Prod.snd
                                                (Prod.snd (Prod.snd (Prod.snd (Prod.snd (Prod.snd x_3))))))))))))))
                              (Prod.fst
                                (Prod.snd
                                  (Prod.snd
                                    (Prod.snd
                                      (Prod.snd
                                        (Prod.snd
                                          (Prod.snd
                                            (Prod.snd
                                              (Prod.snd
                                                (Prod.snd
                                                  (Prod.snd (Prod.snd (Prod.snd (Prod.snd (Prod.snd x_3)))))))))))))))
                              (Prod.fst
                                (Prod.snd
                                  (Prod.snd
                                    (Prod.snd
                                      (Prod.snd
                                        (Prod.snd
                                          (Prod.snd
                                            (Prod.snd
                                              (Prod.snd
                                                (Prod.snd
                                                  (Prod.snd
                                                    (Prod.snd
                                                      (Prod.snd (Prod.snd (Prod.snd (Prod.snd x_3))))))))))))))))
                              (Prod.fst
                                (Prod.snd
                                  (Prod.snd
                                    (Prod.snd
                                      (Prod.snd
                                        (Prod.snd
                                          (Prod.snd
                                            (Prod.snd
                                              (Prod.snd
                                                (Prod.snd
                                                  (Prod.snd
                                                    (Prod.snd
                                                      (Prod.snd
                                                        (Prod.snd (Prod.snd (Prod.snd (Prod.snd x_3)))))))))))))))))
                              (Prod.fst
                                (Prod.snd
                                  (Prod.snd
                                    (Prod.snd
                                      (Prod.snd
                                        (Prod.snd
                                          (Prod.snd
                                            (Prod.snd
                                              (Prod.snd
                                                (Prod.snd
                                                  (Prod.snd
                                                    (Prod.snd
                                                      (Prod.snd
                                                        (Prod.snd
                                                          (Prod.snd (Prod.snd (Prod.snd (Prod.snd x_3))))))))))))))))))
                              (Prod.fst
                                (Prod.snd
                                  (Prod.snd
                                    (Prod.snd
                                      (Prod.snd
                                        (Prod.snd
                                          (Prod.snd
                                            (Prod.snd
                                              (Prod.snd
                                                (Prod.snd
                                                  (Prod.snd
                                                    (Prod.snd
                                                      (Prod.snd
                                                        (Prod.snd
                                                          (Prod.snd
                                                            (Prod.snd
                                                              (Prod.snd (Prod.snd (Prod.snd x_3)))))))))))))))))))
                              (Prod.fst
                                (Prod.snd
                                  (Prod.snd
                                    (Prod.snd
                                      (Prod.snd
                                        (Prod.snd
                                          (Prod.snd
                                            (Prod.snd
                                              (Prod.snd
                                                (Prod.snd
                                                  (Prod.snd
                                                    (Prod.snd
                                                      (Prod.snd
                                                        (Prod.snd
                                                          (Prod.snd
                                                            (Prod.snd
                                                              (Prod.snd
                                                                (Prod.snd (Prod.snd (Prod.snd x_3))))))))))))))))))))
                              (Prod.fst
                                (Prod.snd
                                  (Prod.snd
                                    (Prod.snd
                                      (Prod.snd
                                        (Prod.snd
                                          (Prod.snd
                                            (Prod.snd
                                              (Prod.snd
                                                (Prod.snd
                                                  (Prod.snd
                                                    (Prod.snd
                                                      (Prod.snd
                                                        (Prod.snd
                                                          (Prod.snd
                                                            (Prod.snd
                                                              (Prod.snd
                                                                (Prod.snd
                                                                  (Prod.snd (Prod.snd (Prod.snd x_3)))))))))))))))))))))
                              (Prod.fst
                                (Prod.snd
                                  (Prod.snd
                                    (Prod.snd
                                      (Prod.snd
                                        (Prod.snd
                                          (Prod.snd
                                            (Prod.snd
                                              (Prod.snd
                                                (Prod.snd
                                                  (Prod.snd
                                                    (Prod.snd
                                                      (Prod.snd
                                                        (Prod.snd
                                                          (Prod.snd
                                                            (Prod.snd
                                                              (Prod.snd
                                                                (Prod.snd
                                                                  (Prod.snd
                                                                    (Prod.snd
                                                                      (Prod.snd (Prod.snd x_3))))))))))))))))))))))
                              (Prod.fst
                                (Prod.snd
                                  (Prod.snd
                                    (Prod.snd
                                      (Prod.snd
                                        (Prod.snd
                                          (Prod.snd
                                            (Prod.snd
                                              (Prod.snd
                                                (Prod.snd
                                                  (Prod.snd
                                                    (Prod.snd
                                                      (Prod.snd
                                                        (Prod.snd
                                                          (Prod.snd
                                                            (Prod.snd
                                                              (Prod.snd
                                                                (Prod.snd
                                                                  (Prod.snd
                                                                    (Prod.snd
                                                                      (Prod.snd
                                                                        (Prod.snd (Prod.snd x_3)))))))))))))))))))))))
                              (Prod.fst
                                (Prod.snd
                                  (Prod.snd
                                    (Prod.snd
                                      (Prod.snd
                                        (Prod.snd
                                          (Prod.snd
                                            (Prod.snd
                                              (Prod.snd
                                                (Prod.snd
                                                  (Prod.snd
                                                    (Prod.snd
                                                      (Prod.snd
                                                        (Prod.snd
                                                          (Prod.snd
                                                            (Prod.snd
                                                              (Prod.snd
                                                                (Prod.snd
                                                                  (Prod.snd
                                                                    (Prod.snd
                                                                      (Prod.snd
                                                                        (Prod.snd
                                                                          (Prod.snd
                                                                            (Prod.snd x_3))))))))))))))))))))))))
                              (Prod.fst
                                (Prod.snd
                                  (Prod.snd
                                    (Prod.snd
                                      (Prod.snd
                                        (Prod.snd
                                          (Prod.snd
                                            (Prod.snd
                                              (Prod.snd
                                                (Prod.snd
                                                  (Prod.snd
                                                    (Prod.snd
                                                      (Prod.snd
                                                        (Prod.snd
                                                          (Prod.snd
                                                            (Prod.snd
                                                              (Prod.snd
                                                                (Prod.snd
                                                                  (Prod.snd
                                                                    (Prod.snd
                                                                      (Prod.snd
                                                                        (Prod.snd
                                                                          (Prod.snd
                                                                            (Prod.snd
                                                                              (Prod.snd x_3)))))))))))))))))))))))))
                              (Prod.fst
                                (Prod.snd
                                  (Prod.snd
                                    (Prod.snd
                                      (Prod.snd
                                        (Prod.snd
                                          (Prod.snd
                                            (Prod.snd
                                              (Prod.snd
                                                (Prod.snd
                                                  (Prod.snd
                                                    (Prod.snd
                                                      (Prod.snd
                                                        (Prod.snd
                                                          (Prod.snd
                                                            (Prod.snd
                                                              (Prod.snd
                                                                (Prod.snd
                                                                  (Prod.snd
                                                                    (Prod.snd
                                                                      (Prod.snd
                                                                        (Prod.snd
                                                                          (Prod.snd
                                                                            (Prod.snd
                                                                              (Prod.snd
                                                                                (Prod.snd x_3))))))))))))))))))))))))))
                              (Prod.snd
                                (Prod.snd
                                  (Prod.snd
                                    (Prod.snd
                                      (Prod.snd
                                        (Prod.snd
                                          (Prod.snd
                                            (Prod.snd
                                              (Prod.snd
                                                (Prod.snd
                                                  (Prod.snd
                                                    (Prod.snd
                                                      (Prod.snd
                                                        (Prod.snd
                                                          (Prod.snd
                                                            (Prod.snd
                                                              (Prod.snd
                                                                (Prod.snd
                                                                  (Prod.snd
                                                                    (Prod.snd
                                                                      (Prod.snd
                                                                        (Prod.snd
                                                                          (Prod.snd
                                                                            (Prod.snd
                                                                              (Prod.snd
                                                                                (Prod.snd x_3))))))))))))))))))))))))))
                              (Prod.fst (Prod.fst x_5)) (Prod.fst (Prod.snd (Prod.fst x_5)))
                              (Prod.fst (Prod.snd (Prod.snd (Prod.fst x_5))))
                              (Prod.fst (Prod.snd (Prod.snd (Prod.snd (Prod.fst x_5)))))
                              (Prod.fst (Prod.snd (Prod.snd (Prod.snd (Prod.snd (Prod.fst x_5))))))
                              (Prod.fst (Prod.snd (Prod.snd (Prod.snd (Prod.snd (Prod.snd (Prod.fst x_5)))))))
                              (Prod.fst
                                (Prod.snd (Prod.snd (Prod.snd (Prod.snd (Prod.snd (Prod.snd (Prod.fst x_5))))))))
                              (Prod.fst
                                (Prod.snd
                                  (Prod.snd (Prod.snd (Prod.snd (Prod.snd (Prod.snd (Prod.snd (Prod.fst x_5)))))))))
                              (Prod.fst
                                (Prod.snd
                                  (Prod.snd
                                    (Prod.snd (Prod.snd (Prod.snd (Prod.snd (Prod.snd (Prod.snd (Prod.fst x_5))))))))))
                              (Prod.fst
                                (Prod.snd
                                  (Prod.snd
                                    (Prod.snd
                                      (Prod.snd
                                        (Prod.snd (Prod.snd (Prod.snd (Prod.snd (Prod.snd (Prod.fst x_5)))))))))))
                              (Prod.fst
                                (Prod.snd
                                  (Prod.snd
                                    (Prod.snd
                                      (Prod.snd
                                        (Prod.snd
                                          (Prod.snd (Prod.snd (Prod.snd (Prod.snd (Prod.snd (Prod.fst x_5))))))))))))
                              (Prod.fst
                                (Prod.snd
                                  (Prod.snd
                                    (Prod.snd
                                      (Prod.snd
                                        (Prod.snd
                                          (Prod.snd
                                            (Prod.snd (Prod.snd (Prod.snd (Prod.snd (Prod.snd (Prod.fst x_5)))))))))))))
                              (Prod.snd
                                (Prod.snd
                                  (Prod.snd
                                    (Prod.snd
                                      (Prod.snd
                                        (Prod.snd
                                          (Prod.snd
                                            (Prod.snd (Prod.snd (Prod.snd (Prod.snd (Prod.snd (Prod.fst x_5)))))))))))))
                              (Prod.snd (Prod.snd (Prod.snd x_4))))
                            (J_1 w e
                              (Prod.fst (Prod.snd x_4) +
                                Prod.fst (Prod.snd x_3) % UInt64.ofInt (Int64.toInt (w + (3 : Int64))))
                              t t_1 t_2 r (Prod.fst x_4) (Prod.fst (Prod.snd x_4)) (Prod.fst (Prod.snd (Prod.snd x_4)))
                              (Prod.fst x_3) (Prod.fst (Prod.snd x_3)) (Prod.fst (Prod.snd (Prod.snd x_3)))
                              (Prod.fst (Prod.snd (Prod.snd (Prod.snd x_3))))
                              (Prod.fst (Prod.snd (Prod.snd (Prod.snd (Prod.snd x_3)))))
                              (Prod.fst (Prod.snd (Prod.snd (Prod.snd (Prod.snd (Prod.snd x_3))))))
                              (Prod.fst (Prod.snd (Prod.snd (Prod.snd (Prod.snd (Prod.snd (Prod.snd x_3)))))))
                              (Prod.fst
                                (Prod.snd (Prod.snd (Prod.snd (Prod.snd (Prod.snd (Prod.snd (Prod.snd x_3))))))))
                              (Prod.fst
                                (Prod.snd
                                  (Prod.snd (Prod.snd (Prod.snd (Prod.snd (Prod.snd (Prod.snd (Prod.snd x_3)))))))))
                              (Prod.fst
                                (Prod.snd
                                  (Prod.snd
                                    (Prod.snd (Prod.snd (Prod.snd (Prod.snd (Prod.snd (Prod.snd (Prod.snd x_3))))))))))
                              (Prod.fst
                                (Prod.snd
                                  (Prod.snd
                                    (Prod.snd
                                      (Prod.snd
                                        (Prod.snd (Prod.snd (Prod.snd (Prod.snd (Prod.snd (Prod.snd x_3)))))))))))
                              (Prod.fst
                                (Prod.snd
                                  (Prod.snd
                                    (Prod.snd
                                      (Prod.snd
                                        (Prod.snd
                                          (Prod.snd (Prod.snd (Prod.snd (Prod.snd (Prod.snd (Prod.snd x_3))))))))))))
                              (Prod.fst
                                (Prod.snd
                                  (Prod.snd
                                    (Prod.snd
                                      (Prod.snd
                                        (Prod.snd
                                          (Prod.snd
                                            (Prod.snd (Prod.snd (Prod.snd (Prod.snd (Prod.snd (Prod.snd x_3)))))))))))))
                              (Prod.fst
                                (Prod.snd
                                  (Prod.snd
                                    (Prod.snd
                                      (Prod.snd
                                        (Prod.snd
                                          (Prod.snd
                                            (Prod.snd
                                              (Prod.snd
                                                (Prod.snd (Prod.snd (Prod.snd (Prod.snd (Prod.snd x_3))))))))))))))
                              (Prod.fst
                                (Prod.snd
                                  (Prod.snd
                                    (Prod.snd
                                      (Prod.snd
                                        (Prod.snd
                                          (Prod.snd
                                            (Prod.snd
                                              (Prod.snd
                                                (Prod.snd
                                                  (Prod.snd (Prod.snd (Prod.snd (Prod.snd (Prod.snd x_3)))))))))))))))
                              (Prod.fst
                                (Prod.snd
                                  (Prod.snd
                                    (Prod.snd
                                      (Prod.snd
                                        (Prod.snd
                                          (Prod.snd
                                            (Prod.snd
                                              (Prod.snd
                                                (Prod.snd
                                                  (Prod.snd
                                                    (Prod.snd
                                                      (Prod.snd (Prod.snd (Prod.snd (Prod.snd x_3))))))))))))))))
                              (Prod.fst
                                (Prod.snd
                                  (Prod.snd
                                    (Prod.snd
                                      (Prod.snd
                                        (Prod.snd
                                          (Prod.snd
                                            (Prod.snd
                                              (Prod.snd
                                                (Prod.snd
                                                  (Prod.snd
                                                    (Prod.snd
                                                      (Prod.snd
                                                        (Prod.snd (Prod.snd (Prod.snd (Prod.snd x_3)))))))))))))))))
                              (Prod.fst
                                (Prod.snd
                                  (Prod.snd
                                    (Prod.snd
                                      (Prod.snd
                                        (Prod.snd
                                          (Prod.snd
                                            (Prod.snd
                                              (Prod.snd
                                                (Prod.snd
                                                  (Prod.snd
                                                    (Prod.snd
                                                      (Prod.snd
                                                        (Prod.snd
                                                          (Prod.snd (Prod.snd (Prod.snd (Prod.snd x_3))))))))))))))))))
                              (Prod.fst
                                (Prod.snd
                                  (Prod.snd
                                    (Prod.snd
                                      (Prod.snd
                                        (Prod.snd
                                          (Prod.snd
                                            (Prod.snd
                                              (Prod.snd
                                                (Prod.snd
                                                  (Prod.snd
                                                    (Prod.snd
                                                      (Prod.snd
                                                        (Prod.snd
                                                          (Prod.snd
                                                            (Prod.snd
                                                              (Prod.snd (Prod.snd (Prod.snd x_3)))))))))))))))))))
                              (Prod.fst
                                (Prod.snd
                                  (Prod.snd
                                    (Prod.snd
                                      (Prod.snd
                                        (Prod.snd
                                          (Prod.snd
                                            (Prod.snd
                                              (Prod.snd
                                                (Prod.snd
                                                  (Prod.snd
                                                    (Prod.snd
                                                      (Prod.snd
                                                        (Prod.snd
                                                          (Prod.snd
                                                            (Prod.snd
                                                              (Prod.snd
                                                                (Prod.snd (Prod.snd (Prod.snd x_3))))))))))))))))))))
                              (Prod.fst
                                (Prod.snd
                                  (Prod.snd
                                    (Prod.snd
                                      (Prod.snd
                                        (Prod.snd
                                          (Prod.snd
                                            (Prod.snd
                                              (Prod.snd
                                                (Prod.snd
                                                  (Prod.snd
                                                    (Prod.snd
                                                      (Prod.snd
                                                        (Prod.snd
                                                          (Prod.snd
                                                            (Prod.snd
                                                              (Prod.snd
                                                                (Prod.snd
                                                                  (Prod.snd (Prod.snd (Prod.snd x_3)))))))))))))))))))))
                              (Prod.fst
                                (Prod.snd
                                  (Prod.snd
                                    (Prod.snd
                                      (Prod.snd
                                        (Prod.snd
                                          (Prod.snd
                                            (Prod.snd
                                              (Prod.snd
                                                (Prod.snd
                                                  (Prod.snd
                                                    (Prod.snd
                                                      (Prod.snd
                                                        (Prod.snd
                                                          (Prod.snd
                                                            (Prod.snd
                                                              (Prod.snd
                                                                (Prod.snd
                                                                  (Prod.snd
                                                                    (Prod.snd
                                                                      (Prod.snd (Prod.snd x_3))))))))))))))))))))))
                              (Prod.fst
                                (Prod.snd
                                  (Prod.snd
                                    (Prod.snd
                                      (Prod.snd
                                        (Prod.snd
                                          (Prod.snd
                                            (Prod.snd
                                              (Prod.snd
                                                (Prod.snd
                                                  (Prod.snd
                                                    (Prod.snd
                                                      (Prod.snd
                                                        (Prod.snd
                                                          (Prod.snd
                                                            (Prod.snd
                                                              (Prod.snd
                                                                (Prod.snd
                                                                  (Prod.snd
                                                                    (Prod.snd
                                                                      (Prod.snd
                                                                        (Prod.snd (Prod.snd x_3)))))))))))))))))))))))
                              (Prod.fst
                                (Prod.snd
                                  (Prod.snd
                                    (Prod.snd
                                      (Prod.snd
                                        (Prod.snd
                                          (Prod.snd
                                            (Prod.snd
                                              (Prod.snd
                                                (Prod.snd
                                                  (Prod.snd
                                                    (Prod.snd
                                                      (Prod.snd
                                                        (Prod.snd
                                                          (Prod.snd
                                                            (Prod.snd
                                                              (Prod.snd
                                                                (Prod.snd
                                                                  (Prod.snd
                                                                    (Prod.snd
                                                                      (Prod.snd
                                                                        (Prod.snd
                                                                          (Prod.snd
                                                                            (Prod.snd x_3))))))))))))))))))))))))
                              (Prod.fst
                                (Prod.snd
                                  (Prod.snd
                                    (Prod.snd
                                      (Prod.snd
                                        (Prod.snd
                                          (Prod.snd
                                            (Prod.snd
                                              (Prod.snd
                                                (Prod.snd
                                                  (Prod.snd
                                                    (Prod.snd
                                                      (Prod.snd
                                                        (Prod.snd
                                                          (Prod.snd
                                                            (Prod.snd
                                                              (Prod.snd
                                                                (Prod.snd
                                                                  (Prod.snd
                                                                    (Prod.snd
                                                                      (Prod.snd
                                                                        (Prod.snd
                                                                          (Prod.snd
                                                                            (Prod.snd
                                                                              (Prod.snd x_3)))))))))))))))))))))))))
                              (Prod.fst
                                (Prod.snd
                                  (Prod.snd
                                    (Prod.snd
                                      (Prod.snd
                                        (Prod.snd
                                          (Prod.snd
                                            (Prod.snd
                                              (Prod.snd
                                                (Prod.snd
                                                  (Prod.snd
                                                    (Prod.snd
                                                      (Prod.snd
                                                        (Prod.snd
                                                          (Prod.snd
                                                            (Prod.snd
                                                              (Prod.snd
                                                                (Prod.snd
                                                                  (Prod.snd
                                                                    (Prod.snd
                                                                      (Prod.snd
                                                                        (Prod.snd
                                                                          (Prod.snd
                                                                            (Prod.snd
                                                                              (Prod.snd
                                                                                (Prod.snd x_3))))))))))))))))))))))))))
                              (Prod.snd
                                (Prod.snd
                                  (Prod.snd
                                    (Prod.snd
                                      (Prod.snd
                                        (Prod.snd
                                          (Prod.snd
                                            (Prod.snd
                                              (Prod.snd
                                                (Prod.snd
                                                  (Prod.snd
                                                    (Prod.snd
                                                      (Prod.snd
                                                        (Prod.snd
                                                          (Prod.snd
                                                            (Prod.snd
                                                              (Prod.snd
                                                                (Prod.snd
                                                                  (Prod.snd
                                                                    (Prod.snd
                                                                      (Prod.snd
                                                                        (Prod.snd
                                                                          (Prod.snd
                                                                            (Prod.snd
                                                                              (Prod.snd
                                                                                (Prod.snd x_3))))))))))))))))))))))))))
                              (Prod.fst (Prod.fst x_5)) (Prod.fst (Prod.snd (Prod.fst x_5)))
                              (Prod.fst (Prod.snd (Prod.snd (Prod.fst x_5))))
                              (Prod.fst (Prod.snd (Prod.snd (Prod.snd (Prod.fst x_5)))))
                              (Prod.fst (Prod.snd (Prod.snd (Prod.snd (Prod.snd (Prod.fst x_5))))))
                              (Prod.fst (Prod.snd (Prod.snd (Prod.snd (Prod.snd (Prod.snd (Prod.fst x_5)))))))
                              (Prod.fst
                                (Prod.snd (Prod.snd (Prod.snd (Prod.snd (Prod.snd (Prod.snd (Prod.fst x_5))))))))
                              (Prod.fst
                                (Prod.snd
                                  (Prod.snd (Prod.snd (Prod.snd (Prod.snd (Prod.snd (Prod.snd (Prod.fst x_5)))))))))
                              (Prod.fst
                                (Prod.snd
                                  (Prod.snd
                                    (Prod.snd (Prod.snd (Prod.snd (Prod.snd (Prod.snd (Prod.snd (Prod.fst x_5))))))))))
                              (Prod.fst
                                (Prod.snd
                                  (Prod.snd
                                    (Prod.snd
                                      (Prod.snd
                                        (Prod.snd (Prod.snd (Prod.snd (Prod.snd (Prod.snd (Prod.fst x_5)))))))))))
                              (Prod.fst
                                (Prod.snd
                                  (Prod.snd
                                    (Prod.snd
                                      (Prod.snd
                                        (Prod.snd
                                          (Prod.snd (Prod.snd (Prod.snd (Prod.snd (Prod.snd (Prod.fst x_5))))))))))))
                              (Prod.fst
                                (Prod.snd
                                  (Prod.snd
                                    (Prod.snd
                                      (Prod.snd
                                        (Prod.snd
                                          (Prod.snd
                                            (Prod.snd (Prod.snd (Prod.snd (Prod.snd (Prod.snd (Prod.fst x_5)))))))))))))
                              (Prod.snd
                                (Prod.snd
                                  (Prod.snd
                                    (Prod.snd
                                      (Prod.snd
                                        (Prod.snd
                                          (Prod.snd
                                            (Prod.snd (Prod.snd (Prod.snd (Prod.snd (Prod.snd (Prod.fst x_5)))))))))))))
                              (Prod.snd (Prod.snd (Prod.snd x_4)))))
                        (F4_J519031 n J))))
            (F4_J32439 n rec))))
    (some (decide (e = (0 : Int64)), ()))
def F4_R253 : Nat →
  Nat →
    PT.T (PT.int IntKind.i64) →
      Int64 →
        List
            (UInt8 ×
              UInt64 ×
                Bool ×
                  UInt8 ×
                    UInt8 ×
                      UInt8 ×
                        UInt16 ×
                          UInt16 ×
                            UInt16 ×
                              UInt8 ×
                                UInt8 ×
                                  UInt8 ×
                                    Bool ×
                                      Bool ×
                                        UInt8 ×
                                          UInt64 ×
                                            UInt64 ×
                                              List UInt8 ×
                                                List (List UInt8 × List UInt8) ×
                                                  UInt8 × UInt8 × Int64 × UInt8 × UInt8 × UInt64 × UInt64 × Bool) →
          Int64 →
            Int64 →
              Option
                  (Int64 ×
                    UInt64 ×
                      List
                          (UInt64 ×
                            Bool ×
                              UInt8 ×
                                UInt64 ×
                                  UInt64 ×
                                    List UInt8 ×
                                      List (List UInt8 × List UInt8) ×
                                        UInt8 × UInt8 × Int64 × UInt8 × UInt8 × UInt64 × UInt64) ×
                        UInt64) →
                Option
                    (Int64 ×
                      UInt64 ×
                        UInt64 ×
                          List
                            (UInt64 ×
                              Bool ×
                                UInt8 ×
                                  UInt64 ×
                                    UInt64 ×
                                      List UInt8 ×
                                        List (List UInt8 × List UInt8) ×
                                          UInt8 × UInt8 × Int64 × UInt8 × UInt8 × UInt64 × UInt64)) →
                  Option (Bool × Unit) := fun (n : Nat) =>
  ofixA (253 : Nat)
    [PT.int IntKind.i64, PT.int IntKind.i64,
      PT.list
        (CTs.cons (CT.int IntKind.u8)
          (CTs.cons (CT.int IntKind.u64)
            (CTs.cons CT.bool
              (CTs.cons (CT.int IntKind.u8)
                (CTs.cons (CT.int IntKind.u8)
                  (CTs.cons (CT.int IntKind.u8)
                    (CTs.cons (CT.int IntKind.u16)
                      (CTs.cons (CT.int IntKind.u16)
                        (CTs.cons (CT.int IntKind.u16)
                          (CTs.cons (CT.int IntKind.u8)
                            (CTs.cons (CT.int IntKind.u8)
                              (CTs.cons (CT.int IntKind.u8)
                                (CTs.cons CT.bool
                                  (CTs.cons CT.bool
                                    (CTs.cons (CT.int IntKind.u8)
                                      (CTs.cons (CT.int IntKind.u64)
                                        (CTs.cons (CT.int IntKind.u64)
                                          (CTs.cons CT.str
                                            (CTs.cons (CT.ro (CTs.cons CT.str (CTs.cons CT.str CTs.nil)))
                                              (CTs.cons (CT.int IntKind.u8)
                                                (CTs.cons (CT.int IntKind.u8)
                                                  (CTs.cons (CT.int IntKind.i64)
                                                    (CTs.cons (CT.int IntKind.u8)
                                                      (CTs.cons (CT.int IntKind.u8)
                                                        (CTs.cons (CT.int IntKind.u64)
                                                          (CTs.cons (CT.int IntKind.u64)
                                                            (CTs.cons CT.bool CTs.nil))))))))))))))))))))))))))),
      PT.int IntKind.i64, PT.int IntKind.i64,
      PT.opt
        (OTs.cons (OT.c (CT.int IntKind.i64))
          (OTs.cons (OT.c (CT.int IntKind.u64))
            (OTs.cons
              (OT.map (VT.one (CT.int IntKind.u64))
                (VT.agg
                  (CTs.cons CT.bool
                    (CTs.cons (CT.int IntKind.u8)
                      (CTs.cons (CT.int IntKind.u64)
                        (CTs.cons (CT.int IntKind.u64)
                          (CTs.cons CT.str
                            (CTs.cons (CT.ro (CTs.cons CT.str (CTs.cons CT.str CTs.nil)))
                              (CTs.cons (CT.int IntKind.u8)
                                (CTs.cons (CT.int IntKind.u8)
                                  (CTs.cons (CT.int IntKind.i64)
                                    (CTs.cons (CT.int IntKind.u8)
                                      (CTs.cons (CT.int IntKind.u8)
                                        (CTs.cons (CT.int IntKind.u64)
                                          (CTs.cons (CT.int IntKind.u64) CTs.nil)))))))))))))))
              (OTs.cons (OT.c (CT.int IntKind.u64)) OTs.nil)))),
      PT.opt
        (OTs.cons (OT.c (CT.int IntKind.i64))
          (OTs.cons (OT.c (CT.int IntKind.u64))
            (OTs.cons (OT.c (CT.int IntKind.u64))
              (OTs.cons
                (OT.row
                  (CTs.cons (CT.int IntKind.u64)
                    (CTs.cons CT.bool
                      (CTs.cons (CT.int IntKind.u8)
                        (CTs.cons (CT.int IntKind.u64)
                          (CTs.cons (CT.int IntKind.u64)
                            (CTs.cons CT.str
                              (CTs.cons (CT.ro (CTs.cons CT.str (CTs.cons CT.str CTs.nil)))
                                (CTs.cons (CT.int IntKind.u8)
                                  (CTs.cons (CT.int IntKind.u8)
                                    (CTs.cons (CT.int IntKind.i64)
                                      (CTs.cons (CT.int IntKind.u8)
                                        (CTs.cons (CT.int IntKind.u8)
                                          (CTs.cons (CT.int IntKind.u64)
                                            (CTs.cons (CT.int IntKind.u64) CTs.nil)))))))))))))))
                OTs.nil))))]
    (F4_L253 n)
def F4 : Nat →
  UInt8 ×
      List
        (UInt8 ×
          UInt64 ×
            Bool ×
              UInt8 ×
                UInt8 ×
                  UInt8 ×
                    UInt16 ×
                      UInt16 ×
                        UInt16 ×
                          UInt8 ×
                            UInt8 ×
                              UInt8 ×
                                Bool ×
                                  Bool ×
                                    UInt8 ×
                                      UInt64 ×
                                        UInt64 ×
                                          List UInt8 ×
                                            List (List UInt8 × List UInt8) ×
                                              UInt8 × UInt8 × Int64 × UInt8 × UInt8 × UInt64 × UInt64 × Bool) →
    Option (Bool × Unit) := fun (n : Nat)
    (x :
      UInt8 ×
        List
          (UInt8 ×
            UInt64 ×
              Bool ×
                UInt8 ×
                  UInt8 ×
                    UInt8 ×
                      UInt16 ×
                        UInt16 ×
                          UInt16 ×
                            UInt8 ×
                              UInt8 ×
                                UInt8 ×
                                  Bool ×
                                    Bool ×
                                      UInt8 ×
                                        UInt64 ×
                                          UInt64 ×
                                            List UInt8 ×
                                              List (List UInt8 × List UInt8) ×
                                                UInt8 × UInt8 × Int64 × UInt8 × UInt8 × UInt64 × UInt64 × Bool)) =>
  obind (F7 n ()) fun (x_1 : Bool × Unit) =>
    oite (!Prod.fst x_1) (some (false, ()))
      (obind (F8 n ((1 : Int64) + Int64.ofInt ↑(UInt8.toNat (Prod.fst x % (64 : UInt8)))))
        fun
          (x_2 :
            (Option
                  (Int64 ×
                    UInt64 ×
                      List
                          (UInt64 ×
                            Bool ×
                              UInt8 ×
                                UInt64 ×
                                  UInt64 ×
                                    List UInt8 ×
                                      List (List UInt8 × List UInt8) ×
                                        UInt8 × UInt8 × Int64 × UInt8 × UInt8 × UInt64 × UInt64) ×
                        UInt64) ×
                Int64) ×
              Unit) =>
        F4_R253 n n ((1 : Int64) + Int64.ofInt ↑(UInt8.toNat (Prod.fst x % (64 : UInt8)))) (Prod.snd (Prod.fst x_2))
          (Prod.snd x) (Int64.ofInt ↑(List.length (Prod.snd x))) (0 : Int64) (Prod.fst (Prod.fst x_2))
          (some ((1 : Int64) + Int64.ofInt ↑(UInt8.toNat (Prod.fst x % (64 : UInt8))), (1 : UInt64), (0 : UInt64), [])))
theorem F4_R253_s (n : Nat) (m_ : Nat) : F4_R253 n (m_ + 1) = F4_L253 n (F4_R253 n m_) := rfl
theorem ok4 (n : Nat) : FunOK Try.prog ⟨4, sig4, F4 n⟩ :=
  fun_ok (hints := ⟨[(32439, ⟨[(5, .one (.int .i64)), (6, .one (.own 2)), (7, .one (.int .i64)), (8, .one (.own 3)), (11, .one (.int .i64)), (12, .one (.int .i64)), (37, .one (.ro (.cons (.int .u8) (.cons (.int .u64) (.cons .bool (.cons (.int .u8) (.cons (.int .u8) (.cons (.int .u8) (.cons (.int .u16) (.cons (.int .u16) (.cons (.int .u16) (.cons (.int .u8) (.cons (.int .u8) (.cons (.int .u8) (.cons .bool (.cons .bool (.cons (.int .u8) (.cons (.int .u64) (.cons (.int .u64) (.cons .str (.cons (.ro (.cons .str (.cons .str .nil))) (.cons (.int .u8) (.cons (.int .u8) (.cons (.int .i64) (.cons (.int .u8) (.cons (.int .u8) (.cons (.int .u64) (.cons (.int .u64) (.cons .bool .nil))))))))))))))))))))))))))))), (38, .one (.int .i64)), (39, .one (.int .i64))], [(2, .fold (.cons (.c (.int .i64)) (.cons (.c (.int .u64)) (.cons (.map (.one (.int .u64)) (.agg (.cons .bool (.cons (.int .u8) (.cons (.int .u64) (.cons (.int .u64) (.cons .str (.cons (.ro (.cons .str (.cons .str .nil))) (.cons (.int .u8) (.cons (.int .u8) (.cons (.int .i64) (.cons (.int .u8) (.cons (.int .u8) (.cons (.int .u64) (.cons (.int .u64) .nil))))))))))))))) (.cons (.c (.int .u64)) .nil))))), (3, .fold (.cons (.c (.int .i64)) (.cons (.c (.int .u64)) (.cons (.c (.int .u64)) (.cons (.row (.cons (.int .u64) (.cons .bool (.cons (.int .u8) (.cons (.int .u64) (.cons (.int .u64) (.cons .str (.cons (.ro (.cons .str (.cons .str .nil))) (.cons (.int .u8) (.cons (.int .u8) (.cons (.int .i64) (.cons (.int .u8) (.cons (.int .u8) (.cons (.int .u64) (.cons (.int .u64) .nil))))))))))))))) .nil)))))], 4⟩), (519031, ⟨[(5, .one (.int .i64)), (6, .one (.own 2)), (7, .one (.int .i64)), (8, .one (.own 3)), (10, .one (.own 4)), (13, .one (.int .u64)), (14, .one (.own 5)), (37, .one (.ro (.cons (.int .u8) (.cons (.int .u64) (.cons .bool (.cons (.int .u8) (.cons (.int .u8) (.cons (.int .u8) (.cons (.int .u16) (.cons (.int .u16) (.cons (.int .u16) (.cons (.int .u8) (.cons (.int .u8) (.cons (.int .u8) (.cons .bool (.cons .bool (.cons (.int .u8) (.cons (.int .u64) (.cons (.int .u64) (.cons .str (.cons (.ro (.cons .str (.cons .str .nil))) (.cons (.int .u8) (.cons (.int .u8) (.cons (.int .i64) (.cons (.int .u8) (.cons (.int .u8) (.cons (.int .u64) (.cons (.int .u64) (.cons .bool .nil))))))))))))))))))))))))))))), (38, .one (.int .i64)), (39, .one (.int .i64))], [(2, .fold (.cons (.c (.int .i64)) (.cons (.c (.int .u64)) (.cons (.map (.one (.int .u64)) (.agg (.cons .bool (.cons (.int .u8) (.cons (.int .u64) (.cons (.int .u64) (.cons .str (.cons (.ro (.cons .str (.cons .str .nil))) (.cons (.int .u8) (.cons (.int .u8) (.cons (.int .i64) (.cons (.int .u8) (.cons (.int .u8) (.cons (.int .u64) (.cons (.int .u64) .nil))))))))))))))) (.cons (.c (.int .u64)) .nil))))), (3, .cells [.int .i64, .int .u64, .int .u64, .own 6]), (4, .cells [.int .u8, .int .u64, .bool, .int .u8, .int .u8, .int .u8, .int .u16, .int .u16, .int .u16, .int .u8, .int .u8, .int .u8, .bool, .bool, .int .u8, .int .u64, .int .u64, .str, .ro (.cons .str (.cons .str .nil)), .int .u8, .int .u8, .int .i64, .int .u8, .int .u8, .int .u64, .int .u64, .bool]), (5, .cells [.bool, .int .u8, .int .u64, .int .u64, .str, .ro (.cons .str (.cons .str .nil)), .int .u8, .int .u8, .int .i64, .int .u8, .int .u8, .int .u64, .int .u64]), (6, .row (.cons (.int .u64) (.cons .bool (.cons (.int .u8) (.cons (.int .u64) (.cons (.int .u64) (.cons .str (.cons (.ro (.cons .str (.cons .str .nil))) (.cons (.int .u8) (.cons (.int .u8) (.cons (.int .i64) (.cons (.int .u8) (.cons (.int .u8) (.cons (.int .u64) (.cons (.int .u64) .nil)))))))))))))))], 7⟩), (1038063, ⟨[(5, .one (.int .i64)), (6, .one (.own 2)), (7, .one (.int .i64)), (8, .one (.own 3)), (13, .one (.int .u64)), (14, .one (.own 4)), (37, .one (.ro (.cons (.int .u8) (.cons (.int .u64) (.cons .bool (.cons (.int .u8) (.cons (.int .u8) (.cons (.int .u8) (.cons (.int .u16) (.cons (.int .u16) (.cons (.int .u16) (.cons (.int .u8) (.cons (.int .u8) (.cons (.int .u8) (.cons .bool (.cons .bool (.cons (.int .u8) (.cons (.int .u64) (.cons (.int .u64) (.cons .str (.cons (.ro (.cons .str (.cons .str .nil))) (.cons (.int .u8) (.cons (.int .u8) (.cons (.int .i64) (.cons (.int .u8) (.cons (.int .u8) (.cons (.int .u64) (.cons (.int .u64) (.cons .bool .nil))))))))))))))))))))))))))))), (38, .one (.int .i64)), (39, .one (.int .i64))], [(2, .fold (.cons (.c (.int .i64)) (.cons (.c (.int .u64)) (.cons (.map (.one (.int .u64)) (.agg (.cons .bool (.cons (.int .u8) (.cons (.int .u64) (.cons (.int .u64) (.cons .str (.cons (.ro (.cons .str (.cons .str .nil))) (.cons (.int .u8) (.cons (.int .u8) (.cons (.int .i64) (.cons (.int .u8) (.cons (.int .u8) (.cons (.int .u64) (.cons (.int .u64) .nil))))))))))))))) (.cons (.c (.int .u64)) .nil))))), (3, .cells [.int .i64, .int .u64, .int .u64, .own 5]), (4, .cells [.bool, .int .u8, .int .u64, .int .u64, .str, .ro (.cons .str (.cons .str .nil)), .int .u8, .int .u8, .int .i64, .int .u8, .int .u8, .int .u64, .int .u64]), (5, .row (.cons (.int .u64) (.cons .bool (.cons (.int .u8) (.cons (.int .u64) (.cons (.int .u64) (.cons .str (.cons (.ro (.cons .str (.cons .str .nil))) (.cons (.int .u8) (.cons (.int .u8) (.cons (.int .i64) (.cons (.int .u8) (.cons (.int .u8) (.cons (.int .u64) (.cons (.int .u64) .nil)))))))))))))))], 6⟩), (2076159, ⟨[(5, .one (.int .i64)), (6, .one (.own 2)), (7, .one (.int .i64)), (8, .one (.own 3)), (37, .one (.ro (.cons (.int .u8) (.cons (.int .u64) (.cons .bool (.cons (.int .u8) (.cons (.int .u8) (.cons (.int .u8) (.cons (.int .u16) (.cons (.int .u16) (.cons (.int .u16) (.cons (.int .u8) (.cons (.int .u8) (.cons (.int .u8) (.cons .bool (.cons .bool (.cons (.int .u8) (.cons (.int .u64) (.cons (.int .u64) (.cons .str (.cons (.ro (.cons .str (.cons .str .nil))) (.cons (.int .u8) (.cons (.int .u8) (.cons (.int .i64) (.cons (.int .u8) (.cons (.int .u8) (.cons (.int .u64) (.cons (.int .u64) (.cons .bool .nil))))))))))))))))))))))))))))), (38, .one (.int .i64)), (39, .one (.int .i64)), (183, .one (.bool))], [(2, .fold (.cons (.c (.int .i64)) (.cons (.c (.int .u64)) (.cons (.map (.one (.int .u64)) (.agg (.cons .bool (.cons (.int .u8) (.cons (.int .u64) (.cons (.int .u64) (.cons .str (.cons (.ro (.cons .str (.cons .str .nil))) (.cons (.int .u8) (.cons (.int .u8) (.cons (.int .i64) (.cons (.int .u8) (.cons (.int .u8) (.cons (.int .u64) (.cons (.int .u64) .nil))))))))))))))) (.cons (.c (.int .u64)) .nil))))), (3, .fold (.cons (.c (.int .i64)) (.cons (.c (.int .u64)) (.cons (.c (.int .u64)) (.cons (.row (.cons (.int .u64) (.cons .bool (.cons (.int .u8) (.cons (.int .u64) (.cons (.int .u64) (.cons .str (.cons (.ro (.cons .str (.cons .str .nil))) (.cons (.int .u8) (.cons (.int .u8) (.cons (.int .i64) (.cons (.int .u8) (.cons (.int .u8) (.cons (.int .u64) (.cons (.int .u64) .nil))))))))))))))) .nil)))))], 4⟩)], [(253, ⟨[(5, .one (.int .i64)), (6, .one (.own 2)), (7, .one (.int .i64)), (8, .one (.own 3)), (37, .one (.ro (.cons (.int .u8) (.cons (.int .u64) (.cons .bool (.cons (.int .u8) (.cons (.int .u8) (.cons (.int .u8) (.cons (.int .u16) (.cons (.int .u16) (.cons (.int .u16) (.cons (.int .u8) (.cons (.int .u8) (.cons (.int .u8) (.cons .bool (.cons .bool (.cons (.int .u8) (.cons (.int .u64) (.cons (.int .u64) (.cons .str (.cons (.ro (.cons .str (.cons .str .nil))) (.cons (.int .u8) (.cons (.int .u8) (.cons (.int .i64) (.cons (.int .u8) (.cons (.int .u8) (.cons (.int .u64) (.cons (.int .u64) (.cons .bool .nil))))))))))))))))))))))))))))), (38, .one (.int .i64)), (39, .one (.int .i64))], [(2, .fold (.cons (.c (.int .i64)) (.cons (.c (.int .u64)) (.cons (.map (.one (.int .u64)) (.agg (.cons .bool (.cons (.int .u8) (.cons (.int .u64) (.cons (.int .u64) (.cons .str (.cons (.ro (.cons .str (.cons .str .nil))) (.cons (.int .u8) (.cons (.int .u8) (.cons (.int .i64) (.cons (.int .u8) (.cons (.int .u8) (.cons (.int .u64) (.cons (.int .u64) .nil))))))))))))))) (.cons (.c (.int .u64)) .nil))))), (3, .fold (.cons (.c (.int .i64)) (.cons (.c (.int .u64)) (.cons (.c (.int .u64)) (.cons (.row (.cons (.int .u64) (.cons .bool (.cons (.int .u8) (.cons (.int .u64) (.cons (.int .u64) (.cons .str (.cons (.ro (.cons .str (.cons .str .nil))) (.cons (.int .u8) (.cons (.int .u8) (.cons (.int .i64) (.cons (.int .u8) (.cons (.int .u8) (.cons (.int .u64) (.cons (.int .u64) .nil))))))))))))))) .nil)))))], 4⟩)]⟩) (fuel := n) (c := Try.f4.body.getD .skip) (rs := Try.f4.results.toList) tt_ok mix (FsOK.cons (ok7 n) (FsOK.cons (ok8 n) (FsOK.cons (ok13 n) (FsOK.cons (ok14 n) (FsOK.cons (ok9 n) (FsOK.cons (ok10 n) (FsOK.cons (ok15 n) (FsOK.cons (ok11 n) (FsOK.cons (ok16 n) (FsOK.cons (ok17 n) (FsOK.cons (ok18 n) (FsOK.cons (ok12 n) (FsOK.cons (ok19 n) (FsOK.nil)))))))))))))) Try.func4 (by kernel_rfl) (by kernel_rfl) rfl (by kernel_rfl) rfl rfl (by kernel_rfl)
end Go.Proofs.Ytllfmmonieelpaa
