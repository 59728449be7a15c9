/- What the functions of this seat compute, found by walking their code symbolically: each F is what the walk finds, each ok says that the Go function keeps it as a contract. Printed by a program of this repo's. -/
import Derived.Test.YtllfmmonieelpaaRoFns1
open Go Go.Sx
namespace Go.Proofs.Ytllfmmonieelpaa
set_option maxRecDepth 100000
set_option linter.unusedVariables false
-- watchfire/watchfirelaw11.RecvOwn
def sig3 : Sig := ⟨(.cons (.agg (.cons .bool (.cons (.int .u8) (.cons (.int .u8) (.cons (.int .u8) (.cons (.int .u16) (.cons (.int .u16) (.cons (.int .u16) (.cons (.int .u8) (.cons (.int .u8) (.cons (.int .u8) (.cons .bool .nil)))))))))))) .nil), (.cons (.one (.c .bool)) .nil)⟩
def F3_L4093 : Nat →
  Arr
      [PT.int IntKind.i64, PT.int IntKind.i64, PT.int IntKind.i64, PT.int IntKind.i64, PT.bool, PT.int IntKind.u8,
        PT.int IntKind.u8, PT.int IntKind.u8, PT.int IntKind.u16, PT.int IntKind.u16, PT.int IntKind.u16,
        PT.int IntKind.u8, PT.int IntKind.u8, PT.int IntKind.u8, PT.bool,
        PT.opt
          (OTs.cons (OT.c (CT.int IntKind.i64))
            (OTs.cons (OT.c (CT.int IntKind.u64))
              (OTs.cons
                (OT.map (VT.one (CT.int IntKind.u64))
                  (VT.agg
                    (CTs.cons CT.bool
                      (CTs.cons (CT.int IntKind.u8)
                        (CTs.cons (CT.int IntKind.u64)
                          (CTs.cons (CT.int IntKind.u64)
                            (CTs.cons CT.str
                              (CTs.cons (CT.ro (CTs.cons CT.str (CTs.cons CT.str CTs.nil)))
                                (CTs.cons (CT.int IntKind.u8)
                                  (CTs.cons (CT.int IntKind.u8)
                                    (CTs.cons (CT.int IntKind.i64)
                                      (CTs.cons (CT.int IntKind.u8)
                                        (CTs.cons (CT.int IntKind.u8)
                                          (CTs.cons (CT.int IntKind.u64)
                                            (CTs.cons (CT.int IntKind.u64) CTs.nil)))))))))))))))
                (OTs.cons (OT.c (CT.int IntKind.u64)) OTs.nil)))),
        PT.bool, PT.int IntKind.u8, PT.int IntKind.u64, PT.int IntKind.u64, PT.bytes, PT.int IntKind.u8,
        PT.int IntKind.u8, PT.int IntKind.i64, PT.int IntKind.u8, PT.int IntKind.u8, PT.int IntKind.u64,
        PT.int IntKind.u64, PT.list (CTs.cons CT.str (CTs.cons CT.str CTs.nil))]
      (Option (Bool × Unit)) →
    Int64 →
      Int64 →
        Int64 →
          Int64 →
            Bool →
              UInt8 →
                UInt8 →
                  UInt8 →
                    UInt16 →
                      UInt16 →
                        UInt16 →
                          UInt8 →
                            UInt8 →
                              UInt8 →
                                Bool →
                                  Option
                                      (Int64 ×
                                        UInt64 ×
                                          List
                                              (UInt64 ×
                                                Bool ×
                                                  UInt8 ×
                                                    UInt64 ×
                                                      UInt64 ×
                                                        List UInt8 ×
                                                          List (List UInt8 × List UInt8) ×
                                                            UInt8 × UInt8 × Int64 × UInt8 × UInt8 × UInt64 × UInt64) ×
                                            UInt64) →
                                    Bool →
                                      UInt8 →
                                        UInt64 →
                                          UInt64 →
                                            List UInt8 →
                                              UInt8 →
                                                UInt8 →
                                                  Int64 →
                                                    UInt8 →
                                                      UInt8 →
                                                        UInt64 →
                                                          UInt64 →
                                                            List (List UInt8 × List UInt8) → Option (Bool × Unit) := fun (n : Nat)
    (rec_1 :
      Arr
        [PT.int IntKind.i64, PT.int IntKind.i64, PT.int IntKind.i64, PT.int IntKind.i64, PT.bool, PT.int IntKind.u8,
          PT.int IntKind.u8, PT.int IntKind.u8, PT.int IntKind.u16, PT.int IntKind.u16, PT.int IntKind.u16,
          PT.int IntKind.u8, PT.int IntKind.u8, PT.int IntKind.u8, PT.bool,
          PT.opt
            (OTs.cons (OT.c (CT.int IntKind.i64))
              (OTs.cons (OT.c (CT.int IntKind.u64))
                (OTs.cons
                  (OT.map (VT.one (CT.int IntKind.u64))
                    (VT.agg
                      (CTs.cons CT.bool
                        (CTs.cons (CT.int IntKind.u8)
                          (CTs.cons (CT.int IntKind.u64)
                            (CTs.cons (CT.int IntKind.u64)
                              (CTs.cons CT.str
                                (CTs.cons (CT.ro (CTs.cons CT.str (CTs.cons CT.str CTs.nil)))
                                  (CTs.cons (CT.int IntKind.u8)
                                    (CTs.cons (CT.int IntKind.u8)
                                      (CTs.cons (CT.int IntKind.i64)
                                        (CTs.cons (CT.int IntKind.u8)
                                          (CTs.cons (CT.int IntKind.u8)
                                            (CTs.cons (CT.int IntKind.u64)
                                              (CTs.cons (CT.int IntKind.u64) CTs.nil)))))))))))))))
                  (OTs.cons (OT.c (CT.int IntKind.u64)) OTs.nil)))),
          PT.bool, PT.int IntKind.u8, PT.int IntKind.u64, PT.int IntKind.u64, PT.bytes, PT.int IntKind.u8,
          PT.int IntKind.u8, PT.int IntKind.i64, PT.int IntKind.u8, PT.int IntKind.u8, PT.int IntKind.u64,
          PT.int IntKind.u64, PT.list (CTs.cons CT.str (CTs.cons CT.str CTs.nil))]
        (Option (Bool × Unit)))
    (e_1 f_1 t_2 t_1_1 : Int64) (s0_1 : Bool) (s1_1 s2_1 s3_1 : UInt8) (s4_1 s5_1 s6_1 : UInt16)
    (s7_1 s8_1 s9_1 : UInt8) (s10_1 : Bool)
    (r_1 :
      Option
        (Int64 ×
          UInt64 ×
            List
                (UInt64 ×
                  Bool ×
                    UInt8 ×
                      UInt64 ×
                        UInt64 ×
                          List UInt8 ×
                            List (List UInt8 × List UInt8) × UInt8 × UInt8 × Int64 × UInt8 × UInt8 × UInt64 × UInt64) ×
              UInt64))
    (y0 : Bool) (y1 : UInt8) (y2 y3 : UInt64) (y4 : List UInt8) (y6 y7 : UInt8) (y8 : Int64) (y9 y10 : UInt8)
    (y11 y12 : UInt64) (yl : List (List UInt8 × List UInt8)) =>
  oite (decide (t_1_1 < t_2))
    (oite (decide ((0 : Int) ≤ Int64.toInt t_1_1) && Nat.blt (Int.toNat (Int64.toInt t_1_1)) (List.length yl))
      (obind yl[Int.toNat (Int64.toInt t_1_1)]? fun (x_6 : List UInt8 × List UInt8) =>
        rec_1 e_1 f_1 t_2 (t_1_1 + (1 : Int64)) s0_1 s1_1 s2_1 s3_1 s4_1 s5_1 s6_1 s7_1 s8_1 s9_1 s10_1 r_1 y0 y1 y2 y3
          y4 y6 y7 y8 y9 y10 y11 y12 (List.set yl (Int.toNat (Int64.toInt t_1_1)) (Prod.fst x_6, [(113 : UInt8)])))
      none)
    (obind (F11 n r_1)
      fun
        (x_6 :
          ((Bool ×
                UInt8 ×
                  UInt64 ×
                    UInt64 ×
                      List UInt8 ×
                        List (List UInt8 × List UInt8) × UInt8 × UInt8 × Int64 × UInt8 × UInt8 × UInt64 × UInt64) ×
              Bool) ×
            Option
              (Int64 ×
                UInt64 ×
                  List
                      (UInt64 ×
                        Bool ×
                          UInt8 ×
                            UInt64 ×
                              UInt64 ×
                                List UInt8 ×
                                  List (List UInt8 × List UInt8) ×
                                    UInt8 × UInt8 × Int64 × UInt8 × UInt8 × UInt64 × UInt64) ×
                    UInt64)) =>
      oite (decide (e_1 = (0 : Int64)))
        (oite (decide (f_1 = (0 : Int64)))
          (oite (Prod.snd (Prod.fst x_6))
            (obind (F9 n (s0_1, s1_1, s2_1, s3_1, s4_1, s5_1, s6_1, s7_1, s8_1, s9_1, s10_1))
              fun
                (x_7 :
                  (Bool ×
                      UInt8 ×
                        UInt64 ×
                          UInt64 ×
                            List UInt8 ×
                              List (List UInt8 × List UInt8) ×
                                UInt8 × UInt8 × Int64 × UInt8 × UInt8 × UInt64 × UInt64) ×
                    Unit) =>
              obind
                (F12 n
                  ((Prod.fst (Prod.fst (Prod.fst x_6)), Prod.fst (Prod.snd (Prod.fst (Prod.fst x_6))),
                      Prod.fst (Prod.snd (Prod.snd (Prod.fst (Prod.fst x_6)))),
                      Prod.fst (Prod.snd (Prod.snd (Prod.snd (Prod.fst (Prod.fst x_6))))),
                      Prod.fst (Prod.snd (Prod.snd (Prod.snd (Prod.snd (Prod.fst (Prod.fst x_6)))))),
                      Prod.fst (Prod.snd (Prod.snd (Prod.snd (Prod.snd (Prod.snd (Prod.fst (Prod.fst x_6))))))),
                      Prod.fst
                        (Prod.snd (Prod.snd (Prod.snd (Prod.snd (Prod.snd (Prod.snd (Prod.fst (Prod.fst x_6)))))))),
                      Prod.fst
                        (Prod.snd
                          (Prod.snd (Prod.snd (Prod.snd (Prod.snd (Prod.snd (Prod.snd (Prod.fst (Prod.fst x_6))))))))),
                      Prod.fst
                        (Prod.snd
                          (Prod.snd
                            (Prod.snd
                              (Prod.snd (Prod.snd (Prod.snd (Prod.snd (Prod.snd (Prod.fst (Prod.fst x_6)))))))))),
                      Prod.fst
                        (Prod.snd
                          (Prod.snd
                            (Prod.snd
                              (Prod.snd
                                (Prod.snd (Prod.snd (Prod.snd (Prod.snd (Prod.snd (Prod.fst (Prod.fst x_6))))))))))),
                      Prod.fst
                        (Prod.snd
                          (Prod.snd
                            (Prod.snd
                              (Prod.snd
                                (Prod.snd
                                  (Prod.snd (Prod.snd (Prod.snd (Prod.snd (Prod.snd (Prod.fst (Prod.fst x_6)))))))))))),
                      Prod.fst
                        (Prod.snd
                          (Prod.snd
                            (Prod.snd
                              (Prod.snd
                                (Prod.snd
                                  (Prod.snd
                                    (Prod.snd
                                      (Prod.snd (Prod.snd (Prod.snd (Prod.snd (Prod.fst (Prod.fst x_6))))))))))))),
                      Prod.snd
                        (Prod.snd
                          (Prod.snd
                            (Prod.snd
                              (Prod.snd
                                (Prod.snd
                                  (Prod.snd
                                    (Prod.snd
                                      (Prod.snd (Prod.snd (Prod.snd (Prod.snd (Prod.fst (Prod.fst x_6)))))))))))))),
                    Prod.fst (Prod.fst x_7), Prod.fst (Prod.snd (Prod.fst x_7)),
                    Prod.fst (Prod.snd (Prod.snd (Prod.fst x_7))),
                    Prod.fst (Prod.snd (Prod.snd (Prod.snd (Prod.fst x_7)))),
                    Prod.fst (Prod.snd (Prod.snd (Prod.snd (Prod.snd (Prod.fst x_7))))),
                    Prod.fst (Prod.snd (Prod.snd (Prod.snd (Prod.snd (Prod.snd (Prod.fst x_7)))))),
                    Prod.fst (Prod.snd (Prod.snd (Prod.snd (Prod.snd (Prod.snd (Prod.snd (Prod.fst x_7))))))),
                    Prod.fst
                      (Prod.snd (Prod.snd (Prod.snd (Prod.snd (Prod.snd (Prod.snd (Prod.snd (Prod.fst x_7)))))))),
                    Prod.fst
                      (Prod.snd
                        (Prod.snd (Prod.snd (Prod.snd (Prod.snd (Prod.snd (Prod.snd (Prod.snd (Prod.fst x_7))))))))),
                    Prod.fst
                      (Prod.snd
                        (Prod.snd
                          (Prod.snd (Prod.snd (Prod.snd (Prod.snd (Prod.snd (Prod.snd (Prod.snd (Prod.fst x_7)))))))))),
                    Prod.fst
                      (Prod.snd
                        (Prod.snd
                          (Prod.snd
                            (Prod.snd
                              (Prod.snd (Prod.snd (Prod.snd (Prod.snd (Prod.snd (Prod.snd (Prod.fst x_7))))))))))),
                    Prod.fst
                      (Prod.snd
                        (Prod.snd
                          (Prod.snd
                            (Prod.snd
                              (Prod.snd
                                (Prod.snd (Prod.snd (Prod.snd (Prod.snd (Prod.snd (Prod.snd (Prod.fst x_7)))))))))))),
                    Prod.snd
                      (Prod.snd
                        (Prod.snd
                          (Prod.snd
                            (Prod.snd
                              (Prod.snd
                                (Prod.snd (Prod.snd (Prod.snd (Prod.snd (Prod.snd (Prod.snd (Prod.fst x_7))))))))))))))
                fun (x_8 : Bool × Unit) => some (Prod.fst x_8, ()))
            (some (false, ())))
          (some (false, ())))
        (some (false, ())))
def F3_R4093 : Nat →
  Nat →
    PT.T (PT.int IntKind.i64) →
      Int64 →
        Int64 →
          Int64 →
            Bool →
              UInt8 →
                UInt8 →
                  UInt8 →
                    UInt16 →
                      UInt16 →
                        UInt16 →
                          UInt8 →
                            UInt8 →
                              UInt8 →
                                Bool →
                                  Option
                                      (Int64 ×
                                        UInt64 ×
                                          List
                                              (UInt64 ×
                                                Bool ×
                                                  UInt8 ×
                                                    UInt64 ×
                                                      UInt64 ×
                                                        List UInt8 ×
                                                          List (List UInt8 × List UInt8) ×
                                                            UInt8 × UInt8 × Int64 × UInt8 × UInt8 × UInt64 × UInt64) ×
                                            UInt64) →
                                    Bool →
                                      UInt8 →
                                        UInt64 →
                                          UInt64 →
                                            List UInt8 →
                                              UInt8 →
                                                UInt8 →
                                                  Int64 →
                                                    UInt8 →
                                                      UInt8 →
                                                        UInt64 →
                                                          UInt64 →
                                                            List (List UInt8 × List UInt8) → Option (Bool × Unit) := fun (n : Nat) =>
  ofixA (4093 : Nat)
    [PT.int IntKind.i64, PT.int IntKind.i64, PT.int IntKind.i64, PT.int IntKind.i64, PT.bool, PT.int IntKind.u8,
      PT.int IntKind.u8, PT.int IntKind.u8, PT.int IntKind.u16, PT.int IntKind.u16, PT.int IntKind.u16,
      PT.int IntKind.u8, PT.int IntKind.u8, PT.int IntKind.u8, PT.bool,
      PT.opt
        (OTs.cons (OT.c (CT.int IntKind.i64))
          (OTs.cons (OT.c (CT.int IntKind.u64))
            (OTs.cons
              (OT.map (VT.one (CT.int IntKind.u64))
                (VT.agg
                  (CTs.cons CT.bool
                    (CTs.cons (CT.int IntKind.u8)
                      (CTs.cons (CT.int IntKind.u64)
                        (CTs.cons (CT.int IntKind.u64)
                          (CTs.cons CT.str
                            (CTs.cons (CT.ro (CTs.cons CT.str (CTs.cons CT.str CTs.nil)))
                              (CTs.cons (CT.int IntKind.u8)
                                (CTs.cons (CT.int IntKind.u8)
                                  (CTs.cons (CT.int IntKind.i64)
                                    (CTs.cons (CT.int IntKind.u8)
                                      (CTs.cons (CT.int IntKind.u8)
                                        (CTs.cons (CT.int IntKind.u64)
                                          (CTs.cons (CT.int IntKind.u64) CTs.nil)))))))))))))))
              (OTs.cons (OT.c (CT.int IntKind.u64)) OTs.nil)))),
      PT.bool, PT.int IntKind.u8, PT.int IntKind.u64, PT.int IntKind.u64, PT.bytes, PT.int IntKind.u8,
      PT.int IntKind.u8, PT.int IntKind.i64, PT.int IntKind.u8, PT.int IntKind.u8, PT.int IntKind.u64,
      PT.int IntKind.u64, PT.list (CTs.cons CT.str (CTs.cons CT.str CTs.nil))]
    (F3_L4093 n)
def F3_L1021 : Nat →
  Arr
      [PT.int IntKind.i64, PT.int IntKind.i64, PT.int IntKind.i64, PT.int IntKind.i64, PT.bool, PT.int IntKind.u8,
        PT.int IntKind.u8, PT.int IntKind.u8, PT.int IntKind.u16, PT.int IntKind.u16, PT.int IntKind.u16,
        PT.int IntKind.u8, PT.int IntKind.u8, PT.int IntKind.u8, PT.bool,
        PT.opt
          (OTs.cons (OT.c (CT.int IntKind.i64))
            (OTs.cons (OT.c (CT.int IntKind.u64))
              (OTs.cons
                (OT.map (VT.one (CT.int IntKind.u64))
                  (VT.agg
                    (CTs.cons CT.bool
                      (CTs.cons (CT.int IntKind.u8)
                        (CTs.cons (CT.int IntKind.u64)
                          (CTs.cons (CT.int IntKind.u64)
                            (CTs.cons CT.str
                              (CTs.cons (CT.ro (CTs.cons CT.str (CTs.cons CT.str CTs.nil)))
                                (CTs.cons (CT.int IntKind.u8)
                                  (CTs.cons (CT.int IntKind.u8)
                                    (CTs.cons (CT.int IntKind.i64)
                                      (CTs.cons (CT.int IntKind.u8)
                                        (CTs.cons (CT.int IntKind.u8)
                                          (CTs.cons (CT.int IntKind.u64)
                                            (CTs.cons (CT.int IntKind.u64) CTs.nil)))))))))))))))
                (OTs.cons (OT.c (CT.int IntKind.u64)) OTs.nil)))),
        PT.bool, PT.int IntKind.u8, PT.int IntKind.u64, PT.int IntKind.u64, PT.bytes, PT.int IntKind.u8,
        PT.int IntKind.u8, PT.int IntKind.i64, PT.int IntKind.u8, PT.int IntKind.u8, PT.int IntKind.u64,
        PT.int IntKind.u64, PT.list (CTs.cons CT.str (CTs.cons CT.str CTs.nil))]
      (Option (Bool × Unit)) →
    Int64 →
      Int64 →
        Int64 →
          Int64 →
            Bool →
              UInt8 →
                UInt8 →
                  UInt8 →
                    UInt16 →
                      UInt16 →
                        UInt16 →
                          UInt8 →
                            UInt8 →
                              UInt8 →
                                Bool →
                                  Option
                                      (Int64 ×
                                        UInt64 ×
                                          List
                                              (UInt64 ×
                                                Bool ×
                                                  UInt8 ×
                                                    UInt64 ×
                                                      UInt64 ×
                                                        List UInt8 ×
                                                          List (List UInt8 × List UInt8) ×
                                                            UInt8 × UInt8 × Int64 × UInt8 × UInt8 × UInt64 × UInt64) ×
                                            UInt64) →
                                    Bool →
                                      UInt8 →
                                        UInt64 →
                                          UInt64 →
                                            List UInt8 →
                                              UInt8 →
                                                UInt8 →
                                                  Int64 →
                                                    UInt8 →
                                                      UInt8 →
                                                        UInt64 →
                                                          UInt64 →
                                                            List (List UInt8 × List UInt8) → Option (Bool × Unit) := fun (n : Nat)
    (rec :
      Arr
        [PT.int IntKind.i64, PT.int IntKind.i64, PT.int IntKind.i64, PT.int IntKind.i64, PT.bool, PT.int IntKind.u8,
          PT.int IntKind.u8, PT.int IntKind.u8, PT.int IntKind.u16, PT.int IntKind.u16, PT.int IntKind.u16,
          PT.int IntKind.u8, PT.int IntKind.u8, PT.int IntKind.u8, PT.bool,
          PT.opt
            (OTs.cons (OT.c (CT.int IntKind.i64))
              (OTs.cons (OT.c (CT.int IntKind.u64))
                (OTs.cons
                  (OT.map (VT.one (CT.int IntKind.u64))
                    (VT.agg
                      (CTs.cons CT.bool
                        (CTs.cons (CT.int IntKind.u8)
                          (CTs.cons (CT.int IntKind.u64)
                            (CTs.cons (CT.int IntKind.u64)
                              (CTs.cons CT.str
                                (CTs.cons (CT.ro (CTs.cons CT.str (CTs.cons CT.str CTs.nil)))
                                  (CTs.cons (CT.int IntKind.u8)
                                    (CTs.cons (CT.int IntKind.u8)
                                      (CTs.cons (CT.int IntKind.i64)
                                        (CTs.cons (CT.int IntKind.u8)
                                          (CTs.cons (CT.int IntKind.u8)
                                            (CTs.cons (CT.int IntKind.u64)
                                              (CTs.cons (CT.int IntKind.u64) CTs.nil)))))))))))))))
                  (OTs.cons (OT.c (CT.int IntKind.u64)) OTs.nil)))),
          PT.bool, PT.int IntKind.u8, PT.int IntKind.u64, PT.int IntKind.u64, PT.bytes, PT.int IntKind.u8,
          PT.int IntKind.u8, PT.int IntKind.i64, PT.int IntKind.u8, PT.int IntKind.u8, PT.int IntKind.u64,
          PT.int IntKind.u64, PT.list (CTs.cons CT.str (CTs.cons CT.str CTs.nil))]
        (Option (Bool × Unit)))
    (e f t t_1 : Int64) (s0 : Bool) (s1 s2 s3 : UInt8) (s4 s5 s6 : UInt16) (s7 s8 s9 : UInt8) (s10 : Bool)
    (r :
      Option
        (Int64 ×
          UInt64 ×
            List
                (UInt64 ×
                  Bool ×
                    UInt8 ×
                      UInt64 ×
                        UInt64 ×
                          List UInt8 ×
                            List (List UInt8 × List UInt8) × UInt8 × UInt8 × Int64 × UInt8 × UInt8 × UInt64 × UInt64) ×
              UInt64))
    (x0 : Bool) (x1 : UInt8) (x2 x3 : UInt64) (x4 : List UInt8) (x6 x7 : UInt8) (x8 : Int64) (x9 x10 : UInt8)
    (x11 x12 : UInt64) (xl : List (List UInt8 × List UInt8)) =>
  oite (decide (t_1 < t))
    (oite (decide ((0 : Int) ≤ Int64.toInt t_1) && Nat.blt (Int.toNat (Int64.toInt t_1)) (List.length xl))
      (obind xl[Int.toNat (Int64.toInt t_1)]? fun (x_5 : List UInt8 × List UInt8) =>
        rec e f t (t_1 + (1 : Int64)) s0 s1 s2 s3 s4 s5 s6 s7 s8 s9 s10 r x0 x1 x2 x3 x4 x6 x7 x8 x9 x10 x11 x12
          (List.set xl (Int.toNat (Int64.toInt t_1)) ([(122 : UInt8), (122 : UInt8)], Prod.snd x_5)))
      none)
    (obind (F11 n r)
      fun
        (x_5 :
          ((Bool ×
                UInt8 ×
                  UInt64 ×
                    UInt64 ×
                      List UInt8 ×
                        List (List UInt8 × List UInt8) × UInt8 × UInt8 × Int64 × UInt8 × UInt8 × UInt64 × UInt64) ×
              Bool) ×
            Option
              (Int64 ×
                UInt64 ×
                  List
                      (UInt64 ×
                        Bool ×
                          UInt8 ×
                            UInt64 ×
                              UInt64 ×
                                List UInt8 ×
                                  List (List UInt8 × List UInt8) ×
                                    UInt8 × UInt8 × Int64 × UInt8 × UInt8 × UInt64 × UInt64) ×
                    UInt64)) =>
      F3_R4093 n n e f
        (Int64.ofInt
          ↑(List.length (Prod.fst (Prod.snd (Prod.snd (Prod.snd (Prod.snd (Prod.snd (Prod.fst (Prod.fst x_5))))))))))
        (0 : Int64) s0 s1 s2 s3 s4 s5 s6 s7 s8 s9 s10 (Prod.snd x_5) (Prod.fst (Prod.fst (Prod.fst x_5)))
        (Prod.fst (Prod.snd (Prod.fst (Prod.fst x_5)))) (Prod.fst (Prod.snd (Prod.snd (Prod.fst (Prod.fst x_5)))))
        (Prod.fst (Prod.snd (Prod.snd (Prod.snd (Prod.fst (Prod.fst x_5))))))
        (Prod.fst (Prod.snd (Prod.snd (Prod.snd (Prod.snd (Prod.fst (Prod.fst x_5)))))))
        (Prod.fst (Prod.snd (Prod.snd (Prod.snd (Prod.snd (Prod.snd (Prod.snd (Prod.fst (Prod.fst x_5)))))))))
        (Prod.fst
          (Prod.snd (Prod.snd (Prod.snd (Prod.snd (Prod.snd (Prod.snd (Prod.snd (Prod.fst (Prod.fst x_5))))))))))
        (Prod.fst
          (Prod.snd
            (Prod.snd (Prod.snd (Prod.snd (Prod.snd (Prod.snd (Prod.snd (Prod.snd (Prod.fst (Prod.fst x_5)))))))))))
        (Prod.fst
          (Prod.snd
            (Prod.snd
              (Prod.snd (Prod.snd (Prod.snd (Prod.snd (Prod.snd (Prod.snd (Prod.snd (Prod.fst (Prod.fst x_5))))))))))))
        (Prod.fst
          (Prod.snd
            (Prod.snd
              (Prod.snd
                (Prod.snd
                  (Prod.snd (Prod.snd (Prod.snd (Prod.snd (Prod.snd (Prod.snd (Prod.fst (Prod.fst x_5)))))))))))))
        (Prod.fst
          (Prod.snd
            (Prod.snd
              (Prod.snd
                (Prod.snd
                  (Prod.snd
                    (Prod.snd (Prod.snd (Prod.snd (Prod.snd (Prod.snd (Prod.snd (Prod.fst (Prod.fst x_5))))))))))))))
        (Prod.snd
          (Prod.snd
            (Prod.snd
              (Prod.snd
                (Prod.snd
                  (Prod.snd
                    (Prod.snd (Prod.snd (Prod.snd (Prod.snd (Prod.snd (Prod.snd (Prod.fst (Prod.fst x_5))))))))))))))
        (Prod.fst (Prod.snd (Prod.snd (Prod.snd (Prod.snd (Prod.snd (Prod.fst (Prod.fst x_5)))))))))
def F3_R1021 : Nat →
  Nat →
    PT.T (PT.int IntKind.i64) →
      Int64 →
        Int64 →
          Int64 →
            Bool →
              UInt8 →
                UInt8 →
                  UInt8 →
                    UInt16 →
                      UInt16 →
                        UInt16 →
                          UInt8 →
                            UInt8 →
                              UInt8 →
                                Bool →
                                  Option
                                      (Int64 ×
                                        UInt64 ×
                                          List
                                              (UInt64 ×
                                                Bool ×
                                                  UInt8 ×
                                                    UInt64 ×
                                                      UInt64 ×
                                                        List UInt8 ×
                                                          List (List UInt8 × List UInt8) ×
                                                            UInt8 × UInt8 × Int64 × UInt8 × UInt8 × UInt64 × UInt64) ×
                                            UInt64) →
                                    Bool →
                                      UInt8 →
                                        UInt64 →
                                          UInt64 →
                                            List UInt8 →
                                              UInt8 →
                                                UInt8 →
                                                  Int64 →
                                                    UInt8 →
                                                      UInt8 →
                                                        UInt64 →
                                                          UInt64 →
                                                            List (List UInt8 × List UInt8) → Option (Bool × Unit) := fun (n : Nat) =>
  ofixA (1021 : Nat)
    [PT.int IntKind.i64, PT.int IntKind.i64, PT.int IntKind.i64, PT.int IntKind.i64, PT.bool, PT.int IntKind.u8,
      PT.int IntKind.u8, PT.int IntKind.u8, PT.int IntKind.u16, PT.int IntKind.u16, PT.int IntKind.u16,
      PT.int IntKind.u8, PT.int IntKind.u8, PT.int IntKind.u8, PT.bool,
      PT.opt
        (OTs.cons (OT.c (CT.int IntKind.i64))
          (OTs.cons (OT.c (CT.int IntKind.u64))
            (OTs.cons
              (OT.map (VT.one (CT.int IntKind.u64))
                (VT.agg
                  (CTs.cons CT.bool
                    (CTs.cons (CT.int IntKind.u8)
                      (CTs.cons (CT.int IntKind.u64)
                        (CTs.cons (CT.int IntKind.u64)
                          (CTs.cons CT.str
                            (CTs.cons (CT.ro (CTs.cons CT.str (CTs.cons CT.str CTs.nil)))
                              (CTs.cons (CT.int IntKind.u8)
                                (CTs.cons (CT.int IntKind.u8)
                                  (CTs.cons (CT.int IntKind.i64)
                                    (CTs.cons (CT.int IntKind.u8)
                                      (CTs.cons (CT.int IntKind.u8)
                                        (CTs.cons (CT.int IntKind.u64)
                                          (CTs.cons (CT.int IntKind.u64) CTs.nil)))))))))))))))
              (OTs.cons (OT.c (CT.int IntKind.u64)) OTs.nil)))),
      PT.bool, PT.int IntKind.u8, PT.int IntKind.u64, PT.int IntKind.u64, PT.bytes, PT.int IntKind.u8,
      PT.int IntKind.u8, PT.int IntKind.i64, PT.int IntKind.u8, PT.int IntKind.u8, PT.int IntKind.u64,
      PT.int IntKind.u64, PT.list (CTs.cons CT.str (CTs.cons CT.str CTs.nil))]
    (F3_L1021 n)
def F3 : Nat → Bool × UInt8 × UInt8 × UInt8 × UInt16 × UInt16 × UInt16 × UInt8 × UInt8 × UInt8 × Bool → Option (Bool × Unit) := fun (n : Nat) (x : Bool × UInt8 × UInt8 × UInt8 × UInt16 × UInt16 × UInt16 × UInt8 × UInt8 × UInt8 × Bool) =>
  obind (F7 n ()) fun (x_1 : Bool × Unit) =>
    oite (!Prod.fst x_1) (some (false, ()))
      (obind (F8 n (3 : Int64))
        fun
          (x_2 :
            (Option
                  (Int64 ×
                    UInt64 ×
                      List
                          (UInt64 ×
                            Bool ×
                              UInt8 ×
                                UInt64 ×
                                  UInt64 ×
                                    List UInt8 ×
                                      List (List UInt8 × List UInt8) ×
                                        UInt8 × UInt8 × Int64 × UInt8 × UInt8 × UInt64 × UInt64) ×
                        UInt64) ×
                Int64) ×
              Unit) =>
        obind
          (F9 n
            (false, Prod.fst (Prod.snd x), Prod.fst (Prod.snd (Prod.snd x)),
              Prod.fst (Prod.snd (Prod.snd (Prod.snd x))), Prod.fst (Prod.snd (Prod.snd (Prod.snd (Prod.snd x)))),
              Prod.fst (Prod.snd (Prod.snd (Prod.snd (Prod.snd (Prod.snd x))))),
              Prod.fst (Prod.snd (Prod.snd (Prod.snd (Prod.snd (Prod.snd (Prod.snd x)))))),
              Prod.fst (Prod.snd (Prod.snd (Prod.snd (Prod.snd (Prod.snd (Prod.snd (Prod.snd x))))))),
              Prod.fst (Prod.snd (Prod.snd (Prod.snd (Prod.snd (Prod.snd (Prod.snd (Prod.snd (Prod.snd x)))))))) |||
                (3 : UInt8),
              Prod.fst
                (Prod.snd (Prod.snd (Prod.snd (Prod.snd (Prod.snd (Prod.snd (Prod.snd (Prod.snd (Prod.snd x))))))))),
              Prod.snd
                (Prod.snd (Prod.snd (Prod.snd (Prod.snd (Prod.snd (Prod.snd (Prod.snd (Prod.snd (Prod.snd x)))))))))))
          fun
            (x_3 :
              (Bool ×
                  UInt8 ×
                    UInt64 ×
                      UInt64 ×
                        List UInt8 ×
                          List (List UInt8 × List UInt8) × UInt8 × UInt8 × Int64 × UInt8 × UInt8 × UInt64 × UInt64) ×
                Unit) =>
          obind
            (F1010 n
              (Prod.fst (Prod.fst x_2), (1 : UInt64), Prod.fst (Prod.fst x_3), Prod.fst (Prod.snd (Prod.fst x_3)),
                Prod.fst (Prod.snd (Prod.snd (Prod.fst x_3))), Prod.fst (Prod.snd (Prod.snd (Prod.snd (Prod.fst x_3)))),
                Prod.fst (Prod.snd (Prod.snd (Prod.snd (Prod.snd (Prod.fst x_3))))),
                Prod.fst (Prod.snd (Prod.snd (Prod.snd (Prod.snd (Prod.snd (Prod.fst x_3)))))),
                Prod.fst (Prod.snd (Prod.snd (Prod.snd (Prod.snd (Prod.snd (Prod.snd (Prod.fst x_3))))))),
                Prod.fst (Prod.snd (Prod.snd (Prod.snd (Prod.snd (Prod.snd (Prod.snd (Prod.snd (Prod.fst x_3)))))))),
                Prod.fst
                  (Prod.snd
                    (Prod.snd (Prod.snd (Prod.snd (Prod.snd (Prod.snd (Prod.snd (Prod.snd (Prod.fst x_3))))))))),
                Prod.fst
                  (Prod.snd
                    (Prod.snd
                      (Prod.snd (Prod.snd (Prod.snd (Prod.snd (Prod.snd (Prod.snd (Prod.snd (Prod.fst x_3)))))))))),
                Prod.fst
                  (Prod.snd
                    (Prod.snd
                      (Prod.snd
                        (Prod.snd (Prod.snd (Prod.snd (Prod.snd (Prod.snd (Prod.snd (Prod.snd (Prod.fst x_3))))))))))),
                Prod.fst
                  (Prod.snd
                    (Prod.snd
                      (Prod.snd
                        (Prod.snd
                          (Prod.snd
                            (Prod.snd (Prod.snd (Prod.snd (Prod.snd (Prod.snd (Prod.snd (Prod.fst x_3)))))))))))),
                Prod.snd
                  (Prod.snd
                    (Prod.snd
                      (Prod.snd
                        (Prod.snd
                          (Prod.snd
                            (Prod.snd (Prod.snd (Prod.snd (Prod.snd (Prod.snd (Prod.snd (Prod.fst x_3))))))))))))))
            fun
              (x_4 :
                Int64 ×
                  Option
                      (Int64 ×
                        UInt64 ×
                          List
                              (UInt64 ×
                                Bool ×
                                  UInt8 ×
                                    UInt64 ×
                                      UInt64 ×
                                        List UInt8 ×
                                          List (List UInt8 × List UInt8) ×
                                            UInt8 × UInt8 × Int64 × UInt8 × UInt8 × UInt64 × UInt64) ×
                            UInt64) ×
                    List (List UInt8 × List UInt8)) =>
            F3_R1021 n n (Prod.snd (Prod.fst x_2)) (Prod.fst x_4) (Int64.ofInt ↑(List.length (Prod.snd (Prod.snd x_4))))
              (0 : Int64) false (Prod.fst (Prod.snd x)) (Prod.fst (Prod.snd (Prod.snd x)))
              (Prod.fst (Prod.snd (Prod.snd (Prod.snd x)))) (Prod.fst (Prod.snd (Prod.snd (Prod.snd (Prod.snd x)))))
              (Prod.fst (Prod.snd (Prod.snd (Prod.snd (Prod.snd (Prod.snd x))))))
              (Prod.fst (Prod.snd (Prod.snd (Prod.snd (Prod.snd (Prod.snd (Prod.snd x)))))))
              (Prod.fst (Prod.snd (Prod.snd (Prod.snd (Prod.snd (Prod.snd (Prod.snd (Prod.snd x))))))))
              (Prod.fst (Prod.snd (Prod.snd (Prod.snd (Prod.snd (Prod.snd (Prod.snd (Prod.snd (Prod.snd x)))))))) |||
                (3 : UInt8))
              (Prod.fst
                (Prod.snd (Prod.snd (Prod.snd (Prod.snd (Prod.snd (Prod.snd (Prod.snd (Prod.snd (Prod.snd x))))))))))
              (Prod.snd
                (Prod.snd (Prod.snd (Prod.snd (Prod.snd (Prod.snd (Prod.snd (Prod.snd (Prod.snd (Prod.snd x))))))))))
              (Prod.fst (Prod.snd x_4)) (Prod.fst (Prod.fst x_3)) (Prod.fst (Prod.snd (Prod.fst x_3)))
              (Prod.fst (Prod.snd (Prod.snd (Prod.fst x_3)))) (Prod.fst (Prod.snd (Prod.snd (Prod.snd (Prod.fst x_3)))))
              (Prod.fst (Prod.snd (Prod.snd (Prod.snd (Prod.snd (Prod.fst x_3))))))
              (Prod.fst (Prod.snd (Prod.snd (Prod.snd (Prod.snd (Prod.snd (Prod.snd (Prod.fst x_3))))))))
              (Prod.fst (Prod.snd (Prod.snd (Prod.snd (Prod.snd (Prod.snd (Prod.snd (Prod.snd (Prod.fst x_3)))))))))
              (Prod.fst
                (Prod.snd (Prod.snd (Prod.snd (Prod.snd (Prod.snd (Prod.snd (Prod.snd (Prod.snd (Prod.fst x_3))))))))))
              (Prod.fst
                (Prod.snd
                  (Prod.snd
                    (Prod.snd (Prod.snd (Prod.snd (Prod.snd (Prod.snd (Prod.snd (Prod.snd (Prod.fst x_3)))))))))))
              (Prod.fst
                (Prod.snd
                  (Prod.snd
                    (Prod.snd
                      (Prod.snd (Prod.snd (Prod.snd (Prod.snd (Prod.snd (Prod.snd (Prod.snd (Prod.fst x_3))))))))))))
              (Prod.fst
                (Prod.snd
                  (Prod.snd
                    (Prod.snd
                      (Prod.snd
                        (Prod.snd (Prod.snd (Prod.snd (Prod.snd (Prod.snd (Prod.snd (Prod.snd (Prod.fst x_3)))))))))))))
              (Prod.snd
                (Prod.snd
                  (Prod.snd
                    (Prod.snd
                      (Prod.snd
                        (Prod.snd (Prod.snd (Prod.snd (Prod.snd (Prod.snd (Prod.snd (Prod.snd (Prod.fst x_3)))))))))))))
              (Prod.snd (Prod.snd x_4)))
theorem F3_R4093_s (n : Nat) (m_ : Nat) : F3_R4093 n (m_ + 1) = F3_L4093 n (F3_R4093 n m_) := rfl
theorem F3_R1021_s (n : Nat) (m_ : Nat) : F3_R1021 n (m_ + 1) = F3_L1021 n (F3_R1021 n m_) := rfl
theorem ok3 (n : Nat) : FunOK Try.prog ⟨3, sig3, F3 n⟩ :=
  fun_ok (hints := ⟨[], [(1021, ⟨[(1, .one (.own 1)), (3, .one (.own 2)), (4, .one (.int .i64)), (5, .one (.own 3)), (6, .one (.int .i64)), (32, .one (.int .i64)), (33, .one (.int .i64))], [(1, .cells [.bool, .int .u8, .int .u8, .int .u8, .int .u16, .int .u16, .int .u16, .int .u8, .int .u8, .int .u8, .bool]), (2, .fold (.cons (.c (.int .i64)) (.cons (.c (.int .u64)) (.cons (.map (.one (.int .u64)) (.agg (.cons .bool (.cons (.int .u8) (.cons (.int .u64) (.cons (.int .u64) (.cons .str (.cons (.ro (.cons .str (.cons .str .nil))) (.cons (.int .u8) (.cons (.int .u8) (.cons (.int .i64) (.cons (.int .u8) (.cons (.int .u8) (.cons (.int .u64) (.cons (.int .u64) .nil))))))))))))))) (.cons (.c (.int .u64)) .nil))))), (3, .cells [.bool, .int .u8, .int .u64, .int .u64, .str, .own 4, .int .u8, .int .u8, .int .i64, .int .u8, .int .u8, .int .u64, .int .u64]), (4, .row (.cons .str (.cons .str .nil)))], 5⟩), (4093, ⟨[(1, .one (.own 1)), (3, .one (.own 2)), (4, .one (.int .i64)), (6, .one (.int .i64)), (8, .one (.own 3)), (51, .one (.int .i64)), (52, .one (.int .i64))], [(1, .cells [.bool, .int .u8, .int .u8, .int .u8, .int .u16, .int .u16, .int .u16, .int .u8, .int .u8, .int .u8, .bool]), (2, .fold (.cons (.c (.int .i64)) (.cons (.c (.int .u64)) (.cons (.map (.one (.int .u64)) (.agg (.cons .bool (.cons (.int .u8) (.cons (.int .u64) (.cons (.int .u64) (.cons .str (.cons (.ro (.cons .str (.cons .str .nil))) (.cons (.int .u8) (.cons (.int .u8) (.cons (.int .i64) (.cons (.int .u8) (.cons (.int .u8) (.cons (.int .u64) (.cons (.int .u64) .nil))))))))))))))) (.cons (.c (.int .u64)) .nil))))), (3, .cells [.bool, .int .u8, .int .u64, .int .u64, .str, .own 4, .int .u8, .int .u8, .int .i64, .int .u8, .int .u8, .int .u64, .int .u64]), (4, .row (.cons .str (.cons .str .nil)))], 5⟩)]⟩) (fuel := n) (c := Try.f3.body.getD .skip) (rs := Try.f3.results.toList) tt_ok mix (FsOK.cons (ok7 n) (FsOK.cons (ok8 n) (FsOK.cons (ok9 n) (FsOK.cons (ok1010 n) (FsOK.cons (ok10 n) (FsOK.cons (ok11 n) (FsOK.cons (ok12 n) (FsOK.nil)))))))) Try.func3 (by kernel_rfl) (by kernel_rfl) rfl (by kernel_rfl) rfl rfl (by kernel_rfl)
end Go.Proofs.Ytllfmmonieelpaa
