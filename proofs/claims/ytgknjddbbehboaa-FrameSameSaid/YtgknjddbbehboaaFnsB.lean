/- What the functions of this seat compute, found by walking their code symbolically: each F is what the walk finds, each ok says that the Go function keeps it as a contract. Printed by a program of this repo's. -/
import Derived.Test.YtgknjddbbehboaaFnsA
open Go Go.Sx
namespace Go.Proofs.Ytgknjddbbehboaa
set_option maxRecDepth 100000
set_option linter.unusedVariables false
-- (watchfire/watchfirelaw05.Small).Frame
def sig7 : Sig := ⟨(.cons (.agg (.cons (.int .u8) (.cons (.int .u8) (.cons (.int .u8) (.cons (.int .u16) (.cons (.int .u16) (.cons (.int .u16) (.cons (.int .u16) (.cons (.int .u64) (.cons .bool (.cons (.int .u8) (.cons (.int .u8) (.cons (.int .u8) (.cons (.int .u16) (.cons (.int .u16) (.cons (.int .u16) (.cons (.int .u8) (.cons (.int .u8) (.cons (.int .u8) (.cons .bool .nil)))))))))))))))))))) .nil), (.cons (.agg (.cons (.int .u8) (.cons (.int .u8) (.cons (.int .u8) (.cons (.int .u64) (.cons (.int .u64) (.cons .bool (.cons (.int .u8) (.cons (.int .u64) (.cons (.int .u64) (.cons .str (.cons (.ro (.cons .str (.cons .str .nil))) (.cons (.int .u8) (.cons (.int .u8) (.cons (.int .i64) (.cons (.int .u8) (.cons (.int .u8) (.cons (.int .u64) (.cons (.int .u64) (.cons (.int .u64) (.cons (.int .u64) (.cons (.int .u64) .nil)))))))))))))))))))))) .nil)⟩
def F7_J7 : Nat →
  UInt8 →
    UInt8 →
      UInt8 →
        UInt16 →
          UInt16 →
            UInt16 →
              UInt16 →
                UInt64 →
                  Bool →
                    UInt8 →
                      UInt8 →
                        UInt8 →
                          UInt16 →
                            UInt16 →
                              UInt16 →
                                UInt8 →
                                  UInt8 →
                                    UInt8 →
                                      Bool →
                                        UInt8 →
                                          UInt8 →
                                            UInt8 →
                                              UInt64 →
                                                UInt64 →
                                                  Bool →
                                                    UInt8 →
                                                      UInt64 →
                                                        UInt64 →
                                                          List UInt8 →
                                                            UInt8 →
                                                              UInt8 →
                                                                Int64 →
                                                                  UInt8 →
                                                                    UInt8 →
                                                                      UInt64 →
                                                                        UInt64 →
                                                                          UInt64 →
                                                                            UInt64 →
                                                                              UInt64 →
                                                                                UInt8 →
                                                                                  UInt8 →
                                                                                    UInt8 →
                                                                                      UInt64 →
                                                                                        UInt64 →
                                                                                          Bool →
                                                                                            UInt8 →
                                                                                              UInt64 →
                                                                                                UInt64 →
                                                                                                  List UInt8 →
                                                                                                    UInt8 →
                                                                                                      UInt8 →
                                                                                                        Int64 →
                                                                                                          UInt8 →
                                                                                                            UInt8 →
                                                                                                              UInt64 →
                                                                                                                UInt64 →
                                                                                                                  UInt64 →
                                                                                                                    UInt64 →
                                                                                                                      UInt64 →
                                                                                                                        Option
                                                                                                                          ((UInt8 ×
                                                                                                                              UInt8 ×
                                                                                                                                UInt8 ×
                                                                                                                                  UInt64 ×
                                                                                                                                    UInt64 ×
                                                                                                                                      Bool ×
                                                                                                                                        UInt8 ×
                                                                                                                                          UInt64 ×
                                                                                                                                            UInt64 ×
                                                                                                                                              List
                                                                                                                                                  UInt8 ×
                                                                                                                                                List
                                                                                                                                                    (List
                                                                                                                                                        UInt8 ×
                                                                                                                                                      List
                                                                                                                                                        UInt8) ×
                                                                                                                                                  UInt8 ×
                                                                                                                                                    UInt8 ×
                                                                                                                                                      Int64 ×
                                                                                                                                                        UInt8 ×
                                                                                                                                                          UInt8 ×
                                                                                                                                                            UInt64 ×
                                                                                                                                                              UInt64 ×
                                                                                                                                                                UInt64 ×
                                                                                                                                                                  UInt64 ×
                                                                                                                                                                    UInt64) ×
                                                                                                                            Unit) := fun (n : Nat) (s0 s1 s2 : UInt8) (s3 s4 s5 s6 : UInt16) (s7 : UInt64) (s8 : Bool) (s9 s10 s11 : UInt8)
    (s12 s13 s14 : UInt16) (s15 s16 s17 : UInt8) (s18 : Bool) (t0 t1 t2 : UInt8) (t3 t4 : UInt64) (t5 : Bool)
    (t6 : UInt8) (t7 t8 : UInt64) (t9 : List UInt8) (t11 t12 : UInt8) (t13 : Int64) (t14 t15 : UInt8)
    (t16 t17 t18 t19 t20 : UInt64) (f0 f1 f2 : UInt8) (f3 f4 : UInt64) (f5 : Bool) (f6 : UInt8) (f7 f8 : UInt64)
    (f9 : List UInt8) (f11 f12 : UInt8) (f13 : Int64) (f14 f15 : UInt8) (f16 f17 f18 f19 f20 : UInt64) =>
  oite (decide (f0 = (1 : UInt8)))
    (obind (F13 n (s8, s9, s10, s11, s12, s13, s14, s15, s16, s17, s18))
      fun
        (x_1 :
          (Bool ×
              UInt8 ×
                UInt64 ×
                  UInt64 ×
                    List UInt8 ×
                      List (List UInt8 × List UInt8) × UInt8 × UInt8 × Int64 × UInt8 × UInt8 × UInt64 × UInt64) ×
            Unit) =>
      some
        ((f0, f1, f2, (1 : UInt64) + UInt64.ofInt ↑(UInt16.toNat s3), (1 : UInt64) + UInt64.ofInt ↑(UInt16.toNat s4),
            Prod.fst (Prod.fst x_1), Prod.fst (Prod.snd (Prod.fst x_1)), Prod.fst (Prod.snd (Prod.snd (Prod.fst x_1))),
            Prod.fst (Prod.snd (Prod.snd (Prod.snd (Prod.fst x_1)))),
            Prod.fst (Prod.snd (Prod.snd (Prod.snd (Prod.snd (Prod.fst x_1))))),
            Prod.fst (Prod.snd (Prod.snd (Prod.snd (Prod.snd (Prod.snd (Prod.fst x_1)))))),
            Prod.fst (Prod.snd (Prod.snd (Prod.snd (Prod.snd (Prod.snd (Prod.snd (Prod.fst x_1))))))),
            Prod.fst (Prod.snd (Prod.snd (Prod.snd (Prod.snd (Prod.snd (Prod.snd (Prod.snd (Prod.fst x_1)))))))),
            Prod.fst
              (Prod.snd (Prod.snd (Prod.snd (Prod.snd (Prod.snd (Prod.snd (Prod.snd (Prod.snd (Prod.fst x_1))))))))),
            Prod.fst
              (Prod.snd
                (Prod.snd (Prod.snd (Prod.snd (Prod.snd (Prod.snd (Prod.snd (Prod.snd (Prod.snd (Prod.fst x_1)))))))))),
            Prod.fst
              (Prod.snd
                (Prod.snd
                  (Prod.snd
                    (Prod.snd (Prod.snd (Prod.snd (Prod.snd (Prod.snd (Prod.snd (Prod.snd (Prod.fst x_1))))))))))),
            Prod.fst
              (Prod.snd
                (Prod.snd
                  (Prod.snd
                    (Prod.snd
                      (Prod.snd (Prod.snd (Prod.snd (Prod.snd (Prod.snd (Prod.snd (Prod.snd (Prod.fst x_1)))))))))))),
            Prod.snd
              (Prod.snd
                (Prod.snd
                  (Prod.snd
                    (Prod.snd
                      (Prod.snd (Prod.snd (Prod.snd (Prod.snd (Prod.snd (Prod.snd (Prod.snd (Prod.fst x_1)))))))))))),
            f18, f19, f20),
          ()))
    (oite (decide (f0 = (2 : UInt8)))
      (some
        ((f0, f1, f2, (1 : UInt64) + UInt64.ofInt ↑(UInt16.toNat s3), f4, f5, f6, f7, f8, f9, [], f11, f12, f13, f14,
            f15, f16, f17, UInt64.ofInt ↑(UInt16.toNat s5), s7, (1 : UInt64) + UInt64.ofInt ↑(UInt16.toNat s6)),
          ()))
      (some
        ((f0, f1, f2, f3, f4, f5, f6, f7, f8, f9, [], f11, f12, f13, f14, f15, f16, f17, f18, f19, f20), ())))
def F7 : Nat →
  UInt8 ×
      UInt8 ×
        UInt8 ×
          UInt16 ×
            UInt16 ×
              UInt16 ×
                UInt16 ×
                  UInt64 × Bool × UInt8 × UInt8 × UInt8 × UInt16 × UInt16 × UInt16 × UInt8 × UInt8 × UInt8 × Bool →
    Option
      ((UInt8 ×
          UInt8 ×
            UInt8 ×
              UInt64 ×
                UInt64 ×
                  Bool ×
                    UInt8 ×
                      UInt64 ×
                        UInt64 ×
                          List UInt8 ×
                            List (List UInt8 × List UInt8) ×
                              UInt8 × UInt8 × Int64 × UInt8 × UInt8 × UInt64 × UInt64 × UInt64 × UInt64 × UInt64) ×
        Unit) := fun (n : Nat)
    (x :
      UInt8 ×
        UInt8 ×
          UInt8 ×
            UInt16 ×
              UInt16 ×
                UInt16 ×
                  UInt16 ×
                    UInt64 × Bool × UInt8 × UInt8 × UInt8 × UInt16 × UInt16 × UInt16 × UInt8 × UInt8 × UInt8 × Bool) =>
  ojoinA (7 : Nat)
    [PT.int IntKind.u8, PT.int IntKind.u8, PT.int IntKind.u8, PT.int IntKind.u16, PT.int IntKind.u16,
      PT.int IntKind.u16, PT.int IntKind.u16, PT.int IntKind.u64, PT.bool, PT.int IntKind.u8, PT.int IntKind.u8,
      PT.int IntKind.u8, PT.int IntKind.u16, PT.int IntKind.u16, PT.int IntKind.u16, PT.int IntKind.u8,
      PT.int IntKind.u8, PT.int IntKind.u8, PT.bool, PT.int IntKind.u8, PT.int IntKind.u8, PT.int IntKind.u8,
      PT.int IntKind.u64, PT.int IntKind.u64, PT.bool, PT.int IntKind.u8, PT.int IntKind.u64, PT.int IntKind.u64,
      PT.bytes, PT.int IntKind.u8, PT.int IntKind.u8, PT.int IntKind.i64, PT.int IntKind.u8, PT.int IntKind.u8,
      PT.int IntKind.u64, PT.int IntKind.u64, PT.int IntKind.u64, PT.int IntKind.u64, PT.int IntKind.u64,
      PT.int IntKind.u8, PT.int IntKind.u8, PT.int IntKind.u8, PT.int IntKind.u64, PT.int IntKind.u64, PT.bool,
      PT.int IntKind.u8, PT.int IntKind.u64, PT.int IntKind.u64, PT.bytes, PT.int IntKind.u8, PT.int IntKind.u8,
      PT.int IntKind.i64, PT.int IntKind.u8, PT.int IntKind.u8, PT.int IntKind.u64, PT.int IntKind.u64,
      PT.int IntKind.u64, PT.int IntKind.u64, PT.int IntKind.u64]
    (fun
        (J :
          Arr
            [PT.int IntKind.u8, PT.int IntKind.u8, PT.int IntKind.u8, PT.int IntKind.u16, PT.int IntKind.u16,
              PT.int IntKind.u16, PT.int IntKind.u16, PT.int IntKind.u64, PT.bool, PT.int IntKind.u8, PT.int IntKind.u8,
              PT.int IntKind.u8, PT.int IntKind.u16, PT.int IntKind.u16, PT.int IntKind.u16, PT.int IntKind.u8,
              PT.int IntKind.u8, PT.int IntKind.u8, PT.bool, PT.int IntKind.u8, PT.int IntKind.u8, PT.int IntKind.u8,
              PT.int IntKind.u64, PT.int IntKind.u64, PT.bool, PT.int IntKind.u8, PT.int IntKind.u64,
              PT.int IntKind.u64, PT.bytes, PT.int IntKind.u8, PT.int IntKind.u8, PT.int IntKind.i64, PT.int IntKind.u8,
              PT.int IntKind.u8, PT.int IntKind.u64, PT.int IntKind.u64, PT.int IntKind.u64, PT.int IntKind.u64,
              PT.int IntKind.u64, PT.int IntKind.u8, PT.int IntKind.u8, PT.int IntKind.u8, PT.int IntKind.u64,
              PT.int IntKind.u64, PT.bool, PT.int IntKind.u8, PT.int IntKind.u64, PT.int IntKind.u64, PT.bytes,
              PT.int IntKind.u8, PT.int IntKind.u8, PT.int IntKind.i64, PT.int IntKind.u8, PT.int IntKind.u8,
              PT.int IntKind.u64, PT.int IntKind.u64, PT.int IntKind.u64, PT.int IntKind.u64, PT.int IntKind.u64]
            (Option
              ((UInt8 ×
                  UInt8 ×
                    UInt8 ×
                      UInt64 ×
                        UInt64 ×
                          Bool ×
                            UInt8 ×
                              UInt64 ×
                                UInt64 ×
                                  List UInt8 ×
                                    List (List UInt8 × List UInt8) ×
                                      UInt8 ×
                                        UInt8 × Int64 × UInt8 × UInt8 × UInt64 × UInt64 × UInt64 × UInt64 × UInt64) ×
                Unit))) =>
      oite (decide (Prod.fst (Prod.snd x) % (32 : UInt8) = Prod.fst (Prod.snd (Prod.snd x)) % (32 : UInt8)))
        (J (Prod.fst x) (Prod.fst (Prod.snd x)) (Prod.fst (Prod.snd (Prod.snd x)))
          (Prod.fst (Prod.snd (Prod.snd (Prod.snd x)))) (Prod.fst (Prod.snd (Prod.snd (Prod.snd (Prod.snd x)))))
          (Prod.fst (Prod.snd (Prod.snd (Prod.snd (Prod.snd (Prod.snd x))))))
          (Prod.fst (Prod.snd (Prod.snd (Prod.snd (Prod.snd (Prod.snd (Prod.snd x)))))))
          (Prod.fst (Prod.snd (Prod.snd (Prod.snd (Prod.snd (Prod.snd (Prod.snd (Prod.snd x))))))))
          (Prod.fst (Prod.snd (Prod.snd (Prod.snd (Prod.snd (Prod.snd (Prod.snd (Prod.snd (Prod.snd x)))))))))
          (Prod.fst
            (Prod.snd (Prod.snd (Prod.snd (Prod.snd (Prod.snd (Prod.snd (Prod.snd (Prod.snd (Prod.snd x))))))))))
          (Prod.fst
            (Prod.snd
              (Prod.snd (Prod.snd (Prod.snd (Prod.snd (Prod.snd (Prod.snd (Prod.snd (Prod.snd (Prod.snd x)))))))))))
          (Prod.fst
            (Prod.snd
              (Prod.snd
                (Prod.snd (Prod.snd (Prod.snd (Prod.snd (Prod.snd (Prod.snd (Prod.snd (Prod.snd (Prod.snd x))))))))))))
          (Prod.fst
            (Prod.snd
              (Prod.snd
                (Prod.snd
                  (Prod.snd
                    (Prod.snd (Prod.snd (Prod.snd (Prod.snd (Prod.snd (Prod.snd (Prod.snd (Prod.snd x)))))))))))))
          (Prod.fst
            (Prod.snd
              (Prod.snd
                (Prod.snd
                  (Prod.snd
                    (Prod.snd
                      (Prod.snd (Prod.snd (Prod.snd (Prod.snd (Prod.snd (Prod.snd (Prod.snd (Prod.snd x))))))))))))))
          (Prod.fst
            (Prod.snd
              (Prod.snd
                (Prod.snd
                  (Prod.snd
                    (Prod.snd
                      (Prod.snd
                        (Prod.snd (Prod.snd (Prod.snd (Prod.snd (Prod.snd (Prod.snd (Prod.snd (Prod.snd x)))))))))))))))
          (Prod.fst
            (Prod.snd
              (Prod.snd
                (Prod.snd
                  (Prod.snd
                    (Prod.snd
                      (Prod.snd
                        (Prod.snd
                          (Prod.snd
                            (Prod.snd (Prod.snd (Prod.snd (Prod.snd (Prod.snd (Prod.snd (Prod.snd x))))))))))))))))
          (Prod.fst
            (Prod.snd
              (Prod.snd
                (Prod.snd
                  (Prod.snd
                    (Prod.snd
                      (Prod.snd
                        (Prod.snd
                          (Prod.snd
                            (Prod.snd
                              (Prod.snd (Prod.snd (Prod.snd (Prod.snd (Prod.snd (Prod.snd (Prod.snd x)))))))))))))))))
          (Prod.fst
            (Prod.snd
              (Prod.snd
                (Prod.snd
                  (Prod.snd
                    (Prod.snd
                      (Prod.snd
                        (Prod.snd
                          (Prod.snd
                            (Prod.snd
                              (Prod.snd
                                (Prod.snd
                                  (Prod.snd (Prod.snd (Prod.snd (Prod.snd (Prod.snd (Prod.snd x))))))))))))))))))
          (Prod.snd
            (Prod.snd
              (Prod.snd
                (Prod.snd
                  (Prod.snd
                    (Prod.snd
                      (Prod.snd
                        (Prod.snd
                          (Prod.snd
                            (Prod.snd
                              (Prod.snd
                                (Prod.snd
                                  (Prod.snd (Prod.snd (Prod.snd (Prod.snd (Prod.snd (Prod.snd x))))))))))))))))))
          (0 : UInt8) (0 : UInt8) (0 : UInt8) (0 : UInt64) (0 : UInt64) false (0 : UInt8) (0 : UInt64) (0 : UInt64) []
          (0 : UInt8) (0 : UInt8) (0 : Int64) (0 : UInt8) (0 : UInt8) (0 : UInt64) (0 : UInt64) (0 : UInt64)
          (0 : UInt64) (0 : UInt64) ((1 : UInt8) + Prod.fst x % (3 : UInt8)) (Prod.fst (Prod.snd x) % (32 : UInt8))
          ((Prod.fst (Prod.snd (Prod.snd x)) % (32 : UInt8) + (1 : UInt8)) % (32 : UInt8)) (0 : UInt64) (0 : UInt64)
          false (0 : UInt8) (0 : UInt64) (0 : UInt64) [] (0 : UInt8) (0 : UInt8) (0 : Int64) (0 : UInt8) (0 : UInt8)
          (0 : UInt64) (0 : UInt64) (0 : UInt64) (0 : UInt64) (0 : UInt64))
        (J (Prod.fst x) (Prod.fst (Prod.snd x)) (Prod.fst (Prod.snd (Prod.snd x)))
          (Prod.fst (Prod.snd (Prod.snd (Prod.snd x)))) (Prod.fst (Prod.snd (Prod.snd (Prod.snd (Prod.snd x)))))
          (Prod.fst (Prod.snd (Prod.snd (Prod.snd (Prod.snd (Prod.snd x))))))
          (Prod.fst (Prod.snd (Prod.snd (Prod.snd (Prod.snd (Prod.snd (Prod.snd x)))))))
          (Prod.fst (Prod.snd (Prod.snd (Prod.snd (Prod.snd (Prod.snd (Prod.snd (Prod.snd x))))))))
          (Prod.fst (Prod.snd (Prod.snd (Prod.snd (Prod.snd (Prod.snd (Prod.snd (Prod.snd (Prod.snd x)))))))))
          (Prod.fst
            (Prod.snd (Prod.snd (Prod.snd (Prod.snd (Prod.snd (Prod.snd (Prod.snd (Prod.snd (Prod.snd x))))))))))
          (Prod.fst
            (Prod.snd
              (Prod.snd (Prod.snd (Prod.snd (Prod.snd (Prod.snd (Prod.snd (Prod.snd (Prod.snd (Prod.snd x)))))))))))
          (Prod.fst
            (Prod.snd
              (Prod.snd
                (Prod.snd (Prod.snd (Prod.snd (Prod.snd (Prod.snd (Prod.snd (Prod.snd (Prod.snd (Prod.snd x))))))))))))
          (Prod.fst
            (Prod.snd
              (Prod.snd
                (Prod.snd
                  (Prod.snd
                    (Prod.snd (Prod.snd (Prod.snd (Prod.snd (Prod.snd (Prod.snd (Prod.snd (Prod.snd x)))))))))))))
          (Prod.fst
            (Prod.snd
              (Prod.snd
                (Prod.snd
                  (Prod.snd
                    (Prod.snd
                      (Prod.snd (Prod.snd (Prod.snd (Prod.snd (Prod.snd (Prod.snd (Prod.snd (Prod.snd x))))))))))))))
          (Prod.fst
            (Prod.snd
              (Prod.snd
                (Prod.snd
                  (Prod.snd
                    (Prod.snd
                      (Prod.snd
                        (Prod.snd (Prod.snd (Prod.snd (Prod.snd (Prod.snd (Prod.snd (Prod.snd (Prod.snd x)))))))))))))))
          (Prod.fst
            (Prod.snd
              (Prod.snd
                (Prod.snd
                  (Prod.snd
                    (Prod.snd
                      (Prod.snd
                        (Prod.snd
                          (Prod.snd
                            (Prod.snd (Prod.snd (Prod.snd (Prod.snd (Prod.snd (Prod.snd (Prod.snd x))))))))))))))))
          (Prod.fst
            (Prod.snd
              (Prod.snd
                (Prod.snd
                  (Prod.snd
                    (Prod.snd
                      (Prod.snd
                        (Prod.snd
                          (Prod.snd
                            (Prod.snd
                              (Prod.snd (Prod.snd (Prod.snd (Prod.snd (Prod.snd (Prod.snd (Prod.snd x)))))))))))))))))
          (Prod.fst
            (Prod.snd
              (Prod.snd
                (Prod.snd
                  (Prod.snd
                    (Prod.snd
                      (Prod.snd
                        (Prod.snd
                          (Prod.snd
                            (Prod.snd
                              (Prod.snd
                                (Prod.snd
                                  (Prod.snd (Prod.snd (Prod.snd (Prod.snd (Prod.snd (Prod.snd x))))))))))))))))))
          (Prod.snd
            (Prod.snd
              (Prod.snd
                (Prod.snd
                  (Prod.snd
                    (Prod.snd
                      (Prod.snd
                        (Prod.snd
                          (Prod.snd
                            (Prod.snd
                              (Prod.snd
                                (Prod.snd
                                  (Prod.snd (Prod.snd (Prod.snd (Prod.snd (Prod.snd (Prod.snd x))))))))))))))))))
          (0 : UInt8) (0 : UInt8) (0 : UInt8) (0 : UInt64) (0 : UInt64) false (0 : UInt8) (0 : UInt64) (0 : UInt64) []
          (0 : UInt8) (0 : UInt8) (0 : Int64) (0 : UInt8) (0 : UInt8) (0 : UInt64) (0 : UInt64) (0 : UInt64)
          (0 : UInt64) (0 : UInt64) ((1 : UInt8) + Prod.fst x % (3 : UInt8)) (Prod.fst (Prod.snd x) % (32 : UInt8))
          (Prod.fst (Prod.snd (Prod.snd x)) % (32 : UInt8)) (0 : UInt64) (0 : UInt64) false (0 : UInt8) (0 : UInt64)
          (0 : UInt64) [] (0 : UInt8) (0 : UInt8) (0 : Int64) (0 : UInt8) (0 : UInt8) (0 : UInt64) (0 : UInt64)
          (0 : UInt64) (0 : UInt64) (0 : UInt64)))
    (F7_J7 n)
theorem ok7 (n : Nat) : FunOK Try.prog ⟨7, sig7, F7 n⟩ :=
  fun_ok (hints := ⟨[(7, ⟨[(1, .one (.own 1)), (2, .one (.own 2)), (3, .one (.own 3))], [(1, .cells [.int .u8, .int .u8, .int .u8, .int .u16, .int .u16, .int .u16, .int .u16, .int .u64, .bool, .int .u8, .int .u8, .int .u8, .int .u16, .int .u16, .int .u16, .int .u8, .int .u8, .int .u8, .bool]), (2, .cells [.int .u8, .int .u8, .int .u8, .int .u64, .int .u64, .bool, .int .u8, .int .u64, .int .u64, .str, .nils, .int .u8, .int .u8, .int .i64, .int .u8, .int .u8, .int .u64, .int .u64, .int .u64, .int .u64, .int .u64]), (3, .cells [.int .u8, .int .u8, .int .u8, .int .u64, .int .u64, .bool, .int .u8, .int .u64, .int .u64, .str, .nils, .int .u8, .int .u8, .int .i64, .int .u8, .int .u8, .int .u64, .int .u64, .int .u64, .int .u64, .int .u64])], 4⟩)], []⟩) (fuel := n) (c := Try.f7.body.getD .skip) (rs := Try.f7.results.toList) tt_ok mix (FsOK.cons (ok13 n) (FsOK.nil)) Try.func7 (by kernel_rfl) (by kernel_rfl) rfl (by kernel_rfl) rfl rfl (by kernel_rfl)
-- watchfire/frame.Same
def sig8 : Sig := ⟨(.cons (.agg (.cons (.int .u8) (.cons (.int .u8) (.cons (.int .u8) (.cons (.int .u64) (.cons (.int .u64) (.cons .bool (.cons (.int .u8) (.cons (.int .u64) (.cons (.int .u64) (.cons .str (.cons (.ro (.cons .str (.cons .str .nil))) (.cons (.int .u8) (.cons (.int .u8) (.cons (.int .i64) (.cons (.int .u8) (.cons (.int .u8) (.cons (.int .u64) (.cons (.int .u64) (.cons (.int .u64) (.cons (.int .u64) (.cons (.int .u64) .nil)))))))))))))))))))))) (.cons (.agg (.cons (.int .u8) (.cons (.int .u8) (.cons (.int .u8) (.cons (.int .u64) (.cons (.int .u64) (.cons .bool (.cons (.int .u8) (.cons (.int .u64) (.cons (.int .u64) (.cons .str (.cons (.ro (.cons .str (.cons .str .nil))) (.cons (.int .u8) (.cons (.int .u8) (.cons (.int .i64) (.cons (.int .u8) (.cons (.int .u8) (.cons (.int .u64) (.cons (.int .u64) (.cons (.int .u64) (.cons (.int .u64) (.cons (.int .u64) .nil)))))))))))))))))))))) .nil)), (.cons (.one (.c .bool)) .nil)⟩
def F8 : Nat →
  (UInt8 ×
        UInt8 ×
          UInt8 ×
            UInt64 ×
              UInt64 ×
                Bool ×
                  UInt8 ×
                    UInt64 ×
                      UInt64 ×
                        List UInt8 ×
                          List (List UInt8 × List UInt8) ×
                            UInt8 × UInt8 × Int64 × UInt8 × UInt8 × UInt64 × UInt64 × UInt64 × UInt64 × UInt64) ×
      UInt8 ×
        UInt8 ×
          UInt8 ×
            UInt64 ×
              UInt64 ×
                Bool ×
                  UInt8 ×
                    UInt64 ×
                      UInt64 ×
                        List UInt8 ×
                          List (List UInt8 × List UInt8) ×
                            UInt8 × UInt8 × Int64 × UInt8 × UInt8 × UInt64 × UInt64 × UInt64 × UInt64 × UInt64 →
    Option (Bool × Unit) := fun (n : Nat)
    (x :
      (UInt8 ×
          UInt8 ×
            UInt8 ×
              UInt64 ×
                UInt64 ×
                  Bool ×
                    UInt8 ×
                      UInt64 ×
                        UInt64 ×
                          List UInt8 ×
                            List (List UInt8 × List UInt8) ×
                              UInt8 × UInt8 × Int64 × UInt8 × UInt8 × UInt64 × UInt64 × UInt64 × UInt64 × UInt64) ×
        UInt8 ×
          UInt8 ×
            UInt8 ×
              UInt64 ×
                UInt64 ×
                  Bool ×
                    UInt8 ×
                      UInt64 ×
                        UInt64 ×
                          List UInt8 ×
                            List (List UInt8 × List UInt8) ×
                              UInt8 × UInt8 × Int64 × UInt8 × UInt8 × UInt64 × UInt64 × UInt64 × UInt64 × UInt64) =>
  obind
    (F14 n
      ((Prod.fst (Prod.snd (Prod.snd (Prod.snd (Prod.snd (Prod.snd (Prod.fst x)))))),
          Prod.fst (Prod.snd (Prod.snd (Prod.snd (Prod.snd (Prod.snd (Prod.snd (Prod.fst x))))))),
          Prod.fst (Prod.snd (Prod.snd (Prod.snd (Prod.snd (Prod.snd (Prod.snd (Prod.snd (Prod.fst x)))))))),
          Prod.fst (Prod.snd (Prod.snd (Prod.snd (Prod.snd (Prod.snd (Prod.snd (Prod.snd (Prod.snd (Prod.fst x))))))))),
          Prod.fst
            (Prod.snd
              (Prod.snd (Prod.snd (Prod.snd (Prod.snd (Prod.snd (Prod.snd (Prod.snd (Prod.snd (Prod.fst x)))))))))),
          Prod.fst
            (Prod.snd
              (Prod.snd
                (Prod.snd (Prod.snd (Prod.snd (Prod.snd (Prod.snd (Prod.snd (Prod.snd (Prod.snd (Prod.fst x))))))))))),
          Prod.fst
            (Prod.snd
              (Prod.snd
                (Prod.snd
                  (Prod.snd
                    (Prod.snd (Prod.snd (Prod.snd (Prod.snd (Prod.snd (Prod.snd (Prod.snd (Prod.fst x)))))))))))),
          Prod.fst
            (Prod.snd
              (Prod.snd
                (Prod.snd
                  (Prod.snd
                    (Prod.snd
                      (Prod.snd (Prod.snd (Prod.snd (Prod.snd (Prod.snd (Prod.snd (Prod.snd (Prod.fst x))))))))))))),
          Prod.fst
            (Prod.snd
              (Prod.snd
                (Prod.snd
                  (Prod.snd
                    (Prod.snd
                      (Prod.snd
                        (Prod.snd (Prod.snd (Prod.snd (Prod.snd (Prod.snd (Prod.snd (Prod.snd (Prod.fst x)))))))))))))),
          Prod.fst
            (Prod.snd
              (Prod.snd
                (Prod.snd
                  (Prod.snd
                    (Prod.snd
                      (Prod.snd
                        (Prod.snd
                          (Prod.snd
                            (Prod.snd (Prod.snd (Prod.snd (Prod.snd (Prod.snd (Prod.snd (Prod.fst x))))))))))))))),
          Prod.fst
            (Prod.snd
              (Prod.snd
                (Prod.snd
                  (Prod.snd
                    (Prod.snd
                      (Prod.snd
                        (Prod.snd
                          (Prod.snd
                            (Prod.snd
                              (Prod.snd (Prod.snd (Prod.snd (Prod.snd (Prod.snd (Prod.snd (Prod.fst x)))))))))))))))),
          Prod.fst
            (Prod.snd
              (Prod.snd
                (Prod.snd
                  (Prod.snd
                    (Prod.snd
                      (Prod.snd
                        (Prod.snd
                          (Prod.snd
                            (Prod.snd
                              (Prod.snd
                                (Prod.snd
                                  (Prod.snd (Prod.snd (Prod.snd (Prod.snd (Prod.snd (Prod.fst x))))))))))))))))),
          Prod.fst
            (Prod.snd
              (Prod.snd
                (Prod.snd
                  (Prod.snd
                    (Prod.snd
                      (Prod.snd
                        (Prod.snd
                          (Prod.snd
                            (Prod.snd
                              (Prod.snd
                                (Prod.snd
                                  (Prod.snd
                                    (Prod.snd (Prod.snd (Prod.snd (Prod.snd (Prod.snd (Prod.fst x))))))))))))))))))),
        Prod.fst (Prod.snd (Prod.snd (Prod.snd (Prod.snd (Prod.snd (Prod.snd x)))))),
        Prod.fst (Prod.snd (Prod.snd (Prod.snd (Prod.snd (Prod.snd (Prod.snd (Prod.snd x))))))),
        Prod.fst (Prod.snd (Prod.snd (Prod.snd (Prod.snd (Prod.snd (Prod.snd (Prod.snd (Prod.snd x)))))))),
        Prod.fst (Prod.snd (Prod.snd (Prod.snd (Prod.snd (Prod.snd (Prod.snd (Prod.snd (Prod.snd (Prod.snd x))))))))),
        Prod.fst
          (Prod.snd
            (Prod.snd (Prod.snd (Prod.snd (Prod.snd (Prod.snd (Prod.snd (Prod.snd (Prod.snd (Prod.snd x)))))))))),
        Prod.fst
          (Prod.snd
            (Prod.snd
              (Prod.snd (Prod.snd (Prod.snd (Prod.snd (Prod.snd (Prod.snd (Prod.snd (Prod.snd (Prod.snd x))))))))))),
        Prod.fst
          (Prod.snd
            (Prod.snd
              (Prod.snd
                (Prod.snd (Prod.snd (Prod.snd (Prod.snd (Prod.snd (Prod.snd (Prod.snd (Prod.snd (Prod.snd x)))))))))))),
        Prod.fst
          (Prod.snd
            (Prod.snd
              (Prod.snd
                (Prod.snd
                  (Prod.snd
                    (Prod.snd (Prod.snd (Prod.snd (Prod.snd (Prod.snd (Prod.snd (Prod.snd (Prod.snd x))))))))))))),
        Prod.fst
          (Prod.snd
            (Prod.snd
              (Prod.snd
                (Prod.snd
                  (Prod.snd
                    (Prod.snd
                      (Prod.snd (Prod.snd (Prod.snd (Prod.snd (Prod.snd (Prod.snd (Prod.snd (Prod.snd x)))))))))))))),
        Prod.fst
          (Prod.snd
            (Prod.snd
              (Prod.snd
                (Prod.snd
                  (Prod.snd
                    (Prod.snd
                      (Prod.snd
                        (Prod.snd
                          (Prod.snd (Prod.snd (Prod.snd (Prod.snd (Prod.snd (Prod.snd (Prod.snd x))))))))))))))),
        Prod.fst
          (Prod.snd
            (Prod.snd
              (Prod.snd
                (Prod.snd
                  (Prod.snd
                    (Prod.snd
                      (Prod.snd
                        (Prod.snd
                          (Prod.snd
                            (Prod.snd (Prod.snd (Prod.snd (Prod.snd (Prod.snd (Prod.snd (Prod.snd x)))))))))))))))),
        Prod.fst
          (Prod.snd
            (Prod.snd
              (Prod.snd
                (Prod.snd
                  (Prod.snd
                    (Prod.snd
                      (Prod.snd
                        (Prod.snd
                          (Prod.snd
                            (Prod.snd
                              (Prod.snd (Prod.snd (Prod.snd (Prod.snd (Prod.snd (Prod.snd (Prod.snd x))))))))))))))))),
        Prod.fst
          (Prod.snd
            (Prod.snd
              (Prod.snd
                (Prod.snd
                  (Prod.snd
                    (Prod.snd
                      (Prod.snd
                        (Prod.snd
                          (Prod.snd
                            (Prod.snd
                              (Prod.snd
                                (Prod.snd
                                  (Prod.snd (Prod.snd (Prod.snd (Prod.snd (Prod.snd (Prod.snd x))))))))))))))))))))
    fun (x_1 : Bool × Unit) =>
    oite (Prod.fst x_1)
      (oite (decide (Prod.fst (Prod.fst x) = Prod.fst (Prod.snd x)))
        (oite (decide (Prod.fst (Prod.snd (Prod.fst x)) = Prod.fst (Prod.snd (Prod.snd x))))
          (oite (decide (Prod.fst (Prod.snd (Prod.snd (Prod.fst x))) = Prod.fst (Prod.snd (Prod.snd (Prod.snd x)))))
            (oite
              (decide
                (Prod.fst (Prod.snd (Prod.snd (Prod.snd (Prod.fst x)))) =
                  Prod.fst (Prod.snd (Prod.snd (Prod.snd (Prod.snd x))))))
              (oite
                (decide
                  (Prod.fst (Prod.snd (Prod.snd (Prod.snd (Prod.snd (Prod.fst x))))) =
                    Prod.fst (Prod.snd (Prod.snd (Prod.snd (Prod.snd (Prod.snd x)))))))
                (oite
                  (decide
                    (Prod.fst
                        (Prod.snd
                          (Prod.snd
                            (Prod.snd
                              (Prod.snd
                                (Prod.snd
                                  (Prod.snd
                                    (Prod.snd
                                      (Prod.snd
                                        (Prod.snd
                                          (Prod.snd
                                            (Prod.snd
                                              (Prod.snd
                                                (Prod.snd
                                                  (Prod.snd
                                                    (Prod.snd
                                                      (Prod.snd (Prod.snd (Prod.snd (Prod.fst x))))))))))))))))))) =
                      Prod.fst
                        (Prod.snd
                          (Prod.snd
                            (Prod.snd
                              (Prod.snd
                                (Prod.snd
                                  (Prod.snd
                                    (Prod.snd
                                      (Prod.snd
                                        (Prod.snd
                                          (Prod.snd
                                            (Prod.snd
                                              (Prod.snd
                                                (Prod.snd
                                                  (Prod.snd
                                                    (Prod.snd
                                                      (Prod.snd (Prod.snd (Prod.snd (Prod.snd x)))))))))))))))))))))
                  (oite
                    (decide
                      (Prod.fst
                          (Prod.snd
                            (Prod.snd
                              (Prod.snd
                                (Prod.snd
                                  (Prod.snd
                                    (Prod.snd
                                      (Prod.snd
                                        (Prod.snd
                                          (Prod.snd
                                            (Prod.snd
                                              (Prod.snd
                                                (Prod.snd
                                                  (Prod.snd
                                                    (Prod.snd
                                                      (Prod.snd
                                                        (Prod.snd
                                                          (Prod.snd
                                                            (Prod.snd (Prod.snd (Prod.fst x)))))))))))))))))))) =
                        Prod.fst
                          (Prod.snd
                            (Prod.snd
                              (Prod.snd
                                (Prod.snd
                                  (Prod.snd
                                    (Prod.snd
                                      (Prod.snd
                                        (Prod.snd
                                          (Prod.snd
                                            (Prod.snd
                                              (Prod.snd
                                                (Prod.snd
                                                  (Prod.snd
                                                    (Prod.snd
                                                      (Prod.snd
                                                        (Prod.snd
                                                          (Prod.snd
                                                            (Prod.snd (Prod.snd (Prod.snd x))))))))))))))))))))))
                    (some
                      (decide
                          (Prod.snd
                              (Prod.snd
                                (Prod.snd
                                  (Prod.snd
                                    (Prod.snd
                                      (Prod.snd
                                        (Prod.snd
                                          (Prod.snd
                                            (Prod.snd
                                              (Prod.snd
                                                (Prod.snd
                                                  (Prod.snd
                                                    (Prod.snd
                                                      (Prod.snd
                                                        (Prod.snd
                                                          (Prod.snd
                                                            (Prod.snd
                                                              (Prod.snd
                                                                (Prod.snd (Prod.snd (Prod.fst x)))))))))))))))))))) =
                            Prod.snd
                              (Prod.snd
                                (Prod.snd
                                  (Prod.snd
                                    (Prod.snd
                                      (Prod.snd
                                        (Prod.snd
                                          (Prod.snd
                                            (Prod.snd
                                              (Prod.snd
                                                (Prod.snd
                                                  (Prod.snd
                                                    (Prod.snd
                                                      (Prod.snd
                                                        (Prod.snd
                                                          (Prod.snd
                                                            (Prod.snd
                                                              (Prod.snd
                                                                (Prod.snd (Prod.snd (Prod.snd x))))))))))))))))))))),
                        ()))
                    (some (false, ())))
                  (some (false, ())))
                (some (false, ())))
              (some (false, ())))
            (some (false, ())))
          (some (false, ())))
        (some (false, ())))
      (some (false, ()))
theorem ok8 (n : Nat) : FunOK Try.prog ⟨8, sig8, F8 n⟩ :=
  fun_ok (hints := ⟨[], []⟩) (fuel := n) (c := Try.f8.body.getD .skip) (rs := Try.f8.results.toList) tt_ok mix (FsOK.cons (ok14 n) (FsOK.nil)) Try.func8 (by kernel_rfl) (by kernel_rfl) rfl (by kernel_rfl) rfl rfl (by kernel_rfl)
-- watchfire/watchfireref01.Uint
def sig15 : Sig := ⟨(.cons (.one (.c (.int .u64))) .nil), (.cons (.one (.row (.cons (.int .u8) .nil))) .nil)⟩
def F15_L14 : Arr [PT.int IntKind.u64, PT.list (CTs.cons (CT.int IntKind.u8) CTs.nil)] (Option (List UInt8 × Unit)) →
  UInt64 → List UInt8 → Option (List UInt8 × Unit) := fun (rec : Arr [PT.int IntKind.u64, PT.list (CTs.cons (CT.int IntKind.u8) CTs.nil)] (Option (List UInt8 × Unit)))
    (n_ : UInt64) (out : List UInt8) =>
  oite (decide ((128 : UInt64) ≤ n_))
    (oite
      (Nat.ble (List.length out + List.length [UInt8.ofInt ↑(UInt64.toNat (n_ % (128 : UInt64) + (128 : UInt64)))])
        (4294967296 : Nat))
      (rec (n_ / (128 : UInt64)) (out ++ [UInt8.ofInt ↑(UInt64.toNat (n_ % (128 : UInt64) + (128 : UInt64)))])) none)
    (oite (Nat.ble (List.length out + List.length [UInt8.ofInt ↑(UInt64.toNat n_)]) (4294967296 : Nat))
      (some (out ++ [UInt8.ofInt ↑(UInt64.toNat n_)], ())) none)
def F15_R14 : Nat → PT.T (PT.int IntKind.u64) → List UInt8 → Option (List UInt8 × Unit) := ofixA (14 : Nat) [PT.int IntKind.u64, PT.list (CTs.cons (CT.int IntKind.u8) CTs.nil)] F15_L14
def F15 : Nat → UInt64 → Option (List UInt8 × Unit) := fun (n : Nat) (x : UInt64) => F15_R14 n x []
theorem F15_R14_s  (m_ : Nat) : F15_R14  (m_ + 1) = F15_L14  (F15_R14  m_) := rfl
theorem ok15 (n : Nat) : FunOK Try.prog ⟨15, sig15, F15 n⟩ :=
  fun_ok (hints := ⟨[], [(14, ⟨[(0, .one (.int .u64)), (3, .one (.own 1))], [(1, .row (.cons (.int .u8) .nil))], 2⟩)]⟩) (fuel := n) (c := Try.f15.body.getD .skip) (rs := Try.f15.results.toList) tt_ok mix (FsOK.nil) Try.func15 (by kernel_rfl) (by kernel_rfl) rfl (by kernel_rfl) rfl rfl (by kernel_rfl)
-- watchfire/watchfireref01.Long
def sig34 : Sig := ⟨(.cons (.one (.c .str)) .nil), (.cons (.one (.c (.ro (.cons (.int .u8) .nil)))) .nil)⟩
def F34 : Nat → List UInt8 → Option (List UInt8 × Unit) := fun (n : Nat) (x : List UInt8) =>
  obind (F15 n (UInt64.ofInt (Int64.toInt (Int64.ofInt ↑(List.length x))))) fun (x_1 : List UInt8 × Unit) =>
    oite (Nat.ble (List.length (Prod.fst x_1) + List.length x) (4294967296 : Nat))
      (some (Prod.fst x_1 ++ x, ())) none
theorem ok34 (n : Nat) : FunOK Try.prog ⟨34, sig34, F34 n⟩ :=
  fun_ok (hints := ⟨[], []⟩) (fuel := n) (c := Try.f34.body.getD .skip) (rs := Try.f34.results.toList) tt_ok mix (FsOK.cons (ok15 n) (FsOK.nil)) Try.func34 (by kernel_rfl) (by kernel_rfl) rfl (by kernel_rfl) rfl rfl (by kernel_rfl)
-- watchfire/watchfireref01.Int
def sig35 : Sig := ⟨(.cons (.one (.c (.int .i64))) .nil), (.cons (.one (.c (.ro (.cons (.int .u8) .nil)))) .nil)⟩
def F35 : Nat → Int64 → Option (List UInt8 × Unit) := fun (n : Nat) (x : Int64) =>
  oite (decide (x < (0 : Int64)))
    (obind (F15 n ((2 : UInt64) * UInt64.ofInt (Int64.toInt ((0 : Int64) - (x + (1 : Int64)))) + (1 : UInt64)))
      fun (x_1 : List UInt8 × Unit) => some (Prod.fst x_1, ()))
    (obind (F15 n ((2 : UInt64) * UInt64.ofInt (Int64.toInt x))) fun (x_1 : List UInt8 × Unit) =>
      some (Prod.fst x_1, ()))
theorem ok35 (n : Nat) : FunOK Try.prog ⟨35, sig35, F35 n⟩ :=
  fun_ok (hints := ⟨[], []⟩) (fuel := n) (c := Try.f35.body.getD .skip) (rs := Try.f35.results.toList) tt_ok mix (FsOK.cons (ok15 n) (FsOK.nil)) Try.func35 (by kernel_rfl) (by kernel_rfl) rfl (by kernel_rfl) rfl rfl (by kernel_rfl)
-- watchfire/watchfireref01.Bytes
def sig16 : Sig := ⟨(.cons (.agg (.cons .bool (.cons (.int .u8) (.cons (.int .u64) (.cons (.int .u64) (.cons .str (.cons (.ro (.cons .str (.cons .str .nil))) (.cons (.int .u8) (.cons (.int .u8) (.cons (.int .i64) (.cons (.int .u8) (.cons (.int .u8) (.cons (.int .u64) (.cons (.int .u64) .nil)))))))))))))) .nil), (.cons (.one (.c (.ro (.cons (.int .u8) .nil)))) .nil)⟩
def F16_L509 : Nat →
  Arr
      [PT.int IntKind.i64, PT.int IntKind.u8, PT.int IntKind.u64, PT.int IntKind.u64, PT.bytes,
        PT.list (CTs.cons CT.str (CTs.cons CT.str CTs.nil)), PT.int IntKind.u8, PT.int IntKind.u8, PT.int IntKind.i64,
        PT.int IntKind.u8, PT.list (CTs.cons (CT.int IntKind.u8) CTs.nil)]
      (Option (List UInt8 × Unit)) →
    Int64 →
      UInt8 →
        UInt64 →
          UInt64 →
            List UInt8 →
              List (List UInt8 × List UInt8) → UInt8 → UInt8 → Int64 → UInt8 → List UInt8 → Option (List UInt8 × Unit) := fun (n : Nat)
    (rec :
      Arr
        [PT.int IntKind.i64, PT.int IntKind.u8, PT.int IntKind.u64, PT.int IntKind.u64, PT.bytes,
          PT.list (CTs.cons CT.str (CTs.cons CT.str CTs.nil)), PT.int IntKind.u8, PT.int IntKind.u8, PT.int IntKind.i64,
          PT.int IntKind.u8, PT.list (CTs.cons (CT.int IntKind.u8) CTs.nil)]
        (Option (List UInt8 × Unit)))
    (i : Int64) (v0 : UInt8) (v1 v2 : UInt64) (v3 : List UInt8) (v4 : List (List UInt8 × List UInt8)) (v5 v6 : UInt8)
    (v7 : Int64) (v8 : UInt8) (out : List UInt8) =>
  oite (decide (i < Int64.ofInt ↑(List.length v4)))
    (obind (at? v4 (Int64.toInt i)) fun (x_5 : List UInt8 × List UInt8) =>
      obind (F34 n (Prod.fst x_5)) fun (x_6 : List UInt8 × Unit) =>
        oite (Nat.ble (List.length out + List.length (Prod.fst x_6)) (4294967296 : Nat))
          (obind (at? v4 (Int64.toInt i)) fun (x_7 : List UInt8 × List UInt8) =>
            obind (F34 n (Prod.snd x_7)) fun (x_8 : List UInt8 × Unit) =>
              oite (Nat.ble (List.length (out ++ Prod.fst x_6) + List.length (Prod.fst x_8)) (4294967296 : Nat))
                (rec (i + (1 : Int64)) v0 v1 v2 v3 v4 v5 v6 v7 v8 (out ++ Prod.fst x_6 ++ Prod.fst x_8)) none)
          none)
    (oite (Nat.ble (List.length out + List.length [v5, v6]) (4294967296 : Nat))
      (obind (F35 n v7) fun (x_5 : List UInt8 × Unit) =>
        oite (Nat.ble (List.length (out ++ [v5, v6]) + List.length (Prod.fst x_5)) (4294967296 : Nat))
          (oite (Nat.ble (List.length (out ++ [v5, v6] ++ Prod.fst x_5) + List.length [v8]) (4294967296 : Nat))
            (some (out ++ [v5, v6] ++ Prod.fst x_5 ++ [v8], ())) none)
          none)
      none)
def F16_R509 : Nat →
  Nat →
    PT.T (PT.int IntKind.i64) →
      UInt8 →
        UInt64 →
          UInt64 →
            List UInt8 →
              List (List UInt8 × List UInt8) → UInt8 → UInt8 → Int64 → UInt8 → List UInt8 → Option (List UInt8 × Unit) := fun (n : Nat) =>
  ofixA (509 : Nat)
    [PT.int IntKind.i64, PT.int IntKind.u8, PT.int IntKind.u64, PT.int IntKind.u64, PT.bytes,
      PT.list (CTs.cons CT.str (CTs.cons CT.str CTs.nil)), PT.int IntKind.u8, PT.int IntKind.u8, PT.int IntKind.i64,
      PT.int IntKind.u8, PT.list (CTs.cons (CT.int IntKind.u8) CTs.nil)]
    (F16_L509 n)
def F16 : Nat →
  Bool ×
      UInt8 ×
        UInt64 ×
          UInt64 ×
            List UInt8 × List (List UInt8 × List UInt8) × UInt8 × UInt8 × Int64 × UInt8 × UInt8 × UInt64 × UInt64 →
    Option (List UInt8 × Unit) := fun (n : Nat)
    (x :
      Bool ×
        UInt8 ×
          UInt64 ×
            UInt64 ×
              List UInt8 × List (List UInt8 × List UInt8) × UInt8 × UInt8 × Int64 × UInt8 × UInt8 × UInt64 × UInt64) =>
  oite (Prod.fst x)
    (obind
      (F15 n
        (Prod.fst
          (Prod.snd
            (Prod.snd
              (Prod.snd (Prod.snd (Prod.snd (Prod.snd (Prod.snd (Prod.snd (Prod.snd (Prod.snd (Prod.snd x)))))))))))))
      fun (x_1 : List UInt8 × Unit) =>
      oite
        (Nat.ble
          (List.length
              [(1 : UInt8),
                Prod.fst
                  (Prod.snd
                    (Prod.snd
                      (Prod.snd (Prod.snd (Prod.snd (Prod.snd (Prod.snd (Prod.snd (Prod.snd (Prod.snd x))))))))))] +
            List.length (Prod.fst x_1))
          (4294967296 : Nat))
        (obind
          (F15 n
            (Prod.snd
              (Prod.snd
                (Prod.snd
                  (Prod.snd
                    (Prod.snd (Prod.snd (Prod.snd (Prod.snd (Prod.snd (Prod.snd (Prod.snd (Prod.snd x)))))))))))))
          fun (x_2 : List UInt8 × Unit) =>
          oite
            (Nat.ble
              (List.length
                  ([(1 : UInt8),
                      Prod.fst
                        (Prod.snd
                          (Prod.snd
                            (Prod.snd
                              (Prod.snd (Prod.snd (Prod.snd (Prod.snd (Prod.snd (Prod.snd (Prod.snd x))))))))))] ++
                    Prod.fst x_1) +
                List.length (Prod.fst x_2))
              (4294967296 : Nat))
            (some
              ([(1 : UInt8),
                      Prod.fst
                        (Prod.snd
                          (Prod.snd
                            (Prod.snd
                              (Prod.snd (Prod.snd (Prod.snd (Prod.snd (Prod.snd (Prod.snd (Prod.snd x))))))))))] ++
                    Prod.fst x_1 ++
                  Prod.fst x_2,
                ()))
            none)
        none)
    (obind (F15 n (Prod.fst (Prod.snd (Prod.snd x)))) fun (x_1 : List UInt8 × Unit) =>
      oite (Nat.ble (List.length [(0 : UInt8), Prod.fst (Prod.snd x)] + List.length (Prod.fst x_1)) (4294967296 : Nat))
        (obind (F15 n (Prod.fst (Prod.snd (Prod.snd (Prod.snd x))))) fun (x_2 : List UInt8 × Unit) =>
          oite
            (Nat.ble (List.length ([(0 : UInt8), Prod.fst (Prod.snd x)] ++ Prod.fst x_1) + List.length (Prod.fst x_2))
              (4294967296 : Nat))
            (obind (F34 n (Prod.fst (Prod.snd (Prod.snd (Prod.snd (Prod.snd x)))))) fun (x_3 : List UInt8 × Unit) =>
              oite
                (Nat.ble
                  (List.length ([(0 : UInt8), Prod.fst (Prod.snd x)] ++ Prod.fst x_1 ++ Prod.fst x_2) +
                    List.length (Prod.fst x_3))
                  (4294967296 : Nat))
                (obind
                  (F15 n
                    (UInt64.ofInt
                      (Int64.toInt
                        (Int64.ofInt
                          ↑(List.length (Prod.fst (Prod.snd (Prod.snd (Prod.snd (Prod.snd (Prod.snd x)))))))))))
                  fun (x_4 : List UInt8 × Unit) =>
                  oite
                    (Nat.ble
                      (List.length
                          ([(0 : UInt8), Prod.fst (Prod.snd x)] ++ Prod.fst x_1 ++ Prod.fst x_2 ++ Prod.fst x_3) +
                        List.length (Prod.fst x_4))
                      (4294967296 : Nat))
                    (F16_R509 n n (0 : Int64) (Prod.fst (Prod.snd x)) (Prod.fst (Prod.snd (Prod.snd x)))
                      (Prod.fst (Prod.snd (Prod.snd (Prod.snd x))))
                      (Prod.fst (Prod.snd (Prod.snd (Prod.snd (Prod.snd x)))))
                      (Prod.fst (Prod.snd (Prod.snd (Prod.snd (Prod.snd (Prod.snd x))))))
                      (Prod.fst (Prod.snd (Prod.snd (Prod.snd (Prod.snd (Prod.snd (Prod.snd x)))))))
                      (Prod.fst (Prod.snd (Prod.snd (Prod.snd (Prod.snd (Prod.snd (Prod.snd (Prod.snd x))))))))
                      (Prod.fst
                        (Prod.snd (Prod.snd (Prod.snd (Prod.snd (Prod.snd (Prod.snd (Prod.snd (Prod.snd x)))))))))
                      (Prod.fst
                        (Prod.snd
                          (Prod.snd (Prod.snd (Prod.snd (Prod.snd (Prod.snd (Prod.snd (Prod.snd (Prod.snd x))))))))))
                      ([(0 : UInt8), Prod.fst (Prod.snd x)] ++ Prod.fst x_1 ++ Prod.fst x_2 ++ Prod.fst x_3 ++
                        Prod.fst x_4))
                    none)
                none)
            none)
        none)
theorem F16_R509_s (n : Nat) (m_ : Nat) : F16_R509 n (m_ + 1) = F16_L509 n (F16_R509 n m_) := rfl
theorem ok16 (n : Nat) : FunOK Try.prog ⟨16, sig16, F16 n⟩ :=
  fun_ok (hints := ⟨[], [(509, ⟨[(4, .one (.own 1)), (5, .one (.own 2)), (6, .one (.int .i64))], [(1, .cells [.int .u8, .int .u64, .int .u64, .str, .ro (.cons .str (.cons .str .nil)), .int .u8, .int .u8, .int .i64, .int .u8]), (2, .row (.cons (.int .u8) .nil))], 3⟩)]⟩) (fuel := n) (c := Try.f16.body.getD .skip) (rs := Try.f16.results.toList) tt_ok mix (FsOK.cons (ok15 n) (FsOK.cons (ok34 n) (FsOK.cons (ok35 n) (FsOK.nil)))) Try.func16 (by kernel_rfl) (by kernel_rfl) rfl (by kernel_rfl) rfl rfl (by kernel_rfl)
-- watchfire/watchfireref01.Sum
def sig18 : Sig := ⟨(.cons (.one (.c (.ro (.cons (.int .u8) .nil)))) .nil), (.cons (.one (.c (.int .u32))) .nil)⟩
def F18_L939 : Arr [PT.list (CTs.cons (CT.int IntKind.u8) CTs.nil), PT.int IntKind.u32, PT.int IntKind.i64] (Option (UInt32 × Unit)) →
  Arr [PT.list (CTs.cons (CT.int IntKind.u8) CTs.nil), PT.int IntKind.u32, PT.int IntKind.i64, PT.int IntKind.i64]
      (Option (UInt32 × Unit)) →
    List UInt8 → UInt32 → Int64 → Int64 → Option (UInt32 × Unit) := fun
    (rec :
      Arr [PT.list (CTs.cons (CT.int IntKind.u8) CTs.nil), PT.int IntKind.u32, PT.int IntKind.i64]
        (Option (UInt32 × Unit)))
    (rec_1 :
      Arr [PT.list (CTs.cons (CT.int IntKind.u8) CTs.nil), PT.int IntKind.u32, PT.int IntKind.i64, PT.int IntKind.i64]
        (Option (UInt32 × Unit)))
    (b_1 : List UInt8) (n__1 : UInt32) (i_1 k : Int64) =>
  oite (decide (k < (8 : Int64)))
    (oite (decide (n__1 % (2 : UInt32) = (1 : UInt32)))
      (rec_1 b_1 (n__1 / (2 : UInt32) ^^^ (3988292384 : UInt32)) i_1 (k + (1 : Int64)))
      (rec_1 b_1 (n__1 / (2 : UInt32)) i_1 (k + (1 : Int64))))
    (rec b_1 n__1 (i_1 + (1 : Int64)))
def F18_R939 : Arr [PT.list (CTs.cons (CT.int IntKind.u8) CTs.nil), PT.int IntKind.u32, PT.int IntKind.i64] (Option (UInt32 × Unit)) →
  Nat → PT.T (PT.list (CTs.cons (CT.int IntKind.u8) CTs.nil)) → UInt32 → Int64 → Int64 → Option (UInt32 × Unit) := fun
    (rec :
      Arr [PT.list (CTs.cons (CT.int IntKind.u8) CTs.nil), PT.int IntKind.u32, PT.int IntKind.i64]
        (Option (UInt32 × Unit))) =>
  ofixA (939 : Nat)
    [PT.list (CTs.cons (CT.int IntKind.u8) CTs.nil), PT.int IntKind.u32, PT.int IntKind.i64, PT.int IntKind.i64]
    (F18_L939 rec)
def F18_L29 : Nat →
  Arr [PT.list (CTs.cons (CT.int IntKind.u8) CTs.nil), PT.int IntKind.u32, PT.int IntKind.i64]
      (Option (UInt32 × Unit)) →
    List UInt8 → UInt32 → Int64 → Option (UInt32 × Unit) := fun (n : Nat)
    (rec :
      Arr [PT.list (CTs.cons (CT.int IntKind.u8) CTs.nil), PT.int IntKind.u32, PT.int IntKind.i64]
        (Option (UInt32 × Unit)))
    (b : List UInt8) (n_ : UInt32) (i : Int64) =>
  oite (decide (i < Int64.ofInt ↑(List.length b)))
    (obind (at? b (Int64.toInt i)) fun (x_1 : UInt8) =>
      F18_R939 rec n b (n_ ^^^ UInt32.ofInt ↑(UInt8.toNat x_1)) i (0 : Int64))
    (some (n_ ^^^ (4294967295 : UInt32), ()))
def F18_R29 : Nat → Nat → PT.T (PT.list (CTs.cons (CT.int IntKind.u8) CTs.nil)) → UInt32 → Int64 → Option (UInt32 × Unit) := fun (n : Nat) =>
  ofixA (29 : Nat) [PT.list (CTs.cons (CT.int IntKind.u8) CTs.nil), PT.int IntKind.u32, PT.int IntKind.i64] (F18_L29 n)
def F18 : Nat → List UInt8 → Option (UInt32 × Unit) := fun (n : Nat) (x : List UInt8) => F18_R29 n n x (4294967295 : UInt32) (0 : Int64)
theorem F18_R939_s (rec : Arr [PT.list (CTs.cons (CT.int IntKind.u8) CTs.nil), PT.int IntKind.u32, PT.int IntKind.i64] (Option (UInt32 × Unit))) (m_ : Nat) : F18_R939 rec (m_ + 1) = F18_L939 rec (F18_R939 rec m_) := rfl
theorem F18_R29_s (n : Nat) (m_ : Nat) : F18_R29 n (m_ + 1) = F18_L29 n (F18_R29 n m_) := rfl
theorem ok18 (n : Nat) : FunOK Try.prog ⟨18, sig18, F18 n⟩ :=
  fun_ok (hints := ⟨[], [(29, ⟨[(0, .one (.ro (.cons (.int .u8) .nil))), (3, .one (.int .u32)), (4, .one (.int .i64))], [], 1⟩), (939, ⟨[(0, .one (.ro (.cons (.int .u8) .nil))), (3, .one (.int .u32)), (4, .one (.int .i64)), (5, .one (.int .i64))], [], 1⟩)]⟩) (fuel := n) (c := Try.f18.body.getD .skip) (rs := Try.f18.results.toList) tt_ok mix (FsOK.nil) Try.func18 (by kernel_rfl) (by kernel_rfl) rfl (by kernel_rfl) rfl rfl (by kernel_rfl)
-- watchfire/watchfireref01.Sum
def sig1018 : Sig := ⟨(.cons (.one (.row (.cons (.int .u8) .nil))) .nil), (.cons (.one (.c (.int .u32))) .nil)⟩
def F1018_L939 : Arr [PT.int IntKind.u32, PT.int IntKind.i64, PT.list (CTs.cons (CT.int IntKind.u8) CTs.nil)]
    (Option (UInt32 × List UInt8)) →
  Arr [PT.int IntKind.u32, PT.int IntKind.i64, PT.int IntKind.i64, PT.list (CTs.cons (CT.int IntKind.u8) CTs.nil)]
      (Option (UInt32 × List UInt8)) →
    UInt32 → Int64 → Int64 → List UInt8 → Option (UInt32 × List UInt8) := fun
    (rec :
      Arr [PT.int IntKind.u32, PT.int IntKind.i64, PT.list (CTs.cons (CT.int IntKind.u8) CTs.nil)]
        (Option (UInt32 × List UInt8)))
    (rec_1 :
      Arr [PT.int IntKind.u32, PT.int IntKind.i64, PT.int IntKind.i64, PT.list (CTs.cons (CT.int IntKind.u8) CTs.nil)]
        (Option (UInt32 × List UInt8)))
    (n__1 : UInt32) (i_1 k : Int64) (b_1 : List UInt8) =>
  oite (decide (k < (8 : Int64)))
    (oite (decide (n__1 % (2 : UInt32) = (1 : UInt32)))
      (rec_1 (n__1 / (2 : UInt32) ^^^ (3988292384 : UInt32)) i_1 (k + (1 : Int64)) b_1)
      (rec_1 (n__1 / (2 : UInt32)) i_1 (k + (1 : Int64)) b_1))
    (rec n__1 (i_1 + (1 : Int64)) b_1)
def F1018_R939 : Arr [PT.int IntKind.u32, PT.int IntKind.i64, PT.list (CTs.cons (CT.int IntKind.u8) CTs.nil)]
    (Option (UInt32 × List UInt8)) →
  Nat → PT.T (PT.int IntKind.u32) → Int64 → Int64 → List UInt8 → Option (UInt32 × List UInt8) := fun
    (rec :
      Arr [PT.int IntKind.u32, PT.int IntKind.i64, PT.list (CTs.cons (CT.int IntKind.u8) CTs.nil)]
        (Option (UInt32 × List UInt8))) =>
  ofixA (939 : Nat)
    [PT.int IntKind.u32, PT.int IntKind.i64, PT.int IntKind.i64, PT.list (CTs.cons (CT.int IntKind.u8) CTs.nil)]
    (F1018_L939 rec)
def F1018_L29 : Nat →
  Arr [PT.int IntKind.u32, PT.int IntKind.i64, PT.list (CTs.cons (CT.int IntKind.u8) CTs.nil)]
      (Option (UInt32 × List UInt8)) →
    UInt32 → Int64 → List UInt8 → Option (UInt32 × List UInt8) := fun (n : Nat)
    (rec :
      Arr [PT.int IntKind.u32, PT.int IntKind.i64, PT.list (CTs.cons (CT.int IntKind.u8) CTs.nil)]
        (Option (UInt32 × List UInt8)))
    (n_ : UInt32) (i : Int64) (b : List UInt8) =>
  oite (decide (i < Int64.ofInt ↑(List.length b)))
    (oite (decide ((0 : Int) ≤ Int64.toInt i) && Nat.blt (Int.toNat (Int64.toInt i)) (List.length b))
      (obind b[Int.toNat (Int64.toInt i)]? fun (x_1 : UInt8) =>
        F1018_R939 rec n (n_ ^^^ UInt32.ofInt ↑(UInt8.toNat x_1)) i (0 : Int64) b)
      none)
    (some (n_ ^^^ (4294967295 : UInt32), b))
def F1018_R29 : Nat → Nat → PT.T (PT.int IntKind.u32) → Int64 → List UInt8 → Option (UInt32 × List UInt8) := fun (n : Nat) =>
  ofixA (29 : Nat) [PT.int IntKind.u32, PT.int IntKind.i64, PT.list (CTs.cons (CT.int IntKind.u8) CTs.nil)]
    (F1018_L29 n)
def F1018 : Nat → List UInt8 → Option (UInt32 × List UInt8) := fun (n : Nat) (x : List UInt8) => F1018_R29 n n (4294967295 : UInt32) (0 : Int64) x
theorem F1018_R939_s (rec : Arr [PT.int IntKind.u32, PT.int IntKind.i64, PT.list (CTs.cons (CT.int IntKind.u8) CTs.nil)] (Option (UInt32 × List UInt8))) (m_ : Nat) : F1018_R939 rec (m_ + 1) = F1018_L939 rec (F1018_R939 rec m_) := rfl
theorem F1018_R29_s (n : Nat) (m_ : Nat) : F1018_R29 n (m_ + 1) = F1018_L29 n (F1018_R29 n m_) := rfl
theorem ok1018 (n : Nat) : FunOK Try.prog ⟨18, sig1018, F1018 n⟩ :=
  fun_ok (hints := ⟨[], [(29, ⟨[(0, .one (.own 0)), (3, .one (.int .u32)), (4, .one (.int .i64))], [(0, .row (.cons (.int .u8) .nil))], 1⟩), (939, ⟨[(0, .one (.own 0)), (3, .one (.int .u32)), (4, .one (.int .i64)), (5, .one (.int .i64))], [(0, .row (.cons (.int .u8) .nil))], 1⟩)]⟩) (fuel := n) (c := Try.f18.body.getD .skip) (rs := Try.f18.results.toList) tt_ok mix (FsOK.nil) Try.func18 (by kernel_rfl) (by kernel_rfl) rfl (by kernel_rfl) rfl rfl (by kernel_rfl)
-- watchfire/watchfireref01.Four
def sig17 : Sig := ⟨(.cons (.one (.c (.int .u32))) .nil), (.cons (.one (.c (.ro (.cons (.int .u8) .nil)))) .nil)⟩
def F17 : Nat → UInt32 → Option (List UInt8 × Unit) := fun (n : Nat) (x : UInt32) =>
  some
    ([UInt8.ofInt ↑(UInt32.toNat (x % (256 : UInt32))),
        UInt8.ofInt ↑(UInt32.toNat (x / (256 : UInt32) % (256 : UInt32))),
        UInt8.ofInt ↑(UInt32.toNat (x / (65536 : UInt32) % (256 : UInt32))),
        UInt8.ofInt ↑(UInt32.toNat (x / (16777216 : UInt32)))],
      ())
theorem ok17 (n : Nat) : FunOK Try.prog ⟨17, sig17, F17 n⟩ :=
  fun_ok (hints := ⟨[], []⟩) (fuel := n) (c := Try.f17.body.getD .skip) (rs := Try.f17.results.toList) tt_ok mix (FsOK.nil) Try.func17 (by kernel_rfl) (by kernel_rfl) rfl (by kernel_rfl) rfl rfl (by kernel_rfl)
-- watchfire/watchfirelaw05.encode
def sig9 : Sig := ⟨(.cons (.agg (.cons (.int .u8) (.cons (.int .u8) (.cons (.int .u8) (.cons (.int .u64) (.cons (.int .u64) (.cons .bool (.cons (.int .u8) (.cons (.int .u64) (.cons (.int .u64) (.cons .str (.cons (.ro (.cons .str (.cons .str .nil))) (.cons (.int .u8) (.cons (.int .u8) (.cons (.int .i64) (.cons (.int .u8) (.cons (.int .u8) (.cons (.int .u64) (.cons (.int .u64) (.cons (.int .u64) (.cons (.int .u64) (.cons (.int .u64) .nil)))))))))))))))))))))) .nil), (.cons (.one (.c (.ro (.cons (.int .u8) .nil)))) .nil)⟩
def F9_J7 : Nat → List UInt8 → Option (List UInt8 × Unit) := fun (n : Nat) (b : List UInt8) =>
  obind (F1018 n b) fun (x_1 : UInt32 × List UInt8) =>
    obind (F17 n (Prod.fst x_1)) fun (x_2 : List UInt8 × Unit) =>
      oite (Nat.ble (List.length (Prod.snd x_1) + List.length (Prod.fst x_2)) (4294967296 : Nat))
        (some (Prod.snd x_1 ++ Prod.fst x_2, ())) none
def F9_L957 : Nat →
  Arr [PT.list (CTs.cons (CT.int IntKind.u8) CTs.nil)] (Option (List UInt8 × Unit)) →
    Arr
        [PT.int IntKind.i64, PT.int IntKind.i64, PT.list (CTs.cons (CT.int IntKind.u8) CTs.nil),
          PT.list (CTs.cons (CT.int IntKind.u64) CTs.nil)]
        (Option (List UInt8 × Unit)) →
      Int64 → Int64 → List UInt8 → List UInt64 → Option (List UInt8 × Unit) := fun (n : Nat) (J : Arr [PT.list (CTs.cons (CT.int IntKind.u8) CTs.nil)] (Option (List UInt8 × Unit)))
    (rec :
      Arr
        [PT.int IntKind.i64, PT.int IntKind.i64, PT.list (CTs.cons (CT.int IntKind.u8) CTs.nil),
          PT.list (CTs.cons (CT.int IntKind.u64) CTs.nil)]
        (Option (List UInt8 × Unit)))
    (t t_1 : Int64) (b : List UInt8) (t_2 : List UInt64) =>
  oite (decide (t_1 < t))
    (oite (decide ((0 : Int) ≤ Int64.toInt t_1) && Nat.blt (Int.toNat (Int64.toInt t_1)) (List.length t_2))
      (obind t_2[Int.toNat (Int64.toInt t_1)]? fun (x_1 : UInt64) =>
        obind (F15 n x_1) fun (x_2 : List UInt8 × Unit) =>
          oite (Nat.ble (List.length b + List.length (Prod.fst x_2)) (4294967296 : Nat))
            (rec t (t_1 + (1 : Int64)) (b ++ Prod.fst x_2) t_2) none)
      none)
    (J b)
def F9_R957 : Nat →
  Arr [PT.list (CTs.cons (CT.int IntKind.u8) CTs.nil)] (Option (List UInt8 × Unit)) →
    Nat → PT.T (PT.int IntKind.i64) → Int64 → List UInt8 → List UInt64 → Option (List UInt8 × Unit) := fun (n : Nat) (J : Arr [PT.list (CTs.cons (CT.int IntKind.u8) CTs.nil)] (Option (List UInt8 × Unit))) =>
  ofixA (957 : Nat)
    [PT.int IntKind.i64, PT.int IntKind.i64, PT.list (CTs.cons (CT.int IntKind.u8) CTs.nil),
      PT.list (CTs.cons (CT.int IntKind.u64) CTs.nil)]
    (F9_L957 n J)
def F9 : Nat →
  UInt8 ×
      UInt8 ×
        UInt8 ×
          UInt64 ×
            UInt64 ×
              Bool ×
                UInt8 ×
                  UInt64 ×
                    UInt64 ×
                      List UInt8 ×
                        List (List UInt8 × List UInt8) ×
                          UInt8 × UInt8 × Int64 × UInt8 × UInt8 × UInt64 × UInt64 × UInt64 × UInt64 × UInt64 →
    Option (List UInt8 × Unit) := fun (n : Nat)
    (x :
      UInt8 ×
        UInt8 ×
          UInt8 ×
            UInt64 ×
              UInt64 ×
                Bool ×
                  UInt8 ×
                    UInt64 ×
                      UInt64 ×
                        List UInt8 ×
                          List (List UInt8 × List UInt8) ×
                            UInt8 × UInt8 × Int64 × UInt8 × UInt8 × UInt64 × UInt64 × UInt64 × UInt64 × UInt64) =>
  ojoinA (7 : Nat) [PT.list (CTs.cons (CT.int IntKind.u8) CTs.nil)]
    (fun (J : Arr [PT.list (CTs.cons (CT.int IntKind.u8) CTs.nil)] (Option (List UInt8 × Unit))) =>
      oite (decide (Prod.fst x = (1 : UInt8)))
        (obind (F15 n (Prod.fst (Prod.snd (Prod.snd (Prod.snd x))))) fun (x_1 : List UInt8 × Unit) =>
          oite
            (Nat.ble
              (List.length [(183 : UInt8), Prod.fst x, Prod.fst (Prod.snd x), Prod.fst (Prod.snd (Prod.snd x))] +
                List.length (Prod.fst x_1))
              (4294967296 : Nat))
            (obind (F15 n (Prod.fst (Prod.snd (Prod.snd (Prod.snd (Prod.snd x)))))) fun (x_2 : List UInt8 × Unit) =>
              oite
                (Nat.ble
                  (List.length
                      ([(183 : UInt8), Prod.fst x, Prod.fst (Prod.snd x), Prod.fst (Prod.snd (Prod.snd x))] ++
                        Prod.fst x_1) +
                    List.length (Prod.fst x_2))
                  (4294967296 : Nat))
                (obind
                  (F16 n
                    (Prod.fst (Prod.snd (Prod.snd (Prod.snd (Prod.snd (Prod.snd x))))),
                      Prod.fst (Prod.snd (Prod.snd (Prod.snd (Prod.snd (Prod.snd (Prod.snd x)))))),
                      Prod.fst (Prod.snd (Prod.snd (Prod.snd (Prod.snd (Prod.snd (Prod.snd (Prod.snd x))))))),
                      Prod.fst
                        (Prod.snd (Prod.snd (Prod.snd (Prod.snd (Prod.snd (Prod.snd (Prod.snd (Prod.snd x)))))))),
                      Prod.fst
                        (Prod.snd
                          (Prod.snd (Prod.snd (Prod.snd (Prod.snd (Prod.snd (Prod.snd (Prod.snd (Prod.snd x))))))))),
                      Prod.fst
                        (Prod.snd
                          (Prod.snd
                            (Prod.snd (Prod.snd (Prod.snd (Prod.snd (Prod.snd (Prod.snd (Prod.snd (Prod.snd x)))))))))),
                      Prod.fst
                        (Prod.snd
                          (Prod.snd
                            (Prod.snd
                              (Prod.snd
                                (Prod.snd (Prod.snd (Prod.snd (Prod.snd (Prod.snd (Prod.snd (Prod.snd x))))))))))),
                      Prod.fst
                        (Prod.snd
                          (Prod.snd
                            (Prod.snd
                              (Prod.snd
                                (Prod.snd
                                  (Prod.snd (Prod.snd (Prod.snd (Prod.snd (Prod.snd (Prod.snd (Prod.snd x)))))))))))),
                      Prod.fst
                        (Prod.snd
                          (Prod.snd
                            (Prod.snd
                              (Prod.snd
                                (Prod.snd
                                  (Prod.snd
                                    (Prod.snd
                                      (Prod.snd (Prod.snd (Prod.snd (Prod.snd (Prod.snd (Prod.snd x))))))))))))),
                      Prod.fst
                        (Prod.snd
                          (Prod.snd
                            (Prod.snd
                              (Prod.snd
                                (Prod.snd
                                  (Prod.snd
                                    (Prod.snd
                                      (Prod.snd
                                        (Prod.snd (Prod.snd (Prod.snd (Prod.snd (Prod.snd (Prod.snd x)))))))))))))),
                      Prod.fst
                        (Prod.snd
                          (Prod.snd
                            (Prod.snd
                              (Prod.snd
                                (Prod.snd
                                  (Prod.snd
                                    (Prod.snd
                                      (Prod.snd
                                        (Prod.snd
                                          (Prod.snd (Prod.snd (Prod.snd (Prod.snd (Prod.snd (Prod.snd x))))))))))))))),
                      Prod.fst
                        (Prod.snd
                          (Prod.snd
                            (Prod.snd
                              (Prod.snd
                                (Prod.snd
                                  (Prod.snd
                                    (Prod.snd
                                      (Prod.snd
                                        (Prod.snd
                                          (Prod.snd
                                            (Prod.snd
                                              (Prod.snd (Prod.snd (Prod.snd (Prod.snd (Prod.snd x)))))))))))))))),
                      Prod.fst
                        (Prod.snd
                          (Prod.snd
                            (Prod.snd
                              (Prod.snd
                                (Prod.snd
                                  (Prod.snd
                                    (Prod.snd
                                      (Prod.snd
                                        (Prod.snd
                                          (Prod.snd
                                            (Prod.snd
                                              (Prod.snd
                                                (Prod.snd (Prod.snd (Prod.snd (Prod.snd (Prod.snd x)))))))))))))))))))
                  fun (x_3 : List UInt8 × Unit) =>
                  oite
                    (Nat.ble
                      (List.length
                          ([(183 : UInt8), Prod.fst x, Prod.fst (Prod.snd x), Prod.fst (Prod.snd (Prod.snd x))] ++
                              Prod.fst x_1 ++
                            Prod.fst x_2) +
                        List.length (Prod.fst x_3))
                      (4294967296 : Nat))
                    (J
                      ([(183 : UInt8), Prod.fst x, Prod.fst (Prod.snd x), Prod.fst (Prod.snd (Prod.snd x))] ++
                            Prod.fst x_1 ++
                          Prod.fst x_2 ++
                        Prod.fst x_3))
                    none)
                none)
            none)
        (oite (decide (Prod.fst x = (2 : UInt8)))
          (F9_R957 n J n
            (Int64.ofInt
              ↑(List.length
                  [Prod.fst (Prod.snd (Prod.snd (Prod.snd x))),
                    Prod.fst
                      (Prod.snd
                        (Prod.snd
                          (Prod.snd
                            (Prod.snd
                              (Prod.snd
                                (Prod.snd
                                  (Prod.snd
                                    (Prod.snd
                                      (Prod.snd
                                        (Prod.snd
                                          (Prod.snd
                                            (Prod.snd
                                              (Prod.snd
                                                (Prod.snd (Prod.snd (Prod.snd (Prod.snd (Prod.snd x)))))))))))))))))),
                    Prod.fst
                      (Prod.snd
                        (Prod.snd
                          (Prod.snd
                            (Prod.snd
                              (Prod.snd
                                (Prod.snd
                                  (Prod.snd
                                    (Prod.snd
                                      (Prod.snd
                                        (Prod.snd
                                          (Prod.snd
                                            (Prod.snd
                                              (Prod.snd
                                                (Prod.snd
                                                  (Prod.snd
                                                    (Prod.snd (Prod.snd (Prod.snd (Prod.snd x))))))))))))))))))),
                    Prod.snd
                      (Prod.snd
                        (Prod.snd
                          (Prod.snd
                            (Prod.snd
                              (Prod.snd
                                (Prod.snd
                                  (Prod.snd
                                    (Prod.snd
                                      (Prod.snd
                                        (Prod.snd
                                          (Prod.snd
                                            (Prod.snd
                                              (Prod.snd
                                                (Prod.snd
                                                  (Prod.snd
                                                    (Prod.snd (Prod.snd (Prod.snd (Prod.snd x)))))))))))))))))))]))
            (0 : Int64) [(183 : UInt8), Prod.fst x, Prod.fst (Prod.snd x), Prod.fst (Prod.snd (Prod.snd x))]
            [Prod.fst (Prod.snd (Prod.snd (Prod.snd x))),
              Prod.fst
                (Prod.snd
                  (Prod.snd
                    (Prod.snd
                      (Prod.snd
                        (Prod.snd
                          (Prod.snd
                            (Prod.snd
                              (Prod.snd
                                (Prod.snd
                                  (Prod.snd
                                    (Prod.snd
                                      (Prod.snd
                                        (Prod.snd (Prod.snd (Prod.snd (Prod.snd (Prod.snd (Prod.snd x)))))))))))))))))),
              Prod.fst
                (Prod.snd
                  (Prod.snd
                    (Prod.snd
                      (Prod.snd
                        (Prod.snd
                          (Prod.snd
                            (Prod.snd
                              (Prod.snd
                                (Prod.snd
                                  (Prod.snd
                                    (Prod.snd
                                      (Prod.snd
                                        (Prod.snd
                                          (Prod.snd
                                            (Prod.snd (Prod.snd (Prod.snd (Prod.snd (Prod.snd x))))))))))))))))))),
              Prod.snd
                (Prod.snd
                  (Prod.snd
                    (Prod.snd
                      (Prod.snd
                        (Prod.snd
                          (Prod.snd
                            (Prod.snd
                              (Prod.snd
                                (Prod.snd
                                  (Prod.snd
                                    (Prod.snd
                                      (Prod.snd
                                        (Prod.snd
                                          (Prod.snd
                                            (Prod.snd (Prod.snd (Prod.snd (Prod.snd (Prod.snd x)))))))))))))))))))])
          (J [(183 : UInt8), Prod.fst x, Prod.fst (Prod.snd x), Prod.fst (Prod.snd (Prod.snd x))])))
    (F9_J7 n)
theorem F9_R957_s (n : Nat) (J : Arr [PT.list (CTs.cons (CT.int IntKind.u8) CTs.nil)] (Option (List UInt8 × Unit))) (m_ : Nat) : F9_R957 n J (m_ + 1) = F9_L957 n J (F9_R957 n J m_) := rfl
theorem ok9 (n : Nat) : FunOK Try.prog ⟨9, sig9, F9 n⟩ :=
  fun_ok (hints := ⟨[(7, ⟨[(3, .one (.own 1))], [(1, .row (.cons (.int .u8) .nil))], 2⟩)], [(957, ⟨[(3, .one (.own 1)), (40, .one (.own 2)), (41, .one (.int .i64)), (42, .one (.int .i64))], [(1, .row (.cons (.int .u8) .nil)), (2, .row (.cons (.int .u64) .nil))], 3⟩)]⟩) (fuel := n) (c := Try.f9.body.getD .skip) (rs := Try.f9.results.toList) tt_ok mix (FsOK.cons (ok15 n) (FsOK.cons (ok16 n) (FsOK.cons (ok1018 n) (FsOK.cons (ok18 n) (FsOK.cons (ok17 n) (FsOK.nil)))))) Try.func9 (by kernel_rfl) (by kernel_rfl) rfl (by kernel_rfl) rfl rfl (by kernel_rfl)
-- watchfire/watchfirelaw05.FrameSame
def sig3 : Sig := ⟨(.cons (.agg (.cons (.int .u8) (.cons (.int .u8) (.cons (.int .u8) (.cons (.int .u16) (.cons (.int .u16) (.cons (.int .u16) (.cons (.int .u16) (.cons (.int .u64) (.cons .bool (.cons (.int .u8) (.cons (.int .u8) (.cons (.int .u8) (.cons (.int .u16) (.cons (.int .u16) (.cons (.int .u16) (.cons (.int .u8) (.cons (.int .u8) (.cons (.int .u8) (.cons .bool .nil)))))))))))))))))))) (.cons (.agg (.cons (.int .u8) (.cons (.int .u8) (.cons (.int .u8) (.cons (.int .u16) (.cons (.int .u16) (.cons (.int .u16) (.cons (.int .u16) (.cons (.int .u64) (.cons .bool (.cons (.int .u8) (.cons (.int .u8) (.cons (.int .u8) (.cons (.int .u16) (.cons (.int .u16) (.cons (.int .u16) (.cons (.int .u8) (.cons (.int .u8) (.cons (.int .u8) (.cons .bool .nil)))))))))))))))))))) .nil)), (.cons (.one (.c .bool)) .nil)⟩
def F3 : Nat →
  (UInt8 ×
        UInt8 ×
          UInt8 ×
            UInt16 ×
              UInt16 ×
                UInt16 ×
                  UInt16 ×
                    UInt64 × Bool × UInt8 × UInt8 × UInt8 × UInt16 × UInt16 × UInt16 × UInt8 × UInt8 × UInt8 × Bool) ×
      UInt8 ×
        UInt8 ×
          UInt8 ×
            UInt16 ×
              UInt16 ×
                UInt16 ×
                  UInt16 ×
                    UInt64 × Bool × UInt8 × UInt8 × UInt8 × UInt16 × UInt16 × UInt16 × UInt8 × UInt8 × UInt8 × Bool →
    Option (Bool × Unit) := fun (n : Nat)
    (x :
      (UInt8 ×
          UInt8 ×
            UInt8 ×
              UInt16 ×
                UInt16 ×
                  UInt16 ×
                    UInt16 ×
                      UInt64 × Bool × UInt8 × UInt8 × UInt8 × UInt16 × UInt16 × UInt16 × UInt8 × UInt8 × UInt8 × Bool) ×
        UInt8 ×
          UInt8 ×
            UInt8 ×
              UInt16 ×
                UInt16 ×
                  UInt16 ×
                    UInt16 ×
                      UInt64 ×
                        Bool × UInt8 × UInt8 × UInt8 × UInt16 × UInt16 × UInt16 × UInt8 × UInt8 × UInt8 × Bool) =>
  obind (F6 n ()) fun (x_1 : Bool × Unit) =>
    oite (!Prod.fst x_1) (some (false, ()))
      (obind
        (F7 n
          (Prod.fst (Prod.fst x), Prod.fst (Prod.snd (Prod.fst x)), Prod.fst (Prod.snd (Prod.snd (Prod.fst x))),
            Prod.fst (Prod.snd (Prod.snd (Prod.snd (Prod.fst x)))),
            Prod.fst (Prod.snd (Prod.snd (Prod.snd (Prod.snd (Prod.fst x))))),
            Prod.fst (Prod.snd (Prod.snd (Prod.snd (Prod.snd (Prod.snd (Prod.fst x)))))),
            Prod.fst (Prod.snd (Prod.snd (Prod.snd (Prod.snd (Prod.snd (Prod.snd (Prod.fst x))))))),
            Prod.fst (Prod.snd (Prod.snd (Prod.snd (Prod.snd (Prod.snd (Prod.snd (Prod.snd (Prod.fst x)))))))),
            Prod.fst
              (Prod.snd (Prod.snd (Prod.snd (Prod.snd (Prod.snd (Prod.snd (Prod.snd (Prod.snd (Prod.fst x))))))))),
            Prod.fst
              (Prod.snd
                (Prod.snd (Prod.snd (Prod.snd (Prod.snd (Prod.snd (Prod.snd (Prod.snd (Prod.snd (Prod.fst x)))))))))),
            Prod.fst
              (Prod.snd
                (Prod.snd
                  (Prod.snd
                    (Prod.snd (Prod.snd (Prod.snd (Prod.snd (Prod.snd (Prod.snd (Prod.snd (Prod.fst x))))))))))),
            Prod.fst
              (Prod.snd
                (Prod.snd
                  (Prod.snd
                    (Prod.snd
                      (Prod.snd (Prod.snd (Prod.snd (Prod.snd (Prod.snd (Prod.snd (Prod.snd (Prod.fst x)))))))))))),
            Prod.fst
              (Prod.snd
                (Prod.snd
                  (Prod.snd
                    (Prod.snd
                      (Prod.snd
                        (Prod.snd (Prod.snd (Prod.snd (Prod.snd (Prod.snd (Prod.snd (Prod.snd (Prod.fst x))))))))))))),
            Prod.fst
              (Prod.snd
                (Prod.snd
                  (Prod.snd
                    (Prod.snd
                      (Prod.snd
                        (Prod.snd
                          (Prod.snd
                            (Prod.snd (Prod.snd (Prod.snd (Prod.snd (Prod.snd (Prod.snd (Prod.fst x)))))))))))))),
            Prod.fst
              (Prod.snd
                (Prod.snd
                  (Prod.snd
                    (Prod.snd
                      (Prod.snd
                        (Prod.snd
                          (Prod.snd
                            (Prod.snd
                              (Prod.snd (Prod.snd (Prod.snd (Prod.snd (Prod.snd (Prod.snd (Prod.fst x))))))))))))))),
            Prod.fst
              (Prod.snd
                (Prod.snd
                  (Prod.snd
                    (Prod.snd
                      (Prod.snd
                        (Prod.snd
                          (Prod.snd
                            (Prod.snd
                              (Prod.snd
                                (Prod.snd (Prod.snd (Prod.snd (Prod.snd (Prod.snd (Prod.snd (Prod.fst x)))))))))))))))),
            Prod.fst
              (Prod.snd
                (Prod.snd
                  (Prod.snd
                    (Prod.snd
                      (Prod.snd
                        (Prod.snd
                          (Prod.snd
                            (Prod.snd
                              (Prod.snd
                                (Prod.snd
                                  (Prod.snd
                                    (Prod.snd (Prod.snd (Prod.snd (Prod.snd (Prod.snd (Prod.fst x))))))))))))))))),
            Prod.fst
              (Prod.snd
                (Prod.snd
                  (Prod.snd
                    (Prod.snd
                      (Prod.snd
                        (Prod.snd
                          (Prod.snd
                            (Prod.snd
                              (Prod.snd
                                (Prod.snd
                                  (Prod.snd
                                    (Prod.snd
                                      (Prod.snd (Prod.snd (Prod.snd (Prod.snd (Prod.snd (Prod.fst x)))))))))))))))))),
            Prod.snd
              (Prod.snd
                (Prod.snd
                  (Prod.snd
                    (Prod.snd
                      (Prod.snd
                        (Prod.snd
                          (Prod.snd
                            (Prod.snd
                              (Prod.snd
                                (Prod.snd
                                  (Prod.snd
                                    (Prod.snd
                                      (Prod.snd (Prod.snd (Prod.snd (Prod.snd (Prod.snd (Prod.fst x))))))))))))))))))))
        fun
          (x_2 :
            (UInt8 ×
                UInt8 ×
                  UInt8 ×
                    UInt64 ×
                      UInt64 ×
                        Bool ×
                          UInt8 ×
                            UInt64 ×
                              UInt64 ×
                                List UInt8 ×
                                  List (List UInt8 × List UInt8) ×
                                    UInt8 ×
                                      UInt8 × Int64 × UInt8 × UInt8 × UInt64 × UInt64 × UInt64 × UInt64 × UInt64) ×
              Unit) =>
        obind
          (F7 n
            (Prod.fst (Prod.snd x), Prod.fst (Prod.snd (Prod.snd x)), Prod.fst (Prod.snd (Prod.snd (Prod.snd x))),
              Prod.fst (Prod.snd (Prod.snd (Prod.snd (Prod.snd x)))),
              Prod.fst (Prod.snd (Prod.snd (Prod.snd (Prod.snd (Prod.snd x))))),
              Prod.fst (Prod.snd (Prod.snd (Prod.snd (Prod.snd (Prod.snd (Prod.snd x)))))),
              Prod.fst (Prod.snd (Prod.snd (Prod.snd (Prod.snd (Prod.snd (Prod.snd (Prod.snd x))))))),
              Prod.fst (Prod.snd (Prod.snd (Prod.snd (Prod.snd (Prod.snd (Prod.snd (Prod.snd (Prod.snd x)))))))),
              Prod.fst
                (Prod.snd (Prod.snd (Prod.snd (Prod.snd (Prod.snd (Prod.snd (Prod.snd (Prod.snd (Prod.snd x))))))))),
              Prod.fst
                (Prod.snd
                  (Prod.snd (Prod.snd (Prod.snd (Prod.snd (Prod.snd (Prod.snd (Prod.snd (Prod.snd (Prod.snd x)))))))))),
              Prod.fst
                (Prod.snd
                  (Prod.snd
                    (Prod.snd
                      (Prod.snd (Prod.snd (Prod.snd (Prod.snd (Prod.snd (Prod.snd (Prod.snd (Prod.snd x))))))))))),
              Prod.fst
                (Prod.snd
                  (Prod.snd
                    (Prod.snd
                      (Prod.snd
                        (Prod.snd (Prod.snd (Prod.snd (Prod.snd (Prod.snd (Prod.snd (Prod.snd (Prod.snd x)))))))))))),
              Prod.fst
                (Prod.snd
                  (Prod.snd
                    (Prod.snd
                      (Prod.snd
                        (Prod.snd
                          (Prod.snd
                            (Prod.snd (Prod.snd (Prod.snd (Prod.snd (Prod.snd (Prod.snd (Prod.snd x))))))))))))),
              Prod.fst
                (Prod.snd
                  (Prod.snd
                    (Prod.snd
                      (Prod.snd
                        (Prod.snd
                          (Prod.snd
                            (Prod.snd
                              (Prod.snd (Prod.snd (Prod.snd (Prod.snd (Prod.snd (Prod.snd (Prod.snd x)))))))))))))),
              Prod.fst
                (Prod.snd
                  (Prod.snd
                    (Prod.snd
                      (Prod.snd
                        (Prod.snd
                          (Prod.snd
                            (Prod.snd
                              (Prod.snd
                                (Prod.snd (Prod.snd (Prod.snd (Prod.snd (Prod.snd (Prod.snd (Prod.snd x))))))))))))))),
              Prod.fst
                (Prod.snd
                  (Prod.snd
                    (Prod.snd
                      (Prod.snd
                        (Prod.snd
                          (Prod.snd
                            (Prod.snd
                              (Prod.snd
                                (Prod.snd
                                  (Prod.snd
                                    (Prod.snd (Prod.snd (Prod.snd (Prod.snd (Prod.snd (Prod.snd x)))))))))))))))),
              Prod.fst
                (Prod.snd
                  (Prod.snd
                    (Prod.snd
                      (Prod.snd
                        (Prod.snd
                          (Prod.snd
                            (Prod.snd
                              (Prod.snd
                                (Prod.snd
                                  (Prod.snd
                                    (Prod.snd
                                      (Prod.snd (Prod.snd (Prod.snd (Prod.snd (Prod.snd (Prod.snd x))))))))))))))))),
              Prod.fst
                (Prod.snd
                  (Prod.snd
                    (Prod.snd
                      (Prod.snd
                        (Prod.snd
                          (Prod.snd
                            (Prod.snd
                              (Prod.snd
                                (Prod.snd
                                  (Prod.snd
                                    (Prod.snd
                                      (Prod.snd
                                        (Prod.snd (Prod.snd (Prod.snd (Prod.snd (Prod.snd (Prod.snd x)))))))))))))))))),
              Prod.snd
                (Prod.snd
                  (Prod.snd
                    (Prod.snd
                      (Prod.snd
                        (Prod.snd
                          (Prod.snd
                            (Prod.snd
                              (Prod.snd
                                (Prod.snd
                                  (Prod.snd
                                    (Prod.snd
                                      (Prod.snd
                                        (Prod.snd
                                          (Prod.snd (Prod.snd (Prod.snd (Prod.snd (Prod.snd x))))))))))))))))))))
          fun
            (x_3 :
              (UInt8 ×
                  UInt8 ×
                    UInt8 ×
                      UInt64 ×
                        UInt64 ×
                          Bool ×
                            UInt8 ×
                              UInt64 ×
                                UInt64 ×
                                  List UInt8 ×
                                    List (List UInt8 × List UInt8) ×
                                      UInt8 ×
                                        UInt8 × Int64 × UInt8 × UInt8 × UInt64 × UInt64 × UInt64 × UInt64 × UInt64) ×
                Unit) =>
          obind
            (F8 n
              ((Prod.fst (Prod.fst x_2), Prod.fst (Prod.snd (Prod.fst x_2)),
                  Prod.fst (Prod.snd (Prod.snd (Prod.fst x_2))),
                  Prod.fst (Prod.snd (Prod.snd (Prod.snd (Prod.fst x_2)))),
                  Prod.fst (Prod.snd (Prod.snd (Prod.snd (Prod.snd (Prod.fst x_2))))),
                  Prod.fst (Prod.snd (Prod.snd (Prod.snd (Prod.snd (Prod.snd (Prod.fst x_2)))))),
                  Prod.fst (Prod.snd (Prod.snd (Prod.snd (Prod.snd (Prod.snd (Prod.snd (Prod.fst x_2))))))),
                  Prod.fst (Prod.snd (Prod.snd (Prod.snd (Prod.snd (Prod.snd (Prod.snd (Prod.snd (Prod.fst x_2)))))))),
                  Prod.fst
                    (Prod.snd
                      (Prod.snd (Prod.snd (Prod.snd (Prod.snd (Prod.snd (Prod.snd (Prod.snd (Prod.fst x_2))))))))),
                  Prod.fst
                    (Prod.snd
                      (Prod.snd
                        (Prod.snd (Prod.snd (Prod.snd (Prod.snd (Prod.snd (Prod.snd (Prod.snd (Prod.fst x_2)))))))))),
                  Prod.fst
                    (Prod.snd
                      (Prod.snd
                        (Prod.snd
                          (Prod.snd
                            (Prod.snd (Prod.snd (Prod.snd (Prod.snd (Prod.snd (Prod.snd (Prod.fst x_2))))))))))),
                  Prod.fst
                    (Prod.snd
                      (Prod.snd
                        (Prod.snd
                          (Prod.snd
                            (Prod.snd
                              (Prod.snd (Prod.snd (Prod.snd (Prod.snd (Prod.snd (Prod.snd (Prod.fst x_2)))))))))))),
                  Prod.fst
                    (Prod.snd
                      (Prod.snd
                        (Prod.snd
                          (Prod.snd
                            (Prod.snd
                              (Prod.snd
                                (Prod.snd (Prod.snd (Prod.snd (Prod.snd (Prod.snd (Prod.snd (Prod.fst x_2))))))))))))),
                  Prod.fst
                    (Prod.snd
                      (Prod.snd
                        (Prod.snd
                          (Prod.snd
                            (Prod.snd
                              (Prod.snd
                                (Prod.snd
                                  (Prod.snd
                                    (Prod.snd (Prod.snd (Prod.snd (Prod.snd (Prod.snd (Prod.fst x_2)))))))))))))),
                  Prod.fst
                    (Prod.snd
                      (Prod.snd
                        (Prod.snd
                          (Prod.snd
                            (Prod.snd
                              (Prod.snd
                                (Prod.snd
                                  (Prod.snd
                                    (Prod.snd
                                      (Prod.snd (Prod.snd (Prod.snd (Prod.snd (Prod.snd (Prod.fst x_2))))))))))))))),
                  Prod.fst
                    (Prod.snd
                      (Prod.snd
                        (Prod.snd
                          (Prod.snd
                            (Prod.snd
                              (Prod.snd
                                (Prod.snd
                                  (Prod.snd
                                    (Prod.snd
                                      (Prod.snd
                                        (Prod.snd (Prod.snd (Prod.snd (Prod.snd (Prod.snd (Prod.fst x_2)))))))))))))))),
                  Prod.fst
                    (Prod.snd
                      (Prod.snd
                        (Prod.snd
                          (Prod.snd
                            (Prod.snd
                              (Prod.snd
                                (Prod.snd
                                  (Prod.snd
                                    (Prod.snd
                                      (Prod.snd
                                        (Prod.snd
                                          (Prod.snd
                                            (Prod.snd (Prod.snd (Prod.snd (Prod.snd (Prod.fst x_2))))))))))))))))),
                  Prod.fst
                    (Prod.snd
                      (Prod.snd
                        (Prod.snd
                          (Prod.snd
                            (Prod.snd
                              (Prod.snd
                                (Prod.snd
                                  (Prod.snd
                                    (Prod.snd
                                      (Prod.snd
                                        (Prod.snd
                                          (Prod.snd
                                            (Prod.snd
                                              (Prod.snd (Prod.snd (Prod.snd (Prod.snd (Prod.fst x_2)))))))))))))))))),
                  Prod.fst
                    (Prod.snd
                      (Prod.snd
                        (Prod.snd
                          (Prod.snd
                            (Prod.snd
                              (Prod.snd
                                (Prod.snd
                                  (Prod.snd
                                    (Prod.snd
                                      (Prod.snd
                                        (Prod.snd
                                          (Prod.snd
                                            (Prod.snd
                                              (Prod.snd
                                                (Prod.snd
                                                  (Prod.snd (Prod.snd (Prod.snd (Prod.fst x_2))))))))))))))))))),
                  Prod.fst
                    (Prod.snd
                      (Prod.snd
                        (Prod.snd
                          (Prod.snd
                            (Prod.snd
                              (Prod.snd
                                (Prod.snd
                                  (Prod.snd
                                    (Prod.snd
                                      (Prod.snd
                                        (Prod.snd
                                          (Prod.snd
                                            (Prod.snd
                                              (Prod.snd
                                                (Prod.snd
                                                  (Prod.snd
                                                    (Prod.snd (Prod.snd (Prod.snd (Prod.fst x_2)))))))))))))))))))),
                  Prod.snd
                    (Prod.snd
                      (Prod.snd
                        (Prod.snd
                          (Prod.snd
                            (Prod.snd
                              (Prod.snd
                                (Prod.snd
                                  (Prod.snd
                                    (Prod.snd
                                      (Prod.snd
                                        (Prod.snd
                                          (Prod.snd
                                            (Prod.snd
                                              (Prod.snd
                                                (Prod.snd
                                                  (Prod.snd
                                                    (Prod.snd (Prod.snd (Prod.snd (Prod.fst x_2))))))))))))))))))))),
                Prod.fst (Prod.fst x_3), Prod.fst (Prod.snd (Prod.fst x_3)),
                Prod.fst (Prod.snd (Prod.snd (Prod.fst x_3))), Prod.fst (Prod.snd (Prod.snd (Prod.snd (Prod.fst x_3)))),
                Prod.fst (Prod.snd (Prod.snd (Prod.snd (Prod.snd (Prod.fst x_3))))),
                Prod.fst (Prod.snd (Prod.snd (Prod.snd (Prod.snd (Prod.snd (Prod.fst x_3)))))),
                Prod.fst (Prod.snd (Prod.snd (Prod.snd (Prod.snd (Prod.snd (Prod.snd (Prod.fst x_3))))))),
                Prod.fst (Prod.snd (Prod.snd (Prod.snd (Prod.snd (Prod.snd (Prod.snd (Prod.snd (Prod.fst x_3)))))))),
                Prod.fst
                  (Prod.snd
                    (Prod.snd (Prod.snd (Prod.snd (Prod.snd (Prod.snd (Prod.snd (Prod.snd (Prod.fst x_3))))))))),
                Prod.fst
                  (Prod.snd
                    (Prod.snd
                      (Prod.snd (Prod.snd (Prod.snd (Prod.snd (Prod.snd (Prod.snd (Prod.snd (Prod.fst x_3)))))))))),
                Prod.fst
                  (Prod.snd
                    (Prod.snd
                      (Prod.snd
                        (Prod.snd (Prod.snd (Prod.snd (Prod.snd (Prod.snd (Prod.snd (Prod.snd (Prod.fst x_3))))))))))),
                Prod.fst
                  (Prod.snd
                    (Prod.snd
                      (Prod.snd
                        (Prod.snd
                          (Prod.snd
                            (Prod.snd (Prod.snd (Prod.snd (Prod.snd (Prod.snd (Prod.snd (Prod.fst x_3)))))))))))),
                Prod.fst
                  (Prod.snd
                    (Prod.snd
                      (Prod.snd
                        (Prod.snd
                          (Prod.snd
                            (Prod.snd
                              (Prod.snd (Prod.snd (Prod.snd (Prod.snd (Prod.snd (Prod.snd (Prod.fst x_3))))))))))))),
                Prod.fst
                  (Prod.snd
                    (Prod.snd
                      (Prod.snd
                        (Prod.snd
                          (Prod.snd
                            (Prod.snd
                              (Prod.snd
                                (Prod.snd (Prod.snd (Prod.snd (Prod.snd (Prod.snd (Prod.snd (Prod.fst x_3)))))))))))))),
                Prod.fst
                  (Prod.snd
                    (Prod.snd
                      (Prod.snd
                        (Prod.snd
                          (Prod.snd
                            (Prod.snd
                              (Prod.snd
                                (Prod.snd
                                  (Prod.snd
                                    (Prod.snd (Prod.snd (Prod.snd (Prod.snd (Prod.snd (Prod.fst x_3))))))))))))))),
                Prod.fst
                  (Prod.snd
                    (Prod.snd
                      (Prod.snd
                        (Prod.snd
                          (Prod.snd
                            (Prod.snd
                              (Prod.snd
                                (Prod.snd
                                  (Prod.snd
                                    (Prod.snd
                                      (Prod.snd (Prod.snd (Prod.snd (Prod.snd (Prod.snd (Prod.fst x_3)))))))))))))))),
                Prod.fst
                  (Prod.snd
                    (Prod.snd
                      (Prod.snd
                        (Prod.snd
                          (Prod.snd
                            (Prod.snd
                              (Prod.snd
                                (Prod.snd
                                  (Prod.snd
                                    (Prod.snd
                                      (Prod.snd
                                        (Prod.snd
                                          (Prod.snd (Prod.snd (Prod.snd (Prod.snd (Prod.fst x_3))))))))))))))))),
                Prod.fst
                  (Prod.snd
                    (Prod.snd
                      (Prod.snd
                        (Prod.snd
                          (Prod.snd
                            (Prod.snd
                              (Prod.snd
                                (Prod.snd
                                  (Prod.snd
                                    (Prod.snd
                                      (Prod.snd
                                        (Prod.snd
                                          (Prod.snd
                                            (Prod.snd (Prod.snd (Prod.snd (Prod.snd (Prod.fst x_3)))))))))))))))))),
                Prod.fst
                  (Prod.snd
                    (Prod.snd
                      (Prod.snd
                        (Prod.snd
                          (Prod.snd
                            (Prod.snd
                              (Prod.snd
                                (Prod.snd
                                  (Prod.snd
                                    (Prod.snd
                                      (Prod.snd
                                        (Prod.snd
                                          (Prod.snd
                                            (Prod.snd
                                              (Prod.snd (Prod.snd (Prod.snd (Prod.snd (Prod.fst x_3))))))))))))))))))),
                Prod.fst
                  (Prod.snd
                    (Prod.snd
                      (Prod.snd
                        (Prod.snd
                          (Prod.snd
                            (Prod.snd
                              (Prod.snd
                                (Prod.snd
                                  (Prod.snd
                                    (Prod.snd
                                      (Prod.snd
                                        (Prod.snd
                                          (Prod.snd
                                            (Prod.snd
                                              (Prod.snd
                                                (Prod.snd
                                                  (Prod.snd (Prod.snd (Prod.snd (Prod.fst x_3)))))))))))))))))))),
                Prod.snd
                  (Prod.snd
                    (Prod.snd
                      (Prod.snd
                        (Prod.snd
                          (Prod.snd
                            (Prod.snd
                              (Prod.snd
                                (Prod.snd
                                  (Prod.snd
                                    (Prod.snd
                                      (Prod.snd
                                        (Prod.snd
                                          (Prod.snd
                                            (Prod.snd
                                              (Prod.snd
                                                (Prod.snd
                                                  (Prod.snd (Prod.snd (Prod.snd (Prod.fst x_3))))))))))))))))))))))
            fun (x_4 : Bool × Unit) =>
            obind
              (F9 n
                (Prod.fst (Prod.fst x_2), Prod.fst (Prod.snd (Prod.fst x_2)),
                  Prod.fst (Prod.snd (Prod.snd (Prod.fst x_2))),
                  Prod.fst (Prod.snd (Prod.snd (Prod.snd (Prod.fst x_2)))),
                  Prod.fst (Prod.snd (Prod.snd (Prod.snd (Prod.snd (Prod.fst x_2))))),
                  Prod.fst (Prod.snd (Prod.snd (Prod.snd (Prod.snd (Prod.snd (Prod.fst x_2)))))),
                  Prod.fst (Prod.snd (Prod.snd (Prod.snd (Prod.snd (Prod.snd (Prod.snd (Prod.fst x_2))))))),
                  Prod.fst (Prod.snd (Prod.snd (Prod.snd (Prod.snd (Prod.snd (Prod.snd (Prod.snd (Prod.fst x_2)))))))),
                  Prod.fst
                    (Prod.snd
                      (Prod.snd (Prod.snd (Prod.snd (Prod.snd (Prod.snd (Prod.snd (Prod.snd (Prod.fst x_2))))))))),
                  Prod.fst
                    (Prod.snd
                      (Prod.snd
                        (Prod.snd (Prod.snd (Prod.snd (Prod.snd (Prod.snd (Prod.snd (Prod.snd (Prod.fst x_2)))))))))),
                  Prod.fst
                    (Prod.snd
                      (Prod.snd
                        (Prod.snd
                          (Prod.snd
                            (Prod.snd (Prod.snd (Prod.snd (Prod.snd (Prod.snd (Prod.snd (Prod.fst x_2))))))))))),
                  Prod.fst
                    (Prod.snd
                      (Prod.snd
                        (Prod.snd
                          (Prod.snd
                            (Prod.snd
                              (Prod.snd (Prod.snd (Prod.snd (Prod.snd (Prod.snd (Prod.snd (Prod.fst x_2)))))))))))),
                  Prod.fst
                    (Prod.snd
                      (Prod.snd
                        (Prod.snd
                          (Prod.snd
                            (Prod.snd
                              (Prod.snd
                                (Prod.snd (Prod.snd (Prod.snd (Prod.snd (Prod.snd (Prod.snd (Prod.fst x_2))))))))))))),
                  Prod.fst
                    (Prod.snd
                      (Prod.snd
                        (Prod.snd
                          (Prod.snd
                            (Prod.snd
                              (Prod.snd
                                (Prod.snd
                                  (Prod.snd
                                    (Prod.snd (Prod.snd (Prod.snd (Prod.snd (Prod.snd (Prod.fst x_2)))))))))))))),
                  Prod.fst
                    (Prod.snd
                      (Prod.snd
                        (Prod.snd
                          (Prod.snd
                            (Prod.snd
                              (Prod.snd
                                (Prod.snd
                                  (Prod.snd
                                    (Prod.snd
                                      (Prod.snd (Prod.snd (Prod.snd (Prod.snd (Prod.snd (Prod.fst x_2))))))))))))))),
                  Prod.fst
                    (Prod.snd
                      (Prod.snd
                        (Prod.snd
                          (Prod.snd
                            (Prod.snd
                              (Prod.snd
                                (Prod.snd
                                  (Prod.snd
                                    (Prod.snd
                                      (Prod.snd
                                        (Prod.snd (Prod.snd (Prod.snd (Prod.snd (Prod.snd (Prod.fst x_2)))))))))))))))),
                  Prod.fst
                    (Prod.snd
                      (Prod.snd
                        (Prod.snd
                          (Prod.snd
                            (Prod.snd
                              (Prod.snd
                                (Prod.snd
                                  (Prod.snd
                                    (Prod.snd
                                      (Prod.snd
                                        (Prod.snd
                                          (Prod.snd
                                            (Prod.snd (Prod.snd (Prod.snd (Prod.snd (Prod.fst x_2))))))))))))))))),
                  Prod.fst
                    (Prod.snd
                      (Prod.snd
                        (Prod.snd
                          (Prod.snd
                            (Prod.snd
                              (Prod.snd
                                (Prod.snd
                                  (Prod.snd
                                    (Prod.snd
                                      (Prod.snd
                                        (Prod.snd
                                          (Prod.snd
                                            (Prod.snd
                                              (Prod.snd (Prod.snd (Prod.snd (Prod.snd (Prod.fst x_2)))))))))))))))))),
                  Prod.fst
                    (Prod.snd
                      (Prod.snd
                        (Prod.snd
                          (Prod.snd
                            (Prod.snd
                              (Prod.snd
                                (Prod.snd
                                  (Prod.snd
                                    (Prod.snd
                                      (Prod.snd
                                        (Prod.snd
                                          (Prod.snd
                                            (Prod.snd
                                              (Prod.snd
                                                (Prod.snd
                                                  (Prod.snd (Prod.snd (Prod.snd (Prod.fst x_2))))))))))))))))))),
                  Prod.fst
                    (Prod.snd
                      (Prod.snd
                        (Prod.snd
                          (Prod.snd
                            (Prod.snd
                              (Prod.snd
                                (Prod.snd
                                  (Prod.snd
                                    (Prod.snd
                                      (Prod.snd
                                        (Prod.snd
                                          (Prod.snd
                                            (Prod.snd
                                              (Prod.snd
                                                (Prod.snd
                                                  (Prod.snd
                                                    (Prod.snd (Prod.snd (Prod.snd (Prod.fst x_2)))))))))))))))))))),
                  Prod.snd
                    (Prod.snd
                      (Prod.snd
                        (Prod.snd
                          (Prod.snd
                            (Prod.snd
                              (Prod.snd
                                (Prod.snd
                                  (Prod.snd
                                    (Prod.snd
                                      (Prod.snd
                                        (Prod.snd
                                          (Prod.snd
                                            (Prod.snd
                                              (Prod.snd
                                                (Prod.snd
                                                  (Prod.snd
                                                    (Prod.snd (Prod.snd (Prod.snd (Prod.fst x_2))))))))))))))))))))))
              fun (x_5 : List UInt8 × Unit) =>
              obind
                (F9 n
                  (Prod.fst (Prod.fst x_3), Prod.fst (Prod.snd (Prod.fst x_3)),
                    Prod.fst (Prod.snd (Prod.snd (Prod.fst x_3))),
                    Prod.fst (Prod.snd (Prod.snd (Prod.snd (Prod.fst x_3)))),
                    Prod.fst (Prod.snd (Prod.snd (Prod.snd (Prod.snd (Prod.fst x_3))))),
                    Prod.fst (Prod.snd (Prod.snd (Prod.snd (Prod.snd (Prod.snd (Prod.fst x_3)))))),
                    Prod.fst (Prod.snd (Prod.snd (Prod.snd (Prod.snd (Prod.snd (Prod.snd (Prod.fst x_3))))))),
                    Prod.fst
                      (Prod.snd (Prod.snd (Prod.snd (Prod.snd (Prod.snd (Prod.snd (Prod.snd (Prod.fst x_3)))))))),
                    Prod.fst
                      (Prod.snd
                        (Prod.snd (Prod.snd (Prod.snd (Prod.snd (Prod.snd (Prod.snd (Prod.snd (Prod.fst x_3))))))))),
                    Prod.fst
                      (Prod.snd
                        (Prod.snd
                          (Prod.snd (Prod.snd (Prod.snd (Prod.snd (Prod.snd (Prod.snd (Prod.snd (Prod.fst x_3)))))))))),
                    Prod.fst
                      (Prod.snd
                        (Prod.snd
                          (Prod.snd
                            (Prod.snd
                              (Prod.snd (Prod.snd (Prod.snd (Prod.snd (Prod.snd (Prod.snd (Prod.fst x_3))))))))))),
                    Prod.fst
                      (Prod.snd
                        (Prod.snd
                          (Prod.snd
                            (Prod.snd
                              (Prod.snd
                                (Prod.snd (Prod.snd (Prod.snd (Prod.snd (Prod.snd (Prod.snd (Prod.fst x_3)))))))))))),
                    Prod.fst
                      (Prod.snd
                        (Prod.snd
                          (Prod.snd
                            (Prod.snd
                              (Prod.snd
                                (Prod.snd
                                  (Prod.snd
                                    (Prod.snd (Prod.snd (Prod.snd (Prod.snd (Prod.snd (Prod.fst x_3))))))))))))),
                    Prod.fst
                      (Prod.snd
                        (Prod.snd
                          (Prod.snd
                            (Prod.snd
                              (Prod.snd
                                (Prod.snd
                                  (Prod.snd
                                    (Prod.snd
                                      (Prod.snd (Prod.snd (Prod.snd (Prod.snd (Prod.snd (Prod.fst x_3)))))))))))))),
                    Prod.fst
                      (Prod.snd
                        (Prod.snd
                          (Prod.snd
                            (Prod.snd
                              (Prod.snd
                                (Prod.snd
                                  (Prod.snd
                                    (Prod.snd
                                      (Prod.snd
                                        (Prod.snd (Prod.snd (Prod.snd (Prod.snd (Prod.snd (Prod.fst x_3))))))))))))))),
                    Prod.fst
                      (Prod.snd
                        (Prod.snd
                          (Prod.snd
                            (Prod.snd
                              (Prod.snd
                                (Prod.snd
                                  (Prod.snd
                                    (Prod.snd
                                      (Prod.snd
                                        (Prod.snd
                                          (Prod.snd
                                            (Prod.snd (Prod.snd (Prod.snd (Prod.snd (Prod.fst x_3)))))))))))))))),
                    Prod.fst
                      (Prod.snd
                        (Prod.snd
                          (Prod.snd
                            (Prod.snd
                              (Prod.snd
                                (Prod.snd
                                  (Prod.snd
                                    (Prod.snd
                                      (Prod.snd
                                        (Prod.snd
                                          (Prod.snd
                                            (Prod.snd
                                              (Prod.snd (Prod.snd (Prod.snd (Prod.snd (Prod.fst x_3))))))))))))))))),
                    Prod.fst
                      (Prod.snd
                        (Prod.snd
                          (Prod.snd
                            (Prod.snd
                              (Prod.snd
                                (Prod.snd
                                  (Prod.snd
                                    (Prod.snd
                                      (Prod.snd
                                        (Prod.snd
                                          (Prod.snd
                                            (Prod.snd
                                              (Prod.snd
                                                (Prod.snd (Prod.snd (Prod.snd (Prod.snd (Prod.fst x_3)))))))))))))))))),
                    Prod.fst
                      (Prod.snd
                        (Prod.snd
                          (Prod.snd
                            (Prod.snd
                              (Prod.snd
                                (Prod.snd
                                  (Prod.snd
                                    (Prod.snd
                                      (Prod.snd
                                        (Prod.snd
                                          (Prod.snd
                                            (Prod.snd
                                              (Prod.snd
                                                (Prod.snd
                                                  (Prod.snd
                                                    (Prod.snd (Prod.snd (Prod.snd (Prod.fst x_3))))))))))))))))))),
                    Prod.fst
                      (Prod.snd
                        (Prod.snd
                          (Prod.snd
                            (Prod.snd
                              (Prod.snd
                                (Prod.snd
                                  (Prod.snd
                                    (Prod.snd
                                      (Prod.snd
                                        (Prod.snd
                                          (Prod.snd
                                            (Prod.snd
                                              (Prod.snd
                                                (Prod.snd
                                                  (Prod.snd
                                                    (Prod.snd
                                                      (Prod.snd (Prod.snd (Prod.snd (Prod.fst x_3)))))))))))))))))))),
                    Prod.snd
                      (Prod.snd
                        (Prod.snd
                          (Prod.snd
                            (Prod.snd
                              (Prod.snd
                                (Prod.snd
                                  (Prod.snd
                                    (Prod.snd
                                      (Prod.snd
                                        (Prod.snd
                                          (Prod.snd
                                            (Prod.snd
                                              (Prod.snd
                                                (Prod.snd
                                                  (Prod.snd
                                                    (Prod.snd
                                                      (Prod.snd (Prod.snd (Prod.snd (Prod.fst x_3))))))))))))))))))))))
                fun (x_6 : List UInt8 × Unit) =>
                oite (Prod.fst x_4 == (Prod.fst x_5 == Prod.fst x_6))
                  (obind
                    (F8 n
                      ((Prod.fst (Prod.fst x_2), Prod.fst (Prod.snd (Prod.fst x_2)),
                          Prod.fst (Prod.snd (Prod.snd (Prod.fst x_2))),
                          Prod.fst (Prod.snd (Prod.snd (Prod.snd (Prod.fst x_2)))),
                          Prod.fst (Prod.snd (Prod.snd (Prod.snd (Prod.snd (Prod.fst x_2))))),
                          Prod.fst (Prod.snd (Prod.snd (Prod.snd (Prod.snd (Prod.snd (Prod.fst x_2)))))),
                          Prod.fst (Prod.snd (Prod.snd (Prod.snd (Prod.snd (Prod.snd (Prod.snd (Prod.fst x_2))))))),
                          Prod.fst
                            (Prod.snd (Prod.snd (Prod.snd (Prod.snd (Prod.snd (Prod.snd (Prod.snd (Prod.fst x_2)))))))),
                          Prod.fst
                            (Prod.snd
                              (Prod.snd
                                (Prod.snd (Prod.snd (Prod.snd (Prod.snd (Prod.snd (Prod.snd (Prod.fst x_2))))))))),
                          Prod.fst
                            (Prod.snd
                              (Prod.snd
                                (Prod.snd
                                  (Prod.snd (Prod.snd (Prod.snd (Prod.snd (Prod.snd (Prod.snd (Prod.fst x_2)))))))))),
                          Prod.fst
                            (Prod.snd
                              (Prod.snd
                                (Prod.snd
                                  (Prod.snd
                                    (Prod.snd
                                      (Prod.snd (Prod.snd (Prod.snd (Prod.snd (Prod.snd (Prod.fst x_2))))))))))),
                          Prod.fst
                            (Prod.snd
                              (Prod.snd
                                (Prod.snd
                                  (Prod.snd
                                    (Prod.snd
                                      (Prod.snd
                                        (Prod.snd (Prod.snd (Prod.snd (Prod.snd (Prod.snd (Prod.fst x_2)))))))))))),
                          Prod.fst
                            (Prod.snd
                              (Prod.snd
                                (Prod.snd
                                  (Prod.snd
                                    (Prod.snd
                                      (Prod.snd
                                        (Prod.snd
                                          (Prod.snd (Prod.snd (Prod.snd (Prod.snd (Prod.snd (Prod.fst x_2))))))))))))),
                          Prod.fst
                            (Prod.snd
                              (Prod.snd
                                (Prod.snd
                                  (Prod.snd
                                    (Prod.snd
                                      (Prod.snd
                                        (Prod.snd
                                          (Prod.snd
                                            (Prod.snd
                                              (Prod.snd (Prod.snd (Prod.snd (Prod.snd (Prod.fst x_2)))))))))))))),
                          Prod.fst
                            (Prod.snd
                              (Prod.snd
                                (Prod.snd
                                  (Prod.snd
                                    (Prod.snd
                                      (Prod.snd
                                        (Prod.snd
                                          (Prod.snd
                                            (Prod.snd
                                              (Prod.snd
                                                (Prod.snd (Prod.snd (Prod.snd (Prod.snd (Prod.fst x_2))))))))))))))),
                          Prod.fst
                            (Prod.snd
                              (Prod.snd
                                (Prod.snd
                                  (Prod.snd
                                    (Prod.snd
                                      (Prod.snd
                                        (Prod.snd
                                          (Prod.snd
                                            (Prod.snd
                                              (Prod.snd
                                                (Prod.snd
                                                  (Prod.snd (Prod.snd (Prod.snd (Prod.snd (Prod.fst x_2)))))))))))))))),
                          Prod.fst
                            (Prod.snd
                              (Prod.snd
                                (Prod.snd
                                  (Prod.snd
                                    (Prod.snd
                                      (Prod.snd
                                        (Prod.snd
                                          (Prod.snd
                                            (Prod.snd
                                              (Prod.snd
                                                (Prod.snd
                                                  (Prod.snd
                                                    (Prod.snd
                                                      (Prod.snd (Prod.snd (Prod.snd (Prod.fst x_2))))))))))))))))),
                          Prod.fst
                            (Prod.snd
                              (Prod.snd
                                (Prod.snd
                                  (Prod.snd
                                    (Prod.snd
                                      (Prod.snd
                                        (Prod.snd
                                          (Prod.snd
                                            (Prod.snd
                                              (Prod.snd
                                                (Prod.snd
                                                  (Prod.snd
                                                    (Prod.snd
                                                      (Prod.snd
                                                        (Prod.snd (Prod.snd (Prod.snd (Prod.fst x_2)))))))))))))))))),
                          Prod.fst
                            (Prod.snd
                              (Prod.snd
                                (Prod.snd
                                  (Prod.snd
                                    (Prod.snd
                                      (Prod.snd
                                        (Prod.snd
                                          (Prod.snd
                                            (Prod.snd
                                              (Prod.snd
                                                (Prod.snd
                                                  (Prod.snd
                                                    (Prod.snd
                                                      (Prod.snd
                                                        (Prod.snd
                                                          (Prod.snd
                                                            (Prod.snd (Prod.snd (Prod.fst x_2))))))))))))))))))),
                          Prod.fst
                            (Prod.snd
                              (Prod.snd
                                (Prod.snd
                                  (Prod.snd
                                    (Prod.snd
                                      (Prod.snd
                                        (Prod.snd
                                          (Prod.snd
                                            (Prod.snd
                                              (Prod.snd
                                                (Prod.snd
                                                  (Prod.snd
                                                    (Prod.snd
                                                      (Prod.snd
                                                        (Prod.snd
                                                          (Prod.snd
                                                            (Prod.snd
                                                              (Prod.snd (Prod.snd (Prod.fst x_2)))))))))))))))))))),
                          Prod.snd
                            (Prod.snd
                              (Prod.snd
                                (Prod.snd
                                  (Prod.snd
                                    (Prod.snd
                                      (Prod.snd
                                        (Prod.snd
                                          (Prod.snd
                                            (Prod.snd
                                              (Prod.snd
                                                (Prod.snd
                                                  (Prod.snd
                                                    (Prod.snd
                                                      (Prod.snd
                                                        (Prod.snd
                                                          (Prod.snd
                                                            (Prod.snd
                                                              (Prod.snd (Prod.snd (Prod.fst x_2))))))))))))))))))))),
                        Prod.fst (Prod.fst x_2), Prod.fst (Prod.snd (Prod.fst x_2)),
                        Prod.fst (Prod.snd (Prod.snd (Prod.fst x_2))),
                        Prod.fst (Prod.snd (Prod.snd (Prod.snd (Prod.fst x_2)))),
                        Prod.fst (Prod.snd (Prod.snd (Prod.snd (Prod.snd (Prod.fst x_2))))),
                        Prod.fst (Prod.snd (Prod.snd (Prod.snd (Prod.snd (Prod.snd (Prod.fst x_2)))))),
                        Prod.fst (Prod.snd (Prod.snd (Prod.snd (Prod.snd (Prod.snd (Prod.snd (Prod.fst x_2))))))),
                        Prod.fst
                          (Prod.snd (Prod.snd (Prod.snd (Prod.snd (Prod.snd (Prod.snd (Prod.snd (Prod.fst x_2)))))))),
                        Prod.fst
                          (Prod.snd
                            (Prod.snd
                              (Prod.snd (Prod.snd (Prod.snd (Prod.snd (Prod.snd (Prod.snd (Prod.fst x_2))))))))),
                        Prod.fst
                          (Prod.snd
                            (Prod.snd
                              (Prod.snd
                                (Prod.snd (Prod.snd (Prod.snd (Prod.snd (Prod.snd (Prod.snd (Prod.fst x_2)))))))))),
                        Prod.fst
                          (Prod.snd
                            (Prod.snd
                              (Prod.snd
                                (Prod.snd
                                  (Prod.snd (Prod.snd (Prod.snd (Prod.snd (Prod.snd (Prod.snd (Prod.fst x_2))))))))))),
                        Prod.fst
                          (Prod.snd
                            (Prod.snd
                              (Prod.snd
                                (Prod.snd
                                  (Prod.snd
                                    (Prod.snd
                                      (Prod.snd (Prod.snd (Prod.snd (Prod.snd (Prod.snd (Prod.fst x_2)))))))))))),
                        Prod.fst
                          (Prod.snd
                            (Prod.snd
                              (Prod.snd
                                (Prod.snd
                                  (Prod.snd
                                    (Prod.snd
                                      (Prod.snd
                                        (Prod.snd (Prod.snd (Prod.snd (Prod.snd (Prod.snd (Prod.fst x_2))))))))))))),
                        Prod.fst
                          (Prod.snd
                            (Prod.snd
                              (Prod.snd
                                (Prod.snd
                                  (Prod.snd
                                    (Prod.snd
                                      (Prod.snd
                                        (Prod.snd
                                          (Prod.snd (Prod.snd (Prod.snd (Prod.snd (Prod.snd (Prod.fst x_2)))))))))))))),
                        Prod.fst
                          (Prod.snd
                            (Prod.snd
                              (Prod.snd
                                (Prod.snd
                                  (Prod.snd
                                    (Prod.snd
                                      (Prod.snd
                                        (Prod.snd
                                          (Prod.snd
                                            (Prod.snd
                                              (Prod.snd (Prod.snd (Prod.snd (Prod.snd (Prod.fst x_2))))))))))))))),
                        Prod.fst
                          (Prod.snd
                            (Prod.snd
                              (Prod.snd
                                (Prod.snd
                                  (Prod.snd
                                    (Prod.snd
                                      (Prod.snd
                                        (Prod.snd
                                          (Prod.snd
                                            (Prod.snd
                                              (Prod.snd
                                                (Prod.snd (Prod.snd (Prod.snd (Prod.snd (Prod.fst x_2)))))))))))))))),
                        Prod.fst
                          (Prod.snd
                            (Prod.snd
                              (Prod.snd
                                (Prod.snd
                                  (Prod.snd
                                    (Prod.snd
                                      (Prod.snd
                                        (Prod.snd
                                          (Prod.snd
                                            (Prod.snd
                                              (Prod.snd
                                                (Prod.snd
                                                  (Prod.snd
                                                    (Prod.snd (Prod.snd (Prod.snd (Prod.fst x_2))))))))))))))))),
                        Prod.fst
                          (Prod.snd
                            (Prod.snd
                              (Prod.snd
                                (Prod.snd
                                  (Prod.snd
                                    (Prod.snd
                                      (Prod.snd
                                        (Prod.snd
                                          (Prod.snd
                                            (Prod.snd
                                              (Prod.snd
                                                (Prod.snd
                                                  (Prod.snd
                                                    (Prod.snd
                                                      (Prod.snd (Prod.snd (Prod.snd (Prod.fst x_2)))))))))))))))))),
                        Prod.fst
                          (Prod.snd
                            (Prod.snd
                              (Prod.snd
                                (Prod.snd
                                  (Prod.snd
                                    (Prod.snd
                                      (Prod.snd
                                        (Prod.snd
                                          (Prod.snd
                                            (Prod.snd
                                              (Prod.snd
                                                (Prod.snd
                                                  (Prod.snd
                                                    (Prod.snd
                                                      (Prod.snd
                                                        (Prod.snd (Prod.snd (Prod.snd (Prod.fst x_2))))))))))))))))))),
                        Prod.fst
                          (Prod.snd
                            (Prod.snd
                              (Prod.snd
                                (Prod.snd
                                  (Prod.snd
                                    (Prod.snd
                                      (Prod.snd
                                        (Prod.snd
                                          (Prod.snd
                                            (Prod.snd
                                              (Prod.snd
                                                (Prod.snd
                                                  (Prod.snd
                                                    (Prod.snd
                                                      (Prod.snd
                                                        (Prod.snd
                                                          (Prod.snd
                                                            (Prod.snd (Prod.snd (Prod.fst x_2)))))))))))))))))))),
                        Prod.snd
                          (Prod.snd
                            (Prod.snd
                              (Prod.snd
                                (Prod.snd
                                  (Prod.snd
                                    (Prod.snd
                                      (Prod.snd
                                        (Prod.snd
                                          (Prod.snd
                                            (Prod.snd
                                              (Prod.snd
                                                (Prod.snd
                                                  (Prod.snd
                                                    (Prod.snd
                                                      (Prod.snd
                                                        (Prod.snd
                                                          (Prod.snd
                                                            (Prod.snd (Prod.snd (Prod.fst x_2))))))))))))))))))))))
                    fun (x_7 : Bool × Unit) => some (Prod.fst x_7, ()))
                  (some (false, ())))
theorem ok3 (n : Nat) : FunOK Try.prog ⟨3, sig3, F3 n⟩ :=
  fun_ok (hints := ⟨[], []⟩) (fuel := n) (c := Try.f3.body.getD .skip) (rs := Try.f3.results.toList) tt_ok mix (FsOK.cons (ok6 n) (FsOK.cons (ok7 n) (FsOK.cons (ok8 n) (FsOK.cons (ok9 n) (FsOK.nil))))) Try.func3 (by kernel_rfl) (by kernel_rfl) rfl (by kernel_rfl) rfl rfl (by kernel_rfl)
-- watchfire/crc.Take
def sig43 : Sig := ⟨(.cons (.agg (.cons (.int .u8) (.cons (.int .u8) (.cons (.int .u8) (.cons (.int .u8) .nil))))) .nil), (.cons (.one (.c (.int .u32))) .nil)⟩
def F43 : Nat → UInt8 × UInt8 × UInt8 × UInt8 → Option (UInt32 × Unit) := fun (n : Nat) (x : UInt8 × UInt8 × UInt8 × UInt8) =>
  some
    (UInt32.ofInt ↑(UInt8.toNat (Prod.fst x)) |||
            IK.shl IntKind.u32 (UInt32.ofInt ↑(UInt8.toNat (Prod.fst (Prod.snd x)))) ↑(UInt64.toNat (8 : UInt64)) |||
          IK.shl IntKind.u32 (UInt32.ofInt ↑(UInt8.toNat (Prod.fst (Prod.snd (Prod.snd x)))))
            ↑(UInt64.toNat (16 : UInt64)) |||
        IK.shl IntKind.u32 (UInt32.ofInt ↑(UInt8.toNat (Prod.snd (Prod.snd (Prod.snd x)))))
          ↑(UInt64.toNat (24 : UInt64)),
      ())
theorem ok43 (n : Nat) : FunOK Try.prog ⟨43, sig43, F43 n⟩ :=
  fun_ok (hints := ⟨[], []⟩) (fuel := n) (c := Try.f43.body.getD .skip) (rs := Try.f43.results.toList) tt_ok mix (FsOK.nil) Try.func43 (by kernel_rfl) (by kernel_rfl) rfl (by kernel_rfl) rfl rfl (by kernel_rfl)
-- (*watchfire/crc.Table).Open
def sig25 : Sig := ⟨(.cons (.one (.ptrA (.cons (.c (.int .u32)) (.cons (.c (.int .i32)) (.cons (.c (.int .u32)) .nil))) (.int .u32) 256 (.cons (.c (.int .u64)) (.cons (.c (.int .u64)) .nil)))) (.cons (.one (.c (.ro (.cons (.int .u8) .nil)))) .nil)), (.cons (.one (.c (.ro (.cons (.int .u8) .nil)))) (.cons (.one (.c .bool)) .nil))⟩
def F25 : Nat →
  Option ((UInt32 × Int32 × UInt32) × List UInt32 × UInt64 × UInt64) × List UInt8 →
    Option ((List UInt8 × Bool) × Option ((UInt32 × Int32 × UInt32) × List UInt32 × UInt64 × UInt64)) := fun (n : Nat) (x : Option ((UInt32 × Int32 × UInt32) × List UInt32 × UInt64 × UInt64) × List UInt8) =>
  oelim (Prod.fst x) (some (([], false), none)) fun (x_1 : (UInt32 × Int32 × UInt32) × List UInt32 × UInt64 × UInt64) =>
    oite (decide (Int64.ofInt ↑(List.length (Prod.snd x)) - (4 : Int64) < (0 : Int64)))
      (some
        (([], false),
          some
            ((Prod.fst (Prod.fst x_1), Prod.fst (Prod.snd (Prod.fst x_1)), Prod.snd (Prod.snd (Prod.fst x_1))),
              Prod.fst (Prod.snd x_1), Prod.fst (Prod.snd (Prod.snd x_1)), Prod.snd (Prod.snd (Prod.snd x_1)))))
      (oite
        (decide ((0 : Int) ≤ Int64.toInt (Int64.ofInt ↑(List.length (Prod.snd x)) - (4 : Int64))) &&
            Nat.ble (Int.toNat (Int64.toInt (Int64.ofInt ↑(List.length (Prod.snd x)) - (4 : Int64))))
              (List.length (Prod.snd x)) &&
          true)
        (obind
          (F42 n
            (some
                ((Prod.fst (Prod.fst x_1), Prod.fst (Prod.snd (Prod.fst x_1)), Prod.snd (Prod.snd (Prod.fst x_1))),
                  Prod.fst (Prod.snd x_1), Prod.fst (Prod.snd (Prod.snd x_1)), Prod.snd (Prod.snd (Prod.snd x_1))),
              [List.drop (0 : Nat)
                  (List.take (Int.toNat (Int64.toInt (Int64.ofInt ↑(List.length (Prod.snd x)) - (4 : Int64))))
                    (Prod.snd x))]))
          fun (x_2 : UInt32 × Option ((UInt32 × Int32 × UInt32) × List UInt32 × UInt64 × UInt64)) =>
          oite
            (decide ((0 : Int) ≤ Int64.toInt (Int64.ofInt ↑(List.length (Prod.snd x)) - (4 : Int64))) &&
              Nat.ble (Int.toNat (Int64.toInt (Int64.ofInt ↑(List.length (Prod.snd x)) - (4 : Int64))))
                (List.length (Prod.snd x)))
            (obind
              (firstN (CT.int IntKind.u8) (4 : Nat)
                (List.drop (Int.toNat (Int64.toInt (Int64.ofInt ↑(List.length (Prod.snd x)) - (4 : Int64))))
                  (List.take (List.length (Prod.snd x)) (Prod.snd x))))
              fun (x_3 : UInt8 × UInt8 × UInt8 × UInt8) =>
              obind
                (F43 n
                  (Prod.fst x_3, Prod.fst (Prod.snd x_3), Prod.fst (Prod.snd (Prod.snd x_3)),
                    Prod.snd (Prod.snd (Prod.snd x_3))))
                fun (x_4 : UInt32 × Unit) =>
                oite (!decide (Prod.fst x_2 = Prod.fst x_4)) (some (([], false), Prod.snd x_2))
                  (oite
                    (decide ((0 : Int) ≤ Int64.toInt (Int64.ofInt ↑(List.length (Prod.snd x)) - (4 : Int64))) &&
                        Nat.ble (Int.toNat (Int64.toInt (Int64.ofInt ↑(List.length (Prod.snd x)) - (4 : Int64))))
                          (List.length (Prod.snd x)) &&
                      true)
                    (oite
                      (Nat.ble
                        ((0 : Nat) +
                          List.length
                            (List.drop (0 : Nat)
                              (List.take
                                (Int.toNat (Int64.toInt (Int64.ofInt ↑(List.length (Prod.snd x)) - (4 : Int64))))
                                (Prod.snd x))))
                        (4294967296 : Nat))
                      (some
                        (([] ++
                              List.drop (0 : Nat)
                                (List.take
                                  (Int.toNat (Int64.toInt (Int64.ofInt ↑(List.length (Prod.snd x)) - (4 : Int64))))
                                  (Prod.snd x)),
                            true),
                          Prod.snd x_2))
                      none)
                    none))
            none)
        none)
theorem ok25 (n : Nat) : FunOK Try.prog ⟨25, sig25, F25 n⟩ :=
  fun_ok (hints := ⟨[], []⟩) (fuel := n) (c := Try.f25.body.getD .skip) (rs := Try.f25.results.toList) tt_ok mix (FsOK.cons (ok42 n) (FsOK.cons (ok43 n) (FsOK.nil))) Try.func25 (by kernel_rfl) (by kernel_rfl) rfl (by kernel_rfl) rfl rfl (by kernel_rfl)
-- watchfire/pack.Read
def sig26 : Sig := ⟨(.cons (.one (.c (.ro (.cons (.int .u8) .nil)))) .nil), (.cons (.one (.ptr (.cons (.c (.ro (.cons (.int .u8) .nil))) (.cons (.c (.int .i64)) .nil)))) .nil)⟩
def F26 : Nat → List UInt8 → Option (Option (List UInt8 × Int64) × Unit) := fun (n : Nat) (x : List UInt8) => some (some (x, (0 : Int64)), ())
theorem ok26 (n : Nat) : FunOK Try.prog ⟨26, sig26, F26 n⟩ :=
  fun_ok (hints := ⟨[], []⟩) (fuel := n) (c := Try.f26.body.getD .skip) (rs := Try.f26.results.toList) tt_ok mix (FsOK.nil) Try.func26 (by kernel_rfl) (by kernel_rfl) rfl (by kernel_rfl) rfl rfl (by kernel_rfl)
-- (*watchfire/pack.Reader).ok
def sig44 : Sig := ⟨(.cons (.one (.ptr (.cons (.c (.ro (.cons (.int .u8) .nil))) (.cons (.c (.int .i64)) .nil)))) .nil), (.cons (.one (.c .bool)) .nil)⟩
def F44 : Nat → Option (List UInt8 × Int64) → Option (Bool × Option (List UInt8 × Int64)) := fun (n : Nat) (x : Option (List UInt8 × Int64)) =>
  oelim x (some (false, none)) fun (x_1 : List UInt8 × Int64) =>
    some (decide (Prod.snd x_1 = (0 : Int64)), some (Prod.fst x_1, Prod.snd x_1))
theorem ok44 (n : Nat) : FunOK Try.prog ⟨44, sig44, F44 n⟩ :=
  fun_ok (hints := ⟨[], []⟩) (fuel := n) (c := Try.f44.body.getD .skip) (rs := Try.f44.results.toList) tt_ok mix (FsOK.nil) Try.func44 (by kernel_rfl) (by kernel_rfl) rfl (by kernel_rfl) rfl rfl (by kernel_rfl)
-- (*watchfire/pack.Reader).Fail
def sig45 : Sig := ⟨(.cons (.one (.ptr (.cons (.c (.ro (.cons (.int .u8) .nil))) (.cons (.c (.int .i64)) .nil)))) (.cons (.one (.c (.int .i64))) .nil)), .nil⟩
def F45 : Nat → Option (List UInt8 × Int64) × Int64 → Option (Unit × Option (List UInt8 × Int64)) := fun (n : Nat) (x : Option (List UInt8 × Int64) × Int64) =>
  oelim (Prod.fst x) (some ((), none)) fun (x_1 : List UInt8 × Int64) =>
    oite (decide (Prod.snd x_1 = (0 : Int64))) (some ((), some (Prod.fst x_1, Prod.snd x)))
      (some ((), some (Prod.fst x_1, Prod.snd x_1)))
theorem ok45 (n : Nat) : FunOK Try.prog ⟨45, sig45, F45 n⟩ :=
  fun_ok (hints := ⟨[], []⟩) (fuel := n) (c := Try.f45.body.getD .skip) (rs := Try.f45.results.toList) tt_ok mix (FsOK.nil) Try.func45 (by kernel_rfl) (by kernel_rfl) rfl (by kernel_rfl) rfl rfl (by kernel_rfl)
-- (*watchfire/pack.Reader).Byte
def sig27 : Sig := ⟨(.cons (.one (.ptr (.cons (.c (.ro (.cons (.int .u8) .nil))) (.cons (.c (.int .i64)) .nil)))) .nil), (.cons (.one (.c (.int .u8))) .nil)⟩
def F27 : Nat → Option (List UInt8 × Int64) → Option (UInt8 × Option (List UInt8 × Int64)) := fun (n : Nat) (x : Option (List UInt8 × Int64)) =>
  obind (F44 n x) fun (x_1 : Bool × Option (List UInt8 × Int64)) =>
    oite (!Prod.fst x_1) (some ((0 : UInt8), Prod.snd x_1))
      (obind (Prod.snd x_1) fun (x_2 : List UInt8 × Int64) =>
        oite (decide (Int64.ofInt ↑(List.length (Prod.fst x_2)) = (0 : Int64)))
          (obind (F45 n (some (Prod.fst x_2, Prod.snd x_2), (3 : Int64)))
            fun (x_3 : Unit × Option (List UInt8 × Int64)) => some ((0 : UInt8), Prod.snd x_3))
          (obind (at? (Prod.fst x_2) (Int64.toInt (0 : Int64))) fun (x_3 : UInt8) =>
            oite (Nat.ble (Int.toNat (Int64.toInt (1 : Int64))) (List.length (Prod.fst x_2)))
              (some
                (x_3,
                  some
                    (List.drop (Int.toNat (Int64.toInt (1 : Int64)))
                        (List.take (List.length (Prod.fst x_2)) (Prod.fst x_2)),
                      Prod.snd x_2)))
              none))
theorem ok27 (n : Nat) : FunOK Try.prog ⟨27, sig27, F27 n⟩ :=
  fun_ok (hints := ⟨[], []⟩) (fuel := n) (c := Try.f27.body.getD .skip) (rs := Try.f27.results.toList) tt_ok mix (FsOK.cons (ok44 n) (FsOK.cons (ok45 n) (FsOK.nil))) Try.func27 (by kernel_rfl) (by kernel_rfl) rfl (by kernel_rfl) rfl rfl (by kernel_rfl)
-- (*watchfire/pack.Reader).Uint
def sig28 : Sig := ⟨(.cons (.one (.ptr (.cons (.c (.ro (.cons (.int .u8) .nil))) (.cons (.c (.int .i64)) .nil)))) .nil), (.cons (.one (.c (.int .u64))) .nil)⟩
def F28_J121 : Nat →
  Arr
      [PT.int IntKind.u64, PT.int IntKind.i64,
        PT.opt
          (OTs.cons (OT.c (CT.ro (CTs.cons (CT.int IntKind.u8) CTs.nil)))
            (OTs.cons (OT.c (CT.int IntKind.i64)) OTs.nil))]
      (Option (UInt64 × Option (List UInt8 × Int64))) →
    UInt64 → Int64 → UInt8 → Option (List UInt8 × Int64) → Option (UInt64 × Option (List UInt8 × Int64)) := fun (n : Nat)
    (rec :
      Arr
        [PT.int IntKind.u64, PT.int IntKind.i64,
          PT.opt
            (OTs.cons (OT.c (CT.ro (CTs.cons (CT.int IntKind.u8) CTs.nil)))
              (OTs.cons (OT.c (CT.int IntKind.i64)) OTs.nil))]
        (Option (UInt64 × Option (List UInt8 × Int64))))
    (n__1 : UInt64) (shift_1 : Int64) (c : UInt8) (r_1 : Option (List UInt8 × Int64)) =>
  oite (decide ((0 : Int) ≤ Int64.toInt shift_1))
    (oite (decide (c < (128 : UInt8)))
      (oite (decide (c = (0 : UInt8)))
        (oite (decide ((0 : Int64) < shift_1))
          (obind (F45 n (r_1, (2 : Int64))) fun (x_2 : Unit × Option (List UInt8 × Int64)) =>
            some ((0 : UInt64), Prod.snd x_2))
          (some
            (n__1 ||| IK.shl IntKind.u64 (UInt64.ofInt ↑(UInt8.toNat (c &&& (127 : UInt8)))) (Int64.toInt shift_1),
              r_1)))
        (some
          (n__1 ||| IK.shl IntKind.u64 (UInt64.ofInt ↑(UInt8.toNat (c &&& (127 : UInt8)))) (Int64.toInt shift_1), r_1)))
      (rec (n__1 ||| IK.shl IntKind.u64 (UInt64.ofInt ↑(UInt8.toNat (c &&& (127 : UInt8)))) (Int64.toInt shift_1))
        (shift_1 + (7 : Int64)) r_1))
    none
def F28_L15 : Nat →
  Arr
      [PT.int IntKind.u64, PT.int IntKind.i64,
        PT.opt
          (OTs.cons (OT.c (CT.ro (CTs.cons (CT.int IntKind.u8) CTs.nil)))
            (OTs.cons (OT.c (CT.int IntKind.i64)) OTs.nil))]
      (Option (UInt64 × Option (List UInt8 × Int64))) →
    UInt64 → Int64 → Option (List UInt8 × Int64) → Option (UInt64 × Option (List UInt8 × Int64)) := fun (n : Nat)
    (rec :
      Arr
        [PT.int IntKind.u64, PT.int IntKind.i64,
          PT.opt
            (OTs.cons (OT.c (CT.ro (CTs.cons (CT.int IntKind.u8) CTs.nil)))
              (OTs.cons (OT.c (CT.int IntKind.i64)) OTs.nil))]
        (Option (UInt64 × Option (List UInt8 × Int64))))
    (n_ : UInt64) (shift : Int64) (r : Option (List UInt8 × Int64)) =>
  obind (F27 n r) fun (x_1 : UInt8 × Option (List UInt8 × Int64)) =>
    ojoinA (121 : Nat)
      [PT.int IntKind.u64, PT.int IntKind.i64, PT.int IntKind.u8,
        PT.opt
          (OTs.cons (OT.c (CT.ro (CTs.cons (CT.int IntKind.u8) CTs.nil)))
            (OTs.cons (OT.c (CT.int IntKind.i64)) OTs.nil))]
      (fun
          (J :
            Arr
              [PT.int IntKind.u64, PT.int IntKind.i64, PT.int IntKind.u8,
                PT.opt
                  (OTs.cons (OT.c (CT.ro (CTs.cons (CT.int IntKind.u8) CTs.nil)))
                    (OTs.cons (OT.c (CT.int IntKind.i64)) OTs.nil))]
              (Option (UInt64 × Option (List UInt8 × Int64)))) =>
        obind (F44 n (Prod.snd x_1)) fun (x_2 : Bool × Option (List UInt8 × Int64)) =>
          oite (!Prod.fst x_2) (some ((0 : UInt64), Prod.snd x_2))
            (oite (decide (shift = (63 : Int64)))
              (oite (decide ((1 : UInt8) < Prod.fst x_1))
                (obind (F45 n (Prod.snd x_2, (6 : Int64))) fun (x_3 : Unit × Option (List UInt8 × Int64)) =>
                  some ((0 : UInt64), Prod.snd x_3))
                (J n_ shift (Prod.fst x_1) (Prod.snd x_2)))
              (J n_ shift (Prod.fst x_1) (Prod.snd x_2))))
      (F28_J121 n rec)
def F28_R15 : Nat →
  Nat → PT.T (PT.int IntKind.u64) → Int64 → Option (List UInt8 × Int64) → Option (UInt64 × Option (List UInt8 × Int64)) := fun (n : Nat) =>
  ofixA (15 : Nat)
    [PT.int IntKind.u64, PT.int IntKind.i64,
      PT.opt
        (OTs.cons (OT.c (CT.ro (CTs.cons (CT.int IntKind.u8) CTs.nil))) (OTs.cons (OT.c (CT.int IntKind.i64)) OTs.nil))]
    (F28_L15 n)
def F28 : Nat → Option (List UInt8 × Int64) → Option (UInt64 × Option (List UInt8 × Int64)) := fun (n : Nat) (x : Option (List UInt8 × Int64)) => F28_R15 n n (0 : UInt64) (0 : Int64) x
theorem F28_R15_s (n : Nat) (m_ : Nat) : F28_R15 n (m_ + 1) = F28_L15 n (F28_R15 n m_) := rfl
theorem ok28 (n : Nat) : FunOK Try.prog ⟨28, sig28, F28 n⟩ :=
  fun_ok (hints := ⟨[(121, ⟨[(0, .one (.own 0)), (3, .one (.int .u64)), (4, .one (.int .i64)), (5, .one (.int .u8))], [(0, .fold (.cons (.c (.ro (.cons (.int .u8) .nil))) (.cons (.c (.int .i64)) .nil)))], 1⟩)], [(15, ⟨[(0, .one (.own 0)), (3, .one (.int .u64)), (4, .one (.int .i64))], [(0, .fold (.cons (.c (.ro (.cons (.int .u8) .nil))) (.cons (.c (.int .i64)) .nil)))], 1⟩)]⟩) (fuel := n) (c := Try.f28.body.getD .skip) (rs := Try.f28.results.toList) tt_ok mix (FsOK.cons (ok27 n) (FsOK.cons (ok44 n) (FsOK.cons (ok45 n) (FsOK.nil)))) Try.func28 (by kernel_rfl) (by kernel_rfl) rfl (by kernel_rfl) rfl rfl (by kernel_rfl)
-- (*watchfire/pack.Reader).Bool
def sig46 : Sig := ⟨(.cons (.one (.ptr (.cons (.c (.ro (.cons (.int .u8) .nil))) (.cons (.c (.int .i64)) .nil)))) .nil), (.cons (.one (.c .bool)) .nil)⟩
def F46 : Nat → Option (List UInt8 × Int64) → Option (Bool × Option (List UInt8 × Int64)) := fun (n : Nat) (x : Option (List UInt8 × Int64)) =>
  obind (F27 n x) fun (x_1 : UInt8 × Option (List UInt8 × Int64)) =>
    oite (decide ((1 : UInt8) < Prod.fst x_1))
      (obind (F45 n (Prod.snd x_1, (2 : Int64))) fun (x_2 : Unit × Option (List UInt8 × Int64)) =>
        some (decide (Prod.fst x_1 = (1 : UInt8)), Prod.snd x_2))
      (some (decide (Prod.fst x_1 = (1 : UInt8)), Prod.snd x_1))
theorem ok46 (n : Nat) : FunOK Try.prog ⟨46, sig46, F46 n⟩ :=
  fun_ok (hints := ⟨[], []⟩) (fuel := n) (c := Try.f46.body.getD .skip) (rs := Try.f46.results.toList) tt_ok mix (FsOK.cons (ok27 n) (FsOK.cons (ok45 n) (FsOK.nil))) Try.func46 (by kernel_rfl) (by kernel_rfl) rfl (by kernel_rfl) rfl rfl (by kernel_rfl)
-- (*watchfire/pack.Reader).Text
def sig55 : Sig := ⟨(.cons (.one (.ptr (.cons (.c (.ro (.cons (.int .u8) .nil))) (.cons (.c (.int .i64)) .nil)))) (.cons (.one (.c (.int .i64))) .nil)), (.cons (.one (.c .str)) .nil)⟩
def F55 : Nat → Option (List UInt8 × Int64) × Int64 → Option (List UInt8 × Option (List UInt8 × Int64)) := fun (n : Nat) (x : Option (List UInt8 × Int64) × Int64) =>
  obind (F28 n (Prod.fst x)) fun (x_1 : UInt64 × Option (List UInt8 × Int64)) =>
    obind (F44 n (Prod.snd x_1)) fun (x_2 : Bool × Option (List UInt8 × Int64)) =>
      oite (!Prod.fst x_2) (some ([], Prod.snd x_2))
        (oite (decide (UInt64.ofInt (Int64.toInt (IK.maxI IntKind.i64 (Prod.snd x) (0 : Int64))) < Prod.fst x_1))
          (obind (F45 n (Prod.snd x_2, (4 : Int64))) fun (x_3 : Unit × Option (List UInt8 × Int64)) =>
            some ([], Prod.snd x_3))
          (obind (Prod.snd x_2) fun (x_3 : List UInt8 × Int64) =>
            oite (decide (UInt64.ofInt (Int64.toInt (Int64.ofInt ↑(List.length (Prod.fst x_3)))) < Prod.fst x_1))
              (obind (F45 n (some (Prod.fst x_3, Prod.snd x_3), (3 : Int64)))
                fun (x_4 : Unit × Option (List UInt8 × Int64)) => some ([], Prod.snd x_4))
              (oite
                (decide ((0 : Int) ≤ ↑(UInt64.toNat (Prod.fst x_1))) &&
                    Nat.ble (Int.toNat ↑(UInt64.toNat (Prod.fst x_1))) (List.length (Prod.fst x_3)) &&
                  true)
                (oite
                  (decide ((0 : Int) ≤ ↑(UInt64.toNat (Prod.fst x_1))) &&
                    Nat.ble (Int.toNat ↑(UInt64.toNat (Prod.fst x_1))) (List.length (Prod.fst x_3)))
                  (some
                    (List.drop (0 : Nat) (List.take (Int.toNat ↑(UInt64.toNat (Prod.fst x_1))) (Prod.fst x_3)),
                      some
                        (List.drop (Int.toNat ↑(UInt64.toNat (Prod.fst x_1)))
                            (List.take (List.length (Prod.fst x_3)) (Prod.fst x_3)),
                          Prod.snd x_3)))
                  none)
                none)))
theorem ok55 (n : Nat) : FunOK Try.prog ⟨55, sig55, F55 n⟩ :=
  fun_ok (hints := ⟨[], []⟩) (fuel := n) (c := Try.f55.body.getD .skip) (rs := Try.f55.results.toList) tt_ok mix (FsOK.cons (ok28 n) (FsOK.cons (ok44 n) (FsOK.cons (ok45 n) (FsOK.nil)))) Try.func55 (by kernel_rfl) (by kernel_rfl) rfl (by kernel_rfl) rfl rfl (by kernel_rfl)
-- (*watchfire/pack.Reader).Count
def sig56 : Sig := ⟨(.cons (.one (.ptr (.cons (.c (.ro (.cons (.int .u8) .nil))) (.cons (.c (.int .i64)) .nil)))) (.cons (.one (.c (.int .u64))) .nil)), (.cons (.one (.c (.int .u64))) .nil)⟩
def F56 : Nat → Option (List UInt8 × Int64) × UInt64 → Option (UInt64 × Option (List UInt8 × Int64)) := fun (n : Nat) (x : Option (List UInt8 × Int64) × UInt64) =>
  obind (F28 n (Prod.fst x)) fun (x_1 : UInt64 × Option (List UInt8 × Int64)) =>
    oite (decide (Prod.snd x < Prod.fst x_1))
      (obind (F45 n (Prod.snd x_1, (6 : Int64))) fun (x_2 : Unit × Option (List UInt8 × Int64)) =>
        some ((0 : UInt64), Prod.snd x_2))
      (some (Prod.fst x_1, Prod.snd x_1))
theorem ok56 (n : Nat) : FunOK Try.prog ⟨56, sig56, F56 n⟩ :=
  fun_ok (hints := ⟨[], []⟩) (fuel := n) (c := Try.f56.body.getD .skip) (rs := Try.f56.results.toList) tt_ok mix (FsOK.cons (ok28 n) (FsOK.cons (ok45 n) (FsOK.nil))) Try.func56 (by kernel_rfl) (by kernel_rfl) rfl (by kernel_rfl) rfl rfl (by kernel_rfl)
-- (*watchfire/pack.Reader).Int
def sig57 : Sig := ⟨(.cons (.one (.ptr (.cons (.c (.ro (.cons (.int .u8) .nil))) (.cons (.c (.int .i64)) .nil)))) .nil), (.cons (.one (.c (.int .i64))) .nil)⟩
def F57 : Nat → Option (List UInt8 × Int64) → Option (Int64 × Option (List UInt8 × Int64)) := fun (n : Nat) (x : Option (List UInt8 × Int64)) =>
  obind (F28 n x) fun (x_1 : UInt64 × Option (List UInt8 × Int64)) =>
    some
      (Int64.ofInt ↑(UInt64.toNat (IK.shr IntKind.u64 (Prod.fst x_1) ↑(UInt64.toNat (1 : UInt64)))) ^^^
          (0 : Int64) - Int64.ofInt ↑(UInt64.toNat (Prod.fst x_1 &&& (1 : UInt64))),
        Prod.snd x_1)
theorem ok57 (n : Nat) : FunOK Try.prog ⟨57, sig57, F57 n⟩ :=
  fun_ok (hints := ⟨[], []⟩) (fuel := n) (c := Try.f57.body.getD .skip) (rs := Try.f57.results.toList) tt_ok mix (FsOK.cons (ok28 n) (FsOK.nil)) Try.func57 (by kernel_rfl) (by kernel_rfl) rfl (by kernel_rfl) rfl rfl (by kernel_rfl)
-- watchfire/item.take
def sig47 : Sig := ⟨(.cons (.one (.ptr (.cons (.c (.ro (.cons (.int .u8) .nil))) (.cons (.c (.int .i64)) .nil)))) .nil), (.cons (.agg (.cons (.int .u8) (.cons (.int .u64) (.cons (.int .u64) (.cons .str (.cons (.ro (.cons .str (.cons .str .nil))) (.cons (.int .u8) (.cons (.int .u8) (.cons (.int .i64) (.cons (.int .u8) .nil)))))))))) .nil)⟩
def F47_L1021 : Nat →
  Arr
      [PT.int IntKind.u64, PT.int IntKind.u64,
        PT.opt
          (OTs.cons (OT.c (CT.ro (CTs.cons (CT.int IntKind.u8) CTs.nil)))
            (OTs.cons (OT.c (CT.int IntKind.i64)) OTs.nil)),
        PT.int IntKind.u8, PT.int IntKind.u64, PT.int IntKind.u64, PT.bytes, PT.int IntKind.u8, PT.int IntKind.u8,
        PT.int IntKind.i64, PT.int IntKind.u8, PT.int IntKind.u8, PT.int IntKind.u64, PT.int IntKind.u64, PT.bytes,
        PT.int IntKind.u8, PT.int IntKind.u8, PT.int IntKind.i64, PT.int IntKind.u8,
        PT.list (CTs.cons CT.str (CTs.cons CT.str CTs.nil))]
      (Option
        ((UInt8 × UInt64 × UInt64 × List UInt8 × List (List UInt8 × List UInt8) × UInt8 × UInt8 × Int64 × UInt8) ×
          Option (List UInt8 × Int64))) →
    UInt64 →
      UInt64 →
        Option (List UInt8 × Int64) →
          UInt8 →
            UInt64 →
              UInt64 →
                List UInt8 →
                  UInt8 →
                    UInt8 →
                      Int64 →
                        UInt8 →
                          UInt8 →
                            UInt64 →
                              UInt64 →
                                List UInt8 →
                                  UInt8 →
                                    UInt8 →
                                      Int64 →
                                        UInt8 →
                                          List (List UInt8 × List UInt8) →
                                            Option
                                              ((UInt8 ×
                                                  UInt64 ×
                                                    UInt64 ×
                                                      List UInt8 ×
                                                        List (List UInt8 × List UInt8) ×
                                                          UInt8 × UInt8 × Int64 × UInt8) ×
                                                Option (List UInt8 × Int64)) := fun (n : Nat)
    (rec :
      Arr
        [PT.int IntKind.u64, PT.int IntKind.u64,
          PT.opt
            (OTs.cons (OT.c (CT.ro (CTs.cons (CT.int IntKind.u8) CTs.nil)))
              (OTs.cons (OT.c (CT.int IntKind.i64)) OTs.nil)),
          PT.int IntKind.u8, PT.int IntKind.u64, PT.int IntKind.u64, PT.bytes, PT.int IntKind.u8, PT.int IntKind.u8,
          PT.int IntKind.i64, PT.int IntKind.u8, PT.int IntKind.u8, PT.int IntKind.u64, PT.int IntKind.u64, PT.bytes,
          PT.int IntKind.u8, PT.int IntKind.u8, PT.int IntKind.i64, PT.int IntKind.u8,
          PT.list (CTs.cons CT.str (CTs.cons CT.str CTs.nil))]
        (Option
          ((UInt8 × UInt64 × UInt64 × List UInt8 × List (List UInt8 × List UInt8) × UInt8 × UInt8 × Int64 × UInt8) ×
            Option (List UInt8 × Int64))))
    (t t_1 : UInt64) (r : Option (List UInt8 × Int64)) (t0 : UInt8) (t1 t2 : UInt64) (t3 : List UInt8) (t5 t6 : UInt8)
    (t7 : Int64) (t8 v0 : UInt8) (v1 v2 : UInt64) (v3 : List UInt8) (v5 v6 : UInt8) (v7 : Int64) (v8 : UInt8)
    (vl : List (List UInt8 × List UInt8)) =>
  oite (decide (t_1 < t))
    (obind (F55 n (r, (8 : Int64))) fun (x_6 : List UInt8 × Option (List UInt8 × Int64)) =>
      obind (F55 n (Prod.snd x_6, (16 : Int64))) fun (x_7 : List UInt8 × Option (List UInt8 × Int64)) =>
        oite (Nat.ble (List.length vl + List.length [(Prod.fst x_6, Prod.fst x_7)]) (4294967296 : Nat))
          (rec t (t_1 + (1 : UInt64)) (Prod.snd x_7) t0 t1 t2 t3 t5 t6 t7 t8 v0 v1 v2 v3 v5 v6 v7 v8
            (vl ++ [(Prod.fst x_6, Prod.fst x_7)]))
          none)
    (obind (F27 n r) fun (x_6 : UInt8 × Option (List UInt8 × Int64)) =>
      obind (F27 n (Prod.snd x_6)) fun (x_7 : UInt8 × Option (List UInt8 × Int64)) =>
        obind (F57 n (Prod.snd x_7)) fun (x_8 : Int64 × Option (List UInt8 × Int64)) =>
          obind (F27 n (Prod.snd x_8)) fun (x_9 : UInt8 × Option (List UInt8 × Int64)) =>
            some ((v0, v1, v2, v3, vl, Prod.fst x_6, Prod.fst x_7, Prod.fst x_8, Prod.fst x_9), Prod.snd x_9))
def F47_R1021 : Nat →
  Nat →
    PT.T (PT.int IntKind.u64) →
      UInt64 →
        Option (List UInt8 × Int64) →
          UInt8 →
            UInt64 →
              UInt64 →
                List UInt8 →
                  UInt8 →
                    UInt8 →
                      Int64 →
                        UInt8 →
                          UInt8 →
                            UInt64 →
                              UInt64 →
                                List UInt8 →
                                  UInt8 →
                                    UInt8 →
                                      Int64 →
                                        UInt8 →
                                          List (List UInt8 × List UInt8) →
                                            Option
                                              ((UInt8 ×
                                                  UInt64 ×
                                                    UInt64 ×
                                                      List UInt8 ×
                                                        List (List UInt8 × List UInt8) ×
                                                          UInt8 × UInt8 × Int64 × UInt8) ×
                                                Option (List UInt8 × Int64)) := fun (n : Nat) =>
  ofixA (1021 : Nat)
    [PT.int IntKind.u64, PT.int IntKind.u64,
      PT.opt
        (OTs.cons (OT.c (CT.ro (CTs.cons (CT.int IntKind.u8) CTs.nil))) (OTs.cons (OT.c (CT.int IntKind.i64)) OTs.nil)),
      PT.int IntKind.u8, PT.int IntKind.u64, PT.int IntKind.u64, PT.bytes, PT.int IntKind.u8, PT.int IntKind.u8,
      PT.int IntKind.i64, PT.int IntKind.u8, PT.int IntKind.u8, PT.int IntKind.u64, PT.int IntKind.u64, PT.bytes,
      PT.int IntKind.u8, PT.int IntKind.u8, PT.int IntKind.i64, PT.int IntKind.u8,
      PT.list (CTs.cons CT.str (CTs.cons CT.str CTs.nil))]
    (F47_L1021 n)
def F47 : Nat →
  Option (List UInt8 × Int64) →
    Option
      ((UInt8 × UInt64 × UInt64 × List UInt8 × List (List UInt8 × List UInt8) × UInt8 × UInt8 × Int64 × UInt8) ×
        Option (List UInt8 × Int64)) := fun (n : Nat) (x : Option (List UInt8 × Int64)) =>
  obind (F27 n x) fun (x_1 : UInt8 × Option (List UInt8 × Int64)) =>
    obind (F28 n (Prod.snd x_1)) fun (x_2 : UInt64 × Option (List UInt8 × Int64)) =>
      obind (F28 n (Prod.snd x_2)) fun (x_3 : UInt64 × Option (List UInt8 × Int64)) =>
        obind (F55 n (Prod.snd x_3, (12 : Int64))) fun (x_4 : List UInt8 × Option (List UInt8 × Int64)) =>
          obind (F56 n (Prod.snd x_4, (8 : UInt64))) fun (x_5 : UInt64 × Option (List UInt8 × Int64)) =>
            F47_R1021 n n (Prod.fst x_5) (0 : UInt64) (Prod.snd x_5) (0 : UInt8) (0 : UInt64) (0 : UInt64) []
              (0 : UInt8) (0 : UInt8) (0 : Int64) (0 : UInt8) (Prod.fst x_1) (Prod.fst x_2) (Prod.fst x_3)
              (Prod.fst x_4) (0 : UInt8) (0 : UInt8) (0 : Int64) (0 : UInt8) []
theorem F47_R1021_s (n : Nat) (m_ : Nat) : F47_R1021 n (m_ + 1) = F47_L1021 n (F47_R1021 n m_) := rfl
theorem ok47 (n : Nat) : FunOK Try.prog ⟨47, sig47, F47 n⟩ :=
  fun_ok (hints := ⟨[], [(1021, ⟨[(0, .one (.own 0)), (2, .one (.own 1)), (3, .one (.own 2)), (20, .one (.int .u64)), (21, .one (.int .u64))], [(0, .fold (.cons (.c (.ro (.cons (.int .u8) .nil))) (.cons (.c (.int .i64)) .nil))), (1, .cells [.int .u8, .int .u64, .int .u64, .str, .nils, .int .u8, .int .u8, .int .i64, .int .u8]), (2, .cells [.int .u8, .int .u64, .int .u64, .str, .own 3, .int .u8, .int .u8, .int .i64, .int .u8]), (3, .row (.cons .str (.cons .str .nil)))], 4⟩)]⟩) (fuel := n) (c := Try.f47.body.getD .skip) (rs := Try.f47.results.toList) tt_ok mix (FsOK.cons (ok27 n) (FsOK.cons (ok28 n) (FsOK.cons (ok55 n) (FsOK.cons (ok56 n) (FsOK.cons (ok57 n) (FsOK.nil)))))) Try.func47 (by kernel_rfl) (by kernel_rfl) rfl (by kernel_rfl) rfl rfl (by kernel_rfl)
-- (*watchfire/pack.Reader).Err
def sig48 : Sig := ⟨(.cons (.one (.ptr (.cons (.c (.ro (.cons (.int .u8) .nil))) (.cons (.c (.int .i64)) .nil)))) .nil), (.cons (.one (.c (.int .i64))) .nil)⟩
def F48 : Nat → Option (List UInt8 × Int64) → Option (Int64 × Option (List UInt8 × Int64)) := fun (n : Nat) (x : Option (List UInt8 × Int64)) =>
  oelim x (some ((1 : Int64), none)) fun (x_1 : List UInt8 × Int64) =>
    some (Prod.snd x_1, some (Prod.fst x_1, Prod.snd x_1))
theorem ok48 (n : Nat) : FunOK Try.prog ⟨48, sig48, F48 n⟩ :=
  fun_ok (hints := ⟨[], []⟩) (fuel := n) (c := Try.f48.body.getD .skip) (rs := Try.f48.results.toList) tt_ok mix (FsOK.nil) Try.func48 (by kernel_rfl) (by kernel_rfl) rfl (by kernel_rfl) rfl rfl (by kernel_rfl)
-- watchfire/item.Take
def sig29 : Sig := ⟨(.cons (.one (.ptr (.cons (.c (.ro (.cons (.int .u8) .nil))) (.cons (.c (.int .i64)) .nil)))) .nil), (.cons (.agg (.cons .bool (.cons (.int .u8) (.cons (.int .u64) (.cons (.int .u64) (.cons .str (.cons (.ro (.cons .str (.cons .str .nil))) (.cons (.int .u8) (.cons (.int .u8) (.cons (.int .i64) (.cons (.int .u8) (.cons (.int .u8) (.cons (.int .u64) (.cons (.int .u64) .nil)))))))))))))) .nil)⟩
def F29_J15 : Nat →
  Option (List UInt8 × Int64) →
    Bool →
      UInt8 →
        UInt64 →
          UInt64 →
            List UInt8 →
              UInt8 →
                UInt8 →
                  Int64 →
                    UInt8 →
                      UInt8 →
                        UInt64 →
                          UInt64 →
                            Bool →
                              UInt8 →
                                UInt64 →
                                  UInt64 →
                                    List UInt8 →
                                      List (List UInt8 × List UInt8) →
                                        UInt8 →
                                          UInt8 →
                                            Int64 →
                                              UInt8 →
                                                UInt8 →
                                                  UInt64 →
                                                    UInt64 →
                                                      Option
                                                        ((Bool ×
                                                            UInt8 ×
                                                              UInt64 ×
                                                                UInt64 ×
                                                                  List UInt8 ×
                                                                    List (List UInt8 × List UInt8) ×
                                                                      UInt8 ×
                                                                        UInt8 ×
                                                                          Int64 × UInt8 × UInt8 × UInt64 × UInt64) ×
                                                          Option (List UInt8 × Int64)) := fun (n : Nat) (r_1 : Option (List UInt8 × Int64)) (t0_1 : Bool) (t1_1 : UInt8) (t2_1 t3_1 : UInt64) (t4_1 : List UInt8)
    (t6_1 t7_1 : UInt8) (t8_1 : Int64) (t9_1 t10_1 : UInt8) (t11_1 t12_1 : UInt64) (x0_1 : Bool) (x1_1 : UInt8)
    (x2_1 x3_1 : UInt64) (x4_1 : List UInt8) (x5_1 : List (List UInt8 × List UInt8)) (x6_1 x7_1 : UInt8) (x8_1 : Int64)
    (x9_1 x10_1 : UInt8) (x11_1 x12_1 : UInt64) =>
  obind (F48 n r_1) fun (x_2 : Int64 × Option (List UInt8 × Int64)) =>
    oite (!decide (Prod.fst x_2 = (0 : Int64)))
      (some
        ((false, (0 : UInt8), (0 : UInt64), (0 : UInt64), [], [], (0 : UInt8), (0 : UInt8), (0 : Int64), (0 : UInt8),
            (0 : UInt8), (0 : UInt64), (0 : UInt64)),
          Prod.snd x_2))
      (some ((x0_1, x1_1, x2_1, x3_1, x4_1, x5_1, x6_1, x7_1, x8_1, x9_1, x10_1, x11_1, x12_1), Prod.snd x_2))
def F29_J7 : Nat →
  Option (List UInt8 × Int64) →
    Bool →
      UInt8 →
        UInt64 →
          UInt64 →
            List UInt8 →
              UInt8 →
                UInt8 →
                  Int64 →
                    UInt8 →
                      UInt8 →
                        UInt64 →
                          UInt64 →
                            Bool →
                              UInt8 →
                                UInt64 →
                                  UInt64 →
                                    List UInt8 →
                                      List (List UInt8 × List UInt8) →
                                        UInt8 →
                                          UInt8 →
                                            Int64 →
                                              UInt8 →
                                                UInt8 →
                                                  UInt64 →
                                                    UInt64 →
                                                      Option
                                                        ((Bool ×
                                                            UInt8 ×
                                                              UInt64 ×
                                                                UInt64 ×
                                                                  List UInt8 ×
                                                                    List (List UInt8 × List UInt8) ×
                                                                      UInt8 ×
                                                                        UInt8 ×
                                                                          Int64 × UInt8 × UInt8 × UInt64 × UInt64) ×
                                                          Option (List UInt8 × Int64)) := fun (n : Nat) (r : Option (List UInt8 × Int64)) (t0 : Bool) (t1 : UInt8) (t2 t3 : UInt64) (t4 : List UInt8)
    (t6 t7 : UInt8) (t8 : Int64) (t9 t10 : UInt8) (t11 t12 : UInt64) (x0 : Bool) (x1 : UInt8) (x2 x3 : UInt64)
    (x4 : List UInt8) (x5 : List (List UInt8 × List UInt8)) (x6 x7 : UInt8) (x8 : Int64) (x9 x10 : UInt8)
    (x11 x12 : UInt64) =>
  ojoinA (15 : Nat)
    [PT.opt
        (OTs.cons (OT.c (CT.ro (CTs.cons (CT.int IntKind.u8) CTs.nil))) (OTs.cons (OT.c (CT.int IntKind.i64)) OTs.nil)),
      PT.bool, PT.int IntKind.u8, PT.int IntKind.u64, PT.int IntKind.u64, PT.bytes, PT.int IntKind.u8,
      PT.int IntKind.u8, PT.int IntKind.i64, PT.int IntKind.u8, PT.int IntKind.u8, PT.int IntKind.u64,
      PT.int IntKind.u64, PT.bool, PT.int IntKind.u8, PT.int IntKind.u64, PT.int IntKind.u64, PT.bytes,
      PT.list (CTs.cons CT.str (CTs.cons CT.str CTs.nil)), PT.int IntKind.u8, PT.int IntKind.u8, PT.int IntKind.i64,
      PT.int IntKind.u8, PT.int IntKind.u8, PT.int IntKind.u64, PT.int IntKind.u64]
    (fun
        (J :
          Arr
            [PT.opt
                (OTs.cons (OT.c (CT.ro (CTs.cons (CT.int IntKind.u8) CTs.nil)))
                  (OTs.cons (OT.c (CT.int IntKind.i64)) OTs.nil)),
              PT.bool, PT.int IntKind.u8, PT.int IntKind.u64, PT.int IntKind.u64, PT.bytes, PT.int IntKind.u8,
              PT.int IntKind.u8, PT.int IntKind.i64, PT.int IntKind.u8, PT.int IntKind.u8, PT.int IntKind.u64,
              PT.int IntKind.u64, PT.bool, PT.int IntKind.u8, PT.int IntKind.u64, PT.int IntKind.u64, PT.bytes,
              PT.list (CTs.cons CT.str (CTs.cons CT.str CTs.nil)), PT.int IntKind.u8, PT.int IntKind.u8,
              PT.int IntKind.i64, PT.int IntKind.u8, PT.int IntKind.u8, PT.int IntKind.u64, PT.int IntKind.u64]
            (Option
              ((Bool ×
                  UInt8 ×
                    UInt64 ×
                      UInt64 ×
                        List UInt8 ×
                          List (List UInt8 × List UInt8) × UInt8 × UInt8 × Int64 × UInt8 × UInt8 × UInt64 × UInt64) ×
                Option (List UInt8 × Int64)))) =>
      obind (F48 n r) fun (x_2 : Int64 × Option (List UInt8 × Int64)) =>
        oite (decide (Prod.fst x_2 = (0 : Int64)))
          (obind (F36 n (x0, x1, x2, x3, x4, x5, x6, x7, x8, x9, x10, x11, x12)) fun (x_3 : Int64 × Unit) =>
            oite (!decide (Prod.fst x_3 = (0 : Int64)))
              (obind (F45 n (Prod.snd x_2, Prod.fst x_3)) fun (x_4 : Unit × Option (List UInt8 × Int64)) =>
                J (Prod.snd x_4) t0 t1 t2 t3 t4 t6 t7 t8 t9 t10 t11 t12 x0 x1 x2 x3 x4 x5 x6 x7 x8 x9 x10 x11 x12)
              (J (Prod.snd x_2) t0 t1 t2 t3 t4 t6 t7 t8 t9 t10 t11 t12 x0 x1 x2 x3 x4 x5 x6 x7 x8 x9 x10 x11 x12))
          (J (Prod.snd x_2) t0 t1 t2 t3 t4 t6 t7 t8 t9 t10 t11 t12 x0 x1 x2 x3 x4 x5 x6 x7 x8 x9 x10 x11 x12))
    (F29_J15 n)
def F29 : Nat →
  Option (List UInt8 × Int64) →
    Option
      ((Bool ×
          UInt8 ×
            UInt64 ×
              UInt64 ×
                List UInt8 × List (List UInt8 × List UInt8) × UInt8 × UInt8 × Int64 × UInt8 × UInt8 × UInt64 × UInt64) ×
        Option (List UInt8 × Int64)) := fun (n : Nat) (x : Option (List UInt8 × Int64)) =>
  obind (F46 n x) fun (x_1 : Bool × Option (List UInt8 × Int64)) =>
    ojoinA (7 : Nat)
      [PT.opt
          (OTs.cons (OT.c (CT.ro (CTs.cons (CT.int IntKind.u8) CTs.nil)))
            (OTs.cons (OT.c (CT.int IntKind.i64)) OTs.nil)),
        PT.bool, PT.int IntKind.u8, PT.int IntKind.u64, PT.int IntKind.u64, PT.bytes, PT.int IntKind.u8,
        PT.int IntKind.u8, PT.int IntKind.i64, PT.int IntKind.u8, PT.int IntKind.u8, PT.int IntKind.u64,
        PT.int IntKind.u64, PT.bool, PT.int IntKind.u8, PT.int IntKind.u64, PT.int IntKind.u64, PT.bytes,
        PT.list (CTs.cons CT.str (CTs.cons CT.str CTs.nil)), PT.int IntKind.u8, PT.int IntKind.u8, PT.int IntKind.i64,
        PT.int IntKind.u8, PT.int IntKind.u8, PT.int IntKind.u64, PT.int IntKind.u64]
      (fun
          (J :
            Arr
              [PT.opt
                  (OTs.cons (OT.c (CT.ro (CTs.cons (CT.int IntKind.u8) CTs.nil)))
                    (OTs.cons (OT.c (CT.int IntKind.i64)) OTs.nil)),
                PT.bool, PT.int IntKind.u8, PT.int IntKind.u64, PT.int IntKind.u64, PT.bytes, PT.int IntKind.u8,
                PT.int IntKind.u8, PT.int IntKind.i64, PT.int IntKind.u8, PT.int IntKind.u8, PT.int IntKind.u64,
                PT.int IntKind.u64, PT.bool, PT.int IntKind.u8, PT.int IntKind.u64, PT.int IntKind.u64, PT.bytes,
                PT.list (CTs.cons CT.str (CTs.cons CT.str CTs.nil)), PT.int IntKind.u8, PT.int IntKind.u8,
                PT.int IntKind.i64, PT.int IntKind.u8, PT.int IntKind.u8, PT.int IntKind.u64, PT.int IntKind.u64]
              (Option
                ((Bool ×
                    UInt8 ×
                      UInt64 ×
                        UInt64 ×
                          List UInt8 ×
                            List (List UInt8 × List UInt8) × UInt8 × UInt8 × Int64 × UInt8 × UInt8 × UInt64 × UInt64) ×
                  Option (List UInt8 × Int64)))) =>
        oite (Prod.fst x_1)
          (obind (F27 n (Prod.snd x_1)) fun (x_2 : UInt8 × Option (List UInt8 × Int64)) =>
            obind (F28 n (Prod.snd x_2)) fun (x_3 : UInt64 × Option (List UInt8 × Int64)) =>
              obind (F28 n (Prod.snd x_3)) fun (x_4 : UInt64 × Option (List UInt8 × Int64)) =>
                J (Prod.snd x_4) false (0 : UInt8) (0 : UInt64) (0 : UInt64) [] (0 : UInt8) (0 : UInt8) (0 : Int64)
                  (0 : UInt8) (0 : UInt8) (0 : UInt64) (0 : UInt64) (Prod.fst x_1) (0 : UInt8) (0 : UInt64) (0 : UInt64)
                  [] [] (0 : UInt8) (0 : UInt8) (0 : Int64) (0 : UInt8) (Prod.fst x_2) (Prod.fst x_3) (Prod.fst x_4))
          (obind (F47 n (Prod.snd x_1))
            fun
              (x_2 :
                (UInt8 ×
                    UInt64 × UInt64 × List UInt8 × List (List UInt8 × List UInt8) × UInt8 × UInt8 × Int64 × UInt8) ×
                  Option (List UInt8 × Int64)) =>
            J (Prod.snd x_2) false (0 : UInt8) (0 : UInt64) (0 : UInt64) [] (0 : UInt8) (0 : UInt8) (0 : Int64)
              (0 : UInt8) (0 : UInt8) (0 : UInt64) (0 : UInt64) (Prod.fst x_1) (Prod.fst (Prod.fst x_2))
              (Prod.fst (Prod.snd (Prod.fst x_2))) (Prod.fst (Prod.snd (Prod.snd (Prod.fst x_2))))
              (Prod.fst (Prod.snd (Prod.snd (Prod.snd (Prod.fst x_2)))))
              (Prod.fst (Prod.snd (Prod.snd (Prod.snd (Prod.snd (Prod.fst x_2))))))
              (Prod.fst (Prod.snd (Prod.snd (Prod.snd (Prod.snd (Prod.snd (Prod.fst x_2)))))))
              (Prod.fst (Prod.snd (Prod.snd (Prod.snd (Prod.snd (Prod.snd (Prod.snd (Prod.fst x_2))))))))
              (Prod.fst (Prod.snd (Prod.snd (Prod.snd (Prod.snd (Prod.snd (Prod.snd (Prod.snd (Prod.fst x_2)))))))))
              (Prod.snd (Prod.snd (Prod.snd (Prod.snd (Prod.snd (Prod.snd (Prod.snd (Prod.snd (Prod.fst x_2)))))))))
              (0 : UInt8) (0 : UInt64) (0 : UInt64)))
      (F29_J7 n)
theorem ok29 (n : Nat) : FunOK Try.prog ⟨29, sig29, F29 n⟩ :=
  fun_ok (hints := ⟨[(7, ⟨[(0, .one (.own 0)), (2, .one (.own 1)), (3, .one (.own 2))], [(0, .fold (.cons (.c (.ro (.cons (.int .u8) .nil))) (.cons (.c (.int .i64)) .nil))), (1, .cells [.bool, .int .u8, .int .u64, .int .u64, .str, .nils, .int .u8, .int .u8, .int .i64, .int .u8, .int .u8, .int .u64, .int .u64]), (2, .cells [.bool, .int .u8, .int .u64, .int .u64, .str, .ro (.cons .str (.cons .str .nil)), .int .u8, .int .u8, .int .i64, .int .u8, .int .u8, .int .u64, .int .u64])], 3⟩), (15, ⟨[(0, .one (.own 0)), (2, .one (.own 1)), (3, .one (.own 2))], [(0, .fold (.cons (.c (.ro (.cons (.int .u8) .nil))) (.cons (.c (.int .i64)) .nil))), (1, .cells [.bool, .int .u8, .int .u64, .int .u64, .str, .nils, .int .u8, .int .u8, .int .i64, .int .u8, .int .u8, .int .u64, .int .u64]), (2, .cells [.bool, .int .u8, .int .u64, .int .u64, .str, .ro (.cons .str (.cons .str .nil)), .int .u8, .int .u8, .int .i64, .int .u8, .int .u8, .int .u64, .int .u64])], 3⟩)], []⟩) (fuel := n) (c := Try.f29.body.getD .skip) (rs := Try.f29.results.toList) tt_ok mix (FsOK.cons (ok46 n) (FsOK.cons (ok27 n) (FsOK.cons (ok28 n) (FsOK.cons (ok47 n) (FsOK.cons (ok48 n) (FsOK.cons (ok36 n) (FsOK.cons (ok45 n) (FsOK.nil)))))))) Try.func29 (by kernel_rfl) (by kernel_rfl) rfl (by kernel_rfl) rfl rfl (by kernel_rfl)
-- (*watchfire/pack.Reader).Left
def sig49 : Sig := ⟨(.cons (.one (.ptr (.cons (.c (.ro (.cons (.int .u8) .nil))) (.cons (.c (.int .i64)) .nil)))) .nil), (.cons (.one (.c (.int .i64))) .nil)⟩
def F49 : Nat → Option (List UInt8 × Int64) → Option (Int64 × Option (List UInt8 × Int64)) := fun (n : Nat) (x : Option (List UInt8 × Int64)) =>
  obind (F44 n x) fun (x_1 : Bool × Option (List UInt8 × Int64)) =>
    oite (!Prod.fst x_1) (some ((0 : Int64), Prod.snd x_1))
      (obind (Prod.snd x_1) fun (x_2 : List UInt8 × Int64) =>
        some (Int64.ofInt ↑(List.length (Prod.fst x_2)), some (Prod.fst x_2, Prod.snd x_2)))
theorem ok49 (n : Nat) : FunOK Try.prog ⟨49, sig49, F49 n⟩ :=
  fun_ok (hints := ⟨[], []⟩) (fuel := n) (c := Try.f49.body.getD .skip) (rs := Try.f49.results.toList) tt_ok mix (FsOK.cons (ok44 n) (FsOK.nil)) Try.func49 (by kernel_rfl) (by kernel_rfl) rfl (by kernel_rfl) rfl rfl (by kernel_rfl)
-- (*watchfire/pack.Reader).Done
def sig30 : Sig := ⟨(.cons (.one (.ptr (.cons (.c (.ro (.cons (.int .u8) .nil))) (.cons (.c (.int .i64)) .nil)))) .nil), (.cons (.one (.c (.int .i64))) .nil)⟩
def F30 : Nat → Option (List UInt8 × Int64) → Option (Int64 × Option (List UInt8 × Int64)) := fun (n : Nat) (x : Option (List UInt8 × Int64)) =>
  obind (F49 n x) fun (x_1 : Int64 × Option (List UInt8 × Int64)) =>
    oite (decide ((0 : Int64) < Prod.fst x_1))
      (obind (F45 n (Prod.snd x_1, (25 : Int64))) fun (x_2 : Unit × Option (List UInt8 × Int64)) =>
        obind (F48 n (Prod.snd x_2)) fun (x_3 : Int64 × Option (List UInt8 × Int64)) =>
          some (Prod.fst x_3, Prod.snd x_3))
      (obind (F48 n (Prod.snd x_1)) fun (x_2 : Int64 × Option (List UInt8 × Int64)) =>
        some (Prod.fst x_2, Prod.snd x_2))
theorem ok30 (n : Nat) : FunOK Try.prog ⟨30, sig30, F30 n⟩ :=
  fun_ok (hints := ⟨[], []⟩) (fuel := n) (c := Try.f30.body.getD .skip) (rs := Try.f30.results.toList) tt_ok mix (FsOK.cons (ok49 n) (FsOK.cons (ok45 n) (FsOK.cons (ok48 n) (FsOK.nil)))) Try.func30 (by kernel_rfl) (by kernel_rfl) rfl (by kernel_rfl) rfl rfl (by kernel_rfl)
end Go.Proofs.Ytgknjddbbehboaa
