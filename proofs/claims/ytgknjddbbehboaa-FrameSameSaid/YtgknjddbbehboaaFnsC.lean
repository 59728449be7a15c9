/- What the functions of this seat compute, found by walking their code symbolically: each F is what the walk finds, each ok says that the Go function keeps it as a contract. Printed by a program of this repo's. -/
import Derived.Test.YtgknjddbbehboaaFnsB
open Go Go.Sx
namespace Go.Proofs.Ytgknjddbbehboaa
set_option maxRecDepth 100000
set_option linter.unusedVariables false
-- watchfire/frame.Decode
def sig12 : Sig := ⟨(.cons (.one (.ptrA (.cons (.c (.int .u32)) (.cons (.c (.int .i32)) (.cons (.c (.int .u32)) .nil))) (.int .u32) 256 (.cons (.c (.int .u64)) (.cons (.c (.int .u64)) .nil)))) (.cons (.one (.c (.ro (.cons (.int .u8) .nil)))) .nil)), (.cons (.agg (.cons (.int .u8) (.cons (.int .u8) (.cons (.int .u8) (.cons (.int .u64) (.cons (.int .u64) (.cons .bool (.cons (.int .u8) (.cons (.int .u64) (.cons (.int .u64) (.cons .str (.cons (.ro (.cons .str (.cons .str .nil))) (.cons (.int .u8) (.cons (.int .u8) (.cons (.int .i64) (.cons (.int .u8) (.cons (.int .u8) (.cons (.int .u64) (.cons (.int .u64) (.cons (.int .u64) (.cons (.int .u64) (.cons (.int .u64) .nil)))))))))))))))))))))) (.cons (.one (.c (.int .i64))) .nil))⟩
def F12_J1023 : Nat →
  Option ((UInt32 × Int32 × UInt32) × List UInt32 × UInt64 × UInt64) →
    UInt8 →
      UInt8 →
        UInt8 →
          UInt64 →
            UInt64 →
              Bool →
                UInt8 →
                  UInt64 →
                    UInt64 →
                      List UInt8 →
                        UInt8 →
                          UInt8 →
                            Int64 →
                              UInt8 →
                                UInt8 →
                                  UInt64 →
                                    UInt64 →
                                      UInt64 →
                                        UInt64 →
                                          UInt64 →
                                            Option (List UInt8 × Int64) →
                                              UInt8 →
                                                UInt8 →
                                                  UInt8 →
                                                    UInt64 →
                                                      UInt64 →
                                                        Bool →
                                                          UInt8 →
                                                            UInt64 →
                                                              UInt64 →
                                                                List UInt8 →
                                                                  List (List UInt8 × List UInt8) →
                                                                    UInt8 →
                                                                      UInt8 →
                                                                        Int64 →
                                                                          UInt8 →
                                                                            UInt8 →
                                                                              UInt64 →
                                                                                UInt64 →
                                                                                  UInt64 →
                                                                                    UInt64 →
                                                                                      UInt64 →
                                                                                        Option
                                                                                          (((UInt8 ×
                                                                                                UInt8 ×
                                                                                                  UInt8 ×
                                                                                                    UInt64 ×
                                                                                                      UInt64 ×
                                                                                                        Bool ×
                                                                                                          UInt8 ×
                                                                                                            UInt64 ×
                                                                                                              UInt64 ×
                                                                                                                List
                                                                                                                    UInt8 ×
                                                                                                                  List
                                                                                                                      (List
                                                                                                                          UInt8 ×
                                                                                                                        List
                                                                                                                          UInt8) ×
                                                                                                                    UInt8 ×
                                                                                                                      UInt8 ×
                                                                                                                        Int64 ×
                                                                                                                          UInt8 ×
                                                                                                                            UInt8 ×
                                                                                                                              UInt64 ×
                                                                                                                                UInt64 ×
                                                                                                                                  UInt64 ×
                                                                                                                                    UInt64 ×
                                                                                                                                      UInt64) ×
                                                                                              Int64) ×
                                                                                            Option
                                                                                              ((UInt32 ×
                                                                                                  Int32 × UInt32) ×
                                                                                                List UInt32 ×
                                                                                                  UInt64 × UInt64)) := fun (n : Nat) (c0 : Option ((UInt32 × Int32 × UInt32) × List UInt32 × UInt64 × UInt64)) (t0 t1 t2 : UInt8)
    (t3 t4 : UInt64) (t5 : Bool) (t6 : UInt8) (t7 t8 : UInt64) (t9 : List UInt8) (t11 t12 : UInt8) (t13 : Int64)
    (t14 t15 : UInt8) (t16 t17 t18 t19 t20 : UInt64) (r : Option (List UInt8 × Int64)) (f0 f1 f2 : UInt8)
    (f3 f4 : UInt64) (f5 : Bool) (f6 : UInt8) (f7 f8 : UInt64) (f9 : List UInt8) (f10 : List (List UInt8 × List UInt8))
    (f11 f12 : UInt8) (f13 : Int64) (f14 f15 : UInt8) (f16 f17 f18 f19 f20 : UInt64) =>
  obind (F30 n r) fun (x_8 : Int64 × Option (List UInt8 × Int64)) =>
    oite (!decide (Prod.fst x_8 = (0 : Int64)))
      (some
        ((((0 : UInt8), (0 : UInt8), (0 : UInt8), (0 : UInt64), (0 : UInt64), false, (0 : UInt8), (0 : UInt64),
              (0 : UInt64), [], [], (0 : UInt8), (0 : UInt8), (0 : Int64), (0 : UInt8), (0 : UInt8), (0 : UInt64),
              (0 : UInt64), (0 : UInt64), (0 : UInt64), (0 : UInt64)),
            Prod.fst x_8),
          c0))
      (obind (F19 n (f0, f1, f2, f3, f4, f5, f6, f7, f8, f9, f10, f11, f12, f13, f14, f15, f16, f17, f18, f19, f20))
        fun (x_9 : Int64 × Unit) =>
        oite (!decide (Prod.fst x_9 = (0 : Int64)))
          (some
            ((((0 : UInt8), (0 : UInt8), (0 : UInt8), (0 : UInt64), (0 : UInt64), false, (0 : UInt8), (0 : UInt64),
                  (0 : UInt64), [], [], (0 : UInt8), (0 : UInt8), (0 : Int64), (0 : UInt8), (0 : UInt8), (0 : UInt64),
                  (0 : UInt64), (0 : UInt64), (0 : UInt64), (0 : UInt64)),
                Prod.fst x_9),
              c0))
          (some
            (((f0, f1, f2, f3, f4, f5, f6, f7, f8, f9, f10, f11, f12, f13, f14, f15, f16, f17, f18, f19, f20),
                (0 : Int64)),
              c0)))
def F12 : Nat →
  Option ((UInt32 × Int32 × UInt32) × List UInt32 × UInt64 × UInt64) × List UInt8 →
    Option
      (((UInt8 ×
            UInt8 ×
              UInt8 ×
                UInt64 ×
                  UInt64 ×
                    Bool ×
                      UInt8 ×
                        UInt64 ×
                          UInt64 ×
                            List UInt8 ×
                              List (List UInt8 × List UInt8) ×
                                UInt8 × UInt8 × Int64 × UInt8 × UInt8 × UInt64 × UInt64 × UInt64 × UInt64 × UInt64) ×
          Int64) ×
        Option ((UInt32 × Int32 × UInt32) × List UInt32 × UInt64 × UInt64)) := fun (n : Nat) (x : Option ((UInt32 × Int32 × UInt32) × List UInt32 × UInt64 × UInt64) × List UInt8) =>
  oelim (Prod.fst x)
    (some
      ((((0 : UInt8), (0 : UInt8), (0 : UInt8), (0 : UInt64), (0 : UInt64), false, (0 : UInt8), (0 : UInt64),
            (0 : UInt64), [], [], (0 : UInt8), (0 : UInt8), (0 : Int64), (0 : UInt8), (0 : UInt8), (0 : UInt64),
            (0 : UInt64), (0 : UInt64), (0 : UInt64), (0 : UInt64)),
          (1 : Int64)),
        none))
    fun (x_1 : (UInt32 × Int32 × UInt32) × List UInt32 × UInt64 × UInt64) =>
    oite (decide (Int64.ofInt ↑(List.length (Prod.snd x)) < (8 : Int64)))
      (some
        ((((0 : UInt8), (0 : UInt8), (0 : UInt8), (0 : UInt64), (0 : UInt64), false, (0 : UInt8), (0 : UInt64),
              (0 : UInt64), [], [], (0 : UInt8), (0 : UInt8), (0 : Int64), (0 : UInt8), (0 : UInt8), (0 : UInt64),
              (0 : UInt64), (0 : UInt64), (0 : UInt64), (0 : UInt64)),
            (3 : Int64)),
          some
            ((Prod.fst (Prod.fst x_1), Prod.fst (Prod.snd (Prod.fst x_1)), Prod.snd (Prod.snd (Prod.fst x_1))),
              Prod.fst (Prod.snd x_1), Prod.fst (Prod.snd (Prod.snd x_1)), Prod.snd (Prod.snd (Prod.snd x_1)))))
      (obind
        (F25 n
          (some
              ((Prod.fst (Prod.fst x_1), Prod.fst (Prod.snd (Prod.fst x_1)), Prod.snd (Prod.snd (Prod.fst x_1))),
                Prod.fst (Prod.snd x_1), Prod.fst (Prod.snd (Prod.snd x_1)), Prod.snd (Prod.snd (Prod.snd x_1))),
            Prod.snd x))
        fun (x_2 : (List UInt8 × Bool) × Option ((UInt32 × Int32 × UInt32) × List UInt32 × UInt64 × UInt64)) =>
        oite (!Prod.snd (Prod.fst x_2))
          (some
            ((((0 : UInt8), (0 : UInt8), (0 : UInt8), (0 : UInt64), (0 : UInt64), false, (0 : UInt8), (0 : UInt64),
                  (0 : UInt64), [], [], (0 : UInt8), (0 : UInt8), (0 : Int64), (0 : UInt8), (0 : UInt8), (0 : UInt64),
                  (0 : UInt64), (0 : UInt64), (0 : UInt64), (0 : UInt64)),
                (10 : Int64)),
              Prod.snd x_2))
          (obind (F26 n (Prod.fst (Prod.fst x_2))) fun (x_3 : Option (List UInt8 × Int64) × Unit) =>
            obind (F27 n (Prod.fst x_3)) fun (x_4 : UInt8 × Option (List UInt8 × Int64)) =>
              oite (!decide (Prod.fst x_4 = (183 : UInt8)))
                (some
                  ((((0 : UInt8), (0 : UInt8), (0 : UInt8), (0 : UInt64), (0 : UInt64), false, (0 : UInt8),
                        (0 : UInt64), (0 : UInt64), [], [], (0 : UInt8), (0 : UInt8), (0 : Int64), (0 : UInt8),
                        (0 : UInt8), (0 : UInt64), (0 : UInt64), (0 : UInt64), (0 : UInt64), (0 : UInt64)),
                      (11 : Int64)),
                    Prod.snd x_2))
                (obind (F27 n (Prod.snd x_4)) fun (x_5 : UInt8 × Option (List UInt8 × Int64)) =>
                  obind (F27 n (Prod.snd x_5)) fun (x_6 : UInt8 × Option (List UInt8 × Int64)) =>
                    obind (F27 n (Prod.snd x_6)) fun (x_7 : UInt8 × Option (List UInt8 × Int64)) =>
                      ojoinA (1023 : Nat)
                        [PT.optA
                            (OTs.cons (OT.c (CT.int IntKind.u32))
                              (OTs.cons (OT.c (CT.int IntKind.i32)) (OTs.cons (OT.c (CT.int IntKind.u32)) OTs.nil)))
                            (CT.int IntKind.u32)
                            (OTs.cons (OT.c (CT.int IntKind.u64)) (OTs.cons (OT.c (CT.int IntKind.u64)) OTs.nil)),
                          PT.int IntKind.u8, PT.int IntKind.u8, PT.int IntKind.u8, PT.int IntKind.u64,
                          PT.int IntKind.u64, PT.bool, PT.int IntKind.u8, PT.int IntKind.u64, PT.int IntKind.u64,
                          PT.bytes, PT.int IntKind.u8, PT.int IntKind.u8, PT.int IntKind.i64, PT.int IntKind.u8,
                          PT.int IntKind.u8, PT.int IntKind.u64, PT.int IntKind.u64, PT.int IntKind.u64,
                          PT.int IntKind.u64, PT.int IntKind.u64,
                          PT.opt
                            (OTs.cons (OT.c (CT.ro (CTs.cons (CT.int IntKind.u8) CTs.nil)))
                              (OTs.cons (OT.c (CT.int IntKind.i64)) OTs.nil)),
                          PT.int IntKind.u8, PT.int IntKind.u8, PT.int IntKind.u8, PT.int IntKind.u64,
                          PT.int IntKind.u64, PT.bool, PT.int IntKind.u8, PT.int IntKind.u64, PT.int IntKind.u64,
                          PT.bytes, PT.list (CTs.cons CT.str (CTs.cons CT.str CTs.nil)), PT.int IntKind.u8,
                          PT.int IntKind.u8, PT.int IntKind.i64, PT.int IntKind.u8, PT.int IntKind.u8,
                          PT.int IntKind.u64, PT.int IntKind.u64, PT.int IntKind.u64, PT.int IntKind.u64,
                          PT.int IntKind.u64]
                        (fun
                            (J :
                              Arr
                                [PT.optA
                                    (OTs.cons (OT.c (CT.int IntKind.u32))
                                      (OTs.cons (OT.c (CT.int IntKind.i32))
                                        (OTs.cons (OT.c (CT.int IntKind.u32)) OTs.nil)))
                                    (CT.int IntKind.u32)
                                    (OTs.cons (OT.c (CT.int IntKind.u64))
                                      (OTs.cons (OT.c (CT.int IntKind.u64)) OTs.nil)),
                                  PT.int IntKind.u8, PT.int IntKind.u8, PT.int IntKind.u8, PT.int IntKind.u64,
                                  PT.int IntKind.u64, PT.bool, PT.int IntKind.u8, PT.int IntKind.u64,
                                  PT.int IntKind.u64, PT.bytes, PT.int IntKind.u8, PT.int IntKind.u8,
                                  PT.int IntKind.i64, PT.int IntKind.u8, PT.int IntKind.u8, PT.int IntKind.u64,
                                  PT.int IntKind.u64, PT.int IntKind.u64, PT.int IntKind.u64, PT.int IntKind.u64,
                                  PT.opt
                                    (OTs.cons (OT.c (CT.ro (CTs.cons (CT.int IntKind.u8) CTs.nil)))
                                      (OTs.cons (OT.c (CT.int IntKind.i64)) OTs.nil)),
                                  PT.int IntKind.u8, PT.int IntKind.u8, PT.int IntKind.u8, PT.int IntKind.u64,
                                  PT.int IntKind.u64, PT.bool, PT.int IntKind.u8, PT.int IntKind.u64,
                                  PT.int IntKind.u64, PT.bytes, PT.list (CTs.cons CT.str (CTs.cons CT.str CTs.nil)),
                                  PT.int IntKind.u8, PT.int IntKind.u8, PT.int IntKind.i64, PT.int IntKind.u8,
                                  PT.int IntKind.u8, PT.int IntKind.u64, PT.int IntKind.u64, PT.int IntKind.u64,
                                  PT.int IntKind.u64, PT.int IntKind.u64]
                                (Option
                                  (((UInt8 ×
                                        UInt8 ×
                                          UInt8 ×
                                            UInt64 ×
                                              UInt64 ×
                                                Bool ×
                                                  UInt8 ×
                                                    UInt64 ×
                                                      UInt64 ×
                                                        List UInt8 ×
                                                          List (List UInt8 × List UInt8) ×
                                                            UInt8 ×
                                                              UInt8 ×
                                                                Int64 ×
                                                                  UInt8 ×
                                                                    UInt8 ×
                                                                      UInt64 × UInt64 × UInt64 × UInt64 × UInt64) ×
                                      Int64) ×
                                    Option ((UInt32 × Int32 × UInt32) × List UInt32 × UInt64 × UInt64)))) =>
                          oite (decide (Prod.fst x_5 = (1 : UInt8)))
                            (obind (F28 n (Prod.snd x_7)) fun (x_8 : UInt64 × Option (List UInt8 × Int64)) =>
                              obind (F28 n (Prod.snd x_8)) fun (x_9 : UInt64 × Option (List UInt8 × Int64)) =>
                                obind (F29 n (Prod.snd x_9))
                                  fun
                                    (x_10 :
                                      (Bool ×
                                          UInt8 ×
                                            UInt64 ×
                                              UInt64 ×
                                                List UInt8 ×
                                                  List (List UInt8 × List UInt8) ×
                                                    UInt8 × UInt8 × Int64 × UInt8 × UInt8 × UInt64 × UInt64) ×
                                        Option (List UInt8 × Int64)) =>
                                  J (Prod.snd x_2) (0 : UInt8) (0 : UInt8) (0 : UInt8) (0 : UInt64) (0 : UInt64) false
                                    (0 : UInt8) (0 : UInt64) (0 : UInt64) [] (0 : UInt8) (0 : UInt8) (0 : Int64)
                                    (0 : UInt8) (0 : UInt8) (0 : UInt64) (0 : UInt64) (0 : UInt64) (0 : UInt64)
                                    (0 : UInt64) (Prod.snd x_10) (Prod.fst x_5) (Prod.fst x_6) (Prod.fst x_7)
                                    (Prod.fst x_8) (Prod.fst x_9) (Prod.fst (Prod.fst x_10))
                                    (Prod.fst (Prod.snd (Prod.fst x_10)))
                                    (Prod.fst (Prod.snd (Prod.snd (Prod.fst x_10))))
                                    (Prod.fst (Prod.snd (Prod.snd (Prod.snd (Prod.fst x_10)))))
                                    (Prod.fst (Prod.snd (Prod.snd (Prod.snd (Prod.snd (Prod.fst x_10))))))
                                    (Prod.fst (Prod.snd (Prod.snd (Prod.snd (Prod.snd (Prod.snd (Prod.fst x_10)))))))
                                    (Prod.fst
                                      (Prod.snd (Prod.snd (Prod.snd (Prod.snd (Prod.snd (Prod.snd (Prod.fst x_10))))))))
                                    (Prod.fst
                                      (Prod.snd
                                        (Prod.snd
                                          (Prod.snd (Prod.snd (Prod.snd (Prod.snd (Prod.snd (Prod.fst x_10)))))))))
                                    (Prod.fst
                                      (Prod.snd
                                        (Prod.snd
                                          (Prod.snd
                                            (Prod.snd (Prod.snd (Prod.snd (Prod.snd (Prod.snd (Prod.fst x_10))))))))))
                                    (Prod.fst
                                      (Prod.snd
                                        (Prod.snd
                                          (Prod.snd
                                            (Prod.snd
                                              (Prod.snd
                                                (Prod.snd (Prod.snd (Prod.snd (Prod.snd (Prod.fst x_10)))))))))))
                                    (Prod.fst
                                      (Prod.snd
                                        (Prod.snd
                                          (Prod.snd
                                            (Prod.snd
                                              (Prod.snd
                                                (Prod.snd
                                                  (Prod.snd (Prod.snd (Prod.snd (Prod.snd (Prod.fst x_10))))))))))))
                                    (Prod.fst
                                      (Prod.snd
                                        (Prod.snd
                                          (Prod.snd
                                            (Prod.snd
                                              (Prod.snd
                                                (Prod.snd
                                                  (Prod.snd
                                                    (Prod.snd (Prod.snd (Prod.snd (Prod.snd (Prod.fst x_10)))))))))))))
                                    (Prod.snd
                                      (Prod.snd
                                        (Prod.snd
                                          (Prod.snd
                                            (Prod.snd
                                              (Prod.snd
                                                (Prod.snd
                                                  (Prod.snd
                                                    (Prod.snd (Prod.snd (Prod.snd (Prod.snd (Prod.fst x_10)))))))))))))
                                    (0 : UInt64) (0 : UInt64) (0 : UInt64))
                            (oite (decide (Prod.fst x_5 = (2 : UInt8)))
                              (obind (F28 n (Prod.snd x_7)) fun (x_8 : UInt64 × Option (List UInt8 × Int64)) =>
                                obind (F28 n (Prod.snd x_8)) fun (x_9 : UInt64 × Option (List UInt8 × Int64)) =>
                                  obind (F28 n (Prod.snd x_9)) fun (x_10 : UInt64 × Option (List UInt8 × Int64)) =>
                                    obind (F28 n (Prod.snd x_10)) fun (x_11 : UInt64 × Option (List UInt8 × Int64)) =>
                                      J (Prod.snd x_2) (0 : UInt8) (0 : UInt8) (0 : UInt8) (0 : UInt64) (0 : UInt64)
                                        false (0 : UInt8) (0 : UInt64) (0 : UInt64) [] (0 : UInt8) (0 : UInt8)
                                        (0 : Int64) (0 : UInt8) (0 : UInt8) (0 : UInt64) (0 : UInt64) (0 : UInt64)
                                        (0 : UInt64) (0 : UInt64) (Prod.snd x_11) (Prod.fst x_5) (Prod.fst x_6)
                                        (Prod.fst x_7) (Prod.fst x_8) (0 : UInt64) false (0 : UInt8) (0 : UInt64)
                                        (0 : UInt64) [] [] (0 : UInt8) (0 : UInt8) (0 : Int64) (0 : UInt8) (0 : UInt8)
                                        (0 : UInt64) (0 : UInt64) (Prod.fst x_9) (Prod.fst x_10) (Prod.fst x_11))
                              (J (Prod.snd x_2) (0 : UInt8) (0 : UInt8) (0 : UInt8) (0 : UInt64) (0 : UInt64) false
                                (0 : UInt8) (0 : UInt64) (0 : UInt64) [] (0 : UInt8) (0 : UInt8) (0 : Int64) (0 : UInt8)
                                (0 : UInt8) (0 : UInt64) (0 : UInt64) (0 : UInt64) (0 : UInt64) (0 : UInt64)
                                (Prod.snd x_7) (Prod.fst x_5) (Prod.fst x_6) (Prod.fst x_7) (0 : UInt64) (0 : UInt64)
                                false (0 : UInt8) (0 : UInt64) (0 : UInt64) [] [] (0 : UInt8) (0 : UInt8) (0 : Int64)
                                (0 : UInt8) (0 : UInt8) (0 : UInt64) (0 : UInt64) (0 : UInt64) (0 : UInt64)
                                (0 : UInt64))))
                        (F12_J1023 n))))
theorem ok12 (n : Nat) : FunOK Try.prog ⟨12, sig12, F12 n⟩ :=
  fun_ok (hints := ⟨[(1023, ⟨[(4, .one (.own 2)), (8, .one (.own 3)), (9, .one (.own 4))], [(0, .foldA (.cons (.c (.int .u32)) (.cons (.c (.int .i32)) (.cons (.c (.int .u32)) .nil))) (.int .u32) 256 (.cons (.c (.int .u64)) (.cons (.c (.int .u64)) .nil))), (2, .cells [.int .u8, .int .u8, .int .u8, .int .u64, .int .u64, .bool, .int .u8, .int .u64, .int .u64, .str, .nils, .int .u8, .int .u8, .int .i64, .int .u8, .int .u8, .int .u64, .int .u64, .int .u64, .int .u64, .int .u64]), (3, .fold (.cons (.c (.ro (.cons (.int .u8) .nil))) (.cons (.c (.int .i64)) .nil))), (4, .cells [.int .u8, .int .u8, .int .u8, .int .u64, .int .u64, .bool, .int .u8, .int .u64, .int .u64, .str, .ro (.cons .str (.cons .str .nil)), .int .u8, .int .u8, .int .i64, .int .u8, .int .u8, .int .u64, .int .u64, .int .u64, .int .u64, .int .u64])], 5⟩)], []⟩) (fuel := n) (c := Try.f12.body.getD .skip) (rs := Try.f12.results.toList) tt_ok mix (FsOK.cons (ok25 n) (FsOK.cons (ok26 n) (FsOK.cons (ok27 n) (FsOK.cons (ok28 n) (FsOK.cons (ok29 n) (FsOK.cons (ok30 n) (FsOK.cons (ok19 n) (FsOK.nil)))))))) Try.func12 (by kernel_rfl) (by kernel_rfl) rfl (by kernel_rfl) rfl rfl (by kernel_rfl)
-- watchfire/watchfirelaw05.FrameTurned
def sig4 : Sig := ⟨(.cons (.agg (.cons (.int .u8) (.cons (.int .u8) (.cons (.int .u8) (.cons (.int .u16) (.cons (.int .u16) (.cons (.int .u16) (.cons (.int .u16) (.cons (.int .u64) (.cons .bool (.cons (.int .u8) (.cons (.int .u8) (.cons (.int .u8) (.cons (.int .u16) (.cons (.int .u16) (.cons (.int .u16) (.cons (.int .u8) (.cons (.int .u8) (.cons (.int .u8) (.cons .bool .nil)))))))))))))))))))) (.cons (.one (.c (.int .u16))) .nil)), (.cons (.one (.c .bool)) .nil)⟩
def F4 : Nat →
  (UInt8 ×
        UInt8 ×
          UInt8 ×
            UInt16 ×
              UInt16 ×
                UInt16 ×
                  UInt16 ×
                    UInt64 × Bool × UInt8 × UInt8 × UInt8 × UInt16 × UInt16 × UInt16 × UInt8 × UInt8 × UInt8 × Bool) ×
      UInt16 →
    Option (Bool × Unit) := fun (n : Nat)
    (x :
      (UInt8 ×
          UInt8 ×
            UInt8 ×
              UInt16 ×
                UInt16 ×
                  UInt16 ×
                    UInt16 ×
                      UInt64 × Bool × UInt8 × UInt8 × UInt8 × UInt16 × UInt16 × UInt16 × UInt8 × UInt8 × UInt8 × Bool) ×
        UInt16) =>
  obind (F6 n ()) fun (x_1 : Bool × Unit) =>
    oite (!Prod.fst x_1) (some (false, ()))
      (obind (F10 n ())
        fun (x_2 : Option ((UInt32 × Int32 × UInt32) × List UInt32 × UInt64 × UInt64) × Unit) =>
        obind
          (F7 n
            (Prod.fst (Prod.fst x), Prod.fst (Prod.snd (Prod.fst x)), Prod.fst (Prod.snd (Prod.snd (Prod.fst x))),
              Prod.fst (Prod.snd (Prod.snd (Prod.snd (Prod.fst x)))),
              Prod.fst (Prod.snd (Prod.snd (Prod.snd (Prod.snd (Prod.fst x))))),
              Prod.fst (Prod.snd (Prod.snd (Prod.snd (Prod.snd (Prod.snd (Prod.fst x)))))),
              Prod.fst (Prod.snd (Prod.snd (Prod.snd (Prod.snd (Prod.snd (Prod.snd (Prod.fst x))))))),
              Prod.fst (Prod.snd (Prod.snd (Prod.snd (Prod.snd (Prod.snd (Prod.snd (Prod.snd (Prod.fst x)))))))),
              Prod.fst
                (Prod.snd (Prod.snd (Prod.snd (Prod.snd (Prod.snd (Prod.snd (Prod.snd (Prod.snd (Prod.fst x))))))))),
              Prod.fst
                (Prod.snd
                  (Prod.snd (Prod.snd (Prod.snd (Prod.snd (Prod.snd (Prod.snd (Prod.snd (Prod.snd (Prod.fst x)))))))))),
              Prod.fst
                (Prod.snd
                  (Prod.snd
                    (Prod.snd
                      (Prod.snd (Prod.snd (Prod.snd (Prod.snd (Prod.snd (Prod.snd (Prod.snd (Prod.fst x))))))))))),
              Prod.fst
                (Prod.snd
                  (Prod.snd
                    (Prod.snd
                      (Prod.snd
                        (Prod.snd (Prod.snd (Prod.snd (Prod.snd (Prod.snd (Prod.snd (Prod.snd (Prod.fst x)))))))))))),
              Prod.fst
                (Prod.snd
                  (Prod.snd
                    (Prod.snd
                      (Prod.snd
                        (Prod.snd
                          (Prod.snd
                            (Prod.snd (Prod.snd (Prod.snd (Prod.snd (Prod.snd (Prod.snd (Prod.fst x))))))))))))),
              Prod.fst
                (Prod.snd
                  (Prod.snd
                    (Prod.snd
                      (Prod.snd
                        (Prod.snd
                          (Prod.snd
                            (Prod.snd
                              (Prod.snd (Prod.snd (Prod.snd (Prod.snd (Prod.snd (Prod.snd (Prod.fst x)))))))))))))),
              Prod.fst
                (Prod.snd
                  (Prod.snd
                    (Prod.snd
                      (Prod.snd
                        (Prod.snd
                          (Prod.snd
                            (Prod.snd
                              (Prod.snd
                                (Prod.snd (Prod.snd (Prod.snd (Prod.snd (Prod.snd (Prod.snd (Prod.fst x))))))))))))))),
              Prod.fst
                (Prod.snd
                  (Prod.snd
                    (Prod.snd
                      (Prod.snd
                        (Prod.snd
                          (Prod.snd
                            (Prod.snd
                              (Prod.snd
                                (Prod.snd
                                  (Prod.snd
                                    (Prod.snd (Prod.snd (Prod.snd (Prod.snd (Prod.snd (Prod.fst x)))))))))))))))),
              Prod.fst
                (Prod.snd
                  (Prod.snd
                    (Prod.snd
                      (Prod.snd
                        (Prod.snd
                          (Prod.snd
                            (Prod.snd
                              (Prod.snd
                                (Prod.snd
                                  (Prod.snd
                                    (Prod.snd
                                      (Prod.snd (Prod.snd (Prod.snd (Prod.snd (Prod.snd (Prod.fst x))))))))))))))))),
              Prod.fst
                (Prod.snd
                  (Prod.snd
                    (Prod.snd
                      (Prod.snd
                        (Prod.snd
                          (Prod.snd
                            (Prod.snd
                              (Prod.snd
                                (Prod.snd
                                  (Prod.snd
                                    (Prod.snd
                                      (Prod.snd
                                        (Prod.snd (Prod.snd (Prod.snd (Prod.snd (Prod.snd (Prod.fst x)))))))))))))))))),
              Prod.snd
                (Prod.snd
                  (Prod.snd
                    (Prod.snd
                      (Prod.snd
                        (Prod.snd
                          (Prod.snd
                            (Prod.snd
                              (Prod.snd
                                (Prod.snd
                                  (Prod.snd
                                    (Prod.snd
                                      (Prod.snd
                                        (Prod.snd
                                          (Prod.snd (Prod.snd (Prod.snd (Prod.snd (Prod.fst x))))))))))))))))))))
          fun
            (x_3 :
              (UInt8 ×
                  UInt8 ×
                    UInt8 ×
                      UInt64 ×
                        UInt64 ×
                          Bool ×
                            UInt8 ×
                              UInt64 ×
                                UInt64 ×
                                  List UInt8 ×
                                    List (List UInt8 × List UInt8) ×
                                      UInt8 ×
                                        UInt8 × Int64 × UInt8 × UInt8 × UInt64 × UInt64 × UInt64 × UInt64 × UInt64) ×
                Unit) =>
          obind
            (F11 n
              (Prod.fst x_2, Prod.fst (Prod.fst x_3), Prod.fst (Prod.snd (Prod.fst x_3)),
                Prod.fst (Prod.snd (Prod.snd (Prod.fst x_3))), Prod.fst (Prod.snd (Prod.snd (Prod.snd (Prod.fst x_3)))),
                Prod.fst (Prod.snd (Prod.snd (Prod.snd (Prod.snd (Prod.fst x_3))))),
                Prod.fst (Prod.snd (Prod.snd (Prod.snd (Prod.snd (Prod.snd (Prod.fst x_3)))))),
                Prod.fst (Prod.snd (Prod.snd (Prod.snd (Prod.snd (Prod.snd (Prod.snd (Prod.fst x_3))))))),
                Prod.fst (Prod.snd (Prod.snd (Prod.snd (Prod.snd (Prod.snd (Prod.snd (Prod.snd (Prod.fst x_3)))))))),
                Prod.fst
                  (Prod.snd
                    (Prod.snd (Prod.snd (Prod.snd (Prod.snd (Prod.snd (Prod.snd (Prod.snd (Prod.fst x_3))))))))),
                Prod.fst
                  (Prod.snd
                    (Prod.snd
                      (Prod.snd (Prod.snd (Prod.snd (Prod.snd (Prod.snd (Prod.snd (Prod.snd (Prod.fst x_3)))))))))),
                Prod.fst
                  (Prod.snd
                    (Prod.snd
                      (Prod.snd
                        (Prod.snd (Prod.snd (Prod.snd (Prod.snd (Prod.snd (Prod.snd (Prod.snd (Prod.fst x_3))))))))))),
                Prod.fst
                  (Prod.snd
                    (Prod.snd
                      (Prod.snd
                        (Prod.snd
                          (Prod.snd
                            (Prod.snd (Prod.snd (Prod.snd (Prod.snd (Prod.snd (Prod.snd (Prod.fst x_3)))))))))))),
                Prod.fst
                  (Prod.snd
                    (Prod.snd
                      (Prod.snd
                        (Prod.snd
                          (Prod.snd
                            (Prod.snd
                              (Prod.snd (Prod.snd (Prod.snd (Prod.snd (Prod.snd (Prod.snd (Prod.fst x_3))))))))))))),
                Prod.fst
                  (Prod.snd
                    (Prod.snd
                      (Prod.snd
                        (Prod.snd
                          (Prod.snd
                            (Prod.snd
                              (Prod.snd
                                (Prod.snd (Prod.snd (Prod.snd (Prod.snd (Prod.snd (Prod.snd (Prod.fst x_3)))))))))))))),
                Prod.fst
                  (Prod.snd
                    (Prod.snd
                      (Prod.snd
                        (Prod.snd
                          (Prod.snd
                            (Prod.snd
                              (Prod.snd
                                (Prod.snd
                                  (Prod.snd
                                    (Prod.snd (Prod.snd (Prod.snd (Prod.snd (Prod.snd (Prod.fst x_3))))))))))))))),
                Prod.fst
                  (Prod.snd
                    (Prod.snd
                      (Prod.snd
                        (Prod.snd
                          (Prod.snd
                            (Prod.snd
                              (Prod.snd
                                (Prod.snd
                                  (Prod.snd
                                    (Prod.snd
                                      (Prod.snd (Prod.snd (Prod.snd (Prod.snd (Prod.snd (Prod.fst x_3)))))))))))))))),
                Prod.fst
                  (Prod.snd
                    (Prod.snd
                      (Prod.snd
                        (Prod.snd
                          (Prod.snd
                            (Prod.snd
                              (Prod.snd
                                (Prod.snd
                                  (Prod.snd
                                    (Prod.snd
                                      (Prod.snd
                                        (Prod.snd
                                          (Prod.snd (Prod.snd (Prod.snd (Prod.snd (Prod.fst x_3))))))))))))))))),
                Prod.fst
                  (Prod.snd
                    (Prod.snd
                      (Prod.snd
                        (Prod.snd
                          (Prod.snd
                            (Prod.snd
                              (Prod.snd
                                (Prod.snd
                                  (Prod.snd
                                    (Prod.snd
                                      (Prod.snd
                                        (Prod.snd
                                          (Prod.snd
                                            (Prod.snd (Prod.snd (Prod.snd (Prod.snd (Prod.fst x_3)))))))))))))))))),
                Prod.fst
                  (Prod.snd
                    (Prod.snd
                      (Prod.snd
                        (Prod.snd
                          (Prod.snd
                            (Prod.snd
                              (Prod.snd
                                (Prod.snd
                                  (Prod.snd
                                    (Prod.snd
                                      (Prod.snd
                                        (Prod.snd
                                          (Prod.snd
                                            (Prod.snd
                                              (Prod.snd (Prod.snd (Prod.snd (Prod.snd (Prod.fst x_3))))))))))))))))))),
                Prod.fst
                  (Prod.snd
                    (Prod.snd
                      (Prod.snd
                        (Prod.snd
                          (Prod.snd
                            (Prod.snd
                              (Prod.snd
                                (Prod.snd
                                  (Prod.snd
                                    (Prod.snd
                                      (Prod.snd
                                        (Prod.snd
                                          (Prod.snd
                                            (Prod.snd
                                              (Prod.snd
                                                (Prod.snd
                                                  (Prod.snd (Prod.snd (Prod.snd (Prod.fst x_3)))))))))))))))))))),
                Prod.snd
                  (Prod.snd
                    (Prod.snd
                      (Prod.snd
                        (Prod.snd
                          (Prod.snd
                            (Prod.snd
                              (Prod.snd
                                (Prod.snd
                                  (Prod.snd
                                    (Prod.snd
                                      (Prod.snd
                                        (Prod.snd
                                          (Prod.snd
                                            (Prod.snd
                                              (Prod.snd
                                                (Prod.snd
                                                  (Prod.snd (Prod.snd (Prod.snd (Prod.fst x_3))))))))))))))))))))))
            fun (x_4 : (List UInt8 × Int64) × Option ((UInt32 × Int32 × UInt32) × List UInt32 × UInt64 × UInt64)) =>
            oite (decide ((8 : Int64) * Int64.ofInt ↑(List.length (Prod.fst (Prod.fst x_4))) = (0 : Int64))) none
              (oite
                (decide
                    ((0 : Int) ≤
                      Int64.toInt
                        (Int64.ofInt ↑(UInt16.toNat (Prod.snd x)) %
                            ((8 : Int64) * Int64.ofInt ↑(List.length (Prod.fst (Prod.fst x_4)))) /
                          (8 : Int64))) &&
                  Nat.blt
                    (Int.toNat
                      (Int64.toInt
                        (Int64.ofInt ↑(UInt16.toNat (Prod.snd x)) %
                            ((8 : Int64) * Int64.ofInt ↑(List.length (Prod.fst (Prod.fst x_4)))) /
                          (8 : Int64))))
                    (List.length (Prod.fst (Prod.fst x_4))))
                (obind
                  (Prod.fst
                      (Prod.fst
                        x_4))[Int.toNat
                      (Int64.toInt
                        (Int64.ofInt ↑(UInt16.toNat (Prod.snd x)) %
                            ((8 : Int64) * Int64.ofInt ↑(List.length (Prod.fst (Prod.fst x_4)))) /
                          (8 : Int64)))]?
                  fun (x_5 : UInt8) =>
                  oite
                    (decide
                      ((0 : Int) ≤
                        Int64.toInt
                          (Int64.ofInt ↑(UInt16.toNat (Prod.snd x)) %
                              ((8 : Int64) * Int64.ofInt ↑(List.length (Prod.fst (Prod.fst x_4)))) %
                            (8 : Int64))))
                    (oite
                      (decide
                          ((0 : Int) ≤
                            Int64.toInt
                              (Int64.ofInt ↑(UInt16.toNat (Prod.snd x)) %
                                  ((8 : Int64) * Int64.ofInt ↑(List.length (Prod.fst (Prod.fst x_4)))) /
                                (8 : Int64))) &&
                        Nat.blt
                          (Int.toNat
                            (Int64.toInt
                              (Int64.ofInt ↑(UInt16.toNat (Prod.snd x)) %
                                  ((8 : Int64) * Int64.ofInt ↑(List.length (Prod.fst (Prod.fst x_4)))) /
                                (8 : Int64))))
                          (List.length (Prod.fst (Prod.fst x_4))))
                      (obind
                        (Prod.fst
                            (Prod.fst
                              x_4))[Int.toNat
                            (Int64.toInt
                              (Int64.ofInt ↑(UInt16.toNat (Prod.snd x)) %
                                  ((8 : Int64) * Int64.ofInt ↑(List.length (Prod.fst (Prod.fst x_4)))) /
                                (8 : Int64)))]?
                        fun (x_6 : UInt8) =>
                        obind
                          (F12 n
                            (Prod.snd x_4,
                              List.set (Prod.fst (Prod.fst x_4))
                                (Int.toNat
                                  (Int64.toInt
                                    (Int64.ofInt ↑(UInt16.toNat (Prod.snd x)) %
                                        ((8 : Int64) * Int64.ofInt ↑(List.length (Prod.fst (Prod.fst x_4)))) /
                                      (8 : Int64))))
                                (x_5 ^^^
                                  IK.shl IntKind.u8 (1 : UInt8)
                                    (Int64.toInt
                                      (Int64.ofInt ↑(UInt16.toNat (Prod.snd x)) %
                                          ((8 : Int64) * Int64.ofInt ↑(List.length (Prod.fst (Prod.fst x_4)))) %
                                        (8 : Int64))))))
                          fun
                            (x_7 :
                              ((UInt8 ×
                                    UInt8 ×
                                      UInt8 ×
                                        UInt64 ×
                                          UInt64 ×
                                            Bool ×
                                              UInt8 ×
                                                UInt64 ×
                                                  UInt64 ×
                                                    List UInt8 ×
                                                      List (List UInt8 × List UInt8) ×
                                                        UInt8 ×
                                                          UInt8 ×
                                                            Int64 ×
                                                              UInt8 ×
                                                                UInt8 × UInt64 × UInt64 × UInt64 × UInt64 × UInt64) ×
                                  Int64) ×
                                Option ((UInt32 × Int32 × UInt32) × List UInt32 × UInt64 × UInt64)) =>
                          oite (decide (Prod.snd (Prod.fst x_4) = (0 : Int64)))
                            (some (decide (Prod.snd (Prod.fst x_7) = (10 : Int64)), ()))
                            (some (false, ())))
                      none)
                    none)
                none))
theorem ok4 (n : Nat) : FunOK Try.prog ⟨4, sig4, F4 n⟩ :=
  fun_ok (hints := ⟨[], []⟩) (fuel := n) (c := Try.f4.body.getD .skip) (rs := Try.f4.results.toList) tt_ok mix (FsOK.cons (ok6 n) (FsOK.cons (ok10 n) (FsOK.cons (ok7 n) (FsOK.cons (ok11 n) (FsOK.cons (ok12 n) (FsOK.nil)))))) Try.func4 (by kernel_rfl) (by kernel_rfl) rfl (by kernel_rfl) rfl rfl (by kernel_rfl)
-- watchfire/watchfirelaw05.FrameNone
def sig5 : Sig := ⟨(.cons (.one (.c (.ro (.cons (.int .u8) .nil)))) (.cons (.agg (.cons (.int .u8) (.cons (.int .u8) (.cons (.int .u8) (.cons (.int .u16) (.cons (.int .u16) (.cons (.int .u16) (.cons (.int .u16) (.cons (.int .u64) (.cons .bool (.cons (.int .u8) (.cons (.int .u8) (.cons (.int .u8) (.cons (.int .u16) (.cons (.int .u16) (.cons (.int .u16) (.cons (.int .u8) (.cons (.int .u8) (.cons (.int .u8) (.cons .bool .nil)))))))))))))))))))) .nil)), (.cons (.one (.c .bool)) .nil)⟩
def F5 : Nat →
  List UInt8 ×
      UInt8 ×
        UInt8 ×
          UInt8 ×
            UInt16 ×
              UInt16 ×
                UInt16 ×
                  UInt16 ×
                    UInt64 × Bool × UInt8 × UInt8 × UInt8 × UInt16 × UInt16 × UInt16 × UInt8 × UInt8 × UInt8 × Bool →
    Option (Bool × Unit) := fun (n : Nat)
    (x :
      List UInt8 ×
        UInt8 ×
          UInt8 ×
            UInt8 ×
              UInt16 ×
                UInt16 ×
                  UInt16 ×
                    UInt16 ×
                      UInt64 ×
                        Bool × UInt8 × UInt8 × UInt8 × UInt16 × UInt16 × UInt16 × UInt8 × UInt8 × UInt8 × Bool) =>
  obind (F6 n ()) fun (x_1 : Bool × Unit) =>
    oite (!Prod.fst x_1) (some (false, ()))
      (oite (decide ((100 : Int64) < Int64.ofInt ↑(List.length (Prod.fst x)))) (some (true, ()))
        (obind
          (F7 n
            (Prod.fst (Prod.snd x), Prod.fst (Prod.snd (Prod.snd x)), Prod.fst (Prod.snd (Prod.snd (Prod.snd x))),
              Prod.fst (Prod.snd (Prod.snd (Prod.snd (Prod.snd x)))),
              Prod.fst (Prod.snd (Prod.snd (Prod.snd (Prod.snd (Prod.snd x))))),
              Prod.fst (Prod.snd (Prod.snd (Prod.snd (Prod.snd (Prod.snd (Prod.snd x)))))),
              Prod.fst (Prod.snd (Prod.snd (Prod.snd (Prod.snd (Prod.snd (Prod.snd (Prod.snd x))))))),
              Prod.fst (Prod.snd (Prod.snd (Prod.snd (Prod.snd (Prod.snd (Prod.snd (Prod.snd (Prod.snd x)))))))),
              Prod.fst
                (Prod.snd (Prod.snd (Prod.snd (Prod.snd (Prod.snd (Prod.snd (Prod.snd (Prod.snd (Prod.snd x))))))))),
              Prod.fst
                (Prod.snd
                  (Prod.snd (Prod.snd (Prod.snd (Prod.snd (Prod.snd (Prod.snd (Prod.snd (Prod.snd (Prod.snd x)))))))))),
              Prod.fst
                (Prod.snd
                  (Prod.snd
                    (Prod.snd
                      (Prod.snd (Prod.snd (Prod.snd (Prod.snd (Prod.snd (Prod.snd (Prod.snd (Prod.snd x))))))))))),
              Prod.fst
                (Prod.snd
                  (Prod.snd
                    (Prod.snd
                      (Prod.snd
                        (Prod.snd (Prod.snd (Prod.snd (Prod.snd (Prod.snd (Prod.snd (Prod.snd (Prod.snd x)))))))))))),
              Prod.fst
                (Prod.snd
                  (Prod.snd
                    (Prod.snd
                      (Prod.snd
                        (Prod.snd
                          (Prod.snd
                            (Prod.snd (Prod.snd (Prod.snd (Prod.snd (Prod.snd (Prod.snd (Prod.snd x))))))))))))),
              Prod.fst
                (Prod.snd
                  (Prod.snd
                    (Prod.snd
                      (Prod.snd
                        (Prod.snd
                          (Prod.snd
                            (Prod.snd
                              (Prod.snd (Prod.snd (Prod.snd (Prod.snd (Prod.snd (Prod.snd (Prod.snd x)))))))))))))),
              Prod.fst
                (Prod.snd
                  (Prod.snd
                    (Prod.snd
                      (Prod.snd
                        (Prod.snd
                          (Prod.snd
                            (Prod.snd
                              (Prod.snd
                                (Prod.snd (Prod.snd (Prod.snd (Prod.snd (Prod.snd (Prod.snd (Prod.snd x))))))))))))))),
              Prod.fst
                (Prod.snd
                  (Prod.snd
                    (Prod.snd
                      (Prod.snd
                        (Prod.snd
                          (Prod.snd
                            (Prod.snd
                              (Prod.snd
                                (Prod.snd
                                  (Prod.snd
                                    (Prod.snd (Prod.snd (Prod.snd (Prod.snd (Prod.snd (Prod.snd x)))))))))))))))),
              Prod.fst
                (Prod.snd
                  (Prod.snd
                    (Prod.snd
                      (Prod.snd
                        (Prod.snd
                          (Prod.snd
                            (Prod.snd
                              (Prod.snd
                                (Prod.snd
                                  (Prod.snd
                                    (Prod.snd
                                      (Prod.snd (Prod.snd (Prod.snd (Prod.snd (Prod.snd (Prod.snd x))))))))))))))))),
              Prod.fst
                (Prod.snd
                  (Prod.snd
                    (Prod.snd
                      (Prod.snd
                        (Prod.snd
                          (Prod.snd
                            (Prod.snd
                              (Prod.snd
                                (Prod.snd
                                  (Prod.snd
                                    (Prod.snd
                                      (Prod.snd
                                        (Prod.snd (Prod.snd (Prod.snd (Prod.snd (Prod.snd (Prod.snd x)))))))))))))))))),
              Prod.snd
                (Prod.snd
                  (Prod.snd
                    (Prod.snd
                      (Prod.snd
                        (Prod.snd
                          (Prod.snd
                            (Prod.snd
                              (Prod.snd
                                (Prod.snd
                                  (Prod.snd
                                    (Prod.snd
                                      (Prod.snd
                                        (Prod.snd
                                          (Prod.snd (Prod.snd (Prod.snd (Prod.snd (Prod.snd x))))))))))))))))))))
          fun
            (x_2 :
              (UInt8 ×
                  UInt8 ×
                    UInt8 ×
                      UInt64 ×
                        UInt64 ×
                          Bool ×
                            UInt8 ×
                              UInt64 ×
                                UInt64 ×
                                  List UInt8 ×
                                    List (List UInt8 × List UInt8) ×
                                      UInt8 ×
                                        UInt8 × Int64 × UInt8 × UInt8 × UInt64 × UInt64 × UInt64 × UInt64 × UInt64) ×
                Unit) =>
          obind
            (F11 n
              (none, Prod.fst (Prod.fst x_2), Prod.fst (Prod.snd (Prod.fst x_2)),
                Prod.fst (Prod.snd (Prod.snd (Prod.fst x_2))), Prod.fst (Prod.snd (Prod.snd (Prod.snd (Prod.fst x_2)))),
                Prod.fst (Prod.snd (Prod.snd (Prod.snd (Prod.snd (Prod.fst x_2))))),
                Prod.fst (Prod.snd (Prod.snd (Prod.snd (Prod.snd (Prod.snd (Prod.fst x_2)))))),
                Prod.fst (Prod.snd (Prod.snd (Prod.snd (Prod.snd (Prod.snd (Prod.snd (Prod.fst x_2))))))),
                Prod.fst (Prod.snd (Prod.snd (Prod.snd (Prod.snd (Prod.snd (Prod.snd (Prod.snd (Prod.fst x_2)))))))),
                Prod.fst
                  (Prod.snd
                    (Prod.snd (Prod.snd (Prod.snd (Prod.snd (Prod.snd (Prod.snd (Prod.snd (Prod.fst x_2))))))))),
                Prod.fst
                  (Prod.snd
                    (Prod.snd
                      (Prod.snd (Prod.snd (Prod.snd (Prod.snd (Prod.snd (Prod.snd (Prod.snd (Prod.fst x_2)))))))))),
                Prod.fst
                  (Prod.snd
                    (Prod.snd
                      (Prod.snd
                        (Prod.snd (Prod.snd (Prod.snd (Prod.snd (Prod.snd (Prod.snd (Prod.snd (Prod.fst x_2))))))))))),
                Prod.fst
                  (Prod.snd
                    (Prod.snd
                      (Prod.snd
                        (Prod.snd
                          (Prod.snd
                            (Prod.snd (Prod.snd (Prod.snd (Prod.snd (Prod.snd (Prod.snd (Prod.fst x_2)))))))))))),
                Prod.fst
                  (Prod.snd
                    (Prod.snd
                      (Prod.snd
                        (Prod.snd
                          (Prod.snd
                            (Prod.snd
                              (Prod.snd (Prod.snd (Prod.snd (Prod.snd (Prod.snd (Prod.snd (Prod.fst x_2))))))))))))),
                Prod.fst
                  (Prod.snd
                    (Prod.snd
                      (Prod.snd
                        (Prod.snd
                          (Prod.snd
                            (Prod.snd
                              (Prod.snd
                                (Prod.snd (Prod.snd (Prod.snd (Prod.snd (Prod.snd (Prod.snd (Prod.fst x_2)))))))))))))),
                Prod.fst
                  (Prod.snd
                    (Prod.snd
                      (Prod.snd
                        (Prod.snd
                          (Prod.snd
                            (Prod.snd
                              (Prod.snd
                                (Prod.snd
                                  (Prod.snd
                                    (Prod.snd (Prod.snd (Prod.snd (Prod.snd (Prod.snd (Prod.fst x_2))))))))))))))),
                Prod.fst
                  (Prod.snd
                    (Prod.snd
                      (Prod.snd
                        (Prod.snd
                          (Prod.snd
                            (Prod.snd
                              (Prod.snd
                                (Prod.snd
                                  (Prod.snd
                                    (Prod.snd
                                      (Prod.snd (Prod.snd (Prod.snd (Prod.snd (Prod.snd (Prod.fst x_2)))))))))))))))),
                Prod.fst
                  (Prod.snd
                    (Prod.snd
                      (Prod.snd
                        (Prod.snd
                          (Prod.snd
                            (Prod.snd
                              (Prod.snd
                                (Prod.snd
                                  (Prod.snd
                                    (Prod.snd
                                      (Prod.snd
                                        (Prod.snd
                                          (Prod.snd (Prod.snd (Prod.snd (Prod.snd (Prod.fst x_2))))))))))))))))),
                Prod.fst
                  (Prod.snd
                    (Prod.snd
                      (Prod.snd
                        (Prod.snd
                          (Prod.snd
                            (Prod.snd
                              (Prod.snd
                                (Prod.snd
                                  (Prod.snd
                                    (Prod.snd
                                      (Prod.snd
                                        (Prod.snd
                                          (Prod.snd
                                            (Prod.snd (Prod.snd (Prod.snd (Prod.snd (Prod.fst x_2)))))))))))))))))),
                Prod.fst
                  (Prod.snd
                    (Prod.snd
                      (Prod.snd
                        (Prod.snd
                          (Prod.snd
                            (Prod.snd
                              (Prod.snd
                                (Prod.snd
                                  (Prod.snd
                                    (Prod.snd
                                      (Prod.snd
                                        (Prod.snd
                                          (Prod.snd
                                            (Prod.snd
                                              (Prod.snd (Prod.snd (Prod.snd (Prod.snd (Prod.fst x_2))))))))))))))))))),
                Prod.fst
                  (Prod.snd
                    (Prod.snd
                      (Prod.snd
                        (Prod.snd
                          (Prod.snd
                            (Prod.snd
                              (Prod.snd
                                (Prod.snd
                                  (Prod.snd
                                    (Prod.snd
                                      (Prod.snd
                                        (Prod.snd
                                          (Prod.snd
                                            (Prod.snd
                                              (Prod.snd
                                                (Prod.snd
                                                  (Prod.snd (Prod.snd (Prod.snd (Prod.fst x_2)))))))))))))))))))),
                Prod.snd
                  (Prod.snd
                    (Prod.snd
                      (Prod.snd
                        (Prod.snd
                          (Prod.snd
                            (Prod.snd
                              (Prod.snd
                                (Prod.snd
                                  (Prod.snd
                                    (Prod.snd
                                      (Prod.snd
                                        (Prod.snd
                                          (Prod.snd
                                            (Prod.snd
                                              (Prod.snd
                                                (Prod.snd
                                                  (Prod.snd (Prod.snd (Prod.snd (Prod.fst x_2))))))))))))))))))))))
            fun (x_3 : (List UInt8 × Int64) × Option ((UInt32 × Int32 × UInt32) × List UInt32 × UInt64 × UInt64)) =>
            obind (F12 n (none, Prod.fst x))
              fun
                (x_4 :
                  ((UInt8 ×
                        UInt8 ×
                          UInt8 ×
                            UInt64 ×
                              UInt64 ×
                                Bool ×
                                  UInt8 ×
                                    UInt64 ×
                                      UInt64 ×
                                        List UInt8 ×
                                          List (List UInt8 × List UInt8) ×
                                            UInt8 ×
                                              UInt8 ×
                                                Int64 × UInt8 × UInt8 × UInt64 × UInt64 × UInt64 × UInt64 × UInt64) ×
                      Int64) ×
                    Option ((UInt32 × Int32 × UInt32) × List UInt32 × UInt64 × UInt64)) =>
              obind (F10 n ())
                fun (x_5 : Option ((UInt32 × Int32 × UInt32) × List UInt32 × UInt64 × UInt64) × Unit) =>
                oite
                  (decide
                        ((0 : Int) ≤
                          Int64.toInt (IK.minI IntKind.i64 (Int64.ofInt ↑(List.length (Prod.fst x))) (7 : Int64))) &&
                      Nat.ble
                        (Int.toNat
                          (Int64.toInt (IK.minI IntKind.i64 (Int64.ofInt ↑(List.length (Prod.fst x))) (7 : Int64))))
                        (List.length (Prod.fst x)) &&
                    true)
                  (obind
                    (F12 n
                      (Prod.fst x_5,
                        List.drop (0 : Nat)
                          (List.take
                            (Int.toNat
                              (Int64.toInt (IK.minI IntKind.i64 (Int64.ofInt ↑(List.length (Prod.fst x))) (7 : Int64))))
                            (Prod.fst x))))
                    fun
                      (x_6 :
                        ((UInt8 ×
                              UInt8 ×
                                UInt8 ×
                                  UInt64 ×
                                    UInt64 ×
                                      Bool ×
                                        UInt8 ×
                                          UInt64 ×
                                            UInt64 ×
                                              List UInt8 ×
                                                List (List UInt8 × List UInt8) ×
                                                  UInt8 ×
                                                    UInt8 ×
                                                      Int64 ×
                                                        UInt8 × UInt8 × UInt64 × UInt64 × UInt64 × UInt64 × UInt64) ×
                            Int64) ×
                          Option ((UInt32 × Int32 × UInt32) × List UInt32 × UInt64 × UInt64)) =>
                    oite (decide (Prod.snd (Prod.fst x_3) = (1 : Int64)))
                      (oite (decide (Prod.snd (Prod.fst x_4) = (1 : Int64)))
                        (some (decide (Prod.snd (Prod.fst x_6) = (3 : Int64)), ())) (some (false, ())))
                      (some (false, ())))
                  none))
theorem ok5 (n : Nat) : FunOK Try.prog ⟨5, sig5, F5 n⟩ :=
  fun_ok (hints := ⟨[], []⟩) (fuel := n) (c := Try.f5.body.getD .skip) (rs := Try.f5.results.toList) tt_ok mix (FsOK.cons (ok6 n) (FsOK.cons (ok7 n) (FsOK.cons (ok11 n) (FsOK.cons (ok12 n) (FsOK.cons (ok10 n) (FsOK.nil)))))) Try.func5 (by kernel_rfl) (by kernel_rfl) rfl (by kernel_rfl) rfl rfl (by kernel_rfl)
end Go.Proofs.Ytgknjddbbehboaa
