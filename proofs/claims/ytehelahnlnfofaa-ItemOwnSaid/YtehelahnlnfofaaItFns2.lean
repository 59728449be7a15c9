/- What the functions of this seat compute, found by walking their code symbolically: each F is what the walk finds, each ok says that the Go function keeps it as a contract. Printed by a program of this repo's. -/
import Derived.Test.YtehelahnlnfofaaItFns1
open Go Go.Sx
namespace Go.Proofs.Ytehelahnlnfofaa
set_option maxRecDepth 100000
set_option linter.unusedVariables false
-- watchfire/watchfireref01.Bytes
def sig31 : Sig := ⟨(.cons (.agg (.cons .bool (.cons (.int .u8) (.cons (.int .u64) (.cons (.int .u64) (.cons .str (.cons (.ro (.cons .str (.cons .str .nil))) (.cons (.int .u8) (.cons (.int .u8) (.cons (.int .i64) (.cons (.int .u8) (.cons (.int .u8) (.cons (.int .u64) (.cons (.int .u64) .nil)))))))))))))) .nil), (.cons (.one (.c (.ro (.cons (.int .u8) .nil)))) .nil)⟩
def F31_L509 : Nat →
  Arr
      [PT.int IntKind.i64, PT.int IntKind.u8, PT.int IntKind.u64, PT.int IntKind.u64, PT.bytes,
        PT.list (CTs.cons CT.str (CTs.cons CT.str CTs.nil)), PT.int IntKind.u8, PT.int IntKind.u8, PT.int IntKind.i64,
        PT.int IntKind.u8, PT.list (CTs.cons (CT.int IntKind.u8) CTs.nil)]
      (Option (List UInt8 × Unit)) →
    Int64 →
      UInt8 →
        UInt64 →
          UInt64 →
            List UInt8 →
              List (List UInt8 × List UInt8) → UInt8 → UInt8 → Int64 → UInt8 → List UInt8 → Option (List UInt8 × Unit) := fun (n : Nat)
    (rec :
      Arr
        [PT.int IntKind.i64, PT.int IntKind.u8, PT.int IntKind.u64, PT.int IntKind.u64, PT.bytes,
          PT.list (CTs.cons CT.str (CTs.cons CT.str CTs.nil)), PT.int IntKind.u8, PT.int IntKind.u8, PT.int IntKind.i64,
          PT.int IntKind.u8, PT.list (CTs.cons (CT.int IntKind.u8) CTs.nil)]
        (Option (List UInt8 × Unit)))
    (i : Int64) (v0 : UInt8) (v1 v2 : UInt64) (v3 : List UInt8) (v4 : List (List UInt8 × List UInt8)) (v5 v6 : UInt8)
    (v7 : Int64) (v8 : UInt8) (out : List UInt8) =>
  oite (decide (i < Int64.ofInt ↑(List.length v4)))
    (obind (at? v4 (Int64.toInt i)) fun (x_5 : List UInt8 × List UInt8) =>
      obind (F56 n (Prod.fst x_5)) fun (x_6 : List UInt8 × Unit) =>
        oite (Nat.ble (List.length out + List.length (Prod.fst x_6)) (4294967296 : Nat))
          (obind (at? v4 (Int64.toInt i)) fun (x_7 : List UInt8 × List UInt8) =>
            obind (F56 n (Prod.snd x_7)) fun (x_8 : List UInt8 × Unit) =>
              oite (Nat.ble (List.length (out ++ Prod.fst x_6) + List.length (Prod.fst x_8)) (4294967296 : Nat))
                (rec (i + (1 : Int64)) v0 v1 v2 v3 v4 v5 v6 v7 v8 (out ++ Prod.fst x_6 ++ Prod.fst x_8)) none)
          none)
    (oite (Nat.ble (List.length out + List.length [v5, v6]) (4294967296 : Nat))
      (obind (F57 n v7) fun (x_5 : List UInt8 × Unit) =>
        oite (Nat.ble (List.length (out ++ [v5, v6]) + List.length (Prod.fst x_5)) (4294967296 : Nat))
          (oite (Nat.ble (List.length (out ++ [v5, v6] ++ Prod.fst x_5) + List.length [v8]) (4294967296 : Nat))
            (some (out ++ [v5, v6] ++ Prod.fst x_5 ++ [v8], ())) none)
          none)
      none)
def F31_R509 : Nat →
  Nat →
    PT.T (PT.int IntKind.i64) →
      UInt8 →
        UInt64 →
          UInt64 →
            List UInt8 →
              List (List UInt8 × List UInt8) → UInt8 → UInt8 → Int64 → UInt8 → List UInt8 → Option (List UInt8 × Unit) := fun (n : Nat) =>
  ofixA (509 : Nat)
    [PT.int IntKind.i64, PT.int IntKind.u8, PT.int IntKind.u64, PT.int IntKind.u64, PT.bytes,
      PT.list (CTs.cons CT.str (CTs.cons CT.str CTs.nil)), PT.int IntKind.u8, PT.int IntKind.u8, PT.int IntKind.i64,
      PT.int IntKind.u8, PT.list (CTs.cons (CT.int IntKind.u8) CTs.nil)]
    (F31_L509 n)
def F31 : Nat →
  Bool ×
      UInt8 ×
        UInt64 ×
          UInt64 ×
            List UInt8 × List (List UInt8 × List UInt8) × UInt8 × UInt8 × Int64 × UInt8 × UInt8 × UInt64 × UInt64 →
    Option (List UInt8 × Unit) := fun (n : Nat)
    (x :
      Bool ×
        UInt8 ×
          UInt64 ×
            UInt64 ×
              List UInt8 × List (List UInt8 × List UInt8) × UInt8 × UInt8 × Int64 × UInt8 × UInt8 × UInt64 × UInt64) =>
  oite (Prod.fst x)
    (obind
      (F55 n
        (Prod.fst
          (Prod.snd
            (Prod.snd
              (Prod.snd (Prod.snd (Prod.snd (Prod.snd (Prod.snd (Prod.snd (Prod.snd (Prod.snd (Prod.snd x)))))))))))))
      fun (x_1 : List UInt8 × Unit) =>
      oite
        (Nat.ble
          (List.length
              [(1 : UInt8),
                Prod.fst
                  (Prod.snd
                    (Prod.snd
                      (Prod.snd (Prod.snd (Prod.snd (Prod.snd (Prod.snd (Prod.snd (Prod.snd (Prod.snd x))))))))))] +
            List.length (Prod.fst x_1))
          (4294967296 : Nat))
        (obind
          (F55 n
            (Prod.snd
              (Prod.snd
                (Prod.snd
                  (Prod.snd
                    (Prod.snd (Prod.snd (Prod.snd (Prod.snd (Prod.snd (Prod.snd (Prod.snd (Prod.snd x)))))))))))))
          fun (x_2 : List UInt8 × Unit) =>
          oite
            (Nat.ble
              (List.length
                  ([(1 : UInt8),
                      Prod.fst
                        (Prod.snd
                          (Prod.snd
                            (Prod.snd
                              (Prod.snd (Prod.snd (Prod.snd (Prod.snd (Prod.snd (Prod.snd (Prod.snd x))))))))))] ++
                    Prod.fst x_1) +
                List.length (Prod.fst x_2))
              (4294967296 : Nat))
            (some
              ([(1 : UInt8),
                      Prod.fst
                        (Prod.snd
                          (Prod.snd
                            (Prod.snd
                              (Prod.snd (Prod.snd (Prod.snd (Prod.snd (Prod.snd (Prod.snd (Prod.snd x))))))))))] ++
                    Prod.fst x_1 ++
                  Prod.fst x_2,
                ()))
            none)
        none)
    (obind (F55 n (Prod.fst (Prod.snd (Prod.snd x)))) fun (x_1 : List UInt8 × Unit) =>
      oite (Nat.ble (List.length [(0 : UInt8), Prod.fst (Prod.snd x)] + List.length (Prod.fst x_1)) (4294967296 : Nat))
        (obind (F55 n (Prod.fst (Prod.snd (Prod.snd (Prod.snd x))))) fun (x_2 : List UInt8 × Unit) =>
          oite
            (Nat.ble (List.length ([(0 : UInt8), Prod.fst (Prod.snd x)] ++ Prod.fst x_1) + List.length (Prod.fst x_2))
              (4294967296 : Nat))
            (obind (F56 n (Prod.fst (Prod.snd (Prod.snd (Prod.snd (Prod.snd x)))))) fun (x_3 : List UInt8 × Unit) =>
              oite
                (Nat.ble
                  (List.length ([(0 : UInt8), Prod.fst (Prod.snd x)] ++ Prod.fst x_1 ++ Prod.fst x_2) +
                    List.length (Prod.fst x_3))
                  (4294967296 : Nat))
                (obind
                  (F55 n
                    (UInt64.ofInt
                      (Int64.toInt
                        (Int64.ofInt
                          ↑(List.length (Prod.fst (Prod.snd (Prod.snd (Prod.snd (Prod.snd (Prod.snd x)))))))))))
                  fun (x_4 : List UInt8 × Unit) =>
                  oite
                    (Nat.ble
                      (List.length
                          ([(0 : UInt8), Prod.fst (Prod.snd x)] ++ Prod.fst x_1 ++ Prod.fst x_2 ++ Prod.fst x_3) +
                        List.length (Prod.fst x_4))
                      (4294967296 : Nat))
                    (F31_R509 n n (0 : Int64) (Prod.fst (Prod.snd x)) (Prod.fst (Prod.snd (Prod.snd x)))
                      (Prod.fst (Prod.snd (Prod.snd (Prod.snd x))))
                      (Prod.fst (Prod.snd (Prod.snd (Prod.snd (Prod.snd x)))))
                      (Prod.fst (Prod.snd (Prod.snd (Prod.snd (Prod.snd (Prod.snd x))))))
                      (Prod.fst (Prod.snd (Prod.snd (Prod.snd (Prod.snd (Prod.snd (Prod.snd x)))))))
                      (Prod.fst (Prod.snd (Prod.snd (Prod.snd (Prod.snd (Prod.snd (Prod.snd (Prod.snd x))))))))
                      (Prod.fst
                        (Prod.snd (Prod.snd (Prod.snd (Prod.snd (Prod.snd (Prod.snd (Prod.snd (Prod.snd x)))))))))
                      (Prod.fst
                        (Prod.snd
                          (Prod.snd (Prod.snd (Prod.snd (Prod.snd (Prod.snd (Prod.snd (Prod.snd (Prod.snd x))))))))))
                      ([(0 : UInt8), Prod.fst (Prod.snd x)] ++ Prod.fst x_1 ++ Prod.fst x_2 ++ Prod.fst x_3 ++
                        Prod.fst x_4))
                    none)
                none)
            none)
        none)
theorem F31_R509_s (n : Nat) (m_ : Nat) : F31_R509 n (m_ + 1) = F31_L509 n (F31_R509 n m_) := rfl
theorem ok31 (n : Nat) : FunOK Try.prog ⟨31, sig31, F31 n⟩ :=
  fun_ok (hints := ⟨[], [(509, ⟨[(4, .one (.own 1)), (5, .one (.own 2)), (6, .one (.int .i64))], [(1, .cells [.int .u8, .int .u64, .int .u64, .str, .ro (.cons .str (.cons .str .nil)), .int .u8, .int .u8, .int .i64, .int .u8]), (2, .row (.cons (.int .u8) .nil))], 3⟩)]⟩) (fuel := n) (c := Try.f31.body.getD .skip) (rs := Try.f31.results.toList) tt_ok mix (FsOK.cons (ok55 n) (FsOK.cons (ok56 n) (FsOK.cons (ok57 n) (FsOK.nil)))) Try.func31 (by kernel_rfl) (by kernel_rfl) rfl (by kernel_rfl) rfl rfl (by kernel_rfl)
-- watchfire/item.Size
def sig32 : Sig := ⟨(.cons (.agg (.cons .bool (.cons (.int .u8) (.cons (.int .u64) (.cons (.int .u64) (.cons .str (.cons (.ro (.cons .str (.cons .str .nil))) (.cons (.int .u8) (.cons (.int .u8) (.cons (.int .i64) (.cons (.int .u8) (.cons (.int .u8) (.cons (.int .u64) (.cons (.int .u64) .nil)))))))))))))) .nil), (.cons (.one (.c (.int .i64))) .nil)⟩
def F32 : Nat →
  Bool ×
      UInt8 ×
        UInt64 ×
          UInt64 ×
            List UInt8 × List (List UInt8 × List UInt8) × UInt8 × UInt8 × Int64 × UInt8 × UInt8 × UInt64 × UInt64 →
    Option (Int64 × Unit) := fun (n : Nat)
    (x :
      Bool ×
        UInt8 ×
          UInt64 ×
            UInt64 ×
              List UInt8 × List (List UInt8 × List UInt8) × UInt8 × UInt8 × Int64 × UInt8 × UInt8 × UInt64 × UInt64) =>
  obind
    (F13 n
      (Prod.fst x, Prod.fst (Prod.snd x), Prod.fst (Prod.snd (Prod.snd x)), Prod.fst (Prod.snd (Prod.snd (Prod.snd x))),
        Prod.fst (Prod.snd (Prod.snd (Prod.snd (Prod.snd x)))),
        Prod.fst (Prod.snd (Prod.snd (Prod.snd (Prod.snd (Prod.snd x))))),
        Prod.fst (Prod.snd (Prod.snd (Prod.snd (Prod.snd (Prod.snd (Prod.snd x)))))),
        Prod.fst (Prod.snd (Prod.snd (Prod.snd (Prod.snd (Prod.snd (Prod.snd (Prod.snd x))))))),
        Prod.fst (Prod.snd (Prod.snd (Prod.snd (Prod.snd (Prod.snd (Prod.snd (Prod.snd (Prod.snd x)))))))),
        Prod.fst (Prod.snd (Prod.snd (Prod.snd (Prod.snd (Prod.snd (Prod.snd (Prod.snd (Prod.snd (Prod.snd x))))))))),
        Prod.fst
          (Prod.snd
            (Prod.snd (Prod.snd (Prod.snd (Prod.snd (Prod.snd (Prod.snd (Prod.snd (Prod.snd (Prod.snd x)))))))))),
        Prod.fst
          (Prod.snd
            (Prod.snd
              (Prod.snd (Prod.snd (Prod.snd (Prod.snd (Prod.snd (Prod.snd (Prod.snd (Prod.snd (Prod.snd x))))))))))),
        Prod.snd
          (Prod.snd
            (Prod.snd
              (Prod.snd (Prod.snd (Prod.snd (Prod.snd (Prod.snd (Prod.snd (Prod.snd (Prod.snd (Prod.snd x)))))))))))))
    fun (x_1 : List UInt8 × Unit) => some (Int64.ofInt ↑(List.length (Prod.fst x_1)), ())
theorem ok32 (n : Nat) : FunOK Try.prog ⟨32, sig32, F32 n⟩ :=
  fun_ok (hints := ⟨[], []⟩) (fuel := n) (c := Try.f32.body.getD .skip) (rs := Try.f32.results.toList) tt_ok mix (FsOK.cons (ok13 n) (FsOK.nil)) Try.func32 (by kernel_rfl) (by kernel_rfl) rfl (by kernel_rfl) rfl rfl (by kernel_rfl)
-- watchfire/watchfirelaw04.ItemBytes
def sig7 : Sig := ⟨(.cons (.agg (.cons .bool (.cons (.int .u8) (.cons (.int .u64) (.cons (.int .u64) (.cons .str (.cons (.ro (.cons .str (.cons .str .nil))) (.cons (.int .u8) (.cons (.int .u8) (.cons (.int .i64) (.cons (.int .u8) (.cons (.int .u8) (.cons (.int .u64) (.cons (.int .u64) .nil)))))))))))))) (.cons (.agg (.cons .bool (.cons (.int .u8) (.cons (.int .u8) (.cons (.int .u8) (.cons (.int .u16) (.cons (.int .u16) (.cons (.int .u16) (.cons (.int .u8) (.cons (.int .u8) (.cons (.int .u8) (.cons .bool .nil)))))))))))) (.cons (.one (.c (.ro (.cons (.int .u8) .nil)))) .nil))), (.cons (.one (.c .bool)) .nil)⟩
def F7_L125 : Nat →
  Arr
      [PT.list (CTs.cons (CT.int IntKind.u8) CTs.nil), PT.int IntKind.i64, PT.int IntKind.i64,
        PT.list
          (CTs.cons CT.bool
            (CTs.cons (CT.int IntKind.u8)
              (CTs.cons (CT.int IntKind.u64)
                (CTs.cons (CT.int IntKind.u64)
                  (CTs.cons CT.str
                    (CTs.cons (CT.ro (CTs.cons CT.str (CTs.cons CT.str CTs.nil)))
                      (CTs.cons (CT.int IntKind.u8)
                        (CTs.cons (CT.int IntKind.u8)
                          (CTs.cons (CT.int IntKind.i64)
                            (CTs.cons (CT.int IntKind.u8)
                              (CTs.cons (CT.int IntKind.u8)
                                (CTs.cons (CT.int IntKind.u64) (CTs.cons (CT.int IntKind.u64) CTs.nil)))))))))))))]
      (Option (Bool × Unit)) →
    List UInt8 →
      Int64 →
        Int64 →
          List
              (Bool ×
                UInt8 ×
                  UInt64 ×
                    UInt64 ×
                      List UInt8 ×
                        List (List UInt8 × List UInt8) × UInt8 × UInt8 × Int64 × UInt8 × UInt8 × UInt64 × UInt64) →
            Option (Bool × Unit) := fun (n : Nat)
    (rec :
      Arr
        [PT.list (CTs.cons (CT.int IntKind.u8) CTs.nil), PT.int IntKind.i64, PT.int IntKind.i64,
          PT.list
            (CTs.cons CT.bool
              (CTs.cons (CT.int IntKind.u8)
                (CTs.cons (CT.int IntKind.u64)
                  (CTs.cons (CT.int IntKind.u64)
                    (CTs.cons CT.str
                      (CTs.cons (CT.ro (CTs.cons CT.str (CTs.cons CT.str CTs.nil)))
                        (CTs.cons (CT.int IntKind.u8)
                          (CTs.cons (CT.int IntKind.u8)
                            (CTs.cons (CT.int IntKind.i64)
                              (CTs.cons (CT.int IntKind.u8)
                                (CTs.cons (CT.int IntKind.u8)
                                  (CTs.cons (CT.int IntKind.u64) (CTs.cons (CT.int IntKind.u64) CTs.nil)))))))))))))]
        (Option (Bool × Unit)))
    (b : List UInt8) (t t_1 : Int64)
    (t_2 :
      List
        (Bool ×
          UInt8 ×
            UInt64 ×
              UInt64 ×
                List UInt8 ×
                  List (List UInt8 × List UInt8) × UInt8 × UInt8 × Int64 × UInt8 × UInt8 × UInt64 × UInt64)) =>
  oite (decide (t_1 < t))
    (oite (decide ((0 : Int) ≤ Int64.toInt t_1) && Nat.blt (Int.toNat (Int64.toInt t_1)) (List.length t_2))
      (obind t_2[Int.toNat (Int64.toInt t_1)]?
        fun
          (x_7 :
            Bool ×
              UInt8 ×
                UInt64 ×
                  UInt64 ×
                    List UInt8 ×
                      List (List UInt8 × List UInt8) × UInt8 × UInt8 × Int64 × UInt8 × UInt8 × UInt64 × UInt64) =>
        obind
          (F13 n
            (Prod.fst x_7, Prod.fst (Prod.snd x_7), Prod.fst (Prod.snd (Prod.snd x_7)),
              Prod.fst (Prod.snd (Prod.snd (Prod.snd x_7))), Prod.fst (Prod.snd (Prod.snd (Prod.snd (Prod.snd x_7)))),
              Prod.fst (Prod.snd (Prod.snd (Prod.snd (Prod.snd (Prod.snd x_7))))),
              Prod.fst (Prod.snd (Prod.snd (Prod.snd (Prod.snd (Prod.snd (Prod.snd x_7)))))),
              Prod.fst (Prod.snd (Prod.snd (Prod.snd (Prod.snd (Prod.snd (Prod.snd (Prod.snd x_7))))))),
              Prod.fst (Prod.snd (Prod.snd (Prod.snd (Prod.snd (Prod.snd (Prod.snd (Prod.snd (Prod.snd x_7)))))))),
              Prod.fst
                (Prod.snd (Prod.snd (Prod.snd (Prod.snd (Prod.snd (Prod.snd (Prod.snd (Prod.snd (Prod.snd x_7))))))))),
              Prod.fst
                (Prod.snd
                  (Prod.snd
                    (Prod.snd (Prod.snd (Prod.snd (Prod.snd (Prod.snd (Prod.snd (Prod.snd (Prod.snd x_7)))))))))),
              Prod.fst
                (Prod.snd
                  (Prod.snd
                    (Prod.snd
                      (Prod.snd (Prod.snd (Prod.snd (Prod.snd (Prod.snd (Prod.snd (Prod.snd (Prod.snd x_7))))))))))),
              Prod.snd
                (Prod.snd
                  (Prod.snd
                    (Prod.snd
                      (Prod.snd (Prod.snd (Prod.snd (Prod.snd (Prod.snd (Prod.snd (Prod.snd (Prod.snd x_7)))))))))))))
          fun (x_8 : List UInt8 × Unit) =>
          obind (F30 n (Prod.fst x_8))
            fun
              (x_9 :
                ((Bool ×
                      UInt8 ×
                        UInt64 ×
                          UInt64 ×
                            List UInt8 ×
                              List (List UInt8 × List UInt8) ×
                                UInt8 × UInt8 × Int64 × UInt8 × UInt8 × UInt64 × UInt64) ×
                    Int64) ×
                  Unit) =>
            obind
              (F22 n
                (Prod.fst x_7, Prod.fst (Prod.snd x_7), Prod.fst (Prod.snd (Prod.snd x_7)),
                  Prod.fst (Prod.snd (Prod.snd (Prod.snd x_7))),
                  Prod.fst (Prod.snd (Prod.snd (Prod.snd (Prod.snd x_7)))),
                  Prod.fst (Prod.snd (Prod.snd (Prod.snd (Prod.snd (Prod.snd x_7))))),
                  Prod.fst (Prod.snd (Prod.snd (Prod.snd (Prod.snd (Prod.snd (Prod.snd x_7)))))),
                  Prod.fst (Prod.snd (Prod.snd (Prod.snd (Prod.snd (Prod.snd (Prod.snd (Prod.snd x_7))))))),
                  Prod.fst (Prod.snd (Prod.snd (Prod.snd (Prod.snd (Prod.snd (Prod.snd (Prod.snd (Prod.snd x_7)))))))),
                  Prod.fst
                    (Prod.snd
                      (Prod.snd (Prod.snd (Prod.snd (Prod.snd (Prod.snd (Prod.snd (Prod.snd (Prod.snd x_7))))))))),
                  Prod.fst
                    (Prod.snd
                      (Prod.snd
                        (Prod.snd (Prod.snd (Prod.snd (Prod.snd (Prod.snd (Prod.snd (Prod.snd (Prod.snd x_7)))))))))),
                  Prod.fst
                    (Prod.snd
                      (Prod.snd
                        (Prod.snd
                          (Prod.snd
                            (Prod.snd (Prod.snd (Prod.snd (Prod.snd (Prod.snd (Prod.snd (Prod.snd x_7))))))))))),
                  Prod.snd
                    (Prod.snd
                      (Prod.snd
                        (Prod.snd
                          (Prod.snd
                            (Prod.snd (Prod.snd (Prod.snd (Prod.snd (Prod.snd (Prod.snd (Prod.snd x_7)))))))))))))
              fun (x_10 : Int64 × Unit) =>
              oite (!decide (Prod.fst x_10 = (0 : Int64)) == decide (Prod.snd (Prod.fst x_9) = (0 : Int64)))
                (some (false, ()))
                (oite (decide (Prod.fst x_10 = (0 : Int64)))
                  (obind
                    (F16 n
                      ((Prod.fst x_7, Prod.fst (Prod.snd x_7), Prod.fst (Prod.snd (Prod.snd x_7)),
                          Prod.fst (Prod.snd (Prod.snd (Prod.snd x_7))),
                          Prod.fst (Prod.snd (Prod.snd (Prod.snd (Prod.snd x_7)))),
                          Prod.fst (Prod.snd (Prod.snd (Prod.snd (Prod.snd (Prod.snd x_7))))),
                          Prod.fst (Prod.snd (Prod.snd (Prod.snd (Prod.snd (Prod.snd (Prod.snd x_7)))))),
                          Prod.fst (Prod.snd (Prod.snd (Prod.snd (Prod.snd (Prod.snd (Prod.snd (Prod.snd x_7))))))),
                          Prod.fst
                            (Prod.snd (Prod.snd (Prod.snd (Prod.snd (Prod.snd (Prod.snd (Prod.snd (Prod.snd x_7)))))))),
                          Prod.fst
                            (Prod.snd
                              (Prod.snd
                                (Prod.snd (Prod.snd (Prod.snd (Prod.snd (Prod.snd (Prod.snd (Prod.snd x_7))))))))),
                          Prod.fst
                            (Prod.snd
                              (Prod.snd
                                (Prod.snd
                                  (Prod.snd (Prod.snd (Prod.snd (Prod.snd (Prod.snd (Prod.snd (Prod.snd x_7)))))))))),
                          Prod.fst
                            (Prod.snd
                              (Prod.snd
                                (Prod.snd
                                  (Prod.snd
                                    (Prod.snd
                                      (Prod.snd (Prod.snd (Prod.snd (Prod.snd (Prod.snd (Prod.snd x_7))))))))))),
                          Prod.snd
                            (Prod.snd
                              (Prod.snd
                                (Prod.snd
                                  (Prod.snd
                                    (Prod.snd
                                      (Prod.snd (Prod.snd (Prod.snd (Prod.snd (Prod.snd (Prod.snd x_7)))))))))))),
                        Prod.fst (Prod.fst (Prod.fst x_9)), Prod.fst (Prod.snd (Prod.fst (Prod.fst x_9))),
                        Prod.fst (Prod.snd (Prod.snd (Prod.fst (Prod.fst x_9)))),
                        Prod.fst (Prod.snd (Prod.snd (Prod.snd (Prod.fst (Prod.fst x_9))))),
                        Prod.fst (Prod.snd (Prod.snd (Prod.snd (Prod.snd (Prod.fst (Prod.fst x_9)))))),
                        Prod.fst (Prod.snd (Prod.snd (Prod.snd (Prod.snd (Prod.snd (Prod.fst (Prod.fst x_9))))))),
                        Prod.fst
                          (Prod.snd (Prod.snd (Prod.snd (Prod.snd (Prod.snd (Prod.snd (Prod.fst (Prod.fst x_9)))))))),
                        Prod.fst
                          (Prod.snd
                            (Prod.snd
                              (Prod.snd (Prod.snd (Prod.snd (Prod.snd (Prod.snd (Prod.fst (Prod.fst x_9))))))))),
                        Prod.fst
                          (Prod.snd
                            (Prod.snd
                              (Prod.snd
                                (Prod.snd (Prod.snd (Prod.snd (Prod.snd (Prod.snd (Prod.fst (Prod.fst x_9)))))))))),
                        Prod.fst
                          (Prod.snd
                            (Prod.snd
                              (Prod.snd
                                (Prod.snd
                                  (Prod.snd (Prod.snd (Prod.snd (Prod.snd (Prod.snd (Prod.fst (Prod.fst x_9))))))))))),
                        Prod.fst
                          (Prod.snd
                            (Prod.snd
                              (Prod.snd
                                (Prod.snd
                                  (Prod.snd
                                    (Prod.snd
                                      (Prod.snd (Prod.snd (Prod.snd (Prod.snd (Prod.fst (Prod.fst x_9)))))))))))),
                        Prod.fst
                          (Prod.snd
                            (Prod.snd
                              (Prod.snd
                                (Prod.snd
                                  (Prod.snd
                                    (Prod.snd
                                      (Prod.snd
                                        (Prod.snd (Prod.snd (Prod.snd (Prod.snd (Prod.fst (Prod.fst x_9))))))))))))),
                        Prod.snd
                          (Prod.snd
                            (Prod.snd
                              (Prod.snd
                                (Prod.snd
                                  (Prod.snd
                                    (Prod.snd
                                      (Prod.snd
                                        (Prod.snd (Prod.snd (Prod.snd (Prod.snd (Prod.fst (Prod.fst x_9)))))))))))))))
                    fun (x_11 : Bool × Unit) =>
                    oite (!Prod.fst x_11) (some (false, ())) (rec b t (t_1 + (1 : Int64)) t_2))
                  (rec b t (t_1 + (1 : Int64)) t_2)))
      none)
    (obind (F30 n b)
      fun
        (x_7 :
          ((Bool ×
                UInt8 ×
                  UInt64 ×
                    UInt64 ×
                      List UInt8 ×
                        List (List UInt8 × List UInt8) × UInt8 × UInt8 × Int64 × UInt8 × UInt8 × UInt64 × UInt64) ×
              Int64) ×
            Unit) =>
      oite (!decide (Prod.snd (Prod.fst x_7) = (0 : Int64)))
        (obind
          (F16 n
            ((Prod.fst (Prod.fst (Prod.fst x_7)), Prod.fst (Prod.snd (Prod.fst (Prod.fst x_7))),
                Prod.fst (Prod.snd (Prod.snd (Prod.fst (Prod.fst x_7)))),
                Prod.fst (Prod.snd (Prod.snd (Prod.snd (Prod.fst (Prod.fst x_7))))),
                Prod.fst (Prod.snd (Prod.snd (Prod.snd (Prod.snd (Prod.fst (Prod.fst x_7)))))),
                Prod.fst (Prod.snd (Prod.snd (Prod.snd (Prod.snd (Prod.snd (Prod.fst (Prod.fst x_7))))))),
                Prod.fst (Prod.snd (Prod.snd (Prod.snd (Prod.snd (Prod.snd (Prod.snd (Prod.fst (Prod.fst x_7)))))))),
                Prod.fst
                  (Prod.snd
                    (Prod.snd (Prod.snd (Prod.snd (Prod.snd (Prod.snd (Prod.snd (Prod.fst (Prod.fst x_7))))))))),
                Prod.fst
                  (Prod.snd
                    (Prod.snd
                      (Prod.snd (Prod.snd (Prod.snd (Prod.snd (Prod.snd (Prod.snd (Prod.fst (Prod.fst x_7)))))))))),
                Prod.fst
                  (Prod.snd
                    (Prod.snd
                      (Prod.snd
                        (Prod.snd (Prod.snd (Prod.snd (Prod.snd (Prod.snd (Prod.snd (Prod.fst (Prod.fst x_7))))))))))),
                Prod.fst
                  (Prod.snd
                    (Prod.snd
                      (Prod.snd
                        (Prod.snd
                          (Prod.snd
                            (Prod.snd (Prod.snd (Prod.snd (Prod.snd (Prod.snd (Prod.fst (Prod.fst x_7)))))))))))),
                Prod.fst
                  (Prod.snd
                    (Prod.snd
                      (Prod.snd
                        (Prod.snd
                          (Prod.snd
                            (Prod.snd
                              (Prod.snd (Prod.snd (Prod.snd (Prod.snd (Prod.snd (Prod.fst (Prod.fst x_7))))))))))))),
                Prod.snd
                  (Prod.snd
                    (Prod.snd
                      (Prod.snd
                        (Prod.snd
                          (Prod.snd
                            (Prod.snd
                              (Prod.snd (Prod.snd (Prod.snd (Prod.snd (Prod.snd (Prod.fst (Prod.fst x_7)))))))))))))),
              false, (0 : UInt8), (0 : UInt64), (0 : UInt64), [], [], (0 : UInt8), (0 : UInt8), (0 : Int64),
              (0 : UInt8), (0 : UInt8), (0 : UInt64), (0 : UInt64)))
          fun (x_8 : Bool × Unit) => some (Prod.fst x_8, ()))
        (obind
          (F31 n
            (Prod.fst (Prod.fst (Prod.fst x_7)), Prod.fst (Prod.snd (Prod.fst (Prod.fst x_7))),
              Prod.fst (Prod.snd (Prod.snd (Prod.fst (Prod.fst x_7)))),
              Prod.fst (Prod.snd (Prod.snd (Prod.snd (Prod.fst (Prod.fst x_7))))),
              Prod.fst (Prod.snd (Prod.snd (Prod.snd (Prod.snd (Prod.fst (Prod.fst x_7)))))),
              Prod.fst (Prod.snd (Prod.snd (Prod.snd (Prod.snd (Prod.snd (Prod.fst (Prod.fst x_7))))))),
              Prod.fst (Prod.snd (Prod.snd (Prod.snd (Prod.snd (Prod.snd (Prod.snd (Prod.fst (Prod.fst x_7)))))))),
              Prod.fst
                (Prod.snd (Prod.snd (Prod.snd (Prod.snd (Prod.snd (Prod.snd (Prod.snd (Prod.fst (Prod.fst x_7))))))))),
              Prod.fst
                (Prod.snd
                  (Prod.snd
                    (Prod.snd (Prod.snd (Prod.snd (Prod.snd (Prod.snd (Prod.snd (Prod.fst (Prod.fst x_7)))))))))),
              Prod.fst
                (Prod.snd
                  (Prod.snd
                    (Prod.snd
                      (Prod.snd (Prod.snd (Prod.snd (Prod.snd (Prod.snd (Prod.snd (Prod.fst (Prod.fst x_7))))))))))),
              Prod.fst
                (Prod.snd
                  (Prod.snd
                    (Prod.snd
                      (Prod.snd
                        (Prod.snd (Prod.snd (Prod.snd (Prod.snd (Prod.snd (Prod.snd (Prod.fst (Prod.fst x_7)))))))))))),
              Prod.fst
                (Prod.snd
                  (Prod.snd
                    (Prod.snd
                      (Prod.snd
                        (Prod.snd
                          (Prod.snd
                            (Prod.snd (Prod.snd (Prod.snd (Prod.snd (Prod.snd (Prod.fst (Prod.fst x_7))))))))))))),
              Prod.snd
                (Prod.snd
                  (Prod.snd
                    (Prod.snd
                      (Prod.snd
                        (Prod.snd
                          (Prod.snd
                            (Prod.snd (Prod.snd (Prod.snd (Prod.snd (Prod.snd (Prod.fst (Prod.fst x_7)))))))))))))))
          fun (x_8 : List UInt8 × Unit) =>
          oite (Prod.fst x_8 == b)
            (obind
              (F22 n
                (Prod.fst (Prod.fst (Prod.fst x_7)), Prod.fst (Prod.snd (Prod.fst (Prod.fst x_7))),
                  Prod.fst (Prod.snd (Prod.snd (Prod.fst (Prod.fst x_7)))),
                  Prod.fst (Prod.snd (Prod.snd (Prod.snd (Prod.fst (Prod.fst x_7))))),
                  Prod.fst (Prod.snd (Prod.snd (Prod.snd (Prod.snd (Prod.fst (Prod.fst x_7)))))),
                  Prod.fst (Prod.snd (Prod.snd (Prod.snd (Prod.snd (Prod.snd (Prod.fst (Prod.fst x_7))))))),
                  Prod.fst (Prod.snd (Prod.snd (Prod.snd (Prod.snd (Prod.snd (Prod.snd (Prod.fst (Prod.fst x_7)))))))),
                  Prod.fst
                    (Prod.snd
                      (Prod.snd (Prod.snd (Prod.snd (Prod.snd (Prod.snd (Prod.snd (Prod.fst (Prod.fst x_7))))))))),
                  Prod.fst
                    (Prod.snd
                      (Prod.snd
                        (Prod.snd (Prod.snd (Prod.snd (Prod.snd (Prod.snd (Prod.snd (Prod.fst (Prod.fst x_7)))))))))),
                  Prod.fst
                    (Prod.snd
                      (Prod.snd
                        (Prod.snd
                          (Prod.snd
                            (Prod.snd (Prod.snd (Prod.snd (Prod.snd (Prod.snd (Prod.fst (Prod.fst x_7))))))))))),
                  Prod.fst
                    (Prod.snd
                      (Prod.snd
                        (Prod.snd
                          (Prod.snd
                            (Prod.snd
                              (Prod.snd (Prod.snd (Prod.snd (Prod.snd (Prod.snd (Prod.fst (Prod.fst x_7)))))))))))),
                  Prod.fst
                    (Prod.snd
                      (Prod.snd
                        (Prod.snd
                          (Prod.snd
                            (Prod.snd
                              (Prod.snd
                                (Prod.snd (Prod.snd (Prod.snd (Prod.snd (Prod.snd (Prod.fst (Prod.fst x_7))))))))))))),
                  Prod.snd
                    (Prod.snd
                      (Prod.snd
                        (Prod.snd
                          (Prod.snd
                            (Prod.snd
                              (Prod.snd
                                (Prod.snd (Prod.snd (Prod.snd (Prod.snd (Prod.snd (Prod.fst (Prod.fst x_7)))))))))))))))
              fun (x_9 : Int64 × Unit) => some (decide (Prod.fst x_9 = (0 : Int64)), ()))
            (some (false, ()))))
def F7_R125 : Nat →
  Nat →
    PT.T (PT.list (CTs.cons (CT.int IntKind.u8) CTs.nil)) →
      Int64 →
        Int64 →
          List
              (Bool ×
                UInt8 ×
                  UInt64 ×
                    UInt64 ×
                      List UInt8 ×
                        List (List UInt8 × List UInt8) × UInt8 × UInt8 × Int64 × UInt8 × UInt8 × UInt64 × UInt64) →
            Option (Bool × Unit) := fun (n : Nat) =>
  ofixA (125 : Nat)
    [PT.list (CTs.cons (CT.int IntKind.u8) CTs.nil), PT.int IntKind.i64, PT.int IntKind.i64,
      PT.list
        (CTs.cons CT.bool
          (CTs.cons (CT.int IntKind.u8)
            (CTs.cons (CT.int IntKind.u64)
              (CTs.cons (CT.int IntKind.u64)
                (CTs.cons CT.str
                  (CTs.cons (CT.ro (CTs.cons CT.str (CTs.cons CT.str CTs.nil)))
                    (CTs.cons (CT.int IntKind.u8)
                      (CTs.cons (CT.int IntKind.u8)
                        (CTs.cons (CT.int IntKind.i64)
                          (CTs.cons (CT.int IntKind.u8)
                            (CTs.cons (CT.int IntKind.u8)
                              (CTs.cons (CT.int IntKind.u64) (CTs.cons (CT.int IntKind.u64) CTs.nil)))))))))))))]
    (F7_L125 n)
def F7 : Nat →
  (Bool ×
        UInt8 ×
          UInt64 ×
            UInt64 ×
              List UInt8 × List (List UInt8 × List UInt8) × UInt8 × UInt8 × Int64 × UInt8 × UInt8 × UInt64 × UInt64) ×
      (Bool × UInt8 × UInt8 × UInt8 × UInt16 × UInt16 × UInt16 × UInt8 × UInt8 × UInt8 × Bool) × List UInt8 →
    Option (Bool × Unit) := fun (n : Nat)
    (x :
      (Bool ×
          UInt8 ×
            UInt64 ×
              UInt64 ×
                List UInt8 × List (List UInt8 × List UInt8) × UInt8 × UInt8 × Int64 × UInt8 × UInt8 × UInt64 × UInt64) ×
        (Bool × UInt8 × UInt8 × UInt8 × UInt16 × UInt16 × UInt16 × UInt8 × UInt8 × UInt8 × Bool) × List UInt8) =>
  obind (F8 n ()) fun (x_1 : Bool × Unit) =>
    oite (!Prod.fst x_1) (some (false, ()))
      (oite
        (decide
          ((20 : Int64) <
            Int64.ofInt ↑(List.length (Prod.fst (Prod.snd (Prod.snd (Prod.snd (Prod.snd (Prod.snd (Prod.fst x))))))))))
        (some (true, ()))
        (oite (decide ((300 : Int64) < Int64.ofInt ↑(List.length (Prod.snd (Prod.snd x))))) (some (true, ()))
          (obind
            (F13 n
              (Prod.fst (Prod.fst x), Prod.fst (Prod.snd (Prod.fst x)), Prod.fst (Prod.snd (Prod.snd (Prod.fst x))),
                Prod.fst (Prod.snd (Prod.snd (Prod.snd (Prod.fst x)))),
                Prod.fst (Prod.snd (Prod.snd (Prod.snd (Prod.snd (Prod.fst x))))),
                Prod.fst (Prod.snd (Prod.snd (Prod.snd (Prod.snd (Prod.snd (Prod.fst x)))))),
                Prod.fst (Prod.snd (Prod.snd (Prod.snd (Prod.snd (Prod.snd (Prod.snd (Prod.fst x))))))),
                Prod.fst (Prod.snd (Prod.snd (Prod.snd (Prod.snd (Prod.snd (Prod.snd (Prod.snd (Prod.fst x)))))))),
                Prod.fst
                  (Prod.snd (Prod.snd (Prod.snd (Prod.snd (Prod.snd (Prod.snd (Prod.snd (Prod.snd (Prod.fst x))))))))),
                Prod.fst
                  (Prod.snd
                    (Prod.snd
                      (Prod.snd (Prod.snd (Prod.snd (Prod.snd (Prod.snd (Prod.snd (Prod.snd (Prod.fst x)))))))))),
                Prod.fst
                  (Prod.snd
                    (Prod.snd
                      (Prod.snd
                        (Prod.snd (Prod.snd (Prod.snd (Prod.snd (Prod.snd (Prod.snd (Prod.snd (Prod.fst x))))))))))),
                Prod.fst
                  (Prod.snd
                    (Prod.snd
                      (Prod.snd
                        (Prod.snd
                          (Prod.snd (Prod.snd (Prod.snd (Prod.snd (Prod.snd (Prod.snd (Prod.snd (Prod.fst x)))))))))))),
                Prod.snd
                  (Prod.snd
                    (Prod.snd
                      (Prod.snd
                        (Prod.snd
                          (Prod.snd
                            (Prod.snd (Prod.snd (Prod.snd (Prod.snd (Prod.snd (Prod.snd (Prod.fst x))))))))))))))
            fun (x_2 : List UInt8 × Unit) =>
            obind
              (F31 n
                (Prod.fst (Prod.fst x), Prod.fst (Prod.snd (Prod.fst x)), Prod.fst (Prod.snd (Prod.snd (Prod.fst x))),
                  Prod.fst (Prod.snd (Prod.snd (Prod.snd (Prod.fst x)))),
                  Prod.fst (Prod.snd (Prod.snd (Prod.snd (Prod.snd (Prod.fst x))))),
                  Prod.fst (Prod.snd (Prod.snd (Prod.snd (Prod.snd (Prod.snd (Prod.fst x)))))),
                  Prod.fst (Prod.snd (Prod.snd (Prod.snd (Prod.snd (Prod.snd (Prod.snd (Prod.fst x))))))),
                  Prod.fst (Prod.snd (Prod.snd (Prod.snd (Prod.snd (Prod.snd (Prod.snd (Prod.snd (Prod.fst x)))))))),
                  Prod.fst
                    (Prod.snd
                      (Prod.snd (Prod.snd (Prod.snd (Prod.snd (Prod.snd (Prod.snd (Prod.snd (Prod.fst x))))))))),
                  Prod.fst
                    (Prod.snd
                      (Prod.snd
                        (Prod.snd (Prod.snd (Prod.snd (Prod.snd (Prod.snd (Prod.snd (Prod.snd (Prod.fst x)))))))))),
                  Prod.fst
                    (Prod.snd
                      (Prod.snd
                        (Prod.snd
                          (Prod.snd (Prod.snd (Prod.snd (Prod.snd (Prod.snd (Prod.snd (Prod.snd (Prod.fst x))))))))))),
                  Prod.fst
                    (Prod.snd
                      (Prod.snd
                        (Prod.snd
                          (Prod.snd
                            (Prod.snd
                              (Prod.snd (Prod.snd (Prod.snd (Prod.snd (Prod.snd (Prod.snd (Prod.fst x)))))))))))),
                  Prod.snd
                    (Prod.snd
                      (Prod.snd
                        (Prod.snd
                          (Prod.snd
                            (Prod.snd
                              (Prod.snd (Prod.snd (Prod.snd (Prod.snd (Prod.snd (Prod.snd (Prod.fst x))))))))))))))
              fun (x_3 : List UInt8 × Unit) =>
              oite (!Prod.fst x_2 == Prod.fst x_3) (some (false, ()))
                (obind
                  (F32 n
                    (Prod.fst (Prod.fst x), Prod.fst (Prod.snd (Prod.fst x)),
                      Prod.fst (Prod.snd (Prod.snd (Prod.fst x))),
                      Prod.fst (Prod.snd (Prod.snd (Prod.snd (Prod.fst x)))),
                      Prod.fst (Prod.snd (Prod.snd (Prod.snd (Prod.snd (Prod.fst x))))),
                      Prod.fst (Prod.snd (Prod.snd (Prod.snd (Prod.snd (Prod.snd (Prod.fst x)))))),
                      Prod.fst (Prod.snd (Prod.snd (Prod.snd (Prod.snd (Prod.snd (Prod.snd (Prod.fst x))))))),
                      Prod.fst
                        (Prod.snd (Prod.snd (Prod.snd (Prod.snd (Prod.snd (Prod.snd (Prod.snd (Prod.fst x)))))))),
                      Prod.fst
                        (Prod.snd
                          (Prod.snd (Prod.snd (Prod.snd (Prod.snd (Prod.snd (Prod.snd (Prod.snd (Prod.fst x))))))))),
                      Prod.fst
                        (Prod.snd
                          (Prod.snd
                            (Prod.snd (Prod.snd (Prod.snd (Prod.snd (Prod.snd (Prod.snd (Prod.snd (Prod.fst x)))))))))),
                      Prod.fst
                        (Prod.snd
                          (Prod.snd
                            (Prod.snd
                              (Prod.snd
                                (Prod.snd (Prod.snd (Prod.snd (Prod.snd (Prod.snd (Prod.snd (Prod.fst x))))))))))),
                      Prod.fst
                        (Prod.snd
                          (Prod.snd
                            (Prod.snd
                              (Prod.snd
                                (Prod.snd
                                  (Prod.snd (Prod.snd (Prod.snd (Prod.snd (Prod.snd (Prod.snd (Prod.fst x)))))))))))),
                      Prod.snd
                        (Prod.snd
                          (Prod.snd
                            (Prod.snd
                              (Prod.snd
                                (Prod.snd
                                  (Prod.snd (Prod.snd (Prod.snd (Prod.snd (Prod.snd (Prod.snd (Prod.fst x))))))))))))))
                  fun (x_4 : Int64 × Unit) =>
                  obind
                    (F31 n
                      (Prod.fst (Prod.fst x), Prod.fst (Prod.snd (Prod.fst x)),
                        Prod.fst (Prod.snd (Prod.snd (Prod.fst x))),
                        Prod.fst (Prod.snd (Prod.snd (Prod.snd (Prod.fst x)))),
                        Prod.fst (Prod.snd (Prod.snd (Prod.snd (Prod.snd (Prod.fst x))))),
                        Prod.fst (Prod.snd (Prod.snd (Prod.snd (Prod.snd (Prod.snd (Prod.fst x)))))),
                        Prod.fst (Prod.snd (Prod.snd (Prod.snd (Prod.snd (Prod.snd (Prod.snd (Prod.fst x))))))),
                        Prod.fst
                          (Prod.snd (Prod.snd (Prod.snd (Prod.snd (Prod.snd (Prod.snd (Prod.snd (Prod.fst x)))))))),
                        Prod.fst
                          (Prod.snd
                            (Prod.snd (Prod.snd (Prod.snd (Prod.snd (Prod.snd (Prod.snd (Prod.snd (Prod.fst x))))))))),
                        Prod.fst
                          (Prod.snd
                            (Prod.snd
                              (Prod.snd
                                (Prod.snd (Prod.snd (Prod.snd (Prod.snd (Prod.snd (Prod.snd (Prod.fst x)))))))))),
                        Prod.fst
                          (Prod.snd
                            (Prod.snd
                              (Prod.snd
                                (Prod.snd
                                  (Prod.snd (Prod.snd (Prod.snd (Prod.snd (Prod.snd (Prod.snd (Prod.fst x))))))))))),
                        Prod.fst
                          (Prod.snd
                            (Prod.snd
                              (Prod.snd
                                (Prod.snd
                                  (Prod.snd
                                    (Prod.snd (Prod.snd (Prod.snd (Prod.snd (Prod.snd (Prod.snd (Prod.fst x)))))))))))),
                        Prod.snd
                          (Prod.snd
                            (Prod.snd
                              (Prod.snd
                                (Prod.snd
                                  (Prod.snd
                                    (Prod.snd
                                      (Prod.snd (Prod.snd (Prod.snd (Prod.snd (Prod.snd (Prod.fst x))))))))))))))
                    fun (x_5 : List UInt8 × Unit) =>
                    oite (!decide (Prod.fst x_4 = Int64.ofInt ↑(List.length (Prod.fst x_5)))) (some (false, ()))
                      (obind
                        (F9 n
                          (Prod.fst (Prod.fst (Prod.snd x)), Prod.fst (Prod.snd (Prod.fst (Prod.snd x))),
                            Prod.fst (Prod.snd (Prod.snd (Prod.fst (Prod.snd x)))),
                            Prod.fst (Prod.snd (Prod.snd (Prod.snd (Prod.fst (Prod.snd x))))),
                            Prod.fst (Prod.snd (Prod.snd (Prod.snd (Prod.snd (Prod.fst (Prod.snd x)))))),
                            Prod.fst (Prod.snd (Prod.snd (Prod.snd (Prod.snd (Prod.snd (Prod.fst (Prod.snd x))))))),
                            Prod.fst
                              (Prod.snd (Prod.snd (Prod.snd (Prod.snd (Prod.snd (Prod.snd (Prod.fst (Prod.snd x)))))))),
                            Prod.fst
                              (Prod.snd
                                (Prod.snd
                                  (Prod.snd (Prod.snd (Prod.snd (Prod.snd (Prod.snd (Prod.fst (Prod.snd x))))))))),
                            Prod.fst
                              (Prod.snd
                                (Prod.snd
                                  (Prod.snd
                                    (Prod.snd (Prod.snd (Prod.snd (Prod.snd (Prod.snd (Prod.fst (Prod.snd x)))))))))),
                            Prod.fst
                              (Prod.snd
                                (Prod.snd
                                  (Prod.snd
                                    (Prod.snd
                                      (Prod.snd
                                        (Prod.snd (Prod.snd (Prod.snd (Prod.snd (Prod.fst (Prod.snd x))))))))))),
                            Prod.snd
                              (Prod.snd
                                (Prod.snd
                                  (Prod.snd
                                    (Prod.snd
                                      (Prod.snd
                                        (Prod.snd (Prod.snd (Prod.snd (Prod.snd (Prod.fst (Prod.snd x)))))))))))))
                        fun
                          (x_6 :
                            (Bool ×
                                UInt8 ×
                                  UInt64 ×
                                    UInt64 ×
                                      List UInt8 ×
                                        List (List UInt8 × List UInt8) ×
                                          UInt8 × UInt8 × Int64 × UInt8 × UInt8 × UInt64 × UInt64) ×
                              Unit) =>
                        F7_R125 n n (Prod.snd (Prod.snd x))
                          (Int64.ofInt
                            ↑(List.length
                                [(Prod.fst (Prod.fst x_6), Prod.fst (Prod.snd (Prod.fst x_6)),
                                    Prod.fst (Prod.snd (Prod.snd (Prod.fst x_6))),
                                    Prod.fst (Prod.snd (Prod.snd (Prod.snd (Prod.fst x_6)))),
                                    Prod.fst (Prod.snd (Prod.snd (Prod.snd (Prod.snd (Prod.fst x_6))))),
                                    Prod.fst (Prod.snd (Prod.snd (Prod.snd (Prod.snd (Prod.snd (Prod.fst x_6)))))),
                                    Prod.fst
                                      (Prod.snd (Prod.snd (Prod.snd (Prod.snd (Prod.snd (Prod.snd (Prod.fst x_6))))))),
                                    Prod.fst
                                      (Prod.snd
                                        (Prod.snd
                                          (Prod.snd (Prod.snd (Prod.snd (Prod.snd (Prod.snd (Prod.fst x_6)))))))),
                                    Prod.fst
                                      (Prod.snd
                                        (Prod.snd
                                          (Prod.snd
                                            (Prod.snd (Prod.snd (Prod.snd (Prod.snd (Prod.snd (Prod.fst x_6))))))))),
                                    Prod.fst
                                      (Prod.snd
                                        (Prod.snd
                                          (Prod.snd
                                            (Prod.snd
                                              (Prod.snd (Prod.snd (Prod.snd (Prod.snd (Prod.snd (Prod.fst x_6)))))))))),
                                    Prod.fst
                                      (Prod.snd
                                        (Prod.snd
                                          (Prod.snd
                                            (Prod.snd
                                              (Prod.snd
                                                (Prod.snd
                                                  (Prod.snd (Prod.snd (Prod.snd (Prod.snd (Prod.fst x_6))))))))))),
                                    Prod.fst
                                      (Prod.snd
                                        (Prod.snd
                                          (Prod.snd
                                            (Prod.snd
                                              (Prod.snd
                                                (Prod.snd
                                                  (Prod.snd
                                                    (Prod.snd (Prod.snd (Prod.snd (Prod.snd (Prod.fst x_6)))))))))))),
                                    Prod.snd
                                      (Prod.snd
                                        (Prod.snd
                                          (Prod.snd
                                            (Prod.snd
                                              (Prod.snd
                                                (Prod.snd
                                                  (Prod.snd
                                                    (Prod.snd (Prod.snd (Prod.snd (Prod.snd (Prod.fst x_6))))))))))))),
                                  (Prod.fst (Prod.fst x), Prod.fst (Prod.snd (Prod.fst x)),
                                    Prod.fst (Prod.snd (Prod.snd (Prod.fst x))),
                                    Prod.fst (Prod.snd (Prod.snd (Prod.snd (Prod.fst x)))),
                                    Prod.fst (Prod.snd (Prod.snd (Prod.snd (Prod.snd (Prod.fst x))))),
                                    Prod.fst (Prod.snd (Prod.snd (Prod.snd (Prod.snd (Prod.snd (Prod.fst x)))))),
                                    Prod.fst
                                      (Prod.snd (Prod.snd (Prod.snd (Prod.snd (Prod.snd (Prod.snd (Prod.fst x))))))),
                                    Prod.fst
                                      (Prod.snd
                                        (Prod.snd (Prod.snd (Prod.snd (Prod.snd (Prod.snd (Prod.snd (Prod.fst x)))))))),
                                    Prod.fst
                                      (Prod.snd
                                        (Prod.snd
                                          (Prod.snd
                                            (Prod.snd (Prod.snd (Prod.snd (Prod.snd (Prod.snd (Prod.fst x))))))))),
                                    Prod.fst
                                      (Prod.snd
                                        (Prod.snd
                                          (Prod.snd
                                            (Prod.snd
                                              (Prod.snd (Prod.snd (Prod.snd (Prod.snd (Prod.snd (Prod.fst x)))))))))),
                                    Prod.fst
                                      (Prod.snd
                                        (Prod.snd
                                          (Prod.snd
                                            (Prod.snd
                                              (Prod.snd
                                                (Prod.snd
                                                  (Prod.snd (Prod.snd (Prod.snd (Prod.snd (Prod.fst x))))))))))),
                                    Prod.fst
                                      (Prod.snd
                                        (Prod.snd
                                          (Prod.snd
                                            (Prod.snd
                                              (Prod.snd
                                                (Prod.snd
                                                  (Prod.snd
                                                    (Prod.snd (Prod.snd (Prod.snd (Prod.snd (Prod.fst x)))))))))))),
                                    Prod.snd
                                      (Prod.snd
                                        (Prod.snd
                                          (Prod.snd
                                            (Prod.snd
                                              (Prod.snd
                                                (Prod.snd
                                                  (Prod.snd
                                                    (Prod.snd (Prod.snd (Prod.snd (Prod.snd (Prod.fst x)))))))))))))]))
                          (0 : Int64)
                          [(Prod.fst (Prod.fst x_6), Prod.fst (Prod.snd (Prod.fst x_6)),
                              Prod.fst (Prod.snd (Prod.snd (Prod.fst x_6))),
                              Prod.fst (Prod.snd (Prod.snd (Prod.snd (Prod.fst x_6)))),
                              Prod.fst (Prod.snd (Prod.snd (Prod.snd (Prod.snd (Prod.fst x_6))))),
                              Prod.fst (Prod.snd (Prod.snd (Prod.snd (Prod.snd (Prod.snd (Prod.fst x_6)))))),
                              Prod.fst (Prod.snd (Prod.snd (Prod.snd (Prod.snd (Prod.snd (Prod.snd (Prod.fst x_6))))))),
                              Prod.fst
                                (Prod.snd
                                  (Prod.snd (Prod.snd (Prod.snd (Prod.snd (Prod.snd (Prod.snd (Prod.fst x_6)))))))),
                              Prod.fst
                                (Prod.snd
                                  (Prod.snd
                                    (Prod.snd (Prod.snd (Prod.snd (Prod.snd (Prod.snd (Prod.snd (Prod.fst x_6))))))))),
                              Prod.fst
                                (Prod.snd
                                  (Prod.snd
                                    (Prod.snd
                                      (Prod.snd
                                        (Prod.snd (Prod.snd (Prod.snd (Prod.snd (Prod.snd (Prod.fst x_6)))))))))),
                              Prod.fst
                                (Prod.snd
                                  (Prod.snd
                                    (Prod.snd
                                      (Prod.snd
                                        (Prod.snd
                                          (Prod.snd (Prod.snd (Prod.snd (Prod.snd (Prod.snd (Prod.fst x_6))))))))))),
                              Prod.fst
                                (Prod.snd
                                  (Prod.snd
                                    (Prod.snd
                                      (Prod.snd
                                        (Prod.snd
                                          (Prod.snd
                                            (Prod.snd (Prod.snd (Prod.snd (Prod.snd (Prod.snd (Prod.fst x_6)))))))))))),
                              Prod.snd
                                (Prod.snd
                                  (Prod.snd
                                    (Prod.snd
                                      (Prod.snd
                                        (Prod.snd
                                          (Prod.snd
                                            (Prod.snd
                                              (Prod.snd (Prod.snd (Prod.snd (Prod.snd (Prod.fst x_6))))))))))))),
                            (Prod.fst (Prod.fst x), Prod.fst (Prod.snd (Prod.fst x)),
                              Prod.fst (Prod.snd (Prod.snd (Prod.fst x))),
                              Prod.fst (Prod.snd (Prod.snd (Prod.snd (Prod.fst x)))),
                              Prod.fst (Prod.snd (Prod.snd (Prod.snd (Prod.snd (Prod.fst x))))),
                              Prod.fst (Prod.snd (Prod.snd (Prod.snd (Prod.snd (Prod.snd (Prod.fst x)))))),
                              Prod.fst (Prod.snd (Prod.snd (Prod.snd (Prod.snd (Prod.snd (Prod.snd (Prod.fst x))))))),
                              Prod.fst
                                (Prod.snd
                                  (Prod.snd (Prod.snd (Prod.snd (Prod.snd (Prod.snd (Prod.snd (Prod.fst x)))))))),
                              Prod.fst
                                (Prod.snd
                                  (Prod.snd
                                    (Prod.snd (Prod.snd (Prod.snd (Prod.snd (Prod.snd (Prod.snd (Prod.fst x))))))))),
                              Prod.fst
                                (Prod.snd
                                  (Prod.snd
                                    (Prod.snd
                                      (Prod.snd (Prod.snd (Prod.snd (Prod.snd (Prod.snd (Prod.snd (Prod.fst x)))))))))),
                              Prod.fst
                                (Prod.snd
                                  (Prod.snd
                                    (Prod.snd
                                      (Prod.snd
                                        (Prod.snd
                                          (Prod.snd (Prod.snd (Prod.snd (Prod.snd (Prod.snd (Prod.fst x))))))))))),
                              Prod.fst
                                (Prod.snd
                                  (Prod.snd
                                    (Prod.snd
                                      (Prod.snd
                                        (Prod.snd
                                          (Prod.snd
                                            (Prod.snd (Prod.snd (Prod.snd (Prod.snd (Prod.snd (Prod.fst x)))))))))))),
                              Prod.snd
                                (Prod.snd
                                  (Prod.snd
                                    (Prod.snd
                                      (Prod.snd
                                        (Prod.snd
                                          (Prod.snd
                                            (Prod.snd
                                              (Prod.snd (Prod.snd (Prod.snd (Prod.snd (Prod.fst x)))))))))))))])))))
theorem F7_R125_s (n : Nat) (m_ : Nat) : F7_R125 n (m_ + 1) = F7_L125 n (F7_R125 n m_) := rfl
theorem ok7 (n : Nat) : FunOK Try.prog ⟨7, sig7, F7 n⟩ :=
  fun_ok (hints := ⟨[], [(125, ⟨[(2, .one (.ro (.cons (.int .u8) .nil))), (44, .one (.own 3)), (45, .one (.int .i64)), (46, .one (.int .i64))], [(3, .row (.cons .bool (.cons (.int .u8) (.cons (.int .u64) (.cons (.int .u64) (.cons .str (.cons (.ro (.cons .str (.cons .str .nil))) (.cons (.int .u8) (.cons (.int .u8) (.cons (.int .i64) (.cons (.int .u8) (.cons (.int .u8) (.cons (.int .u64) (.cons (.int .u64) .nil))))))))))))))], 4⟩)]⟩) (fuel := n) (c := Try.f7.body.getD .skip) (rs := Try.f7.results.toList) tt_ok mix (FsOK.cons (ok8 n) (FsOK.cons (ok13 n) (FsOK.cons (ok31 n) (FsOK.cons (ok32 n) (FsOK.cons (ok9 n) (FsOK.cons (ok30 n) (FsOK.cons (ok22 n) (FsOK.cons (ok16 n) (FsOK.nil))))))))) Try.func7 (by kernel_rfl) (by kernel_rfl) rfl (by kernel_rfl) rfl rfl (by kernel_rfl)
end Go.Proofs.Ytehelahnlnfofaa
