/- What the functions of this seat compute, found by walking their code symbolically: each F is what the walk finds, each ok says that the Go function keeps it as a contract. Printed by a program of this repo's. -/
import Derived.Test.YtehelahnlnfofaaItFns4
open Go Go.Sx
namespace Go.Proofs.Ytehelahnlnfofaa
set_option maxRecDepth 100000
set_option linter.unusedVariables false
-- watchfire/item.Clone
def sig10 : Sig := ⟨(.cons (.agg (.cons .bool (.cons (.int .u8) (.cons (.int .u64) (.cons (.int .u64) (.cons .str (.cons (.ro (.cons .str (.cons .str .nil))) (.cons (.int .u8) (.cons (.int .u8) (.cons (.int .i64) (.cons (.int .u8) (.cons (.int .u8) (.cons (.int .u64) (.cons (.int .u64) .nil)))))))))))))) .nil), (.cons (.oagg (.cons (.c .bool) (.cons (.c (.int .u8)) (.cons (.c (.int .u64)) (.cons (.c (.int .u64)) (.cons (.c .str) (.cons (.row (.cons .str (.cons .str .nil))) (.cons (.c (.int .u8)) (.cons (.c (.int .u8)) (.cons (.c (.int .i64)) (.cons (.c (.int .u8)) (.cons (.c (.int .u8)) (.cons (.c (.int .u64)) (.cons (.c (.int .u64)) .nil)))))))))))))) .nil)⟩
def F10 : Nat →
  Bool ×
      UInt8 ×
        UInt64 ×
          UInt64 ×
            List UInt8 × List (List UInt8 × List UInt8) × UInt8 × UInt8 × Int64 × UInt8 × UInt8 × UInt64 × UInt64 →
    Option
      ((Bool ×
          UInt8 ×
            UInt64 ×
              UInt64 ×
                List UInt8 × List (List UInt8 × List UInt8) × UInt8 × UInt8 × Int64 × UInt8 × UInt8 × UInt64 × UInt64) ×
        Unit) := fun (n : Nat)
    (x :
      Bool ×
        UInt8 ×
          UInt64 ×
            UInt64 ×
              List UInt8 × List (List UInt8 × List UInt8) × UInt8 × UInt8 × Int64 × UInt8 × UInt8 × UInt64 × UInt64) =>
  oite
    (Nat.ble ((0 : Nat) + List.length (Prod.fst (Prod.snd (Prod.snd (Prod.snd (Prod.snd (Prod.snd x)))))))
      (4294967296 : Nat))
    (some
      ((Prod.fst x, Prod.fst (Prod.snd x), Prod.fst (Prod.snd (Prod.snd x)),
          Prod.fst (Prod.snd (Prod.snd (Prod.snd x))), Prod.fst (Prod.snd (Prod.snd (Prod.snd (Prod.snd x)))),
          [] ++ Prod.fst (Prod.snd (Prod.snd (Prod.snd (Prod.snd (Prod.snd x))))),
          Prod.fst (Prod.snd (Prod.snd (Prod.snd (Prod.snd (Prod.snd (Prod.snd x)))))),
          Prod.fst (Prod.snd (Prod.snd (Prod.snd (Prod.snd (Prod.snd (Prod.snd (Prod.snd x))))))),
          Prod.fst (Prod.snd (Prod.snd (Prod.snd (Prod.snd (Prod.snd (Prod.snd (Prod.snd (Prod.snd x)))))))),
          Prod.fst (Prod.snd (Prod.snd (Prod.snd (Prod.snd (Prod.snd (Prod.snd (Prod.snd (Prod.snd (Prod.snd x))))))))),
          Prod.fst
            (Prod.snd
              (Prod.snd (Prod.snd (Prod.snd (Prod.snd (Prod.snd (Prod.snd (Prod.snd (Prod.snd (Prod.snd x)))))))))),
          Prod.fst
            (Prod.snd
              (Prod.snd
                (Prod.snd (Prod.snd (Prod.snd (Prod.snd (Prod.snd (Prod.snd (Prod.snd (Prod.snd (Prod.snd x))))))))))),
          Prod.snd
            (Prod.snd
              (Prod.snd
                (Prod.snd (Prod.snd (Prod.snd (Prod.snd (Prod.snd (Prod.snd (Prod.snd (Prod.snd (Prod.snd x)))))))))))),
        ()))
    none
theorem ok10 (n : Nat) : FunOK Try.prog ⟨10, sig10, F10 n⟩ :=
  fun_ok (hints := ⟨[], []⟩) (fuel := n) (c := Try.f10.body.getD .skip) (rs := Try.f10.results.toList) tt_ok mix (FsOK.nil) Try.func10 (by kernel_rfl) (by kernel_rfl) rfl (by kernel_rfl) rfl rfl (by kernel_rfl)
-- watchfire/watchfireref01.Text
def sig11 : Sig := ⟨(.cons (.one (.c (.ro (.cons .str (.cons .str .nil))))) .nil), (.cons (.one (.c .str)) .nil)⟩
def F11_J234 : Arr [PT.list (CTs.cons CT.str (CTs.cons CT.str CTs.nil)), PT.bytes, PT.int IntKind.i64] (Option (List UInt8 × Unit)) →
  List (List UInt8 × List UInt8) → List UInt8 → Int64 → Option (List UInt8 × Unit) := fun
    (rec :
      Arr [PT.list (CTs.cons CT.str (CTs.cons CT.str CTs.nil)), PT.bytes, PT.int IntKind.i64]
        (Option (List UInt8 × Unit)))
    (l_1 : List (List UInt8 × List UInt8)) (s_1 : List UInt8) (i_1 : Int64) =>
  obind (at? l_1 (Int64.toInt i_1)) fun (x_1 : List UInt8 × List UInt8) =>
    oite (Nat.ble (List.length s_1 + List.length (Prod.fst x_1)) (4294967296 : Nat))
      (oite (Nat.ble (List.length (s_1 ++ Prod.fst x_1) + List.length [(61 : UInt8)]) (4294967296 : Nat))
        (obind (at? l_1 (Int64.toInt i_1)) fun (x_2 : List UInt8 × List UInt8) =>
          oite
            (Nat.ble (List.length (s_1 ++ Prod.fst x_1 ++ [(61 : UInt8)]) + List.length (Prod.snd x_2))
              (4294967296 : Nat))
            (rec l_1 (s_1 ++ Prod.fst x_1 ++ [(61 : UInt8)] ++ Prod.snd x_2) (i_1 + (1 : Int64))) none)
        none)
      none
def F11_L29 : Arr [PT.list (CTs.cons CT.str (CTs.cons CT.str CTs.nil)), PT.bytes, PT.int IntKind.i64] (Option (List UInt8 × Unit)) →
  List (List UInt8 × List UInt8) → List UInt8 → Int64 → Option (List UInt8 × Unit) := fun
    (rec :
      Arr [PT.list (CTs.cons CT.str (CTs.cons CT.str CTs.nil)), PT.bytes, PT.int IntKind.i64]
        (Option (List UInt8 × Unit)))
    (l : List (List UInt8 × List UInt8)) (s : List UInt8) (i : Int64) =>
  oite (decide (i < Int64.ofInt ↑(List.length l)))
    (ojoinA (234 : Nat) [PT.list (CTs.cons CT.str (CTs.cons CT.str CTs.nil)), PT.bytes, PT.int IntKind.i64]
      (fun
          (J :
            Arr [PT.list (CTs.cons CT.str (CTs.cons CT.str CTs.nil)), PT.bytes, PT.int IntKind.i64]
              (Option (List UInt8 × Unit))) =>
        oite (decide ((0 : Int64) < i))
          (oite (Nat.ble (List.length s + List.length [(44 : UInt8)]) (4294967296 : Nat)) (J l (s ++ [(44 : UInt8)]) i)
            none)
          (J l s i))
      (F11_J234 rec))
    (some (s, ()))
def F11_R29 : Nat → PT.T (PT.list (CTs.cons CT.str (CTs.cons CT.str CTs.nil))) → List UInt8 → Int64 → Option (List UInt8 × Unit) := ofixA (29 : Nat) [PT.list (CTs.cons CT.str (CTs.cons CT.str CTs.nil)), PT.bytes, PT.int IntKind.i64] F11_L29
def F11 : Nat → List (List UInt8 × List UInt8) → Option (List UInt8 × Unit) := fun (n : Nat) (x : List (List UInt8 × List UInt8)) => F11_R29 n x [] (0 : Int64)
theorem F11_R29_s  (m_ : Nat) : F11_R29  (m_ + 1) = F11_L29  (F11_R29  m_) := rfl
theorem ok11 (n : Nat) : FunOK Try.prog ⟨11, sig11, F11 n⟩ :=
  fun_ok (hints := ⟨[(234, ⟨[(0, .one (.ro (.cons .str (.cons .str .nil)))), (3, .one (.str)), (4, .one (.int .i64))], [], 1⟩)], [(29, ⟨[(0, .one (.ro (.cons .str (.cons .str .nil)))), (3, .one (.str)), (4, .one (.int .i64))], [], 1⟩)]⟩) (fuel := n) (c := Try.f11.body.getD .skip) (rs := Try.f11.results.toList) tt_ok mix (FsOK.nil) Try.func11 (by kernel_rfl) (by kernel_rfl) rfl (by kernel_rfl) rfl rfl (by kernel_rfl)
-- slices.Equal[[]watchfire/api.Pair,watchfire/api.Pair]
def sig58 : Sig := ⟨(.cons (.one (.c (.ro (.cons .str (.cons .str .nil))))) (.cons (.one (.c (.ro (.cons .str (.cons .str .nil))))) .nil)), (.cons (.one (.c .bool)) .nil)⟩
def F58_L29 : Arr
    [PT.list (CTs.cons CT.str (CTs.cons CT.str CTs.nil)), PT.list (CTs.cons CT.str (CTs.cons CT.str CTs.nil)),
      PT.int IntKind.i64, PT.int IntKind.i64]
    (Option (Bool × Unit)) →
  List (List UInt8 × List UInt8) → List (List UInt8 × List UInt8) → Int64 → Int64 → Option (Bool × Unit) := fun
    (rec :
      Arr
        [PT.list (CTs.cons CT.str (CTs.cons CT.str CTs.nil)), PT.list (CTs.cons CT.str (CTs.cons CT.str CTs.nil)),
          PT.int IntKind.i64, PT.int IntKind.i64]
        (Option (Bool × Unit)))
    (s1 s2 : List (List UInt8 × List UInt8)) (t t_1 : Int64) =>
  oite (decide (t_1 < t))
    (obind (at? s1 (Int64.toInt t_1)) fun (x_1 : List UInt8 × List UInt8) =>
      obind (at? s2 (Int64.toInt t_1)) fun (x_2 : List UInt8 × List UInt8) =>
        oite (!(Prod.fst x_1 == Prod.fst x_2 && (Prod.snd x_1 == Prod.snd x_2 && true))) (some (false, ()))
          (rec s1 s2 t (t_1 + (1 : Int64))))
    (some (true, ()))
def F58_R29 : Nat →
  PT.T (PT.list (CTs.cons CT.str (CTs.cons CT.str CTs.nil))) →
    List (List UInt8 × List UInt8) → Int64 → Int64 → Option (Bool × Unit) := ofixA (29 : Nat)
  [PT.list (CTs.cons CT.str (CTs.cons CT.str CTs.nil)), PT.list (CTs.cons CT.str (CTs.cons CT.str CTs.nil)),
    PT.int IntKind.i64, PT.int IntKind.i64]
  F58_L29
def F58 : Nat → List (List UInt8 × List UInt8) × List (List UInt8 × List UInt8) → Option (Bool × Unit) := fun (n : Nat) (x : List (List UInt8 × List UInt8) × List (List UInt8 × List UInt8)) =>
  oite (!decide (Int64.ofInt ↑(List.length (Prod.fst x)) = Int64.ofInt ↑(List.length (Prod.snd x))))
    (some (false, ()))
    (F58_R29 n (Prod.fst x) (Prod.snd x) (Int64.ofInt ↑(List.length (Prod.fst x))) (0 : Int64))
theorem F58_R29_s  (m_ : Nat) : F58_R29  (m_ + 1) = F58_L29  (F58_R29  m_) := rfl
theorem ok58 (n : Nat) : FunOK Try.prog ⟨58, sig58, F58 n⟩ :=
  fun_ok (hints := ⟨[], [(29, ⟨[(0, .one (.ro (.cons .str (.cons .str .nil)))), (1, .one (.ro (.cons .str (.cons .str .nil)))), (12, .one (.int .i64)), (13, .one (.int .i64))], [], 2⟩)]⟩) (fuel := n) (c := Try.f58.body.getD .skip) (rs := Try.f58.results.toList) tt_ok mix (FsOK.nil) Try.func58 (by kernel_rfl) (by kernel_rfl) rfl (by kernel_rfl) rfl rfl (by kernel_rfl)
-- watchfire/lab.Same
def sig35 : Sig := ⟨(.cons (.one (.c (.ro (.cons .str (.cons .str .nil))))) (.cons (.one (.c (.ro (.cons .str (.cons .str .nil))))) .nil)), (.cons (.one (.c .bool)) .nil)⟩
def F35 : Nat → List (List UInt8 × List UInt8) × List (List UInt8 × List UInt8) → Option (Bool × Unit) := fun (n : Nat) (x : List (List UInt8 × List UInt8) × List (List UInt8 × List UInt8)) =>
  obind (F58 n (Prod.fst x, Prod.snd x)) fun (x_1 : Bool × Unit) => some (Prod.fst x_1, ())
theorem ok35 (n : Nat) : FunOK Try.prog ⟨35, sig35, F35 n⟩ :=
  fun_ok (hints := ⟨[], []⟩) (fuel := n) (c := Try.f35.body.getD .skip) (rs := Try.f35.results.toList) tt_ok mix (FsOK.cons (ok58 n) (FsOK.nil)) Try.func35 (by kernel_rfl) (by kernel_rfl) rfl (by kernel_rfl) rfl rfl (by kernel_rfl)
-- watchfire/item.Same
def sig12 : Sig := ⟨(.cons (.agg (.cons .bool (.cons (.int .u8) (.cons (.int .u64) (.cons (.int .u64) (.cons .str (.cons (.ro (.cons .str (.cons .str .nil))) (.cons (.int .u8) (.cons (.int .u8) (.cons (.int .i64) (.cons (.int .u8) (.cons (.int .u8) (.cons (.int .u64) (.cons (.int .u64) .nil)))))))))))))) (.cons (.agg (.cons .bool (.cons (.int .u8) (.cons (.int .u64) (.cons (.int .u64) (.cons .str (.cons (.ro (.cons .str (.cons .str .nil))) (.cons (.int .u8) (.cons (.int .u8) (.cons (.int .i64) (.cons (.int .u8) (.cons (.int .u8) (.cons (.int .u64) (.cons (.int .u64) .nil)))))))))))))) .nil)), (.cons (.one (.c .bool)) .nil)⟩
def F12_J14 : Nat →
  Bool →
    Bool →
      UInt8 →
        UInt64 →
          UInt64 →
            List UInt8 →
              List (List UInt8 × List UInt8) →
                UInt8 →
                  UInt8 →
                    Int64 →
                      UInt8 →
                        UInt8 →
                          UInt64 →
                            UInt64 →
                              Bool →
                                UInt8 →
                                  UInt64 →
                                    UInt64 →
                                      List UInt8 →
                                        List (List UInt8 × List UInt8) →
                                          UInt8 →
                                            UInt8 →
                                              Int64 →
                                                UInt8 →
                                                  UInt8 →
                                                    UInt64 →
                                                      UInt64 →
                                                        UInt8 →
                                                          UInt64 →
                                                            UInt64 →
                                                              List UInt8 →
                                                                List (List UInt8 × List UInt8) →
                                                                  UInt8 →
                                                                    UInt8 →
                                                                      Int64 →
                                                                        UInt8 →
                                                                          UInt8 →
                                                                            UInt64 →
                                                                              UInt64 →
                                                                                List UInt8 →
                                                                                  List (List UInt8 × List UInt8) →
                                                                                    UInt8 →
                                                                                      UInt8 →
                                                                                        Int64 →
                                                                                          UInt8 → Option (Bool × Unit) := fun (n : Nat) (t a0 : Bool) (a1 : UInt8) (a2 a3 : UInt64) (a4 : List UInt8) (a5 : List (List UInt8 × List UInt8))
    (a6 a7 : UInt8) (a8 : Int64) (a9 a10 : UInt8) (a11 a12 : UInt64) (b0 : Bool) (b1 : UInt8) (b2 b3 : UInt64)
    (b4 : List UInt8) (b5 : List (List UInt8 × List UInt8)) (b6 b7 : UInt8) (b8 : Int64) (b9 b10 : UInt8)
    (b11 b12 : UInt64) (x0 : UInt8) (x1 x2 : UInt64) (x3 : List UInt8) (x4 : List (List UInt8 × List UInt8))
    (x5 x6 : UInt8) (x7 : Int64) (x8 y0 : UInt8) (y1 y2 : UInt64) (y3 : List UInt8)
    (y4 : List (List UInt8 × List UInt8)) (y5 y6 : UInt8) (y7 : Int64) (y8 : UInt8) =>
  oite t
    (oite (a0 == b0) (some (decide (a10 = b10) && (decide (a11 = b11) && (decide (a12 = b12) && true)), ()))
      (some (false, ())))
    (oite (decide (x0 = y0))
      (oite (decide (x1 = y1))
        (oite (decide (x2 = y2))
          (oite (x3 == y3)
            (oite (decide (x5 = y5))
              (oite (decide (x6 = y6))
                (oite (decide (x7 = y7))
                  (oite (decide (x8 = y8))
                    (obind (F35 n (x4, y4)) fun (x_1 : Bool × Unit) => some (Prod.fst x_1, ()))
                    (some (false, ())))
                  (some (false, ())))
                (some (false, ())))
              (some (false, ())))
            (some (false, ())))
          (some (false, ())))
        (some (false, ())))
      (some (false, ())))
def F12 : Nat →
  (Bool ×
        UInt8 ×
          UInt64 ×
            UInt64 ×
              List UInt8 × List (List UInt8 × List UInt8) × UInt8 × UInt8 × Int64 × UInt8 × UInt8 × UInt64 × UInt64) ×
      Bool ×
        UInt8 ×
          UInt64 ×
            UInt64 ×
              List UInt8 × List (List UInt8 × List UInt8) × UInt8 × UInt8 × Int64 × UInt8 × UInt8 × UInt64 × UInt64 →
    Option (Bool × Unit) := fun (n : Nat)
    (x :
      (Bool ×
          UInt8 ×
            UInt64 ×
              UInt64 ×
                List UInt8 × List (List UInt8 × List UInt8) × UInt8 × UInt8 × Int64 × UInt8 × UInt8 × UInt64 × UInt64) ×
        Bool ×
          UInt8 ×
            UInt64 ×
              UInt64 ×
                List UInt8 ×
                  List (List UInt8 × List UInt8) × UInt8 × UInt8 × Int64 × UInt8 × UInt8 × UInt64 × UInt64) =>
  ojoinA (14 : Nat)
    [PT.bool, PT.bool, PT.int IntKind.u8, PT.int IntKind.u64, PT.int IntKind.u64, PT.bytes,
      PT.list (CTs.cons CT.str (CTs.cons CT.str CTs.nil)), PT.int IntKind.u8, PT.int IntKind.u8, PT.int IntKind.i64,
      PT.int IntKind.u8, PT.int IntKind.u8, PT.int IntKind.u64, PT.int IntKind.u64, PT.bool, PT.int IntKind.u8,
      PT.int IntKind.u64, PT.int IntKind.u64, PT.bytes, PT.list (CTs.cons CT.str (CTs.cons CT.str CTs.nil)),
      PT.int IntKind.u8, PT.int IntKind.u8, PT.int IntKind.i64, PT.int IntKind.u8, PT.int IntKind.u8,
      PT.int IntKind.u64, PT.int IntKind.u64, PT.int IntKind.u8, PT.int IntKind.u64, PT.int IntKind.u64, PT.bytes,
      PT.list (CTs.cons CT.str (CTs.cons CT.str CTs.nil)), PT.int IntKind.u8, PT.int IntKind.u8, PT.int IntKind.i64,
      PT.int IntKind.u8, PT.int IntKind.u8, PT.int IntKind.u64, PT.int IntKind.u64, PT.bytes,
      PT.list (CTs.cons CT.str (CTs.cons CT.str CTs.nil)), PT.int IntKind.u8, PT.int IntKind.u8, PT.int IntKind.i64,
      PT.int IntKind.u8]
    (fun
        (J :
          Arr
            [PT.bool, PT.bool, PT.int IntKind.u8, PT.int IntKind.u64, PT.int IntKind.u64, PT.bytes,
              PT.list (CTs.cons CT.str (CTs.cons CT.str CTs.nil)), PT.int IntKind.u8, PT.int IntKind.u8,
              PT.int IntKind.i64, PT.int IntKind.u8, PT.int IntKind.u8, PT.int IntKind.u64, PT.int IntKind.u64, PT.bool,
              PT.int IntKind.u8, PT.int IntKind.u64, PT.int IntKind.u64, PT.bytes,
              PT.list (CTs.cons CT.str (CTs.cons CT.str CTs.nil)), PT.int IntKind.u8, PT.int IntKind.u8,
              PT.int IntKind.i64, PT.int IntKind.u8, PT.int IntKind.u8, PT.int IntKind.u64, PT.int IntKind.u64,
              PT.int IntKind.u8, PT.int IntKind.u64, PT.int IntKind.u64, PT.bytes,
              PT.list (CTs.cons CT.str (CTs.cons CT.str CTs.nil)), PT.int IntKind.u8, PT.int IntKind.u8,
              PT.int IntKind.i64, PT.int IntKind.u8, PT.int IntKind.u8, PT.int IntKind.u64, PT.int IntKind.u64,
              PT.bytes, PT.list (CTs.cons CT.str (CTs.cons CT.str CTs.nil)), PT.int IntKind.u8, PT.int IntKind.u8,
              PT.int IntKind.i64, PT.int IntKind.u8]
            (Option (Bool × Unit))) =>
      oite (Prod.fst (Prod.fst x))
        (J true (Prod.fst (Prod.fst x)) (Prod.fst (Prod.snd (Prod.fst x))) (Prod.fst (Prod.snd (Prod.snd (Prod.fst x))))
          (Prod.fst (Prod.snd (Prod.snd (Prod.snd (Prod.fst x)))))
          (Prod.fst (Prod.snd (Prod.snd (Prod.snd (Prod.snd (Prod.fst x))))))
          (Prod.fst (Prod.snd (Prod.snd (Prod.snd (Prod.snd (Prod.snd (Prod.fst x)))))))
          (Prod.fst (Prod.snd (Prod.snd (Prod.snd (Prod.snd (Prod.snd (Prod.snd (Prod.fst x))))))))
          (Prod.fst (Prod.snd (Prod.snd (Prod.snd (Prod.snd (Prod.snd (Prod.snd (Prod.snd (Prod.fst x)))))))))
          (Prod.fst
            (Prod.snd (Prod.snd (Prod.snd (Prod.snd (Prod.snd (Prod.snd (Prod.snd (Prod.snd (Prod.fst x))))))))))
          (Prod.fst
            (Prod.snd
              (Prod.snd (Prod.snd (Prod.snd (Prod.snd (Prod.snd (Prod.snd (Prod.snd (Prod.snd (Prod.fst x)))))))))))
          (Prod.fst
            (Prod.snd
              (Prod.snd
                (Prod.snd (Prod.snd (Prod.snd (Prod.snd (Prod.snd (Prod.snd (Prod.snd (Prod.snd (Prod.fst x))))))))))))
          (Prod.fst
            (Prod.snd
              (Prod.snd
                (Prod.snd
                  (Prod.snd
                    (Prod.snd (Prod.snd (Prod.snd (Prod.snd (Prod.snd (Prod.snd (Prod.snd (Prod.fst x)))))))))))))
          (Prod.snd
            (Prod.snd
              (Prod.snd
                (Prod.snd
                  (Prod.snd
                    (Prod.snd (Prod.snd (Prod.snd (Prod.snd (Prod.snd (Prod.snd (Prod.snd (Prod.fst x)))))))))))))
          (Prod.fst (Prod.snd x)) (Prod.fst (Prod.snd (Prod.snd x))) (Prod.fst (Prod.snd (Prod.snd (Prod.snd x))))
          (Prod.fst (Prod.snd (Prod.snd (Prod.snd (Prod.snd x)))))
          (Prod.fst (Prod.snd (Prod.snd (Prod.snd (Prod.snd (Prod.snd x))))))
          (Prod.fst (Prod.snd (Prod.snd (Prod.snd (Prod.snd (Prod.snd (Prod.snd x)))))))
          (Prod.fst (Prod.snd (Prod.snd (Prod.snd (Prod.snd (Prod.snd (Prod.snd (Prod.snd x))))))))
          (Prod.fst (Prod.snd (Prod.snd (Prod.snd (Prod.snd (Prod.snd (Prod.snd (Prod.snd (Prod.snd x)))))))))
          (Prod.fst
            (Prod.snd (Prod.snd (Prod.snd (Prod.snd (Prod.snd (Prod.snd (Prod.snd (Prod.snd (Prod.snd x))))))))))
          (Prod.fst
            (Prod.snd
              (Prod.snd (Prod.snd (Prod.snd (Prod.snd (Prod.snd (Prod.snd (Prod.snd (Prod.snd (Prod.snd x)))))))))))
          (Prod.fst
            (Prod.snd
              (Prod.snd
                (Prod.snd (Prod.snd (Prod.snd (Prod.snd (Prod.snd (Prod.snd (Prod.snd (Prod.snd (Prod.snd x))))))))))))
          (Prod.fst
            (Prod.snd
              (Prod.snd
                (Prod.snd
                  (Prod.snd
                    (Prod.snd (Prod.snd (Prod.snd (Prod.snd (Prod.snd (Prod.snd (Prod.snd (Prod.snd x)))))))))))))
          (Prod.snd
            (Prod.snd
              (Prod.snd
                (Prod.snd
                  (Prod.snd
                    (Prod.snd (Prod.snd (Prod.snd (Prod.snd (Prod.snd (Prod.snd (Prod.snd (Prod.snd x)))))))))))))
          (Prod.fst (Prod.snd (Prod.fst x))) (Prod.fst (Prod.snd (Prod.snd (Prod.fst x))))
          (Prod.fst (Prod.snd (Prod.snd (Prod.snd (Prod.fst x)))))
          (Prod.fst (Prod.snd (Prod.snd (Prod.snd (Prod.snd (Prod.fst x))))))
          (Prod.fst (Prod.snd (Prod.snd (Prod.snd (Prod.snd (Prod.snd (Prod.fst x)))))))
          (Prod.fst (Prod.snd (Prod.snd (Prod.snd (Prod.snd (Prod.snd (Prod.snd (Prod.fst x))))))))
          (Prod.fst (Prod.snd (Prod.snd (Prod.snd (Prod.snd (Prod.snd (Prod.snd (Prod.snd (Prod.fst x)))))))))
          (Prod.fst
            (Prod.snd (Prod.snd (Prod.snd (Prod.snd (Prod.snd (Prod.snd (Prod.snd (Prod.snd (Prod.fst x))))))))))
          (Prod.fst
            (Prod.snd
              (Prod.snd (Prod.snd (Prod.snd (Prod.snd (Prod.snd (Prod.snd (Prod.snd (Prod.snd (Prod.fst x)))))))))))
          (Prod.fst (Prod.snd (Prod.snd x))) (Prod.fst (Prod.snd (Prod.snd (Prod.snd x))))
          (Prod.fst (Prod.snd (Prod.snd (Prod.snd (Prod.snd x)))))
          (Prod.fst (Prod.snd (Prod.snd (Prod.snd (Prod.snd (Prod.snd x))))))
          (Prod.fst (Prod.snd (Prod.snd (Prod.snd (Prod.snd (Prod.snd (Prod.snd x)))))))
          (Prod.fst (Prod.snd (Prod.snd (Prod.snd (Prod.snd (Prod.snd (Prod.snd (Prod.snd x))))))))
          (Prod.fst (Prod.snd (Prod.snd (Prod.snd (Prod.snd (Prod.snd (Prod.snd (Prod.snd (Prod.snd x)))))))))
          (Prod.fst
            (Prod.snd (Prod.snd (Prod.snd (Prod.snd (Prod.snd (Prod.snd (Prod.snd (Prod.snd (Prod.snd x))))))))))
          (Prod.fst
            (Prod.snd
              (Prod.snd (Prod.snd (Prod.snd (Prod.snd (Prod.snd (Prod.snd (Prod.snd (Prod.snd (Prod.snd x))))))))))))
        (J (Prod.fst (Prod.snd x)) (Prod.fst (Prod.fst x)) (Prod.fst (Prod.snd (Prod.fst x)))
          (Prod.fst (Prod.snd (Prod.snd (Prod.fst x)))) (Prod.fst (Prod.snd (Prod.snd (Prod.snd (Prod.fst x)))))
          (Prod.fst (Prod.snd (Prod.snd (Prod.snd (Prod.snd (Prod.fst x))))))
          (Prod.fst (Prod.snd (Prod.snd (Prod.snd (Prod.snd (Prod.snd (Prod.fst x)))))))
          (Prod.fst (Prod.snd (Prod.snd (Prod.snd (Prod.snd (Prod.snd (Prod.snd (Prod.fst x))))))))
          (Prod.fst (Prod.snd (Prod.snd (Prod.snd (Prod.snd (Prod.snd (Prod.snd (Prod.snd (Prod.fst x)))))))))
          (Prod.fst
            (Prod.snd (Prod.snd (Prod.snd (Prod.snd (Prod.snd (Prod.snd (Prod.snd (Prod.snd (Prod.fst x))))))))))
          (Prod.fst
            (Prod.snd
              (Prod.snd (Prod.snd (Prod.snd (Prod.snd (Prod.snd (Prod.snd (Prod.snd (Prod.snd (Prod.fst x)))))))))))
          (Prod.fst
            (Prod.snd
              (Prod.snd
                (Prod.snd (Prod.snd (Prod.snd (Prod.snd (Prod.snd (Prod.snd (Prod.snd (Prod.snd (Prod.fst x))))))))))))
          (Prod.fst
            (Prod.snd
              (Prod.snd
                (Prod.snd
                  (Prod.snd
                    (Prod.snd (Prod.snd (Prod.snd (Prod.snd (Prod.snd (Prod.snd (Prod.snd (Prod.fst x)))))))))))))
          (Prod.snd
            (Prod.snd
              (Prod.snd
                (Prod.snd
                  (Prod.snd
                    (Prod.snd (Prod.snd (Prod.snd (Prod.snd (Prod.snd (Prod.snd (Prod.snd (Prod.fst x)))))))))))))
          (Prod.fst (Prod.snd x)) (Prod.fst (Prod.snd (Prod.snd x))) (Prod.fst (Prod.snd (Prod.snd (Prod.snd x))))
          (Prod.fst (Prod.snd (Prod.snd (Prod.snd (Prod.snd x)))))
          (Prod.fst (Prod.snd (Prod.snd (Prod.snd (Prod.snd (Prod.snd x))))))
          (Prod.fst (Prod.snd (Prod.snd (Prod.snd (Prod.snd (Prod.snd (Prod.snd x)))))))
          (Prod.fst (Prod.snd (Prod.snd (Prod.snd (Prod.snd (Prod.snd (Prod.snd (Prod.snd x))))))))
          (Prod.fst (Prod.snd (Prod.snd (Prod.snd (Prod.snd (Prod.snd (Prod.snd (Prod.snd (Prod.snd x)))))))))
          (Prod.fst
            (Prod.snd (Prod.snd (Prod.snd (Prod.snd (Prod.snd (Prod.snd (Prod.snd (Prod.snd (Prod.snd x))))))))))
          (Prod.fst
            (Prod.snd
              (Prod.snd (Prod.snd (Prod.snd (Prod.snd (Prod.snd (Prod.snd (Prod.snd (Prod.snd (Prod.snd x)))))))))))
          (Prod.fst
            (Prod.snd
              (Prod.snd
                (Prod.snd (Prod.snd (Prod.snd (Prod.snd (Prod.snd (Prod.snd (Prod.snd (Prod.snd (Prod.snd x))))))))))))
          (Prod.fst
            (Prod.snd
              (Prod.snd
                (Prod.snd
                  (Prod.snd
                    (Prod.snd (Prod.snd (Prod.snd (Prod.snd (Prod.snd (Prod.snd (Prod.snd (Prod.snd x)))))))))))))
          (Prod.snd
            (Prod.snd
              (Prod.snd
                (Prod.snd
                  (Prod.snd
                    (Prod.snd (Prod.snd (Prod.snd (Prod.snd (Prod.snd (Prod.snd (Prod.snd (Prod.snd x)))))))))))))
          (Prod.fst (Prod.snd (Prod.fst x))) (Prod.fst (Prod.snd (Prod.snd (Prod.fst x))))
          (Prod.fst (Prod.snd (Prod.snd (Prod.snd (Prod.fst x)))))
          (Prod.fst (Prod.snd (Prod.snd (Prod.snd (Prod.snd (Prod.fst x))))))
          (Prod.fst (Prod.snd (Prod.snd (Prod.snd (Prod.snd (Prod.snd (Prod.fst x)))))))
          (Prod.fst (Prod.snd (Prod.snd (Prod.snd (Prod.snd (Prod.snd (Prod.snd (Prod.fst x))))))))
          (Prod.fst (Prod.snd (Prod.snd (Prod.snd (Prod.snd (Prod.snd (Prod.snd (Prod.snd (Prod.fst x)))))))))
          (Prod.fst
            (Prod.snd (Prod.snd (Prod.snd (Prod.snd (Prod.snd (Prod.snd (Prod.snd (Prod.snd (Prod.fst x))))))))))
          (Prod.fst
            (Prod.snd
              (Prod.snd (Prod.snd (Prod.snd (Prod.snd (Prod.snd (Prod.snd (Prod.snd (Prod.snd (Prod.fst x)))))))))))
          (Prod.fst (Prod.snd (Prod.snd x))) (Prod.fst (Prod.snd (Prod.snd (Prod.snd x))))
          (Prod.fst (Prod.snd (Prod.snd (Prod.snd (Prod.snd x)))))
          (Prod.fst (Prod.snd (Prod.snd (Prod.snd (Prod.snd (Prod.snd x))))))
          (Prod.fst (Prod.snd (Prod.snd (Prod.snd (Prod.snd (Prod.snd (Prod.snd x)))))))
          (Prod.fst (Prod.snd (Prod.snd (Prod.snd (Prod.snd (Prod.snd (Prod.snd (Prod.snd x))))))))
          (Prod.fst (Prod.snd (Prod.snd (Prod.snd (Prod.snd (Prod.snd (Prod.snd (Prod.snd (Prod.snd x)))))))))
          (Prod.fst
            (Prod.snd (Prod.snd (Prod.snd (Prod.snd (Prod.snd (Prod.snd (Prod.snd (Prod.snd (Prod.snd x))))))))))
          (Prod.fst
            (Prod.snd
              (Prod.snd (Prod.snd (Prod.snd (Prod.snd (Prod.snd (Prod.snd (Prod.snd (Prod.snd (Prod.snd x)))))))))))))
    (F12_J14 n)
theorem ok12 (n : Nat) : FunOK Try.prog ⟨12, sig12, F12 n⟩ :=
  fun_ok (hints := ⟨[(14, ⟨[(2, .one (.own 2)), (3, .one (.own 3)), (5, .one (.own 4)), (6, .one (.own 5)), (16, .one (.bool))], [(2, .cells [.bool, .int .u8, .int .u64, .int .u64, .str, .ro (.cons .str (.cons .str .nil)), .int .u8, .int .u8, .int .i64, .int .u8, .int .u8, .int .u64, .int .u64]), (3, .cells [.bool, .int .u8, .int .u64, .int .u64, .str, .ro (.cons .str (.cons .str .nil)), .int .u8, .int .u8, .int .i64, .int .u8, .int .u8, .int .u64, .int .u64]), (4, .cells [.int .u8, .int .u64, .int .u64, .str, .ro (.cons .str (.cons .str .nil)), .int .u8, .int .u8, .int .i64, .int .u8]), (5, .cells [.int .u8, .int .u64, .int .u64, .str, .ro (.cons .str (.cons .str .nil)), .int .u8, .int .u8, .int .i64, .int .u8])], 6⟩)], []⟩) (fuel := n) (c := Try.f12.body.getD .skip) (rs := Try.f12.results.toList) tt_ok mix (FsOK.cons (ok35 n) (FsOK.nil)) Try.func12 (by kernel_rfl) (by kernel_rfl) rfl (by kernel_rfl) rfl rfl (by kernel_rfl)
-- watchfire/watchfirelaw04.ItemOwn
def sig3 : Sig := ⟨(.cons (.agg (.cons .bool (.cons (.int .u8) (.cons (.int .u8) (.cons (.int .u8) (.cons (.int .u16) (.cons (.int .u16) (.cons (.int .u16) (.cons (.int .u8) (.cons (.int .u8) (.cons (.int .u8) (.cons .bool .nil)))))))))))) (.cons (.agg (.cons .bool (.cons (.int .u8) (.cons (.int .u8) (.cons (.int .u8) (.cons (.int .u16) (.cons (.int .u16) (.cons (.int .u16) (.cons (.int .u8) (.cons (.int .u8) (.cons (.int .u8) (.cons .bool .nil)))))))))))) (.cons (.one (.c (.int .u8))) .nil))), (.cons (.one (.c .bool)) .nil)⟩
def F3_L253 : Nat →
  Arr
      [PT.bytes, PT.int IntKind.i64, PT.int IntKind.i64, PT.bool, PT.int IntKind.u8, PT.int IntKind.u64,
        PT.int IntKind.u64, PT.bytes, PT.list (CTs.cons CT.str (CTs.cons CT.str CTs.nil)), PT.int IntKind.u8,
        PT.int IntKind.u8, PT.int IntKind.i64, PT.int IntKind.u8, PT.int IntKind.u8, PT.int IntKind.u64,
        PT.int IntKind.u64, PT.bool, PT.int IntKind.u8, PT.int IntKind.u64, PT.int IntKind.u64, PT.bytes,
        PT.list (CTs.cons CT.str (CTs.cons CT.str CTs.nil)), PT.int IntKind.u8, PT.int IntKind.u8, PT.int IntKind.i64,
        PT.int IntKind.u8, PT.int IntKind.u8, PT.int IntKind.u64, PT.int IntKind.u64, PT.bool, PT.int IntKind.u8,
        PT.int IntKind.u64, PT.int IntKind.u64, PT.bytes, PT.int IntKind.u8, PT.int IntKind.u8, PT.int IntKind.i64,
        PT.int IntKind.u8, PT.int IntKind.u8, PT.int IntKind.u64, PT.int IntKind.u64,
        PT.list (CTs.cons CT.str (CTs.cons CT.str CTs.nil))]
      (Option (Bool × Unit)) →
    List UInt8 →
      Int64 →
        Int64 →
          Bool →
            UInt8 →
              UInt64 →
                UInt64 →
                  List UInt8 →
                    List (List UInt8 × List UInt8) →
                      UInt8 →
                        UInt8 →
                          Int64 →
                            UInt8 →
                              UInt8 →
                                UInt64 →
                                  UInt64 →
                                    Bool →
                                      UInt8 →
                                        UInt64 →
                                          UInt64 →
                                            List UInt8 →
                                              List (List UInt8 × List UInt8) →
                                                UInt8 →
                                                  UInt8 →
                                                    Int64 →
                                                      UInt8 →
                                                        UInt8 →
                                                          UInt64 →
                                                            UInt64 →
                                                              Bool →
                                                                UInt8 →
                                                                  UInt64 →
                                                                    UInt64 →
                                                                      List UInt8 →
                                                                        UInt8 →
                                                                          UInt8 →
                                                                            Int64 →
                                                                              UInt8 →
                                                                                UInt8 →
                                                                                  UInt64 →
                                                                                    UInt64 →
                                                                                      List (List UInt8 × List UInt8) →
                                                                                        Option (Bool × Unit) := fun (n : Nat)
    (rec :
      Arr
        [PT.bytes, PT.int IntKind.i64, PT.int IntKind.i64, PT.bool, PT.int IntKind.u8, PT.int IntKind.u64,
          PT.int IntKind.u64, PT.bytes, PT.list (CTs.cons CT.str (CTs.cons CT.str CTs.nil)), PT.int IntKind.u8,
          PT.int IntKind.u8, PT.int IntKind.i64, PT.int IntKind.u8, PT.int IntKind.u8, PT.int IntKind.u64,
          PT.int IntKind.u64, PT.bool, PT.int IntKind.u8, PT.int IntKind.u64, PT.int IntKind.u64, PT.bytes,
          PT.list (CTs.cons CT.str (CTs.cons CT.str CTs.nil)), PT.int IntKind.u8, PT.int IntKind.u8, PT.int IntKind.i64,
          PT.int IntKind.u8, PT.int IntKind.u8, PT.int IntKind.u64, PT.int IntKind.u64, PT.bool, PT.int IntKind.u8,
          PT.int IntKind.u64, PT.int IntKind.u64, PT.bytes, PT.int IntKind.u8, PT.int IntKind.u8, PT.int IntKind.i64,
          PT.int IntKind.u8, PT.int IntKind.u8, PT.int IntKind.u64, PT.int IntKind.u64,
          PT.list (CTs.cons CT.str (CTs.cons CT.str CTs.nil))]
        (Option (Bool × Unit)))
    (was : List UInt8) (t t_1 : Int64) (x0 : Bool) (x1 : UInt8) (x2 x3 : UInt64) (x4 : List UInt8)
    (x5 : List (List UInt8 × List UInt8)) (x6 x7 : UInt8) (x8 : Int64) (x9 x10 : UInt8) (x11 x12 : UInt64) (y0 : Bool)
    (y1 : UInt8) (y2 y3 : UInt64) (y4 : List UInt8) (y5 : List (List UInt8 × List UInt8)) (y6 y7 : UInt8) (y8 : Int64)
    (y9 y10 : UInt8) (y11 y12 : UInt64) (z0 : Bool) (z1 : UInt8) (z2 z3 : UInt64) (z4 : List UInt8) (z6 z7 : UInt8)
    (z8 : Int64) (z9 z10 : UInt8) (z11 z12 : UInt64) (zl : List (List UInt8 × List UInt8)) =>
  oite (decide (t_1 < t))
    (oite (decide ((0 : Int) ≤ Int64.toInt t_1) && Nat.blt (Int.toNat (Int64.toInt t_1)) (List.length zl))
      (obind zl[Int.toNat (Int64.toInt t_1)]? fun (x_6 : List UInt8 × List UInt8) =>
        rec was t (t_1 + (1 : Int64)) x0 x1 x2 x3 x4 x5 x6 x7 x8 x9 x10 x11 x12 y0 y1 y2 y3 y4 y5 y6 y7 y8 y9 y10 y11
          y12 z0 z1 z2 z3 z4 z6 z7 z8 z9 z10 z11 z12
          (List.set zl (Int.toNat (Int64.toInt t_1)) (Prod.fst x_6, [(113 : UInt8)])))
      none)
    (obind (F11 n x5) fun (x_6 : List UInt8 × Unit) =>
      oite (!Prod.fst x_6 == was) (some (false, ()))
        (obind
          (F12 n
            ((x0, x1, x2, x3, x4, x5, x6, x7, x8, x9, x10, x11, x12), x0, x1, x2, x3, x4, x5, x6, x7, x8, x9, x10, x11,
              x12))
          fun (x_7 : Bool × Unit) =>
          oite (!Prod.fst x_7) (some (false, ()))
            (obind (F10 n (x0, x1, x2, x3, x4, x5, x6, x7, x8, x9, x10, x11, x12))
              fun
                (x_8 :
                  (Bool ×
                      UInt8 ×
                        UInt64 ×
                          UInt64 ×
                            List UInt8 ×
                              List (List UInt8 × List UInt8) ×
                                UInt8 × UInt8 × Int64 × UInt8 × UInt8 × UInt64 × UInt64) ×
                    Unit) =>
              obind
                (F12 n
                  ((x0, x1, x2, x3, x4, x5, x6, x7, x8, x9, x10, x11, x12), Prod.fst (Prod.fst x_8),
                    Prod.fst (Prod.snd (Prod.fst x_8)), Prod.fst (Prod.snd (Prod.snd (Prod.fst x_8))),
                    Prod.fst (Prod.snd (Prod.snd (Prod.snd (Prod.fst x_8)))),
                    Prod.fst (Prod.snd (Prod.snd (Prod.snd (Prod.snd (Prod.fst x_8))))),
                    Prod.fst (Prod.snd (Prod.snd (Prod.snd (Prod.snd (Prod.snd (Prod.fst x_8)))))),
                    Prod.fst (Prod.snd (Prod.snd (Prod.snd (Prod.snd (Prod.snd (Prod.snd (Prod.fst x_8))))))),
                    Prod.fst
                      (Prod.snd (Prod.snd (Prod.snd (Prod.snd (Prod.snd (Prod.snd (Prod.snd (Prod.fst x_8)))))))),
                    Prod.fst
                      (Prod.snd
                        (Prod.snd (Prod.snd (Prod.snd (Prod.snd (Prod.snd (Prod.snd (Prod.snd (Prod.fst x_8))))))))),
                    Prod.fst
                      (Prod.snd
                        (Prod.snd
                          (Prod.snd (Prod.snd (Prod.snd (Prod.snd (Prod.snd (Prod.snd (Prod.snd (Prod.fst x_8)))))))))),
                    Prod.fst
                      (Prod.snd
                        (Prod.snd
                          (Prod.snd
                            (Prod.snd
                              (Prod.snd (Prod.snd (Prod.snd (Prod.snd (Prod.snd (Prod.snd (Prod.fst x_8))))))))))),
                    Prod.fst
                      (Prod.snd
                        (Prod.snd
                          (Prod.snd
                            (Prod.snd
                              (Prod.snd
                                (Prod.snd (Prod.snd (Prod.snd (Prod.snd (Prod.snd (Prod.snd (Prod.fst x_8)))))))))))),
                    Prod.snd
                      (Prod.snd
                        (Prod.snd
                          (Prod.snd
                            (Prod.snd
                              (Prod.snd
                                (Prod.snd (Prod.snd (Prod.snd (Prod.snd (Prod.snd (Prod.snd (Prod.fst x_8))))))))))))))
                fun (x_9 : Bool × Unit) =>
                oite (!Prod.fst x_9) (some (false, ()))
                  (obind
                    (F12 n
                      ((x0, x1, x2, x3, x4, x5, x6, x7, x8, x9, x10, x11, x12), y0, y1, y2, y3, y4, y5, y6, y7, y8, y9,
                        y10, y11, y12))
                    fun (x_10 : Bool × Unit) =>
                    obind (F13 n (x0, x1, x2, x3, x4, x5, x6, x7, x8, x9, x10, x11, x12))
                      fun (x_11 : List UInt8 × Unit) =>
                      obind (F13 n (y0, y1, y2, y3, y4, y5, y6, y7, y8, y9, y10, y11, y12))
                        fun (x_12 : List UInt8 × Unit) =>
                        some (Prod.fst x_10 == (Prod.fst x_11 == Prod.fst x_12), ())))))
def F3_R253 : Nat →
  Nat →
    PT.T PT.bytes →
      Int64 →
        Int64 →
          Bool →
            UInt8 →
              UInt64 →
                UInt64 →
                  List UInt8 →
                    List (List UInt8 × List UInt8) →
                      UInt8 →
                        UInt8 →
                          Int64 →
                            UInt8 →
                              UInt8 →
                                UInt64 →
                                  UInt64 →
                                    Bool →
                                      UInt8 →
                                        UInt64 →
                                          UInt64 →
                                            List UInt8 →
                                              List (List UInt8 × List UInt8) →
                                                UInt8 →
                                                  UInt8 →
                                                    Int64 →
                                                      UInt8 →
                                                        UInt8 →
                                                          UInt64 →
                                                            UInt64 →
                                                              Bool →
                                                                UInt8 →
                                                                  UInt64 →
                                                                    UInt64 →
                                                                      List UInt8 →
                                                                        UInt8 →
                                                                          UInt8 →
                                                                            Int64 →
                                                                              UInt8 →
                                                                                UInt8 →
                                                                                  UInt64 →
                                                                                    UInt64 →
                                                                                      List (List UInt8 × List UInt8) →
                                                                                        Option (Bool × Unit) := fun (n : Nat) =>
  ofixA (253 : Nat)
    [PT.bytes, PT.int IntKind.i64, PT.int IntKind.i64, PT.bool, PT.int IntKind.u8, PT.int IntKind.u64,
      PT.int IntKind.u64, PT.bytes, PT.list (CTs.cons CT.str (CTs.cons CT.str CTs.nil)), PT.int IntKind.u8,
      PT.int IntKind.u8, PT.int IntKind.i64, PT.int IntKind.u8, PT.int IntKind.u8, PT.int IntKind.u64,
      PT.int IntKind.u64, PT.bool, PT.int IntKind.u8, PT.int IntKind.u64, PT.int IntKind.u64, PT.bytes,
      PT.list (CTs.cons CT.str (CTs.cons CT.str CTs.nil)), PT.int IntKind.u8, PT.int IntKind.u8, PT.int IntKind.i64,
      PT.int IntKind.u8, PT.int IntKind.u8, PT.int IntKind.u64, PT.int IntKind.u64, PT.bool, PT.int IntKind.u8,
      PT.int IntKind.u64, PT.int IntKind.u64, PT.bytes, PT.int IntKind.u8, PT.int IntKind.u8, PT.int IntKind.i64,
      PT.int IntKind.u8, PT.int IntKind.u8, PT.int IntKind.u64, PT.int IntKind.u64,
      PT.list (CTs.cons CT.str (CTs.cons CT.str CTs.nil))]
    (F3_L253 n)
def F3 : Nat →
  (Bool × UInt8 × UInt8 × UInt8 × UInt16 × UInt16 × UInt16 × UInt8 × UInt8 × UInt8 × Bool) ×
      (Bool × UInt8 × UInt8 × UInt8 × UInt16 × UInt16 × UInt16 × UInt8 × UInt8 × UInt8 × Bool) × UInt8 →
    Option (Bool × Unit) := fun (n : Nat)
    (x :
      (Bool × UInt8 × UInt8 × UInt8 × UInt16 × UInt16 × UInt16 × UInt8 × UInt8 × UInt8 × Bool) ×
        (Bool × UInt8 × UInt8 × UInt8 × UInt16 × UInt16 × UInt16 × UInt8 × UInt8 × UInt8 × Bool) × UInt8) =>
  obind (F8 n ()) fun (x_1 : Bool × Unit) =>
    oite (!Prod.fst x_1) (some (false, ()))
      (obind
        (F9 n
          (Prod.fst (Prod.fst x), Prod.fst (Prod.snd (Prod.fst x)), Prod.fst (Prod.snd (Prod.snd (Prod.fst x))),
            Prod.fst (Prod.snd (Prod.snd (Prod.snd (Prod.fst x)))),
            Prod.fst (Prod.snd (Prod.snd (Prod.snd (Prod.snd (Prod.fst x))))),
            Prod.fst (Prod.snd (Prod.snd (Prod.snd (Prod.snd (Prod.snd (Prod.fst x)))))),
            Prod.fst (Prod.snd (Prod.snd (Prod.snd (Prod.snd (Prod.snd (Prod.snd (Prod.fst x))))))),
            Prod.fst (Prod.snd (Prod.snd (Prod.snd (Prod.snd (Prod.snd (Prod.snd (Prod.snd (Prod.fst x)))))))),
            Prod.fst
              (Prod.snd (Prod.snd (Prod.snd (Prod.snd (Prod.snd (Prod.snd (Prod.snd (Prod.snd (Prod.fst x))))))))),
            Prod.fst
              (Prod.snd
                (Prod.snd (Prod.snd (Prod.snd (Prod.snd (Prod.snd (Prod.snd (Prod.snd (Prod.snd (Prod.fst x)))))))))),
            Prod.snd
              (Prod.snd
                (Prod.snd (Prod.snd (Prod.snd (Prod.snd (Prod.snd (Prod.snd (Prod.snd (Prod.snd (Prod.fst x))))))))))))
        fun
          (x_2 :
            (Bool ×
                UInt8 ×
                  UInt64 ×
                    UInt64 ×
                      List UInt8 ×
                        List (List UInt8 × List UInt8) × UInt8 × UInt8 × Int64 × UInt8 × UInt8 × UInt64 × UInt64) ×
              Unit) =>
        obind
          (F9 n
            (Prod.fst (Prod.fst (Prod.snd x)), Prod.fst (Prod.snd (Prod.fst (Prod.snd x))),
              Prod.fst (Prod.snd (Prod.snd (Prod.fst (Prod.snd x)))),
              Prod.fst (Prod.snd (Prod.snd (Prod.snd (Prod.fst (Prod.snd x))))),
              Prod.fst (Prod.snd (Prod.snd (Prod.snd (Prod.snd (Prod.fst (Prod.snd x)))))),
              Prod.fst (Prod.snd (Prod.snd (Prod.snd (Prod.snd (Prod.snd (Prod.fst (Prod.snd x))))))),
              Prod.fst (Prod.snd (Prod.snd (Prod.snd (Prod.snd (Prod.snd (Prod.snd (Prod.fst (Prod.snd x)))))))),
              Prod.fst
                (Prod.snd (Prod.snd (Prod.snd (Prod.snd (Prod.snd (Prod.snd (Prod.snd (Prod.fst (Prod.snd x))))))))),
              Prod.fst
                (Prod.snd
                  (Prod.snd (Prod.snd (Prod.snd (Prod.snd (Prod.snd (Prod.snd (Prod.snd (Prod.fst (Prod.snd x)))))))))),
              Prod.fst
                (Prod.snd
                  (Prod.snd
                    (Prod.snd
                      (Prod.snd (Prod.snd (Prod.snd (Prod.snd (Prod.snd (Prod.snd (Prod.fst (Prod.snd x))))))))))),
              Prod.snd
                (Prod.snd
                  (Prod.snd
                    (Prod.snd
                      (Prod.snd (Prod.snd (Prod.snd (Prod.snd (Prod.snd (Prod.snd (Prod.fst (Prod.snd x)))))))))))))
          fun
            (x_3 :
              (Bool ×
                  UInt8 ×
                    UInt64 ×
                      UInt64 ×
                        List UInt8 ×
                          List (List UInt8 × List UInt8) × UInt8 × UInt8 × Int64 × UInt8 × UInt8 × UInt64 × UInt64) ×
                Unit) =>
          obind
            (F10 n
              (Prod.fst (Prod.fst x_2), Prod.fst (Prod.snd (Prod.fst x_2)),
                Prod.fst (Prod.snd (Prod.snd (Prod.fst x_2))), Prod.fst (Prod.snd (Prod.snd (Prod.snd (Prod.fst x_2)))),
                Prod.fst (Prod.snd (Prod.snd (Prod.snd (Prod.snd (Prod.fst x_2))))),
                Prod.fst (Prod.snd (Prod.snd (Prod.snd (Prod.snd (Prod.snd (Prod.fst x_2)))))),
                Prod.fst (Prod.snd (Prod.snd (Prod.snd (Prod.snd (Prod.snd (Prod.snd (Prod.fst x_2))))))),
                Prod.fst (Prod.snd (Prod.snd (Prod.snd (Prod.snd (Prod.snd (Prod.snd (Prod.snd (Prod.fst x_2)))))))),
                Prod.fst
                  (Prod.snd
                    (Prod.snd (Prod.snd (Prod.snd (Prod.snd (Prod.snd (Prod.snd (Prod.snd (Prod.fst x_2))))))))),
                Prod.fst
                  (Prod.snd
                    (Prod.snd
                      (Prod.snd (Prod.snd (Prod.snd (Prod.snd (Prod.snd (Prod.snd (Prod.snd (Prod.fst x_2)))))))))),
                Prod.fst
                  (Prod.snd
                    (Prod.snd
                      (Prod.snd
                        (Prod.snd (Prod.snd (Prod.snd (Prod.snd (Prod.snd (Prod.snd (Prod.snd (Prod.fst x_2))))))))))),
                Prod.fst
                  (Prod.snd
                    (Prod.snd
                      (Prod.snd
                        (Prod.snd
                          (Prod.snd
                            (Prod.snd (Prod.snd (Prod.snd (Prod.snd (Prod.snd (Prod.snd (Prod.fst x_2)))))))))))),
                Prod.snd
                  (Prod.snd
                    (Prod.snd
                      (Prod.snd
                        (Prod.snd
                          (Prod.snd
                            (Prod.snd (Prod.snd (Prod.snd (Prod.snd (Prod.snd (Prod.snd (Prod.fst x_2))))))))))))))
            fun
              (x_4 :
                (Bool ×
                    UInt8 ×
                      UInt64 ×
                        UInt64 ×
                          List UInt8 ×
                            List (List UInt8 × List UInt8) × UInt8 × UInt8 × Int64 × UInt8 × UInt8 × UInt64 × UInt64) ×
                  Unit) =>
            obind (F11 n (Prod.fst (Prod.snd (Prod.snd (Prod.snd (Prod.snd (Prod.snd (Prod.fst x_2))))))))
              fun (x_5 : List UInt8 × Unit) =>
              F3_R253 n n (Prod.fst x_5)
                (Int64.ofInt
                  ↑(List.length (Prod.fst (Prod.snd (Prod.snd (Prod.snd (Prod.snd (Prod.snd (Prod.fst x_4)))))))))
                (0 : Int64) (Prod.fst (Prod.fst x_2)) (Prod.fst (Prod.snd (Prod.fst x_2)))
                (Prod.fst (Prod.snd (Prod.snd (Prod.fst x_2))))
                (Prod.fst (Prod.snd (Prod.snd (Prod.snd (Prod.fst x_2)))))
                (Prod.fst (Prod.snd (Prod.snd (Prod.snd (Prod.snd (Prod.fst x_2))))))
                (Prod.fst (Prod.snd (Prod.snd (Prod.snd (Prod.snd (Prod.snd (Prod.fst x_2)))))))
                (Prod.fst (Prod.snd (Prod.snd (Prod.snd (Prod.snd (Prod.snd (Prod.snd (Prod.fst x_2))))))))
                (Prod.fst (Prod.snd (Prod.snd (Prod.snd (Prod.snd (Prod.snd (Prod.snd (Prod.snd (Prod.fst x_2)))))))))
                (Prod.fst
                  (Prod.snd
                    (Prod.snd (Prod.snd (Prod.snd (Prod.snd (Prod.snd (Prod.snd (Prod.snd (Prod.fst x_2))))))))))
                (Prod.fst
                  (Prod.snd
                    (Prod.snd
                      (Prod.snd (Prod.snd (Prod.snd (Prod.snd (Prod.snd (Prod.snd (Prod.snd (Prod.fst x_2)))))))))))
                (Prod.fst
                  (Prod.snd
                    (Prod.snd
                      (Prod.snd
                        (Prod.snd (Prod.snd (Prod.snd (Prod.snd (Prod.snd (Prod.snd (Prod.snd (Prod.fst x_2))))))))))))
                (Prod.fst
                  (Prod.snd
                    (Prod.snd
                      (Prod.snd
                        (Prod.snd
                          (Prod.snd
                            (Prod.snd (Prod.snd (Prod.snd (Prod.snd (Prod.snd (Prod.snd (Prod.fst x_2)))))))))))))
                (Prod.snd
                  (Prod.snd
                    (Prod.snd
                      (Prod.snd
                        (Prod.snd
                          (Prod.snd
                            (Prod.snd (Prod.snd (Prod.snd (Prod.snd (Prod.snd (Prod.snd (Prod.fst x_2)))))))))))))
                (Prod.fst (Prod.fst x_3)) (Prod.fst (Prod.snd (Prod.fst x_3)))
                (Prod.fst (Prod.snd (Prod.snd (Prod.fst x_3))))
                (Prod.fst (Prod.snd (Prod.snd (Prod.snd (Prod.fst x_3)))))
                (Prod.fst (Prod.snd (Prod.snd (Prod.snd (Prod.snd (Prod.fst x_3))))))
                (Prod.fst (Prod.snd (Prod.snd (Prod.snd (Prod.snd (Prod.snd (Prod.fst x_3)))))))
                (Prod.fst (Prod.snd (Prod.snd (Prod.snd (Prod.snd (Prod.snd (Prod.snd (Prod.fst x_3))))))))
                (Prod.fst (Prod.snd (Prod.snd (Prod.snd (Prod.snd (Prod.snd (Prod.snd (Prod.snd (Prod.fst x_3)))))))))
                (Prod.fst
                  (Prod.snd
                    (Prod.snd (Prod.snd (Prod.snd (Prod.snd (Prod.snd (Prod.snd (Prod.snd (Prod.fst x_3))))))))))
                (Prod.fst
                  (Prod.snd
                    (Prod.snd
                      (Prod.snd (Prod.snd (Prod.snd (Prod.snd (Prod.snd (Prod.snd (Prod.snd (Prod.fst x_3)))))))))))
                (Prod.fst
                  (Prod.snd
                    (Prod.snd
                      (Prod.snd
                        (Prod.snd (Prod.snd (Prod.snd (Prod.snd (Prod.snd (Prod.snd (Prod.snd (Prod.fst x_3))))))))))))
                (Prod.fst
                  (Prod.snd
                    (Prod.snd
                      (Prod.snd
                        (Prod.snd
                          (Prod.snd
                            (Prod.snd (Prod.snd (Prod.snd (Prod.snd (Prod.snd (Prod.snd (Prod.fst x_3)))))))))))))
                (Prod.snd
                  (Prod.snd
                    (Prod.snd
                      (Prod.snd
                        (Prod.snd
                          (Prod.snd
                            (Prod.snd (Prod.snd (Prod.snd (Prod.snd (Prod.snd (Prod.snd (Prod.fst x_3)))))))))))))
                (Prod.fst (Prod.fst x_4)) (Prod.fst (Prod.snd (Prod.fst x_4)))
                (Prod.fst (Prod.snd (Prod.snd (Prod.fst x_4))))
                (Prod.fst (Prod.snd (Prod.snd (Prod.snd (Prod.fst x_4)))))
                (Prod.fst (Prod.snd (Prod.snd (Prod.snd (Prod.snd (Prod.fst x_4))))))
                (Prod.fst (Prod.snd (Prod.snd (Prod.snd (Prod.snd (Prod.snd (Prod.snd (Prod.fst x_4))))))))
                (Prod.fst (Prod.snd (Prod.snd (Prod.snd (Prod.snd (Prod.snd (Prod.snd (Prod.snd (Prod.fst x_4)))))))))
                (Prod.fst
                  (Prod.snd
                    (Prod.snd (Prod.snd (Prod.snd (Prod.snd (Prod.snd (Prod.snd (Prod.snd (Prod.fst x_4))))))))))
                (Prod.fst
                  (Prod.snd
                    (Prod.snd
                      (Prod.snd (Prod.snd (Prod.snd (Prod.snd (Prod.snd (Prod.snd (Prod.snd (Prod.fst x_4)))))))))))
                (Prod.fst
                  (Prod.snd
                    (Prod.snd
                      (Prod.snd
                        (Prod.snd (Prod.snd (Prod.snd (Prod.snd (Prod.snd (Prod.snd (Prod.snd (Prod.fst x_4))))))))))))
                (Prod.fst
                  (Prod.snd
                    (Prod.snd
                      (Prod.snd
                        (Prod.snd
                          (Prod.snd
                            (Prod.snd (Prod.snd (Prod.snd (Prod.snd (Prod.snd (Prod.snd (Prod.fst x_4)))))))))))))
                (Prod.snd
                  (Prod.snd
                    (Prod.snd
                      (Prod.snd
                        (Prod.snd
                          (Prod.snd
                            (Prod.snd (Prod.snd (Prod.snd (Prod.snd (Prod.snd (Prod.snd (Prod.fst x_4)))))))))))))
                (Prod.fst (Prod.snd (Prod.snd (Prod.snd (Prod.snd (Prod.snd (Prod.fst x_4))))))))
theorem F3_R253_s (n : Nat) (m_ : Nat) : F3_R253 n (m_ + 1) = F3_L253 n (F3_R253 n m_) := rfl
theorem ok3 (n : Nat) : FunOK Try.prog ⟨3, sig3, F3 n⟩ :=
  fun_ok (hints := ⟨[], [(253, ⟨[(7, .one (.own 3)), (8, .one (.own 4)), (9, .one (.own 5)), (10, .one (.str)), (27, .one (.int .i64)), (28, .one (.int .i64))], [(3, .cells [.bool, .int .u8, .int .u64, .int .u64, .str, .ro (.cons .str (.cons .str .nil)), .int .u8, .int .u8, .int .i64, .int .u8, .int .u8, .int .u64, .int .u64]), (4, .cells [.bool, .int .u8, .int .u64, .int .u64, .str, .ro (.cons .str (.cons .str .nil)), .int .u8, .int .u8, .int .i64, .int .u8, .int .u8, .int .u64, .int .u64]), (5, .cells [.bool, .int .u8, .int .u64, .int .u64, .str, .own 6, .int .u8, .int .u8, .int .i64, .int .u8, .int .u8, .int .u64, .int .u64]), (6, .row (.cons .str (.cons .str .nil)))], 7⟩)]⟩) (fuel := n) (c := Try.f3.body.getD .skip) (rs := Try.f3.results.toList) tt_ok mix (FsOK.cons (ok8 n) (FsOK.cons (ok9 n) (FsOK.cons (ok10 n) (FsOK.cons (ok11 n) (FsOK.cons (ok12 n) (FsOK.cons (ok13 n) (FsOK.nil))))))) Try.func3 (by kernel_rfl) (by kernel_rfl) rfl (by kernel_rfl) rfl rfl (by kernel_rfl)
end Go.Proofs.Ytehelahnlnfofaa
