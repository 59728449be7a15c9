/- What the functions of this seat compute, found by walking their code symbolically: each F is what the walk finds, each ok says that the Go function keeps it as a contract. Printed by a program of this repo's. -/
import Derived.Test.YtlkjacdnnbmmmaaProg
import Derived.KernelRfl
import Derived.Test.YtlkjacdnnbmmmaaSxFun
open Go Go.Sx
namespace Go.Proofs.Ytlkjacdnnbmmmaa
set_option maxRecDepth 100000
set_option linter.unusedVariables false
def tt : TT := [(2, ⟨.int .i64, 1, 8, some (.int .i64 0), false⟩), (3, ⟨.int .i64, 1, 8, some (.int .i64 0), false⟩), (4, ⟨.bool, 1, 1, some (.bool false), false⟩), (5, ⟨.int .u8, 1, 1, some (.int .u8 0), false⟩), (9, ⟨.str, 1, 16, some (.string ⟨#[]⟩), false⟩), (21, ⟨.int .i32, 1, 4, some (.int .i32 0), false⟩), (23, ⟨.slice 75, 1, 24, some (.slice none 0 0), false⟩), (24, ⟨.slice 9, 1, 24, some (.slice none 0 0), false⟩), (26, ⟨.struct [(0, 23, false), (1, 23, false), (2, 24, false)], 3, 72, some (.agg #[.slice none 0 0, .slice none 0 0, .slice none 0 0]), false⟩), (27, ⟨.slice 61, 1, 24, some (.slice none 0 0), false⟩), (28, ⟨.int .u8, 1, 1, some (.int .u8 0), false⟩), (29, ⟨.int .u64, 1, 8, some (.int .u64 0), false⟩), (31, ⟨.struct [(0, 5, false), (1, 9, false), (2, 27, false), (3, 28, false), (4, 29, false), (5, 5, false), (6, 2, false)], 7, 80, some (.agg #[.int .u8 0, .string ⟨#[]⟩, .slice none 0 0, .int .u8 0, .int .u64 0, .int .u8 0, .int .i64 0]), false⟩), (32, ⟨.slice 36, 1, 24, some (.slice none 0 0), false⟩), (34, ⟨.slice 31, 1, 24, some (.slice none 0 0), false⟩), (36, ⟨.struct [(0, 5, false), (1, 5, false), (2, 5, false), (3, 5, false), (4, 5, false), (5, 5, false)], 6, 6, some (.agg #[.int .u8 0, .int .u8 0, .int .u8 0, .int .u8 0, .int .u8 0, .int .u8 0]), false⟩), (41, ⟨.slice 26, 1, 24, some (.slice none 0 0), false⟩), (43, ⟨.slice 46, 1, 24, some (.slice none 0 0), false⟩), (44, ⟨.slice 57, 1, 24, some (.slice none 0 0), false⟩), (46, ⟨.struct [(0, 44, false), (1, 44, false), (2, 5, false)], 3, 56, some (.agg #[.slice none 0 0, .slice none 0 0, .int .u8 0]), false⟩), (48, ⟨.int .i64, 1, 8, some (.int .i64 0), false⟩), (50, ⟨.slice 84, 1, 24, some (.slice none 0 0), false⟩), (52, ⟨.struct [(0, 50, false), (1, 50, false), (2, 24, false)], 3, 72, some (.agg #[.slice none 0 0, .slice none 0 0, .slice none 0 0]), false⟩), (57, ⟨.struct [(0, 5, false), (1, 5, false), (2, 5, false)], 3, 3, some (.agg #[.int .u8 0, .int .u8 0, .int .u8 0]), false⟩), (61, ⟨.struct [(0, 9, false), (1, 9, false)], 2, 32, some (.agg #[.string ⟨#[]⟩, .string ⟨#[]⟩]), false⟩), (62, ⟨.slice 28, 1, 24, some (.slice none 0 0), false⟩), (63, ⟨.slice 5, 1, 24, some (.slice none 0 0), false⟩), (67, ⟨.slice 23, 1, 24, some (.slice none 0 0), false⟩), (73, ⟨.int .u8, 1, 1, some (.int .u8 0), false⟩), (75, ⟨.struct [(0, 9, false), (1, 73, false), (2, 9, false)], 3, 40, some (.agg #[.string ⟨#[]⟩, .int .u8 0, .string ⟨#[]⟩]), false⟩), (84, ⟨.struct [(0, 9, false), (1, 3, false), (2, 9, false)], 3, 40, some (.agg #[.string ⟨#[]⟩, .int .i64 0, .string ⟨#[]⟩]), false⟩)]
theorem tt_ok : TTOK Try.prog tt := TTOK.of_rows (by kernel_rfl)
theorem mix : Try.prog.follows .mixedOrders = true := by kernel_rfl
-- (watchfire/watchfirelaw17.Small).Ask
def sig27 : Sig := ⟨(.cons (.agg (.cons (.int .u8) (.cons (.int .u8) (.cons (.int .u8) .nil)))) .nil), (.cons (.agg (.cons .str (.cons (.int .u8) (.cons .str .nil)))) .nil)⟩
def F27 : Nat → UInt8 × UInt8 × UInt8 → Option ((List UInt8 × UInt8 × List UInt8) × Unit) := fun (n : Nat) (x : UInt8 × UInt8 × UInt8) =>
  oite
    (decide ((0 : Int) ≤ ↑(UInt8.toNat (Prod.fst x % (5 : UInt8)))) &&
      Nat.blt (Int.toNat ↑(UInt8.toNat (Prod.fst x % (5 : UInt8))))
        (List.length
          [[(97 : UInt8)], [(98 : UInt8)], [(114 : UInt8), (117 : UInt8), (108 : UInt8), (101 : UInt8)],
            [(111 : UInt8), (114 : UInt8), (105 : UInt8), (103 : UInt8), (105 : UInt8), (110 : UInt8)],
            [(110 : UInt8), (111 : UInt8), (100 : UInt8), (101 : UInt8)]]))
    (obind
      [[(97 : UInt8)], [(98 : UInt8)], [(114 : UInt8), (117 : UInt8), (108 : UInt8), (101 : UInt8)],
          [(111 : UInt8), (114 : UInt8), (105 : UInt8), (103 : UInt8), (105 : UInt8), (110 : UInt8)],
          [(110 : UInt8), (111 : UInt8), (100 : UInt8),
            (101 : UInt8)]][Int.toNat ↑(UInt8.toNat (Prod.fst x % (5 : UInt8)))]?
      fun (x_1 : List UInt8) =>
      oite
        (decide ((0 : Int) ≤ ↑(UInt8.toNat (Prod.snd (Prod.snd x) % (5 : UInt8)))) &&
          Nat.blt (Int.toNat ↑(UInt8.toNat (Prod.snd (Prod.snd x) % (5 : UInt8))))
            (List.length
              [[(120 : UInt8)], [(121 : UInt8)], [(48 : UInt8)], [(104 : UInt8), (111 : UInt8), (116 : UInt8)],
                [(49 : UInt8)]]))
        (obind
          [[(120 : UInt8)], [(121 : UInt8)], [(48 : UInt8)], [(104 : UInt8), (111 : UInt8), (116 : UInt8)],
              [(49 : UInt8)]][Int.toNat ↑(UInt8.toNat (Prod.snd (Prod.snd x) % (5 : UInt8)))]?
          fun (x_2 : List UInt8) =>
          oite (decide ((4 : UInt8) ≤ (1 : UInt8) + Prod.fst (Prod.snd x) % (5 : UInt8)))
            (some ((x_1, (1 : UInt8) + Prod.fst (Prod.snd x) % (5 : UInt8), []), ()))
            (some ((x_1, (1 : UInt8) + Prod.fst (Prod.snd x) % (5 : UInt8), x_2), ())))
        none)
    none
theorem ok27 (n : Nat) : FunOK Try.prog ⟨27, sig27, F27 n⟩ :=
  fun_ok (hints := ⟨[], []⟩) (fuel := n) (c := Try.f27.body.getD .skip) (rs := Try.f27.results.toList) tt_ok mix (FsOK.nil) Try.func27 (by kernel_rfl) (by kernel_rfl) rfl (by kernel_rfl) rfl rfl (by kernel_rfl)
-- watchfire/watchfirelaw17.Asks
def sig14 : Sig := ⟨(.cons (.one (.c (.ro (.cons (.int .u8) (.cons (.int .u8) (.cons (.int .u8) .nil)))))) (.cons (.one (.c (.int .i64))) .nil)), (.cons (.one (.c (.ro (.cons .str (.cons (.int .u8) (.cons .str .nil)))))) .nil)⟩
def F14_L29 : Nat →
  Arr
      [PT.int IntKind.i64,
        PT.list (CTs.cons (CT.int IntKind.u8) (CTs.cons (CT.int IntKind.u8) (CTs.cons (CT.int IntKind.u8) CTs.nil))),
        PT.int IntKind.i64, PT.int IntKind.i64,
        PT.list (CTs.cons CT.str (CTs.cons (CT.int IntKind.u8) (CTs.cons CT.str CTs.nil)))]
      (Option (List (List UInt8 × UInt8 × List UInt8) × Unit)) →
    Int64 →
      List (UInt8 × UInt8 × UInt8) →
        Int64 → Int64 → List (List UInt8 × UInt8 × List UInt8) → Option (List (List UInt8 × UInt8 × List UInt8) × Unit) := fun (n : Nat)
    (rec :
      Arr
        [PT.int IntKind.i64,
          PT.list (CTs.cons (CT.int IntKind.u8) (CTs.cons (CT.int IntKind.u8) (CTs.cons (CT.int IntKind.u8) CTs.nil))),
          PT.int IntKind.i64, PT.int IntKind.i64,
          PT.list (CTs.cons CT.str (CTs.cons (CT.int IntKind.u8) (CTs.cons CT.str CTs.nil)))]
        (Option (List (List UInt8 × UInt8 × List UInt8) × Unit)))
    (most : Int64) (t : List (UInt8 × UInt8 × UInt8)) (t_1 t_2 : Int64)
    (out : List (List UInt8 × UInt8 × List UInt8)) =>
  oite (decide (t_2 < t_1))
    (obind (at? t (Int64.toInt t_2)) fun (x_1 : UInt8 × UInt8 × UInt8) =>
      oite (decide (t_2 < most))
        (obind (F27 n (Prod.fst x_1, Prod.fst (Prod.snd x_1), Prod.snd (Prod.snd x_1)))
          fun (x_2 : (List UInt8 × UInt8 × List UInt8) × Unit) =>
          oite
            (Nat.ble
              (List.length out +
                List.length
                  [(Prod.fst (Prod.fst x_2), Prod.fst (Prod.snd (Prod.fst x_2)), Prod.snd (Prod.snd (Prod.fst x_2)))])
              (4294967296 : Nat))
            (rec most t t_1 (t_2 + (1 : Int64))
              (out ++
                [(Prod.fst (Prod.fst x_2), Prod.fst (Prod.snd (Prod.fst x_2)), Prod.snd (Prod.snd (Prod.fst x_2)))]))
            none)
        (rec most t t_1 (t_2 + (1 : Int64)) out))
    (some (out, ()))
def F14_R29 : Nat →
  Nat →
    PT.T (PT.int IntKind.i64) →
      List (UInt8 × UInt8 × UInt8) →
        Int64 → Int64 → List (List UInt8 × UInt8 × List UInt8) → Option (List (List UInt8 × UInt8 × List UInt8) × Unit) := fun (n : Nat) =>
  ofixA (29 : Nat)
    [PT.int IntKind.i64,
      PT.list (CTs.cons (CT.int IntKind.u8) (CTs.cons (CT.int IntKind.u8) (CTs.cons (CT.int IntKind.u8) CTs.nil))),
      PT.int IntKind.i64, PT.int IntKind.i64,
      PT.list (CTs.cons CT.str (CTs.cons (CT.int IntKind.u8) (CTs.cons CT.str CTs.nil)))]
    (F14_L29 n)
def F14 : Nat → List (UInt8 × UInt8 × UInt8) × Int64 → Option (List (List UInt8 × UInt8 × List UInt8) × Unit) := fun (n : Nat) (x : List (UInt8 × UInt8 × UInt8) × Int64) =>
  F14_R29 n n (Prod.snd x) (Prod.fst x) (Int64.ofInt ↑(List.length (Prod.fst x))) (0 : Int64) []
theorem F14_R29_s (n : Nat) (m_ : Nat) : F14_R29 n (m_ + 1) = F14_L29 n (F14_R29 n m_) := rfl
theorem ok14 (n : Nat) : FunOK Try.prog ⟨14, sig14, F14 n⟩ :=
  fun_ok (hints := ⟨[], [(29, ⟨[(1, .one (.int .i64)), (5, .one (.own 2)), (8, .one (.ro (.cons (.int .u8) (.cons (.int .u8) (.cons (.int .u8) .nil))))), (9, .one (.int .i64)), (10, .one (.int .i64))], [(2, .row (.cons .str (.cons (.int .u8) (.cons .str .nil))))], 3⟩)]⟩) (fuel := n) (c := Try.f14.body.getD .skip) (rs := Try.f14.results.toList) tt_ok mix (FsOK.cons (ok27 n) (FsOK.nil)) Try.func14 (by kernel_rfl) (by kernel_rfl) rfl (by kernel_rfl) rfl rfl (by kernel_rfl)
-- slices.Equal[[]watchfire/api.Pair,watchfire/api.Pair]
def sig37 : Sig := ⟨(.cons (.one (.c (.ro (.cons .str (.cons .str .nil))))) (.cons (.one (.c (.ro (.cons .str (.cons .str .nil))))) .nil)), (.cons (.one (.c .bool)) .nil)⟩
def F37_L29 : Arr
    [PT.list (CTs.cons CT.str (CTs.cons CT.str CTs.nil)), PT.list (CTs.cons CT.str (CTs.cons CT.str CTs.nil)),
      PT.int IntKind.i64, PT.int IntKind.i64]
    (Option (Bool × Unit)) →
  List (List UInt8 × List UInt8) → List (List UInt8 × List UInt8) → Int64 → Int64 → Option (Bool × Unit) := fun
    (rec :
      Arr
        [PT.list (CTs.cons CT.str (CTs.cons CT.str CTs.nil)), PT.list (CTs.cons CT.str (CTs.cons CT.str CTs.nil)),
          PT.int IntKind.i64, PT.int IntKind.i64]
        (Option (Bool × Unit)))
    (s1 s2 : List (List UInt8 × List UInt8)) (t t_1 : Int64) =>
  oite (decide (t_1 < t))
    (obind (at? s1 (Int64.toInt t_1)) fun (x_1 : List UInt8 × List UInt8) =>
      obind (at? s2 (Int64.toInt t_1)) fun (x_2 : List UInt8 × List UInt8) =>
        oite (!(Prod.fst x_1 == Prod.fst x_2 && (Prod.snd x_1 == Prod.snd x_2 && true))) (some (false, ()))
          (rec s1 s2 t (t_1 + (1 : Int64))))
    (some (true, ()))
def F37_R29 : Nat →
  PT.T (PT.list (CTs.cons CT.str (CTs.cons CT.str CTs.nil))) →
    List (List UInt8 × List UInt8) → Int64 → Int64 → Option (Bool × Unit) := ofixA (29 : Nat)
  [PT.list (CTs.cons CT.str (CTs.cons CT.str CTs.nil)), PT.list (CTs.cons CT.str (CTs.cons CT.str CTs.nil)),
    PT.int IntKind.i64, PT.int IntKind.i64]
  F37_L29
def F37 : Nat → List (List UInt8 × List UInt8) × List (List UInt8 × List UInt8) → Option (Bool × Unit) := fun (n : Nat) (x : List (List UInt8 × List UInt8) × List (List UInt8 × List UInt8)) =>
  oite (!decide (Int64.ofInt ↑(List.length (Prod.fst x)) = Int64.ofInt ↑(List.length (Prod.snd x))))
    (some (false, ()))
    (F37_R29 n (Prod.fst x) (Prod.snd x) (Int64.ofInt ↑(List.length (Prod.fst x))) (0 : Int64))
theorem F37_R29_s  (m_ : Nat) : F37_R29  (m_ + 1) = F37_L29  (F37_R29  m_) := rfl
theorem ok37 (n : Nat) : FunOK Try.prog ⟨37, sig37, F37 n⟩ :=
  fun_ok (hints := ⟨[], [(29, ⟨[(0, .one (.ro (.cons .str (.cons .str .nil)))), (1, .one (.ro (.cons .str (.cons .str .nil)))), (12, .one (.int .i64)), (13, .one (.int .i64))], [], 2⟩)]⟩) (fuel := n) (c := Try.f37.body.getD .skip) (rs := Try.f37.results.toList) tt_ok mix (FsOK.nil) Try.func37 (by kernel_rfl) (by kernel_rfl) rfl (by kernel_rfl) rfl rfl (by kernel_rfl)
-- watchfire/lab.Same
def sig28 : Sig := ⟨(.cons (.one (.c (.ro (.cons .str (.cons .str .nil))))) (.cons (.one (.c (.ro (.cons .str (.cons .str .nil))))) .nil)), (.cons (.one (.c .bool)) .nil)⟩
def F28 : Nat → List (List UInt8 × List UInt8) × List (List UInt8 × List UInt8) → Option (Bool × Unit) := fun (n : Nat) (x : List (List UInt8 × List UInt8) × List (List UInt8 × List UInt8)) =>
  obind (F37 n (Prod.fst x, Prod.snd x)) fun (x_1 : Bool × Unit) => some (Prod.fst x_1, ())
theorem ok28 (n : Nat) : FunOK Try.prog ⟨28, sig28, F28 n⟩ :=
  fun_ok (hints := ⟨[], []⟩) (fuel := n) (c := Try.f28.body.getD .skip) (rs := Try.f28.results.toList) tt_ok mix (FsOK.cons (ok37 n) (FsOK.nil)) Try.func28 (by kernel_rfl) (by kernel_rfl) rfl (by kernel_rfl) rfl rfl (by kernel_rfl)
-- watchfire/curb.same
def sig16 : Sig := ⟨(.cons (.agg (.cons (.int .u8) (.cons .str (.cons (.ro (.cons .str (.cons .str .nil))) (.cons (.int .u8) (.cons (.int .u64) (.cons (.int .u8) (.cons (.int .i64) .nil)))))))) (.cons (.agg (.cons (.int .u8) (.cons .str (.cons (.ro (.cons .str (.cons .str .nil))) (.cons (.int .u8) (.cons (.int .u64) (.cons (.int .u8) (.cons (.int .i64) .nil)))))))) .nil)), (.cons (.one (.c .bool)) .nil)⟩
def F16 : Nat →
  (UInt8 × List UInt8 × List (List UInt8 × List UInt8) × UInt8 × UInt64 × UInt8 × Int64) ×
      UInt8 × List UInt8 × List (List UInt8 × List UInt8) × UInt8 × UInt64 × UInt8 × Int64 →
    Option (Bool × Unit) := fun (n : Nat)
    (x :
      (UInt8 × List UInt8 × List (List UInt8 × List UInt8) × UInt8 × UInt64 × UInt8 × Int64) ×
        UInt8 × List UInt8 × List (List UInt8 × List UInt8) × UInt8 × UInt64 × UInt8 × Int64) =>
  oite (decide (Prod.fst (Prod.fst x) = Prod.fst (Prod.snd x)))
    (oite (Prod.fst (Prod.snd (Prod.fst x)) == Prod.fst (Prod.snd (Prod.snd x)))
      (obind (F28 n (Prod.fst (Prod.snd (Prod.snd (Prod.fst x))), Prod.fst (Prod.snd (Prod.snd (Prod.snd x)))))
        fun (x_1 : Bool × Unit) => some (Prod.fst x_1, ()))
      (some (false, ())))
    (some (false, ()))
theorem ok16 (n : Nat) : FunOK Try.prog ⟨16, sig16, F16 n⟩ :=
  fun_ok (hints := ⟨[], []⟩) (fuel := n) (c := Try.f16.body.getD .skip) (rs := Try.f16.results.toList) tt_ok mix (FsOK.cons (ok28 n) (FsOK.nil)) Try.func16 (by kernel_rfl) (by kernel_rfl) rfl (by kernel_rfl) rfl rfl (by kernel_rfl)
-- watchfire/match.number
def sig29 : Sig := ⟨(.cons (.one (.c (.int .u8))) .nil), (.cons (.one (.c .str)) .nil)⟩
def G29 : Nat → (UInt8 → Option (List UInt8 × Unit)) → UInt8 → Option (List UInt8 × Unit) := fun (n : Nat) (rc : UInt8 → Option (List UInt8 × Unit)) (x : UInt8) =>
  oite (decide ((9 : UInt8) < x))
    (obind (rc (x / (10 : UInt8))) fun (x_1 : List UInt8 × Unit) =>
      obind (rc (x % (10 : UInt8))) fun (x_2 : List UInt8 × Unit) =>
        oite (Nat.ble (List.length (Prod.fst x_1) + List.length (Prod.fst x_2)) (4294967296 : Nat))
          (some (Prod.fst x_1 ++ Prod.fst x_2, ())) none)
    (some ([(48 : UInt8) + x], ()))
theorem okG29 (n : Nat) (rc : sig29.In → Option sig29.Out) (h : FunOK Try.prog ⟨29, sig29, rc⟩) : FunOK Try.prog ⟨29, sig29, G29 n rc⟩ :=
  fun_ok (hints := ⟨[], []⟩) (fuel := n) (c := Try.f29.body.getD .skip) (rs := Try.f29.results.toList) tt_ok mix (FsOK.cons h (FsOK.nil)) Try.func29 (by kernel_rfl) (by kernel_rfl) rfl (by kernel_rfl) rfl rfl (by kernel_rfl)
def F29 (n : Nat) : UInt8 → Option (List UInt8 × Unit) := selfN (sig := sig29) (G29 n) n
theorem ok29 (n : Nat) : FunOK Try.prog ⟨29, sig29, F29 n⟩ :=
  self_ok (c := Try.f29.body.getD .skip) Try.func29 (by kernel_rfl) (by kernel_rfl) (fun F h => okG29 n F h) n
-- watchfire/lab.Get
def sig30 : Sig := ⟨(.cons (.one (.c (.ro (.cons .str (.cons .str .nil))))) (.cons (.one (.c .str)) .nil)), (.cons (.one (.c .str)) (.cons (.one (.c .bool)) .nil))⟩
def F30_L13 : Arr [PT.bytes, PT.list (CTs.cons CT.str (CTs.cons CT.str CTs.nil)), PT.int IntKind.i64, PT.int IntKind.i64]
    (Option ((List UInt8 × Bool) × Unit)) →
  List UInt8 → List (List UInt8 × List UInt8) → Int64 → Int64 → Option ((List UInt8 × Bool) × Unit) := fun
    (rec :
      Arr [PT.bytes, PT.list (CTs.cons CT.str (CTs.cons CT.str CTs.nil)), PT.int IntKind.i64, PT.int IntKind.i64]
        (Option ((List UInt8 × Bool) × Unit)))
    (key : List UInt8) (t : List (List UInt8 × List UInt8)) (t_1 t_2 : Int64) =>
  oite (decide (t_2 < t_1))
    (obind (at? t (Int64.toInt t_2)) fun (x_1 : List UInt8 × List UInt8) =>
      oite (Prod.fst x_1 == key) (some ((Prod.snd x_1, true), ())) (rec key t t_1 (t_2 + (1 : Int64))))
    (some (([], false), ()))
def F30_R13 : Nat → PT.T PT.bytes → List (List UInt8 × List UInt8) → Int64 → Int64 → Option ((List UInt8 × Bool) × Unit) := ofixA (13 : Nat) [PT.bytes, PT.list (CTs.cons CT.str (CTs.cons CT.str CTs.nil)), PT.int IntKind.i64, PT.int IntKind.i64]
  F30_L13
def F30 : Nat → List (List UInt8 × List UInt8) × List UInt8 → Option ((List UInt8 × Bool) × Unit) := fun (n : Nat) (x : List (List UInt8 × List UInt8) × List UInt8) =>
  F30_R13 n (Prod.snd x) (Prod.fst x) (Int64.ofInt ↑(List.length (Prod.fst x))) (0 : Int64)
theorem F30_R13_s  (m_ : Nat) : F30_R13  (m_ + 1) = F30_L13  (F30_R13  m_) := rfl
theorem ok30 (n : Nat) : FunOK Try.prog ⟨30, sig30, F30 n⟩ :=
  fun_ok (hints := ⟨[], [(13, ⟨[(1, .one (.str)), (8, .one (.ro (.cons .str (.cons .str .nil)))), (9, .one (.int .i64)), (10, .one (.int .i64))], [], 2⟩)]⟩) (fuel := n) (c := Try.f30.body.getD .skip) (rs := Try.f30.results.toList) tt_ok mix (FsOK.nil) Try.func30 (by kernel_rfl) (by kernel_rfl) rfl (by kernel_rfl) rfl rfl (by kernel_rfl)
-- watchfire/match.Names
def sig17 : Sig := ⟨(.cons (.agg (.cons (.int .u8) (.cons .str (.cons (.ro (.cons .str (.cons .str .nil))) (.cons (.int .u8) (.cons (.int .u64) (.cons (.int .u8) (.cons (.int .i64) .nil)))))))) .nil), (.cons (.one (.c (.ro (.cons .str (.cons .str .nil))))) .nil)⟩
def F17_L29 : Nat →
  Arr
      [PT.int IntKind.i64, PT.int IntKind.i64, PT.int IntKind.u8, PT.bytes,
        PT.list (CTs.cons CT.str (CTs.cons CT.str CTs.nil)), PT.int IntKind.u8, PT.int IntKind.u64, PT.int IntKind.u8,
        PT.int IntKind.i64, PT.list (CTs.cons CT.str (CTs.cons CT.str CTs.nil)),
        PT.list (CTs.cons CT.str (CTs.cons CT.str CTs.nil))]
      (Option (List (List UInt8 × List UInt8) × Unit)) →
    Int64 →
      Int64 →
        UInt8 →
          List UInt8 →
            List (List UInt8 × List UInt8) →
              UInt8 →
                UInt64 →
                  UInt8 →
                    Int64 →
                      List (List UInt8 × List UInt8) →
                        List (List UInt8 × List UInt8) → Option (List (List UInt8 × List UInt8) × Unit) := fun (n : Nat)
    (rec :
      Arr
        [PT.int IntKind.i64, PT.int IntKind.i64, PT.int IntKind.u8, PT.bytes,
          PT.list (CTs.cons CT.str (CTs.cons CT.str CTs.nil)), PT.int IntKind.u8, PT.int IntKind.u64, PT.int IntKind.u8,
          PT.int IntKind.i64, PT.list (CTs.cons CT.str (CTs.cons CT.str CTs.nil)),
          PT.list (CTs.cons CT.str (CTs.cons CT.str CTs.nil))]
        (Option (List (List UInt8 × List UInt8) × Unit)))
    (t t_1 : Int64) (a0 : UInt8) (a1 : List UInt8) (a2 : List (List UInt8 × List UInt8)) (a3 : UInt8) (a4 : UInt64)
    (a5 : UInt8) (a6 : Int64) (out t_2 : List (List UInt8 × List UInt8)) =>
  oite (decide (t_1 < t))
    (oite (decide ((0 : Int) ≤ Int64.toInt t_1) && Nat.blt (Int.toNat (Int64.toInt t_1)) (List.length t_2))
      (obind t_2[Int.toNat (Int64.toInt t_1)]? fun (x_2 : List UInt8 × List UInt8) =>
        obind (F30 n (a2, Prod.fst x_2)) fun (x_3 : (List UInt8 × Bool) × Unit) =>
          oite (!Prod.snd (Prod.fst x_3))
            (oite (Nat.ble (List.length out + List.length [(Prod.fst x_2, Prod.snd x_2)]) (4294967296 : Nat))
              (rec t (t_1 + (1 : Int64)) a0 a1 a2 a3 a4 a5 a6 (out ++ [(Prod.fst x_2, Prod.snd x_2)]) t_2) none)
            (rec t (t_1 + (1 : Int64)) a0 a1 a2 a3 a4 a5 a6 out t_2))
      none)
    (some (out, ()))
def F17_R29 : Nat →
  Nat →
    PT.T (PT.int IntKind.i64) →
      Int64 →
        UInt8 →
          List UInt8 →
            List (List UInt8 × List UInt8) →
              UInt8 →
                UInt64 →
                  UInt8 →
                    Int64 →
                      List (List UInt8 × List UInt8) →
                        List (List UInt8 × List UInt8) → Option (List (List UInt8 × List UInt8) × Unit) := fun (n : Nat) =>
  ofixA (29 : Nat)
    [PT.int IntKind.i64, PT.int IntKind.i64, PT.int IntKind.u8, PT.bytes,
      PT.list (CTs.cons CT.str (CTs.cons CT.str CTs.nil)), PT.int IntKind.u8, PT.int IntKind.u64, PT.int IntKind.u8,
      PT.int IntKind.i64, PT.list (CTs.cons CT.str (CTs.cons CT.str CTs.nil)),
      PT.list (CTs.cons CT.str (CTs.cons CT.str CTs.nil))]
    (F17_L29 n)
def F17 : Nat →
  UInt8 × List UInt8 × List (List UInt8 × List UInt8) × UInt8 × UInt64 × UInt8 × Int64 →
    Option (List (List UInt8 × List UInt8) × Unit) := fun (n : Nat) (x : UInt8 × List UInt8 × List (List UInt8 × List UInt8) × UInt8 × UInt64 × UInt8 × Int64) =>
  oite (Nat.ble ((0 : Nat) + List.length (Prod.fst (Prod.snd (Prod.snd x)))) (4294967296 : Nat))
    (obind (F29 n (Prod.fst x)) fun (x_1 : List UInt8 × Unit) =>
      F17_R29 n n
        (Int64.ofInt
          ↑(List.length
              [([(114 : UInt8), (117 : UInt8), (108 : UInt8), (101 : UInt8)], Prod.fst (Prod.snd x)),
                ([(111 : UInt8), (114 : UInt8), (105 : UInt8), (103 : UInt8), (105 : UInt8), (110 : UInt8)],
                  Prod.fst x_1)]))
        (0 : Int64) (Prod.fst x) (Prod.fst (Prod.snd x)) (Prod.fst (Prod.snd (Prod.snd x)))
        (Prod.fst (Prod.snd (Prod.snd (Prod.snd x)))) (Prod.fst (Prod.snd (Prod.snd (Prod.snd (Prod.snd x)))))
        (Prod.fst (Prod.snd (Prod.snd (Prod.snd (Prod.snd (Prod.snd x))))))
        (Prod.snd (Prod.snd (Prod.snd (Prod.snd (Prod.snd (Prod.snd x)))))) ([] ++ Prod.fst (Prod.snd (Prod.snd x)))
        [([(114 : UInt8), (117 : UInt8), (108 : UInt8), (101 : UInt8)], Prod.fst (Prod.snd x)),
          ([(111 : UInt8), (114 : UInt8), (105 : UInt8), (103 : UInt8), (105 : UInt8), (110 : UInt8)], Prod.fst x_1)])
    none
theorem F17_R29_s (n : Nat) (m_ : Nat) : F17_R29 n (m_ + 1) = F17_L29 n (F17_R29 n m_) := rfl
theorem ok17 (n : Nat) : FunOK Try.prog ⟨17, sig17, F17 n⟩ :=
  fun_ok (hints := ⟨[], [(29, ⟨[(1, .one (.own 1)), (3, .one (.own 2)), (19, .one (.own 3)), (20, .one (.int .i64)), (21, .one (.int .i64))], [(1, .cells [.int .u8, .str, .ro (.cons .str (.cons .str .nil)), .int .u8, .int .u64, .int .u8, .int .i64]), (2, .row (.cons .str (.cons .str .nil))), (3, .row (.cons .str (.cons .str .nil)))], 4⟩)]⟩) (fuel := n) (c := Try.f17.body.getD .skip) (rs := Try.f17.results.toList) tt_ok mix (FsOK.cons (ok29 n) (FsOK.cons (ok30 n) (FsOK.nil))) Try.func17 (by kernel_rfl) (by kernel_rfl) rfl (by kernel_rfl) rfl rfl (by kernel_rfl)
-- internal/stringslite.HasPrefix
def sig41 : Sig := ⟨(.cons (.one (.c .str)) (.cons (.one (.c .str)) .nil)), (.cons (.one (.c .bool)) .nil)⟩
def F41 : Nat → List UInt8 × List UInt8 → Option (Bool × Unit) := fun (n : Nat) (x : List UInt8 × List UInt8) =>
  oite (decide (Int64.ofInt ↑(List.length (Prod.snd x)) ≤ Int64.ofInt ↑(List.length (Prod.fst x))))
    (oite
      (decide ((0 : Int) ≤ Int64.toInt (Int64.ofInt ↑(List.length (Prod.snd x)))) &&
          Nat.ble (Int.toNat (Int64.toInt (Int64.ofInt ↑(List.length (Prod.snd x))))) (List.length (Prod.fst x)) &&
        true)
      (some
        (List.drop (0 : Nat)
              (List.take (Int.toNat (Int64.toInt (Int64.ofInt ↑(List.length (Prod.snd x))))) (Prod.fst x)) ==
            Prod.snd x,
          ()))
      none)
    (some (false, ()))
theorem ok41 (n : Nat) : FunOK Try.prog ⟨41, sig41, F41 n⟩ :=
  fun_ok (hints := ⟨[], []⟩) (fuel := n) (c := Try.f41.body.getD .skip) (rs := Try.f41.results.toList) tt_ok mix (FsOK.nil) Try.func41 (by kernel_rfl) (by kernel_rfl) rfl (by kernel_rfl) rfl rfl (by kernel_rfl)
-- strings.HasPrefix
def sig38 : Sig := ⟨(.cons (.one (.c .str)) (.cons (.one (.c .str)) .nil)), (.cons (.one (.c .bool)) .nil)⟩
def F38 : Nat → List UInt8 × List UInt8 → Option (Bool × Unit) := fun (n : Nat) (x : List UInt8 × List UInt8) =>
  obind (F41 n (Prod.fst x, Prod.snd x)) fun (x_1 : Bool × Unit) => some (Prod.fst x_1, ())
theorem ok38 (n : Nat) : FunOK Try.prog ⟨38, sig38, F38 n⟩ :=
  fun_ok (hints := ⟨[], []⟩) (fuel := n) (c := Try.f38.body.getD .skip) (rs := Try.f38.results.toList) tt_ok mix (FsOK.cons (ok41 n) (FsOK.nil)) Try.func38 (by kernel_rfl) (by kernel_rfl) rfl (by kernel_rfl) rfl rfl (by kernel_rfl)
-- (watchfire/match.Ask).Holds
def sig31 : Sig := ⟨(.cons (.agg (.cons .str (.cons (.int .u8) (.cons .str .nil)))) (.cons (.one (.c (.ro (.cons .str (.cons .str .nil))))) .nil)), (.cons (.one (.c .bool)) .nil)⟩
def F31 : Nat → (List UInt8 × UInt8 × List UInt8) × List (List UInt8 × List UInt8) → Option (Bool × Unit) := fun (n : Nat) (x : (List UInt8 × UInt8 × List UInt8) × List (List UInt8 × List UInt8)) =>
  obind (F30 n (Prod.snd x, Prod.fst (Prod.fst x))) fun (x_1 : (List UInt8 × Bool) × Unit) =>
    oite (decide (Prod.fst (Prod.snd (Prod.fst x)) = (1 : UInt8)))
      (oite (Prod.snd (Prod.fst x_1)) (some (Prod.fst (Prod.fst x_1) == Prod.snd (Prod.snd (Prod.fst x)), ()))
        (some (false, ())))
      (oite (decide (Prod.fst (Prod.snd (Prod.fst x)) = (2 : UInt8)))
        (oite (!Prod.snd (Prod.fst x_1)) (some (true, ()))
          (some (!Prod.fst (Prod.fst x_1) == Prod.snd (Prod.snd (Prod.fst x)), ())))
        (oite (decide (Prod.fst (Prod.snd (Prod.fst x)) = (3 : UInt8)))
          (oite (Prod.snd (Prod.fst x_1))
            (obind (F38 n (Prod.fst (Prod.fst x_1), Prod.snd (Prod.snd (Prod.fst x)))) fun (x_2 : Bool × Unit) =>
              some (Prod.fst x_2, ()))
            (some (false, ())))
          (oite (decide (Prod.fst (Prod.snd (Prod.fst x)) = (4 : UInt8))) (some (Prod.snd (Prod.fst x_1), ()))
            (oite (decide (Prod.fst (Prod.snd (Prod.fst x)) = (5 : UInt8)))
              (some (!Prod.snd (Prod.fst x_1), ())) (some (false, ()))))))
theorem ok31 (n : Nat) : FunOK Try.prog ⟨31, sig31, F31 n⟩ :=
  fun_ok (hints := ⟨[], []⟩) (fuel := n) (c := Try.f31.body.getD .skip) (rs := Try.f31.results.toList) tt_ok mix (FsOK.cons (ok30 n) (FsOK.cons (ok38 n) (FsOK.nil))) Try.func31 (by kernel_rfl) (by kernel_rfl) rfl (by kernel_rfl) rfl rfl (by kernel_rfl)
-- (watchfire/match.Asks).Holds
def sig18 : Sig := ⟨(.cons (.one (.c (.ro (.cons .str (.cons (.int .u8) (.cons .str .nil)))))) (.cons (.one (.c (.ro (.cons .str (.cons .str .nil))))) .nil)), (.cons (.one (.c .bool)) .nil)⟩
def F18_L13 : Nat →
  Arr
      [PT.list (CTs.cons CT.str (CTs.cons CT.str CTs.nil)),
        PT.list (CTs.cons CT.str (CTs.cons (CT.int IntKind.u8) (CTs.cons CT.str CTs.nil))), PT.int IntKind.i64,
        PT.int IntKind.i64]
      (Option (Bool × Unit)) →
    List (List UInt8 × List UInt8) → List (List UInt8 × UInt8 × List UInt8) → Int64 → Int64 → Option (Bool × Unit) := fun (n : Nat)
    (rec :
      Arr
        [PT.list (CTs.cons CT.str (CTs.cons CT.str CTs.nil)),
          PT.list (CTs.cons CT.str (CTs.cons (CT.int IntKind.u8) (CTs.cons CT.str CTs.nil))), PT.int IntKind.i64,
          PT.int IntKind.i64]
        (Option (Bool × Unit)))
    (labels : List (List UInt8 × List UInt8)) (t : List (List UInt8 × UInt8 × List UInt8)) (t_1 t_2 : Int64) =>
  oite (decide (t_2 < t_1))
    (obind (at? t (Int64.toInt t_2)) fun (x_1 : List UInt8 × UInt8 × List UInt8) =>
      obind (F31 n ((Prod.fst x_1, Prod.fst (Prod.snd x_1), Prod.snd (Prod.snd x_1)), labels))
        fun (x_2 : Bool × Unit) =>
        oite (!Prod.fst x_2) (some (false, ())) (rec labels t t_1 (t_2 + (1 : Int64))))
    (some (true, ()))
def F18_R13 : Nat →
  Nat →
    PT.T (PT.list (CTs.cons CT.str (CTs.cons CT.str CTs.nil))) →
      List (List UInt8 × UInt8 × List UInt8) → Int64 → Int64 → Option (Bool × Unit) := fun (n : Nat) =>
  ofixA (13 : Nat)
    [PT.list (CTs.cons CT.str (CTs.cons CT.str CTs.nil)),
      PT.list (CTs.cons CT.str (CTs.cons (CT.int IntKind.u8) (CTs.cons CT.str CTs.nil))), PT.int IntKind.i64,
      PT.int IntKind.i64]
    (F18_L13 n)
def F18 : Nat → List (List UInt8 × UInt8 × List UInt8) × List (List UInt8 × List UInt8) → Option (Bool × Unit) := fun (n : Nat) (x : List (List UInt8 × UInt8 × List UInt8) × List (List UInt8 × List UInt8)) =>
  F18_R13 n n (Prod.snd x) (Prod.fst x) (Int64.ofInt ↑(List.length (Prod.fst x))) (0 : Int64)
theorem F18_R13_s (n : Nat) (m_ : Nat) : F18_R13 n (m_ + 1) = F18_L13 n (F18_R13 n m_) := rfl
theorem ok18 (n : Nat) : FunOK Try.prog ⟨18, sig18, F18 n⟩ :=
  fun_ok (hints := ⟨[], [(13, ⟨[(1, .one (.ro (.cons .str (.cons .str .nil)))), (7, .one (.ro (.cons .str (.cons (.int .u8) (.cons .str .nil))))), (8, .one (.int .i64)), (9, .one (.int .i64))], [], 2⟩)]⟩) (fuel := n) (c := Try.f18.body.getD .skip) (rs := Try.f18.results.toList) tt_ok mix (FsOK.cons (ok31 n) (FsOK.nil)) Try.func18 (by kernel_rfl) (by kernel_rfl) rfl (by kernel_rfl) rfl rfl (by kernel_rfl)
-- watchfire/curb.equal
def sig19 : Sig := ⟨(.cons (.one (.c (.ro (.cons .str (.cons .str .nil))))) (.cons (.one (.c (.ro (.cons .str (.cons .str .nil))))) (.cons (.one (.c (.ro (.cons .str .nil)))) .nil))), (.cons (.one (.c .bool)) .nil)⟩
def F19_L13 : Nat →
  Arr
      [PT.list (CTs.cons CT.str (CTs.cons CT.str CTs.nil)), PT.list (CTs.cons CT.str (CTs.cons CT.str CTs.nil)),
        PT.list (CTs.cons CT.str CTs.nil), PT.int IntKind.i64, PT.int IntKind.i64]
      (Option (Bool × Unit)) →
    List (List UInt8 × List UInt8) →
      List (List UInt8 × List UInt8) → List (List UInt8) → Int64 → Int64 → Option (Bool × Unit) := fun (n : Nat)
    (rec :
      Arr
        [PT.list (CTs.cons CT.str (CTs.cons CT.str CTs.nil)), PT.list (CTs.cons CT.str (CTs.cons CT.str CTs.nil)),
          PT.list (CTs.cons CT.str CTs.nil), PT.int IntKind.i64, PT.int IntKind.i64]
        (Option (Bool × Unit)))
    (a b : List (List UInt8 × List UInt8)) (t : List (List UInt8)) (t_1 t_2 : Int64) =>
  oite (decide (t_2 < t_1))
    (obind (at? t (Int64.toInt t_2)) fun (x_1 : List UInt8) =>
      obind (F30 n (a, x_1)) fun (x_2 : (List UInt8 × Bool) × Unit) =>
        obind (F30 n (b, x_1)) fun (x_3 : (List UInt8 × Bool) × Unit) =>
          oite (!Prod.snd (Prod.fst x_2) == Prod.snd (Prod.fst x_3)) (some (false, ()))
            (oite (!Prod.fst (Prod.fst x_2) == Prod.fst (Prod.fst x_3)) (some (false, ()))
              (rec a b t t_1 (t_2 + (1 : Int64)))))
    (some (true, ()))
def F19_R13 : Nat →
  Nat →
    PT.T (PT.list (CTs.cons CT.str (CTs.cons CT.str CTs.nil))) →
      List (List UInt8 × List UInt8) → List (List UInt8) → Int64 → Int64 → Option (Bool × Unit) := fun (n : Nat) =>
  ofixA (13 : Nat)
    [PT.list (CTs.cons CT.str (CTs.cons CT.str CTs.nil)), PT.list (CTs.cons CT.str (CTs.cons CT.str CTs.nil)),
      PT.list (CTs.cons CT.str CTs.nil), PT.int IntKind.i64, PT.int IntKind.i64]
    (F19_L13 n)
def F19 : Nat → List (List UInt8 × List UInt8) × List (List UInt8 × List UInt8) × List (List UInt8) → Option (Bool × Unit) := fun (n : Nat) (x : List (List UInt8 × List UInt8) × List (List UInt8 × List UInt8) × List (List UInt8)) =>
  F19_R13 n n (Prod.fst x) (Prod.fst (Prod.snd x)) (Prod.snd (Prod.snd x))
    (Int64.ofInt ↑(List.length (Prod.snd (Prod.snd x)))) (0 : Int64)
theorem F19_R13_s (n : Nat) (m_ : Nat) : F19_R13 n (m_ + 1) = F19_L13 n (F19_R13 n m_) := rfl
theorem ok19 (n : Nat) : FunOK Try.prog ⟨19, sig19, F19 n⟩ :=
  fun_ok (hints := ⟨[], [(13, ⟨[(0, .one (.ro (.cons .str (.cons .str .nil)))), (1, .one (.ro (.cons .str (.cons .str .nil)))), (13, .one (.ro (.cons .str .nil))), (14, .one (.int .i64)), (15, .one (.int .i64))], [], 3⟩)]⟩) (fuel := n) (c := Try.f19.body.getD .skip) (rs := Try.f19.results.toList) tt_ok mix (FsOK.cons (ok30 n) (FsOK.nil)) Try.func19 (by kernel_rfl) (by kernel_rfl) rfl (by kernel_rfl) rfl rfl (by kernel_rfl)
-- (watchfire/curb.Curb).Holds
def sig7 : Sig := ⟨(.cons (.agg (.cons (.ro (.cons .str (.cons (.int .u8) (.cons .str .nil)))) (.cons (.ro (.cons .str (.cons (.int .u8) (.cons .str .nil)))) (.cons (.ro (.cons .str .nil)) .nil)))) (.cons (.agg (.cons (.int .u8) (.cons .str (.cons (.ro (.cons .str (.cons .str .nil))) (.cons (.int .u8) (.cons (.int .u64) (.cons (.int .u8) (.cons (.int .i64) .nil)))))))) (.cons (.agg (.cons (.int .u8) (.cons .str (.cons (.ro (.cons .str (.cons .str .nil))) (.cons (.int .u8) (.cons (.int .u64) (.cons (.int .u8) (.cons (.int .i64) .nil)))))))) .nil))), (.cons (.one (.c .bool)) .nil)⟩
def F7 : Nat →
  (List (List UInt8 × UInt8 × List UInt8) × List (List UInt8 × UInt8 × List UInt8) × List (List UInt8)) ×
      (UInt8 × List UInt8 × List (List UInt8 × List UInt8) × UInt8 × UInt64 × UInt8 × Int64) ×
        UInt8 × List UInt8 × List (List UInt8 × List UInt8) × UInt8 × UInt64 × UInt8 × Int64 →
    Option (Bool × Unit) := fun (n : Nat)
    (x :
      (List (List UInt8 × UInt8 × List UInt8) × List (List UInt8 × UInt8 × List UInt8) × List (List UInt8)) ×
        (UInt8 × List UInt8 × List (List UInt8 × List UInt8) × UInt8 × UInt64 × UInt8 × Int64) ×
          UInt8 × List UInt8 × List (List UInt8 × List UInt8) × UInt8 × UInt64 × UInt8 × Int64) =>
  oite (!decide (Prod.fst (Prod.snd (Prod.snd (Prod.snd (Prod.fst (Prod.snd x))))) = (2 : UInt8)))
    (some (false, ()))
    (obind
      (F16 n
        ((Prod.fst (Prod.fst (Prod.snd x)), Prod.fst (Prod.snd (Prod.fst (Prod.snd x))),
            Prod.fst (Prod.snd (Prod.snd (Prod.fst (Prod.snd x)))),
            Prod.fst (Prod.snd (Prod.snd (Prod.snd (Prod.fst (Prod.snd x))))),
            Prod.fst (Prod.snd (Prod.snd (Prod.snd (Prod.snd (Prod.fst (Prod.snd x)))))),
            Prod.fst (Prod.snd (Prod.snd (Prod.snd (Prod.snd (Prod.snd (Prod.fst (Prod.snd x))))))),
            Prod.snd (Prod.snd (Prod.snd (Prod.snd (Prod.snd (Prod.snd (Prod.fst (Prod.snd x)))))))),
          Prod.fst (Prod.snd (Prod.snd x)), Prod.fst (Prod.snd (Prod.snd (Prod.snd x))),
          Prod.fst (Prod.snd (Prod.snd (Prod.snd (Prod.snd x)))),
          Prod.fst (Prod.snd (Prod.snd (Prod.snd (Prod.snd (Prod.snd x))))),
          Prod.fst (Prod.snd (Prod.snd (Prod.snd (Prod.snd (Prod.snd (Prod.snd x)))))),
          Prod.fst (Prod.snd (Prod.snd (Prod.snd (Prod.snd (Prod.snd (Prod.snd (Prod.snd x))))))),
          Prod.snd (Prod.snd (Prod.snd (Prod.snd (Prod.snd (Prod.snd (Prod.snd (Prod.snd x)))))))))
      fun (x_1 : Bool × Unit) =>
      oite (Prod.fst x_1) (some (false, ()))
        (obind
          (F17 n
            (Prod.fst (Prod.fst (Prod.snd x)), Prod.fst (Prod.snd (Prod.fst (Prod.snd x))),
              Prod.fst (Prod.snd (Prod.snd (Prod.fst (Prod.snd x)))),
              Prod.fst (Prod.snd (Prod.snd (Prod.snd (Prod.fst (Prod.snd x))))),
              Prod.fst (Prod.snd (Prod.snd (Prod.snd (Prod.snd (Prod.fst (Prod.snd x)))))),
              Prod.fst (Prod.snd (Prod.snd (Prod.snd (Prod.snd (Prod.snd (Prod.fst (Prod.snd x))))))),
              Prod.snd (Prod.snd (Prod.snd (Prod.snd (Prod.snd (Prod.snd (Prod.fst (Prod.snd x)))))))))
          fun (x_2 : List (List UInt8 × List UInt8) × Unit) =>
          obind
            (F17 n
              (Prod.fst (Prod.snd (Prod.snd x)), Prod.fst (Prod.snd (Prod.snd (Prod.snd x))),
                Prod.fst (Prod.snd (Prod.snd (Prod.snd (Prod.snd x)))),
                Prod.fst (Prod.snd (Prod.snd (Prod.snd (Prod.snd (Prod.snd x))))),
                Prod.fst (Prod.snd (Prod.snd (Prod.snd (Prod.snd (Prod.snd (Prod.snd x)))))),
                Prod.fst (Prod.snd (Prod.snd (Prod.snd (Prod.snd (Prod.snd (Prod.snd (Prod.snd x))))))),
                Prod.snd (Prod.snd (Prod.snd (Prod.snd (Prod.snd (Prod.snd (Prod.snd (Prod.snd x)))))))))
            fun (x_3 : List (List UInt8 × List UInt8) × Unit) =>
            obind (F18 n (Prod.fst (Prod.fst x), Prod.fst x_2)) fun (x_4 : Bool × Unit) =>
              oite (Prod.fst x_4)
                (obind (F18 n (Prod.fst (Prod.snd (Prod.fst x)), Prod.fst x_3)) fun (x_5 : Bool × Unit) =>
                  oite (Prod.fst x_5)
                    (obind (F19 n (Prod.fst x_2, Prod.fst x_3, Prod.snd (Prod.snd (Prod.fst x))))
                      fun (x_6 : Bool × Unit) => some (Prod.fst x_6, ()))
                    (some (false, ())))
                (some (false, ()))))
theorem ok7 (n : Nat) : FunOK Try.prog ⟨7, sig7, F7 n⟩ :=
  fun_ok (hints := ⟨[], []⟩) (fuel := n) (c := Try.f7.body.getD .skip) (rs := Try.f7.results.toList) tt_ok mix (FsOK.cons (ok16 n) (FsOK.cons (ok17 n) (FsOK.cons (ok18 n) (FsOK.cons (ok19 n) (FsOK.nil))))) Try.func7 (by kernel_rfl) (by kernel_rfl) rfl (by kernel_rfl) rfl rfl (by kernel_rfl)
-- watchfire/watchfirelaw19.Awake
def sig5 : Sig := ⟨.nil, (.cons (.one (.c .bool)) .nil)⟩
def F5 : Nat → Unit → Option (Bool × Unit) := fun (n : Nat) (x : Unit) =>
  obind (F14 n ([((2 : UInt8), (0 : UInt8), (3 : UInt8))], (1 : Int64)))
    fun (x_1 : List (List UInt8 × UInt8 × List UInt8) × Unit) =>
    obind (F14 n ([((4 : UInt8), (3 : UInt8), (0 : UInt8))], (1 : Int64)))
      fun (x_2 : List (List UInt8 × UInt8 × List UInt8) × Unit) =>
      obind
        (F7 n
          ((Prod.fst x_1, Prod.fst x_2, [[(110 : UInt8), (111 : UInt8), (100 : UInt8), (101 : UInt8)]]),
            ((0 : UInt8), [(104 : UInt8), (111 : UInt8), (116 : UInt8)],
              [([(110 : UInt8), (111 : UInt8), (100 : UInt8), (101 : UInt8)], [(120 : UInt8)])], (2 : UInt8),
              (0 : UInt64), (0 : UInt8), (0 : Int64)),
            (0 : UInt8), [(99 : UInt8), (111 : UInt8), (108 : UInt8), (100 : UInt8)],
            [([(110 : UInt8), (111 : UInt8), (100 : UInt8), (101 : UInt8)], [(120 : UInt8)])], (0 : UInt8),
            (0 : UInt64), (0 : UInt8), (0 : Int64)))
        fun (x_3 : Bool × Unit) =>
        oite (Prod.fst x_3)
          (obind
            (F7 n
              ((Prod.fst x_1, Prod.fst x_2, [[(110 : UInt8), (111 : UInt8), (100 : UInt8), (101 : UInt8)]]),
                ((0 : UInt8), [(104 : UInt8), (111 : UInt8), (116 : UInt8)],
                  [([(110 : UInt8), (111 : UInt8), (100 : UInt8), (101 : UInt8)], [(120 : UInt8)])], (2 : UInt8),
                  (0 : UInt64), (0 : UInt8), (0 : Int64)),
                (0 : UInt8), [(104 : UInt8), (111 : UInt8), (116 : UInt8)],
                [([(110 : UInt8), (111 : UInt8), (100 : UInt8), (101 : UInt8)], [(120 : UInt8)])], (2 : UInt8),
                (0 : UInt64), (0 : UInt8), (0 : Int64)))
            fun (x_4 : Bool × Unit) =>
            oite (!Prod.fst x_4)
              (obind
                (F7 n
                  ((Prod.fst x_1, Prod.fst x_2, [[(110 : UInt8), (111 : UInt8), (100 : UInt8), (101 : UInt8)]]),
                    ((0 : UInt8), [(99 : UInt8), (111 : UInt8), (108 : UInt8), (100 : UInt8)],
                      [([(110 : UInt8), (111 : UInt8), (100 : UInt8), (101 : UInt8)], [(120 : UInt8)])], (0 : UInt8),
                      (0 : UInt64), (0 : UInt8), (0 : Int64)),
                    (0 : UInt8), [(104 : UInt8), (111 : UInt8), (116 : UInt8)],
                    [([(110 : UInt8), (111 : UInt8), (100 : UInt8), (101 : UInt8)], [(120 : UInt8)])], (2 : UInt8),
                    (0 : UInt64), (0 : UInt8), (0 : Int64)))
                fun (x_5 : Bool × Unit) => some (!Prod.fst x_5, ()))
              (some (false, ())))
          (some (false, ()))
theorem ok5 (n : Nat) : FunOK Try.prog ⟨5, sig5, F5 n⟩ :=
  fun_ok (hints := ⟨[], []⟩) (fuel := n) (c := Try.f5.body.getD .skip) (rs := Try.f5.results.toList) tt_ok mix (FsOK.cons (ok14 n) (FsOK.cons (ok7 n) (FsOK.nil))) Try.func5 (by kernel_rfl) (by kernel_rfl) rfl (by kernel_rfl) rfl rfl (by kernel_rfl)
-- (watchfire/watchfirelaw18.Alert).Alert
def sig6 : Sig := ⟨(.cons (.agg (.cons (.int .u8) (.cons (.int .u8) (.cons (.int .u8) (.cons (.int .u8) (.cons (.int .u8) (.cons (.int .u8) .nil))))))) .nil), (.cons (.agg (.cons (.int .u8) (.cons .str (.cons (.ro (.cons .str (.cons .str .nil))) (.cons (.int .u8) (.cons (.int .u64) (.cons (.int .u8) (.cons (.int .i64) .nil)))))))) .nil)⟩
def F6_L29 : Arr
    [PT.int IntKind.i64, PT.int IntKind.i64, PT.int IntKind.u8, PT.bytes, PT.int IntKind.u8, PT.int IntKind.u64,
      PT.int IntKind.u8, PT.int IntKind.i64, PT.int IntKind.u8, PT.bytes, PT.int IntKind.u8, PT.int IntKind.u64,
      PT.int IntKind.u8, PT.int IntKind.i64, PT.list (CTs.cons (CT.int IntKind.u8) CTs.nil),
      PT.list (CTs.cons CT.str (CTs.cons CT.str CTs.nil))]
    (Option ((UInt8 × List UInt8 × List (List UInt8 × List UInt8) × UInt8 × UInt64 × UInt8 × Int64) × Unit)) →
  Int64 →
    Int64 →
      UInt8 →
        List UInt8 →
          UInt8 →
            UInt64 →
              UInt8 →
                Int64 →
                  UInt8 →
                    List UInt8 →
                      UInt8 →
                        UInt64 →
                          UInt8 →
                            Int64 →
                              List UInt8 →
                                List (List UInt8 × List UInt8) →
                                  Option
                                    ((UInt8 ×
                                        List UInt8 × List (List UInt8 × List UInt8) × UInt8 × UInt64 × UInt8 × Int64) ×
                                      Unit) := fun
    (rec :
      Arr
        [PT.int IntKind.i64, PT.int IntKind.i64, PT.int IntKind.u8, PT.bytes, PT.int IntKind.u8, PT.int IntKind.u64,
          PT.int IntKind.u8, PT.int IntKind.i64, PT.int IntKind.u8, PT.bytes, PT.int IntKind.u8, PT.int IntKind.u64,
          PT.int IntKind.u8, PT.int IntKind.i64, PT.list (CTs.cons (CT.int IntKind.u8) CTs.nil),
          PT.list (CTs.cons CT.str (CTs.cons CT.str CTs.nil))]
        (Option ((UInt8 × List UInt8 × List (List UInt8 × List UInt8) × UInt8 × UInt64 × UInt8 × Int64) × Unit)))
    (t t_1 : Int64) (t0 : UInt8) (t1 : List UInt8) (t3 : UInt8) (t4 : UInt64) (t5 : UInt8) (t6 : Int64) (a0 : UInt8)
    (a1 : List UInt8) (a3 : UInt8) (a4 : UInt64) (a5 : UInt8) (a6 : Int64) (t_2 : List UInt8)
    (al : List (List UInt8 × List UInt8)) =>
  oite (decide (t_1 < t))
    (oite (decide ((0 : Int) ≤ Int64.toInt t_1) && Nat.blt (Int.toNat (Int64.toInt t_1)) (List.length t_2))
      (obind t_2[Int.toNat (Int64.toInt t_1)]? fun (x_3 : UInt8) =>
        oite (decide ((0 : UInt8) < x_3 % (3 : UInt8)))
          (oite
            (decide ((0 : Int) ≤ Int64.toInt t_1) &&
              Nat.blt (Int.toNat (Int64.toInt t_1))
                (List.length
                  [[(97 : UInt8)], [(98 : UInt8)], [(110 : UInt8), (111 : UInt8), (100 : UInt8), (101 : UInt8)]]))
            (obind
              [[(97 : UInt8)], [(98 : UInt8)],
                  [(110 : UInt8), (111 : UInt8), (100 : UInt8), (101 : UInt8)]][Int.toNat (Int64.toInt t_1)]?
              fun (x_4 : List UInt8) =>
              oite
                (decide ((0 : Int) ≤ ↑(UInt8.toNat (x_3 % (3 : UInt8)))) &&
                  Nat.blt (Int.toNat ↑(UInt8.toNat (x_3 % (3 : UInt8))))
                    (List.length [[], [(120 : UInt8)], [(121 : UInt8)]]))
                (obind [[], [(120 : UInt8)], [(121 : UInt8)]][Int.toNat ↑(UInt8.toNat (x_3 % (3 : UInt8)))]?
                  fun (x_5 : List UInt8) =>
                  oite (Nat.ble (List.length al + List.length [(x_4, x_5)]) (4294967296 : Nat))
                    (rec t (t_1 + (1 : Int64)) t0 t1 t3 t4 t5 t6 a0 a1 a3 a4 a5 a6 t_2 (al ++ [(x_4, x_5)])) none)
                none)
            none)
          (rec t (t_1 + (1 : Int64)) t0 t1 t3 t4 t5 t6 a0 a1 a3 a4 a5 a6 t_2 al))
      none)
    (some ((a0, a1, al, a3, a4, a5, a6), ()))
def F6_R29 : Nat →
  PT.T (PT.int IntKind.i64) →
    Int64 →
      UInt8 →
        List UInt8 →
          UInt8 →
            UInt64 →
              UInt8 →
                Int64 →
                  UInt8 →
                    List UInt8 →
                      UInt8 →
                        UInt64 →
                          UInt8 →
                            Int64 →
                              List UInt8 →
                                List (List UInt8 × List UInt8) →
                                  Option
                                    ((UInt8 ×
                                        List UInt8 × List (List UInt8 × List UInt8) × UInt8 × UInt64 × UInt8 × Int64) ×
                                      Unit) := ofixA (29 : Nat)
  [PT.int IntKind.i64, PT.int IntKind.i64, PT.int IntKind.u8, PT.bytes, PT.int IntKind.u8, PT.int IntKind.u64,
    PT.int IntKind.u8, PT.int IntKind.i64, PT.int IntKind.u8, PT.bytes, PT.int IntKind.u8, PT.int IntKind.u64,
    PT.int IntKind.u8, PT.int IntKind.i64, PT.list (CTs.cons (CT.int IntKind.u8) CTs.nil),
    PT.list (CTs.cons CT.str (CTs.cons CT.str CTs.nil))]
  F6_L29
def F6 : Nat →
  UInt8 × UInt8 × UInt8 × UInt8 × UInt8 × UInt8 →
    Option ((UInt8 × List UInt8 × List (List UInt8 × List UInt8) × UInt8 × UInt64 × UInt8 × Int64) × Unit) := fun (n : Nat) (x : UInt8 × UInt8 × UInt8 × UInt8 × UInt8 × UInt8) =>
  oite
    (decide ((0 : Int) ≤ ↑(UInt8.toNat (Prod.fst (Prod.snd x) % (3 : UInt8)))) &&
      Nat.blt (Int.toNat ↑(UInt8.toNat (Prod.fst (Prod.snd x) % (3 : UInt8))))
        (List.length
          [[(104 : UInt8), (111 : UInt8), (116 : UInt8)], [(99 : UInt8), (111 : UInt8), (108 : UInt8), (100 : UInt8)],
            [(120 : UInt8)]]))
    (obind
      [[(104 : UInt8), (111 : UInt8), (116 : UInt8)], [(99 : UInt8), (111 : UInt8), (108 : UInt8), (100 : UInt8)],
          [(120 : UInt8)]][Int.toNat ↑(UInt8.toNat (Prod.fst (Prod.snd x) % (3 : UInt8)))]?
      fun (x_1 : List UInt8) =>
      oite
        (decide ((0 : Int) ≤ ↑(UInt8.toNat (Prod.snd (Prod.snd (Prod.snd (Prod.snd (Prod.snd x)))) % (4 : UInt8)))) &&
          Nat.blt (Int.toNat ↑(UInt8.toNat (Prod.snd (Prod.snd (Prod.snd (Prod.snd (Prod.snd x)))) % (4 : UInt8))))
            (List.length [(0 : UInt8), (2 : UInt8), (3 : UInt8), (2 : UInt8)]))
        (obind
          [(0 : UInt8), (2 : UInt8), (3 : UInt8),
              (2 :
                UInt8)][Int.toNat
              ↑(UInt8.toNat (Prod.snd (Prod.snd (Prod.snd (Prod.snd (Prod.snd x)))) % (4 : UInt8)))]?
          fun (x_2 : UInt8) =>
          F6_R29 n
            (Int64.ofInt
              ↑(List.length
                  [Prod.fst (Prod.snd (Prod.snd x)), Prod.fst (Prod.snd (Prod.snd (Prod.snd x))),
                    Prod.fst (Prod.snd (Prod.snd (Prod.snd (Prod.snd x))))]))
            (0 : Int64) (0 : UInt8) [] (0 : UInt8) (0 : UInt64) (0 : UInt8) (0 : Int64) (Prod.fst x % (3 : UInt8)) x_1
            x_2 (0 : UInt64) (Prod.snd (Prod.snd (Prod.snd (Prod.snd (Prod.snd x)))) / (4 : UInt8) % (8 : UInt8))
            (Int64.ofInt ↑(UInt8.toNat (Prod.fst (Prod.snd (Prod.snd x)))))
            [Prod.fst (Prod.snd (Prod.snd x)), Prod.fst (Prod.snd (Prod.snd (Prod.snd x))),
              Prod.fst (Prod.snd (Prod.snd (Prod.snd (Prod.snd x))))]
            [])
        none)
    none
theorem F6_R29_s  (m_ : Nat) : F6_R29  (m_ + 1) = F6_L29  (F6_R29  m_) := rfl
theorem ok6 (n : Nat) : FunOK Try.prog ⟨6, sig6, F6 n⟩ :=
  fun_ok (hints := ⟨[], [(29, ⟨[(2, .one (.own 1)), (3, .one (.own 2)), (35, .one (.own 3)), (36, .one (.int .i64)), (37, .one (.int .i64))], [(1, .cells [.int .u8, .str, .nils, .int .u8, .int .u64, .int .u8, .int .i64]), (2, .cells [.int .u8, .str, .own 4, .int .u8, .int .u64, .int .u8, .int .i64]), (3, .row (.cons (.int .u8) .nil)), (4, .row (.cons .str (.cons .str .nil)))], 5⟩)]⟩) (fuel := n) (c := Try.f6.body.getD .skip) (rs := Try.f6.results.toList) tt_ok mix (FsOK.nil) Try.func6 (by kernel_rfl) (by kernel_rfl) rfl (by kernel_rfl) rfl rfl (by kernel_rfl)
-- watchfire/curb.Held
def sig9 : Sig := ⟨(.cons (.one (.c (.ro (.cons (.ro (.cons .str (.cons (.int .u8) (.cons .str .nil)))) (.cons (.ro (.cons .str (.cons (.int .u8) (.cons .str .nil)))) (.cons (.ro (.cons .str .nil)) .nil)))))) (.cons (.agg (.cons (.int .u8) (.cons .str (.cons (.ro (.cons .str (.cons .str .nil))) (.cons (.int .u8) (.cons (.int .u64) (.cons (.int .u8) (.cons (.int .i64) .nil)))))))) (.cons (.one (.c (.ro (.cons (.int .u8) (.cons .str (.cons (.ro (.cons .str (.cons .str .nil))) (.cons (.int .u8) (.cons (.int .u64) (.cons (.int .u8) (.cons (.int .i64) .nil)))))))))) .nil))), (.cons (.one (.c .bool)) .nil)⟩
def F9_L859 : Nat →
  Arr
      [PT.list
          (CTs.cons (CT.int IntKind.u8)
            (CTs.cons CT.str
              (CTs.cons (CT.ro (CTs.cons CT.str (CTs.cons CT.str CTs.nil)))
                (CTs.cons (CT.int IntKind.u8)
                  (CTs.cons (CT.int IntKind.u64)
                    (CTs.cons (CT.int IntKind.u8) (CTs.cons (CT.int IntKind.i64) CTs.nil))))))),
        PT.list
          (CTs.cons (CT.ro (CTs.cons CT.str (CTs.cons (CT.int IntKind.u8) (CTs.cons CT.str CTs.nil))))
            (CTs.cons (CT.ro (CTs.cons CT.str (CTs.cons (CT.int IntKind.u8) (CTs.cons CT.str CTs.nil))))
              (CTs.cons (CT.ro (CTs.cons CT.str CTs.nil)) CTs.nil))),
        PT.int IntKind.i64, PT.int IntKind.i64, PT.int IntKind.u8, PT.bytes,
        PT.list (CTs.cons CT.str (CTs.cons CT.str CTs.nil)), PT.int IntKind.u8, PT.int IntKind.u64, PT.int IntKind.u8,
        PT.int IntKind.i64]
      (Option (Bool × Unit)) →
    Arr
        [PT.list
            (CTs.cons (CT.int IntKind.u8)
              (CTs.cons CT.str
                (CTs.cons (CT.ro (CTs.cons CT.str (CTs.cons CT.str CTs.nil)))
                  (CTs.cons (CT.int IntKind.u8)
                    (CTs.cons (CT.int IntKind.u64)
                      (CTs.cons (CT.int IntKind.u8) (CTs.cons (CT.int IntKind.i64) CTs.nil))))))),
          PT.list
            (CTs.cons (CT.ro (CTs.cons CT.str (CTs.cons (CT.int IntKind.u8) (CTs.cons CT.str CTs.nil))))
              (CTs.cons (CT.ro (CTs.cons CT.str (CTs.cons (CT.int IntKind.u8) (CTs.cons CT.str CTs.nil))))
                (CTs.cons (CT.ro (CTs.cons CT.str CTs.nil)) CTs.nil))),
          PT.int IntKind.i64, PT.int IntKind.i64,
          PT.list
            (CTs.cons (CT.int IntKind.u8)
              (CTs.cons CT.str
                (CTs.cons (CT.ro (CTs.cons CT.str (CTs.cons CT.str CTs.nil)))
                  (CTs.cons (CT.int IntKind.u8)
                    (CTs.cons (CT.int IntKind.u64)
                      (CTs.cons (CT.int IntKind.u8) (CTs.cons (CT.int IntKind.i64) CTs.nil))))))),
          PT.int IntKind.i64, PT.int IntKind.i64, PT.int IntKind.u8, PT.bytes,
          PT.list (CTs.cons CT.str (CTs.cons CT.str CTs.nil)), PT.int IntKind.u8, PT.int IntKind.u64, PT.int IntKind.u8,
          PT.int IntKind.i64, PT.list (CTs.cons CT.str (CTs.cons (CT.int IntKind.u8) (CTs.cons CT.str CTs.nil))),
          PT.list (CTs.cons CT.str (CTs.cons (CT.int IntKind.u8) (CTs.cons CT.str CTs.nil))),
          PT.list (CTs.cons CT.str CTs.nil)]
        (Option (Bool × Unit)) →
      List (UInt8 × List UInt8 × List (List UInt8 × List UInt8) × UInt8 × UInt64 × UInt8 × Int64) →
        List (List (List UInt8 × UInt8 × List UInt8) × List (List UInt8 × UInt8 × List UInt8) × List (List UInt8)) →
          Int64 →
            Int64 →
              List (UInt8 × List UInt8 × List (List UInt8 × List UInt8) × UInt8 × UInt64 × UInt8 × Int64) →
                Int64 →
                  Int64 →
                    UInt8 →
                      List UInt8 →
                        List (List UInt8 × List UInt8) →
                          UInt8 →
                            UInt64 →
                              UInt8 →
                                Int64 →
                                  List (List UInt8 × UInt8 × List UInt8) →
                                    List (List UInt8 × UInt8 × List UInt8) → List (List UInt8) → Option (Bool × Unit) := fun (n : Nat)
    (rec :
      Arr
        [PT.list
            (CTs.cons (CT.int IntKind.u8)
              (CTs.cons CT.str
                (CTs.cons (CT.ro (CTs.cons CT.str (CTs.cons CT.str CTs.nil)))
                  (CTs.cons (CT.int IntKind.u8)
                    (CTs.cons (CT.int IntKind.u64)
                      (CTs.cons (CT.int IntKind.u8) (CTs.cons (CT.int IntKind.i64) CTs.nil))))))),
          PT.list
            (CTs.cons (CT.ro (CTs.cons CT.str (CTs.cons (CT.int IntKind.u8) (CTs.cons CT.str CTs.nil))))
              (CTs.cons (CT.ro (CTs.cons CT.str (CTs.cons (CT.int IntKind.u8) (CTs.cons CT.str CTs.nil))))
                (CTs.cons (CT.ro (CTs.cons CT.str CTs.nil)) CTs.nil))),
          PT.int IntKind.i64, PT.int IntKind.i64, PT.int IntKind.u8, PT.bytes,
          PT.list (CTs.cons CT.str (CTs.cons CT.str CTs.nil)), PT.int IntKind.u8, PT.int IntKind.u64, PT.int IntKind.u8,
          PT.int IntKind.i64]
        (Option (Bool × Unit)))
    (rec_1 :
      Arr
        [PT.list
            (CTs.cons (CT.int IntKind.u8)
              (CTs.cons CT.str
                (CTs.cons (CT.ro (CTs.cons CT.str (CTs.cons CT.str CTs.nil)))
                  (CTs.cons (CT.int IntKind.u8)
                    (CTs.cons (CT.int IntKind.u64)
                      (CTs.cons (CT.int IntKind.u8) (CTs.cons (CT.int IntKind.i64) CTs.nil))))))),
          PT.list
            (CTs.cons (CT.ro (CTs.cons CT.str (CTs.cons (CT.int IntKind.u8) (CTs.cons CT.str CTs.nil))))
              (CTs.cons (CT.ro (CTs.cons CT.str (CTs.cons (CT.int IntKind.u8) (CTs.cons CT.str CTs.nil))))
                (CTs.cons (CT.ro (CTs.cons CT.str CTs.nil)) CTs.nil))),
          PT.int IntKind.i64, PT.int IntKind.i64,
          PT.list
            (CTs.cons (CT.int IntKind.u8)
              (CTs.cons CT.str
                (CTs.cons (CT.ro (CTs.cons CT.str (CTs.cons CT.str CTs.nil)))
                  (CTs.cons (CT.int IntKind.u8)
                    (CTs.cons (CT.int IntKind.u64)
                      (CTs.cons (CT.int IntKind.u8) (CTs.cons (CT.int IntKind.i64) CTs.nil))))))),
          PT.int IntKind.i64, PT.int IntKind.i64, PT.int IntKind.u8, PT.bytes,
          PT.list (CTs.cons CT.str (CTs.cons CT.str CTs.nil)), PT.int IntKind.u8, PT.int IntKind.u64, PT.int IntKind.u8,
          PT.int IntKind.i64, PT.list (CTs.cons CT.str (CTs.cons (CT.int IntKind.u8) (CTs.cons CT.str CTs.nil))),
          PT.list (CTs.cons CT.str (CTs.cons (CT.int IntKind.u8) (CTs.cons CT.str CTs.nil))),
          PT.list (CTs.cons CT.str CTs.nil)]
        (Option (Bool × Unit)))
    (all__1 : List (UInt8 × List UInt8 × List (List UInt8 × List UInt8) × UInt8 × UInt64 × UInt8 × Int64))
    (t_3 : List (List (List UInt8 × UInt8 × List UInt8) × List (List UInt8 × UInt8 × List UInt8) × List (List UInt8)))
    (t_1_1 t_2_1 : Int64)
    (t_3_1 : List (UInt8 × List UInt8 × List (List UInt8 × List UInt8) × UInt8 × UInt64 × UInt8 × Int64))
    (t_4 t_5 : Int64) (target0_1 : UInt8) (target1_1 : List UInt8) (target2_1 : List (List UInt8 × List UInt8))
    (target3_1 : UInt8) (target4_1 : UInt64) (target5_1 : UInt8) (target6_1 : Int64)
    (c0 c1 : List (List UInt8 × UInt8 × List UInt8)) (c2 : List (List UInt8)) =>
  oite (decide (t_5 < t_4))
    (obind (at? t_3_1 (Int64.toInt t_5))
      fun (x_2 : UInt8 × List UInt8 × List (List UInt8 × List UInt8) × UInt8 × UInt64 × UInt8 × Int64) =>
      obind
        (F7 n
          ((c0, c1, c2),
            (Prod.fst x_2, Prod.fst (Prod.snd x_2), Prod.fst (Prod.snd (Prod.snd x_2)),
              Prod.fst (Prod.snd (Prod.snd (Prod.snd x_2))), Prod.fst (Prod.snd (Prod.snd (Prod.snd (Prod.snd x_2)))),
              Prod.fst (Prod.snd (Prod.snd (Prod.snd (Prod.snd (Prod.snd x_2))))),
              Prod.snd (Prod.snd (Prod.snd (Prod.snd (Prod.snd (Prod.snd x_2)))))),
            target0_1, target1_1, target2_1, target3_1, target4_1, target5_1, target6_1))
        fun (x_3 : Bool × Unit) =>
        oite (Prod.fst x_3) (some (true, ()))
          (rec_1 all__1 t_3 t_1_1 t_2_1 t_3_1 t_4 (t_5 + (1 : Int64)) target0_1 target1_1 target2_1 target3_1 target4_1
            target5_1 target6_1 c0 c1 c2))
    (rec all__1 t_3 t_1_1 (t_2_1 + (1 : Int64)) target0_1 target1_1 target2_1 target3_1 target4_1 target5_1 target6_1)
def F9_R859 : Nat →
  Arr
      [PT.list
          (CTs.cons (CT.int IntKind.u8)
            (CTs.cons CT.str
              (CTs.cons (CT.ro (CTs.cons CT.str (CTs.cons CT.str CTs.nil)))
                (CTs.cons (CT.int IntKind.u8)
                  (CTs.cons (CT.int IntKind.u64)
                    (CTs.cons (CT.int IntKind.u8) (CTs.cons (CT.int IntKind.i64) CTs.nil))))))),
        PT.list
          (CTs.cons (CT.ro (CTs.cons CT.str (CTs.cons (CT.int IntKind.u8) (CTs.cons CT.str CTs.nil))))
            (CTs.cons (CT.ro (CTs.cons CT.str (CTs.cons (CT.int IntKind.u8) (CTs.cons CT.str CTs.nil))))
              (CTs.cons (CT.ro (CTs.cons CT.str CTs.nil)) CTs.nil))),
        PT.int IntKind.i64, PT.int IntKind.i64, PT.int IntKind.u8, PT.bytes,
        PT.list (CTs.cons CT.str (CTs.cons CT.str CTs.nil)), PT.int IntKind.u8, PT.int IntKind.u64, PT.int IntKind.u8,
        PT.int IntKind.i64]
      (Option (Bool × Unit)) →
    Nat →
      PT.T
          (PT.list
            (CTs.cons (CT.int IntKind.u8)
              (CTs.cons CT.str
                (CTs.cons (CT.ro (CTs.cons CT.str (CTs.cons CT.str CTs.nil)))
                  (CTs.cons (CT.int IntKind.u8)
                    (CTs.cons (CT.int IntKind.u64)
                      (CTs.cons (CT.int IntKind.u8) (CTs.cons (CT.int IntKind.i64) CTs.nil)))))))) →
        List (List (List UInt8 × UInt8 × List UInt8) × List (List UInt8 × UInt8 × List UInt8) × List (List UInt8)) →
          Int64 →
            Int64 →
              List (UInt8 × List UInt8 × List (List UInt8 × List UInt8) × UInt8 × UInt64 × UInt8 × Int64) →
                Int64 →
                  Int64 →
                    UInt8 →
                      List UInt8 →
                        List (List UInt8 × List UInt8) →
                          UInt8 →
                            UInt64 →
                              UInt8 →
                                Int64 →
                                  List (List UInt8 × UInt8 × List UInt8) →
                                    List (List UInt8 × UInt8 × List UInt8) → List (List UInt8) → Option (Bool × Unit) := fun (n : Nat)
    (rec :
      Arr
        [PT.list
            (CTs.cons (CT.int IntKind.u8)
              (CTs.cons CT.str
                (CTs.cons (CT.ro (CTs.cons CT.str (CTs.cons CT.str CTs.nil)))
                  (CTs.cons (CT.int IntKind.u8)
                    (CTs.cons (CT.int IntKind.u64)
                      (CTs.cons (CT.int IntKind.u8) (CTs.cons (CT.int IntKind.i64) CTs.nil))))))),
          PT.list
            (CTs.cons (CT.ro (CTs.cons CT.str (CTs.cons (CT.int IntKind.u8) (CTs.cons CT.str CTs.nil))))
              (CTs.cons (CT.ro (CTs.cons CT.str (CTs.cons (CT.int IntKind.u8) (CTs.cons CT.str CTs.nil))))
                (CTs.cons (CT.ro (CTs.cons CT.str CTs.nil)) CTs.nil))),
          PT.int IntKind.i64, PT.int IntKind.i64, PT.int IntKind.u8, PT.bytes,
          PT.list (CTs.cons CT.str (CTs.cons CT.str CTs.nil)), PT.int IntKind.u8, PT.int IntKind.u64, PT.int IntKind.u8,
          PT.int IntKind.i64]
        (Option (Bool × Unit))) =>
  ofixA (859 : Nat)
    [PT.list
        (CTs.cons (CT.int IntKind.u8)
          (CTs.cons CT.str
            (CTs.cons (CT.ro (CTs.cons CT.str (CTs.cons CT.str CTs.nil)))
              (CTs.cons (CT.int IntKind.u8)
                (CTs.cons (CT.int IntKind.u64)
                  (CTs.cons (CT.int IntKind.u8) (CTs.cons (CT.int IntKind.i64) CTs.nil))))))),
      PT.list
        (CTs.cons (CT.ro (CTs.cons CT.str (CTs.cons (CT.int IntKind.u8) (CTs.cons CT.str CTs.nil))))
          (CTs.cons (CT.ro (CTs.cons CT.str (CTs.cons (CT.int IntKind.u8) (CTs.cons CT.str CTs.nil))))
            (CTs.cons (CT.ro (CTs.cons CT.str CTs.nil)) CTs.nil))),
      PT.int IntKind.i64, PT.int IntKind.i64,
      PT.list
        (CTs.cons (CT.int IntKind.u8)
          (CTs.cons CT.str
            (CTs.cons (CT.ro (CTs.cons CT.str (CTs.cons CT.str CTs.nil)))
              (CTs.cons (CT.int IntKind.u8)
                (CTs.cons (CT.int IntKind.u64)
                  (CTs.cons (CT.int IntKind.u8) (CTs.cons (CT.int IntKind.i64) CTs.nil))))))),
      PT.int IntKind.i64, PT.int IntKind.i64, PT.int IntKind.u8, PT.bytes,
      PT.list (CTs.cons CT.str (CTs.cons CT.str CTs.nil)), PT.int IntKind.u8, PT.int IntKind.u64, PT.int IntKind.u8,
      PT.int IntKind.i64, PT.list (CTs.cons CT.str (CTs.cons (CT.int IntKind.u8) (CTs.cons CT.str CTs.nil))),
      PT.list (CTs.cons CT.str (CTs.cons (CT.int IntKind.u8) (CTs.cons CT.str CTs.nil))),
      PT.list (CTs.cons CT.str CTs.nil)]
    (F9_L859 n rec)
def F9_L13 : Nat →
  Arr
      [PT.list
          (CTs.cons (CT.int IntKind.u8)
            (CTs.cons CT.str
              (CTs.cons (CT.ro (CTs.cons CT.str (CTs.cons CT.str CTs.nil)))
                (CTs.cons (CT.int IntKind.u8)
                  (CTs.cons (CT.int IntKind.u64)
                    (CTs.cons (CT.int IntKind.u8) (CTs.cons (CT.int IntKind.i64) CTs.nil))))))),
        PT.list
          (CTs.cons (CT.ro (CTs.cons CT.str (CTs.cons (CT.int IntKind.u8) (CTs.cons CT.str CTs.nil))))
            (CTs.cons (CT.ro (CTs.cons CT.str (CTs.cons (CT.int IntKind.u8) (CTs.cons CT.str CTs.nil))))
              (CTs.cons (CT.ro (CTs.cons CT.str CTs.nil)) CTs.nil))),
        PT.int IntKind.i64, PT.int IntKind.i64, PT.int IntKind.u8, PT.bytes,
        PT.list (CTs.cons CT.str (CTs.cons CT.str CTs.nil)), PT.int IntKind.u8, PT.int IntKind.u64, PT.int IntKind.u8,
        PT.int IntKind.i64]
      (Option (Bool × Unit)) →
    List (UInt8 × List UInt8 × List (List UInt8 × List UInt8) × UInt8 × UInt64 × UInt8 × Int64) →
      List (List (List UInt8 × UInt8 × List UInt8) × List (List UInt8 × UInt8 × List UInt8) × List (List UInt8)) →
        Int64 →
          Int64 →
            UInt8 → List UInt8 → List (List UInt8 × List UInt8) → UInt8 → UInt64 → UInt8 → Int64 → Option (Bool × Unit) := fun (n : Nat)
    (rec :
      Arr
        [PT.list
            (CTs.cons (CT.int IntKind.u8)
              (CTs.cons CT.str
                (CTs.cons (CT.ro (CTs.cons CT.str (CTs.cons CT.str CTs.nil)))
                  (CTs.cons (CT.int IntKind.u8)
                    (CTs.cons (CT.int IntKind.u64)
                      (CTs.cons (CT.int IntKind.u8) (CTs.cons (CT.int IntKind.i64) CTs.nil))))))),
          PT.list
            (CTs.cons (CT.ro (CTs.cons CT.str (CTs.cons (CT.int IntKind.u8) (CTs.cons CT.str CTs.nil))))
              (CTs.cons (CT.ro (CTs.cons CT.str (CTs.cons (CT.int IntKind.u8) (CTs.cons CT.str CTs.nil))))
                (CTs.cons (CT.ro (CTs.cons CT.str CTs.nil)) CTs.nil))),
          PT.int IntKind.i64, PT.int IntKind.i64, PT.int IntKind.u8, PT.bytes,
          PT.list (CTs.cons CT.str (CTs.cons CT.str CTs.nil)), PT.int IntKind.u8, PT.int IntKind.u64, PT.int IntKind.u8,
          PT.int IntKind.i64]
        (Option (Bool × Unit)))
    (all_ : List (UInt8 × List UInt8 × List (List UInt8 × List UInt8) × UInt8 × UInt64 × UInt8 × Int64))
    (t : List (List (List UInt8 × UInt8 × List UInt8) × List (List UInt8 × UInt8 × List UInt8) × List (List UInt8)))
    (t_1 t_2 : Int64) (target0 : UInt8) (target1 : List UInt8) (target2 : List (List UInt8 × List UInt8))
    (target3 : UInt8) (target4 : UInt64) (target5 : UInt8) (target6 : Int64) =>
  oite (decide (t_2 < t_1))
    (obind (at? t (Int64.toInt t_2))
      fun (x_1 : List (List UInt8 × UInt8 × List UInt8) × List (List UInt8 × UInt8 × List UInt8) × List (List UInt8)) =>
      F9_R859 n rec n all_ t t_1 t_2 all_ (Int64.ofInt ↑(List.length all_)) (0 : Int64) target0 target1 target2 target3
        target4 target5 target6 (Prod.fst x_1) (Prod.fst (Prod.snd x_1)) (Prod.snd (Prod.snd x_1)))
    (some (false, ()))
def F9_R13 : Nat →
  Nat →
    PT.T
        (PT.list
          (CTs.cons (CT.int IntKind.u8)
            (CTs.cons CT.str
              (CTs.cons (CT.ro (CTs.cons CT.str (CTs.cons CT.str CTs.nil)))
                (CTs.cons (CT.int IntKind.u8)
                  (CTs.cons (CT.int IntKind.u64)
                    (CTs.cons (CT.int IntKind.u8) (CTs.cons (CT.int IntKind.i64) CTs.nil)))))))) →
      List (List (List UInt8 × UInt8 × List UInt8) × List (List UInt8 × UInt8 × List UInt8) × List (List UInt8)) →
        Int64 →
          Int64 →
            UInt8 → List UInt8 → List (List UInt8 × List UInt8) → UInt8 → UInt64 → UInt8 → Int64 → Option (Bool × Unit) := fun (n : Nat) =>
  ofixA (13 : Nat)
    [PT.list
        (CTs.cons (CT.int IntKind.u8)
          (CTs.cons CT.str
            (CTs.cons (CT.ro (CTs.cons CT.str (CTs.cons CT.str CTs.nil)))
              (CTs.cons (CT.int IntKind.u8)
                (CTs.cons (CT.int IntKind.u64)
                  (CTs.cons (CT.int IntKind.u8) (CTs.cons (CT.int IntKind.i64) CTs.nil))))))),
      PT.list
        (CTs.cons (CT.ro (CTs.cons CT.str (CTs.cons (CT.int IntKind.u8) (CTs.cons CT.str CTs.nil))))
          (CTs.cons (CT.ro (CTs.cons CT.str (CTs.cons (CT.int IntKind.u8) (CTs.cons CT.str CTs.nil))))
            (CTs.cons (CT.ro (CTs.cons CT.str CTs.nil)) CTs.nil))),
      PT.int IntKind.i64, PT.int IntKind.i64, PT.int IntKind.u8, PT.bytes,
      PT.list (CTs.cons CT.str (CTs.cons CT.str CTs.nil)), PT.int IntKind.u8, PT.int IntKind.u64, PT.int IntKind.u8,
      PT.int IntKind.i64]
    (F9_L13 n)
def F9 : Nat →
  List (List (List UInt8 × UInt8 × List UInt8) × List (List UInt8 × UInt8 × List UInt8) × List (List UInt8)) ×
      (UInt8 × List UInt8 × List (List UInt8 × List UInt8) × UInt8 × UInt64 × UInt8 × Int64) ×
        List (UInt8 × List UInt8 × List (List UInt8 × List UInt8) × UInt8 × UInt64 × UInt8 × Int64) →
    Option (Bool × Unit) := fun (n : Nat)
    (x :
      List (List (List UInt8 × UInt8 × List UInt8) × List (List UInt8 × UInt8 × List UInt8) × List (List UInt8)) ×
        (UInt8 × List UInt8 × List (List UInt8 × List UInt8) × UInt8 × UInt64 × UInt8 × Int64) ×
          List (UInt8 × List UInt8 × List (List UInt8 × List UInt8) × UInt8 × UInt64 × UInt8 × Int64)) =>
  F9_R13 n n (Prod.snd (Prod.snd x)) (Prod.fst x) (Int64.ofInt ↑(List.length (Prod.fst x))) (0 : Int64)
    (Prod.fst (Prod.fst (Prod.snd x))) (Prod.fst (Prod.snd (Prod.fst (Prod.snd x))))
    (Prod.fst (Prod.snd (Prod.snd (Prod.fst (Prod.snd x)))))
    (Prod.fst (Prod.snd (Prod.snd (Prod.snd (Prod.fst (Prod.snd x))))))
    (Prod.fst (Prod.snd (Prod.snd (Prod.snd (Prod.snd (Prod.fst (Prod.snd x)))))))
    (Prod.fst (Prod.snd (Prod.snd (Prod.snd (Prod.snd (Prod.snd (Prod.fst (Prod.snd x))))))))
    (Prod.snd (Prod.snd (Prod.snd (Prod.snd (Prod.snd (Prod.snd (Prod.fst (Prod.snd x))))))))
theorem F9_R859_s (n : Nat) (rec : Arr [PT.list (CTs.cons (CT.int IntKind.u8) (CTs.cons CT.str (CTs.cons (CT.ro (CTs.cons CT.str (CTs.cons CT.str CTs.nil))) (CTs.cons (CT.int IntKind.u8) (CTs.cons (CT.int IntKind.u64) (CTs.cons (CT.int IntKind.u8) (CTs.cons (CT.int IntKind.i64) CTs.nil))))))), PT.list (CTs.cons (CT.ro (CTs.cons CT.str (CTs.cons (CT.int IntKind.u8) (CTs.cons CT.str CTs.nil)))) (CTs.cons (CT.ro (CTs.cons CT.str (CTs.cons (CT.int IntKind.u8) (CTs.cons CT.str CTs.nil)))) (CTs.cons (CT.ro (CTs.cons CT.str CTs.nil)) CTs.nil))), PT.int IntKind.i64, PT.int IntKind.i64, PT.int IntKind.u8, PT.bytes, PT.list (CTs.cons CT.str (CTs.cons CT.str CTs.nil)), PT.int IntKind.u8, PT.int IntKind.u64, PT.int IntKind.u8, PT.int IntKind.i64] (Option (Bool × Unit))) (m_ : Nat) : F9_R859 n rec (m_ + 1) = F9_L859 n rec (F9_R859 n rec m_) := rfl
theorem F9_R13_s (n : Nat) (m_ : Nat) : F9_R13 n (m_ + 1) = F9_L13 n (F9_R13 n m_) := rfl
theorem ok9 (n : Nat) : FunOK Try.prog ⟨9, sig9, F9 n⟩ :=
  fun_ok (hints := ⟨[], [(13, ⟨[(2, .one (.ro (.cons (.int .u8) (.cons .str (.cons (.ro (.cons .str (.cons .str .nil))) (.cons (.int .u8) (.cons (.int .u64) (.cons (.int .u8) (.cons (.int .i64) .nil))))))))), (4, .one (.own 3)), (11, .one (.ro (.cons (.ro (.cons .str (.cons (.int .u8) (.cons .str .nil)))) (.cons (.ro (.cons .str (.cons (.int .u8) (.cons .str .nil)))) (.cons (.ro (.cons .str .nil)) .nil))))), (12, .one (.int .i64)), (13, .one (.int .i64))], [(3, .cells [.int .u8, .str, .ro (.cons .str (.cons .str .nil)), .int .u8, .int .u64, .int .u8, .int .i64])], 4⟩), (859, ⟨[(2, .one (.ro (.cons (.int .u8) (.cons .str (.cons (.ro (.cons .str (.cons .str .nil))) (.cons (.int .u8) (.cons (.int .u64) (.cons (.int .u8) (.cons (.int .i64) .nil))))))))), (4, .one (.own 3)), (8, .one (.own 4)), (11, .one (.ro (.cons (.ro (.cons .str (.cons (.int .u8) (.cons .str .nil)))) (.cons (.ro (.cons .str (.cons (.int .u8) (.cons .str .nil)))) (.cons (.ro (.cons .str .nil)) .nil))))), (12, .one (.int .i64)), (13, .one (.int .i64)), (17, .one (.ro (.cons (.int .u8) (.cons .str (.cons (.ro (.cons .str (.cons .str .nil))) (.cons (.int .u8) (.cons (.int .u64) (.cons (.int .u8) (.cons (.int .i64) .nil))))))))), (18, .one (.int .i64)), (19, .one (.int .i64))], [(3, .cells [.int .u8, .str, .ro (.cons .str (.cons .str .nil)), .int .u8, .int .u64, .int .u8, .int .i64]), (4, .cells [.ro (.cons .str (.cons (.int .u8) (.cons .str .nil))), .ro (.cons .str (.cons (.int .u8) (.cons .str .nil))), .ro (.cons .str .nil)])], 5⟩)]⟩) (fuel := n) (c := Try.f9.body.getD .skip) (rs := Try.f9.results.toList) tt_ok mix (FsOK.cons (ok7 n) (FsOK.nil)) Try.func9 (by kernel_rfl) (by kernel_rfl) rfl (by kernel_rfl) rfl rfl (by kernel_rfl)
-- watchfire/curb.Free
def sig8 : Sig := ⟨(.cons (.one (.c (.ro (.cons (.ro (.cons .str (.cons (.int .u8) (.cons .str .nil)))) (.cons (.ro (.cons .str (.cons (.int .u8) (.cons .str .nil)))) (.cons (.ro (.cons .str .nil)) .nil)))))) (.cons (.one (.c (.ro (.cons (.int .u8) (.cons .str (.cons (.ro (.cons .str (.cons .str .nil))) (.cons (.int .u8) (.cons (.int .u64) (.cons (.int .u8) (.cons (.int .i64) .nil)))))))))) .nil)), (.cons (.one (.c (.ro (.cons (.int .u8) (.cons .str (.cons (.ro (.cons .str (.cons .str .nil))) (.cons (.int .u8) (.cons (.int .u64) (.cons (.int .u8) (.cons (.int .i64) .nil)))))))))) .nil)⟩
def F8_L29 : Nat →
  Arr
      [PT.list
          (CTs.cons (CT.ro (CTs.cons CT.str (CTs.cons (CT.int IntKind.u8) (CTs.cons CT.str CTs.nil))))
            (CTs.cons (CT.ro (CTs.cons CT.str (CTs.cons (CT.int IntKind.u8) (CTs.cons CT.str CTs.nil))))
              (CTs.cons (CT.ro (CTs.cons CT.str CTs.nil)) CTs.nil))),
        PT.list
          (CTs.cons (CT.int IntKind.u8)
            (CTs.cons CT.str
              (CTs.cons (CT.ro (CTs.cons CT.str (CTs.cons CT.str CTs.nil)))
                (CTs.cons (CT.int IntKind.u8)
                  (CTs.cons (CT.int IntKind.u64)
                    (CTs.cons (CT.int IntKind.u8) (CTs.cons (CT.int IntKind.i64) CTs.nil))))))),
        PT.list
          (CTs.cons (CT.int IntKind.u8)
            (CTs.cons CT.str
              (CTs.cons (CT.ro (CTs.cons CT.str (CTs.cons CT.str CTs.nil)))
                (CTs.cons (CT.int IntKind.u8)
                  (CTs.cons (CT.int IntKind.u64)
                    (CTs.cons (CT.int IntKind.u8) (CTs.cons (CT.int IntKind.i64) CTs.nil))))))),
        PT.int IntKind.i64, PT.int IntKind.i64,
        PT.list
          (CTs.cons (CT.int IntKind.u8)
            (CTs.cons CT.str
              (CTs.cons (CT.ro (CTs.cons CT.str (CTs.cons CT.str CTs.nil)))
                (CTs.cons (CT.int IntKind.u8)
                  (CTs.cons (CT.int IntKind.u64)
                    (CTs.cons (CT.int IntKind.u8) (CTs.cons (CT.int IntKind.i64) CTs.nil)))))))]
      (Option (List (UInt8 × List UInt8 × List (List UInt8 × List UInt8) × UInt8 × UInt64 × UInt8 × Int64) × Unit)) →
    List (List (List UInt8 × UInt8 × List UInt8) × List (List UInt8 × UInt8 × List UInt8) × List (List UInt8)) →
      List (UInt8 × List UInt8 × List (List UInt8 × List UInt8) × UInt8 × UInt64 × UInt8 × Int64) →
        List (UInt8 × List UInt8 × List (List UInt8 × List UInt8) × UInt8 × UInt64 × UInt8 × Int64) →
          Int64 →
            Int64 →
              List (UInt8 × List UInt8 × List (List UInt8 × List UInt8) × UInt8 × UInt64 × UInt8 × Int64) →
                Option
                  (List (UInt8 × List UInt8 × List (List UInt8 × List UInt8) × UInt8 × UInt64 × UInt8 × Int64) × Unit) := fun (n : Nat)
    (rec :
      Arr
        [PT.list
            (CTs.cons (CT.ro (CTs.cons CT.str (CTs.cons (CT.int IntKind.u8) (CTs.cons CT.str CTs.nil))))
              (CTs.cons (CT.ro (CTs.cons CT.str (CTs.cons (CT.int IntKind.u8) (CTs.cons CT.str CTs.nil))))
                (CTs.cons (CT.ro (CTs.cons CT.str CTs.nil)) CTs.nil))),
          PT.list
            (CTs.cons (CT.int IntKind.u8)
              (CTs.cons CT.str
                (CTs.cons (CT.ro (CTs.cons CT.str (CTs.cons CT.str CTs.nil)))
                  (CTs.cons (CT.int IntKind.u8)
                    (CTs.cons (CT.int IntKind.u64)
                      (CTs.cons (CT.int IntKind.u8) (CTs.cons (CT.int IntKind.i64) CTs.nil))))))),
          PT.list
            (CTs.cons (CT.int IntKind.u8)
              (CTs.cons CT.str
                (CTs.cons (CT.ro (CTs.cons CT.str (CTs.cons CT.str CTs.nil)))
                  (CTs.cons (CT.int IntKind.u8)
                    (CTs.cons (CT.int IntKind.u64)
                      (CTs.cons (CT.int IntKind.u8) (CTs.cons (CT.int IntKind.i64) CTs.nil))))))),
          PT.int IntKind.i64, PT.int IntKind.i64,
          PT.list
            (CTs.cons (CT.int IntKind.u8)
              (CTs.cons CT.str
                (CTs.cons (CT.ro (CTs.cons CT.str (CTs.cons CT.str CTs.nil)))
                  (CTs.cons (CT.int IntKind.u8)
                    (CTs.cons (CT.int IntKind.u64)
                      (CTs.cons (CT.int IntKind.u8) (CTs.cons (CT.int IntKind.i64) CTs.nil)))))))]
        (Option (List (UInt8 × List UInt8 × List (List UInt8 × List UInt8) × UInt8 × UInt64 × UInt8 × Int64) × Unit)))
    (l : List (List (List UInt8 × UInt8 × List UInt8) × List (List UInt8 × UInt8 × List UInt8) × List (List UInt8)))
    (all_ t : List (UInt8 × List UInt8 × List (List UInt8 × List UInt8) × UInt8 × UInt64 × UInt8 × Int64))
    (t_1 t_2 : Int64)
    (out : List (UInt8 × List UInt8 × List (List UInt8 × List UInt8) × UInt8 × UInt64 × UInt8 × Int64)) =>
  oite (decide (t_2 < t_1))
    (obind (at? t (Int64.toInt t_2))
      fun (x_1 : UInt8 × List UInt8 × List (List UInt8 × List UInt8) × UInt8 × UInt64 × UInt8 × Int64) =>
      obind
        (F9 n
          (l,
            (Prod.fst x_1, Prod.fst (Prod.snd x_1), Prod.fst (Prod.snd (Prod.snd x_1)),
              Prod.fst (Prod.snd (Prod.snd (Prod.snd x_1))), Prod.fst (Prod.snd (Prod.snd (Prod.snd (Prod.snd x_1)))),
              Prod.fst (Prod.snd (Prod.snd (Prod.snd (Prod.snd (Prod.snd x_1))))),
              Prod.snd (Prod.snd (Prod.snd (Prod.snd (Prod.snd (Prod.snd x_1)))))),
            all_))
        fun (x_2 : Bool × Unit) =>
        oite (!Prod.fst x_2)
          (oite
            (Nat.ble
              (List.length out +
                List.length
                  [(Prod.fst x_1, Prod.fst (Prod.snd x_1), Prod.fst (Prod.snd (Prod.snd x_1)),
                      Prod.fst (Prod.snd (Prod.snd (Prod.snd x_1))),
                      Prod.fst (Prod.snd (Prod.snd (Prod.snd (Prod.snd x_1)))),
                      Prod.fst (Prod.snd (Prod.snd (Prod.snd (Prod.snd (Prod.snd x_1))))),
                      Prod.snd (Prod.snd (Prod.snd (Prod.snd (Prod.snd (Prod.snd x_1))))))])
              (4294967296 : Nat))
            (rec l all_ t t_1 (t_2 + (1 : Int64))
              (out ++
                [(Prod.fst x_1, Prod.fst (Prod.snd x_1), Prod.fst (Prod.snd (Prod.snd x_1)),
                    Prod.fst (Prod.snd (Prod.snd (Prod.snd x_1))),
                    Prod.fst (Prod.snd (Prod.snd (Prod.snd (Prod.snd x_1)))),
                    Prod.fst (Prod.snd (Prod.snd (Prod.snd (Prod.snd (Prod.snd x_1))))),
                    Prod.snd (Prod.snd (Prod.snd (Prod.snd (Prod.snd (Prod.snd x_1))))))]))
            none)
          (rec l all_ t t_1 (t_2 + (1 : Int64)) out))
    (some (out, ()))
def F8_R29 : Nat →
  Nat →
    PT.T
        (PT.list
          (CTs.cons (CT.ro (CTs.cons CT.str (CTs.cons (CT.int IntKind.u8) (CTs.cons CT.str CTs.nil))))
            (CTs.cons (CT.ro (CTs.cons CT.str (CTs.cons (CT.int IntKind.u8) (CTs.cons CT.str CTs.nil))))
              (CTs.cons (CT.ro (CTs.cons CT.str CTs.nil)) CTs.nil)))) →
      List (UInt8 × List UInt8 × List (List UInt8 × List UInt8) × UInt8 × UInt64 × UInt8 × Int64) →
        List (UInt8 × List UInt8 × List (List UInt8 × List UInt8) × UInt8 × UInt64 × UInt8 × Int64) →
          Int64 →
            Int64 →
              List (UInt8 × List UInt8 × List (List UInt8 × List UInt8) × UInt8 × UInt64 × UInt8 × Int64) →
                Option
                  (List (UInt8 × List UInt8 × List (List UInt8 × List UInt8) × UInt8 × UInt64 × UInt8 × Int64) × Unit) := fun (n : Nat) =>
  ofixA (29 : Nat)
    [PT.list
        (CTs.cons (CT.ro (CTs.cons CT.str (CTs.cons (CT.int IntKind.u8) (CTs.cons CT.str CTs.nil))))
          (CTs.cons (CT.ro (CTs.cons CT.str (CTs.cons (CT.int IntKind.u8) (CTs.cons CT.str CTs.nil))))
            (CTs.cons (CT.ro (CTs.cons CT.str CTs.nil)) CTs.nil))),
      PT.list
        (CTs.cons (CT.int IntKind.u8)
          (CTs.cons CT.str
            (CTs.cons (CT.ro (CTs.cons CT.str (CTs.cons CT.str CTs.nil)))
              (CTs.cons (CT.int IntKind.u8)
                (CTs.cons (CT.int IntKind.u64)
                  (CTs.cons (CT.int IntKind.u8) (CTs.cons (CT.int IntKind.i64) CTs.nil))))))),
      PT.list
        (CTs.cons (CT.int IntKind.u8)
          (CTs.cons CT.str
            (CTs.cons (CT.ro (CTs.cons CT.str (CTs.cons CT.str CTs.nil)))
              (CTs.cons (CT.int IntKind.u8)
                (CTs.cons (CT.int IntKind.u64)
                  (CTs.cons (CT.int IntKind.u8) (CTs.cons (CT.int IntKind.i64) CTs.nil))))))),
      PT.int IntKind.i64, PT.int IntKind.i64,
      PT.list
        (CTs.cons (CT.int IntKind.u8)
          (CTs.cons CT.str
            (CTs.cons (CT.ro (CTs.cons CT.str (CTs.cons CT.str CTs.nil)))
              (CTs.cons (CT.int IntKind.u8)
                (CTs.cons (CT.int IntKind.u64)
                  (CTs.cons (CT.int IntKind.u8) (CTs.cons (CT.int IntKind.i64) CTs.nil)))))))]
    (F8_L29 n)
def F8 : Nat →
  List (List (List UInt8 × UInt8 × List UInt8) × List (List UInt8 × UInt8 × List UInt8) × List (List UInt8)) ×
      List (UInt8 × List UInt8 × List (List UInt8 × List UInt8) × UInt8 × UInt64 × UInt8 × Int64) →
    Option (List (UInt8 × List UInt8 × List (List UInt8 × List UInt8) × UInt8 × UInt64 × UInt8 × Int64) × Unit) := fun (n : Nat)
    (x :
      List (List (List UInt8 × UInt8 × List UInt8) × List (List UInt8 × UInt8 × List UInt8) × List (List UInt8)) ×
        List (UInt8 × List UInt8 × List (List UInt8 × List UInt8) × UInt8 × UInt64 × UInt8 × Int64)) =>
  F8_R29 n n (Prod.fst x) (Prod.snd x) (Prod.snd x) (Int64.ofInt ↑(List.length (Prod.snd x))) (0 : Int64) []
theorem F8_R29_s (n : Nat) (m_ : Nat) : F8_R29 n (m_ + 1) = F8_L29 n (F8_R29 n m_) := rfl
theorem ok8 (n : Nat) : FunOK Try.prog ⟨8, sig8, F8 n⟩ :=
  fun_ok (hints := ⟨[], [(29, ⟨[(0, .one (.ro (.cons (.ro (.cons .str (.cons (.int .u8) (.cons .str .nil)))) (.cons (.ro (.cons .str (.cons (.int .u8) (.cons .str .nil)))) (.cons (.ro (.cons .str .nil)) .nil))))), (1, .one (.ro (.cons (.int .u8) (.cons .str (.cons (.ro (.cons .str (.cons .str .nil))) (.cons (.int .u8) (.cons (.int .u64) (.cons (.int .u8) (.cons (.int .i64) .nil))))))))), (5, .one (.own 2)), (8, .one (.ro (.cons (.int .u8) (.cons .str (.cons (.ro (.cons .str (.cons .str .nil))) (.cons (.int .u8) (.cons (.int .u64) (.cons (.int .u8) (.cons (.int .i64) .nil))))))))), (9, .one (.int .i64)), (10, .one (.int .i64))], [(2, .row (.cons (.int .u8) (.cons .str (.cons (.ro (.cons .str (.cons .str .nil))) (.cons (.int .u8) (.cons (.int .u64) (.cons (.int .u8) (.cons (.int .i64) .nil))))))))], 3⟩)]⟩) (fuel := n) (c := Try.f8.body.getD .skip) (rs := Try.f8.results.toList) tt_ok mix (FsOK.cons (ok9 n) (FsOK.nil)) Try.func8 (by kernel_rfl) (by kernel_rfl) rfl (by kernel_rfl) rfl rfl (by kernel_rfl)
-- watchfire/watchfirelaw19.CurbNever
def sig3 : Sig := ⟨(.cons (.agg (.cons (.ro (.cons .str (.cons (.int .u8) (.cons .str .nil)))) (.cons (.ro (.cons .str (.cons (.int .u8) (.cons .str .nil)))) (.cons (.ro (.cons .str .nil)) .nil)))) (.cons (.agg (.cons (.int .u8) (.cons .str (.cons (.ro (.cons .str (.cons .str .nil))) (.cons (.int .u8) (.cons (.int .u64) (.cons (.int .u8) (.cons (.int .i64) .nil)))))))) (.cons (.agg (.cons (.int .u8) (.cons .str (.cons (.ro (.cons .str (.cons .str .nil))) (.cons (.int .u8) (.cons (.int .u64) (.cons (.int .u8) (.cons (.int .i64) .nil)))))))) (.cons (.one (.c (.ro (.cons (.int .u8) (.cons (.int .u8) (.cons (.int .u8) (.cons (.int .u8) (.cons (.int .u8) (.cons (.int .u8) .nil))))))))) .nil)))), (.cons (.one (.c .bool)) .nil)⟩
def F3_J63 : Nat →
  List (List UInt8 × UInt8 × List UInt8) →
    List (List UInt8 × UInt8 × List UInt8) →
      List (List UInt8) →
        UInt8 →
          List UInt8 →
            List (List UInt8 × List UInt8) →
              UInt8 →
                UInt64 →
                  UInt8 →
                    Int64 →
                      List (UInt8 × List UInt8 × List (List UInt8 × List UInt8) × UInt8 × UInt64 × UInt8 × Int64) →
                        Option (Bool × Unit) := fun (n : Nat) (c0_1 c1_1 : List (List UInt8 × UInt8 × List UInt8)) (c2_1 : List (List UInt8)) (a0_1 : UInt8)
    (a1_1 : List UInt8) (a2_1 : List (List UInt8 × List UInt8)) (a3_1 : UInt8) (a4_1 : UInt64) (a5_1 : UInt8)
    (a6_1 : Int64)
    (all__1 : List (UInt8 × List UInt8 × List (List UInt8 × List UInt8) × UInt8 × UInt64 × UInt8 × Int64)) =>
  obind (F8 n ([], all__1))
    fun (x_2 : List (UInt8 × List UInt8 × List (List UInt8 × List UInt8) × UInt8 × UInt64 × UInt8 × Int64) × Unit) =>
    oite (decide (Int64.ofInt ↑(List.length (Prod.fst x_2)) = Int64.ofInt ↑(List.length all__1)))
      (obind (F9 n ([], (a0_1, a1_1, a2_1, a3_1, a4_1, a5_1, a6_1), all__1)) fun (x_3 : Bool × Unit) =>
        oite (!Prod.fst x_3)
          (obind (F9 n ([(c0_1, c1_1, c2_1)], (a0_1, a1_1, a2_1, a3_1, a4_1, a5_1, a6_1), []))
            fun (x_4 : Bool × Unit) => some (!Prod.fst x_4, ()))
          (some (false, ())))
      (some (false, ()))
def F3_L125 : Nat →
  Arr
      [PT.list
          (CTs.cons (CT.int IntKind.u8)
            (CTs.cons (CT.int IntKind.u8)
              (CTs.cons (CT.int IntKind.u8)
                (CTs.cons (CT.int IntKind.u8) (CTs.cons (CT.int IntKind.u8) (CTs.cons (CT.int IntKind.u8) CTs.nil)))))),
        PT.int IntKind.i64, PT.int IntKind.i64,
        PT.list (CTs.cons CT.str (CTs.cons (CT.int IntKind.u8) (CTs.cons CT.str CTs.nil))),
        PT.list (CTs.cons CT.str (CTs.cons (CT.int IntKind.u8) (CTs.cons CT.str CTs.nil))),
        PT.list (CTs.cons CT.str CTs.nil), PT.int IntKind.u8, PT.bytes,
        PT.list (CTs.cons CT.str (CTs.cons CT.str CTs.nil)), PT.int IntKind.u8, PT.int IntKind.u64, PT.int IntKind.u8,
        PT.int IntKind.i64, PT.int IntKind.u8, PT.bytes, PT.list (CTs.cons CT.str (CTs.cons CT.str CTs.nil)),
        PT.int IntKind.u8, PT.int IntKind.u64, PT.int IntKind.u8, PT.int IntKind.i64,
        PT.list
          (CTs.cons (CT.int IntKind.u8)
            (CTs.cons CT.str
              (CTs.cons (CT.ro (CTs.cons CT.str (CTs.cons CT.str CTs.nil)))
                (CTs.cons (CT.int IntKind.u8)
                  (CTs.cons (CT.int IntKind.u64)
                    (CTs.cons (CT.int IntKind.u8) (CTs.cons (CT.int IntKind.i64) CTs.nil)))))))]
      (Option (Bool × Unit)) →
    List (UInt8 × UInt8 × UInt8 × UInt8 × UInt8 × UInt8) →
      Int64 →
        Int64 →
          List (List UInt8 × UInt8 × List UInt8) →
            List (List UInt8 × UInt8 × List UInt8) →
              List (List UInt8) →
                UInt8 →
                  List UInt8 →
                    List (List UInt8 × List UInt8) →
                      UInt8 →
                        UInt64 →
                          UInt8 →
                            Int64 →
                              UInt8 →
                                List UInt8 →
                                  List (List UInt8 × List UInt8) →
                                    UInt8 →
                                      UInt64 →
                                        UInt8 →
                                          Int64 →
                                            List
                                                (UInt8 ×
                                                  List UInt8 ×
                                                    List (List UInt8 × List UInt8) × UInt8 × UInt64 × UInt8 × Int64) →
                                              Option (Bool × Unit) := fun (n : Nat)
    (rec :
      Arr
        [PT.list
            (CTs.cons (CT.int IntKind.u8)
              (CTs.cons (CT.int IntKind.u8)
                (CTs.cons (CT.int IntKind.u8)
                  (CTs.cons (CT.int IntKind.u8)
                    (CTs.cons (CT.int IntKind.u8) (CTs.cons (CT.int IntKind.u8) CTs.nil)))))),
          PT.int IntKind.i64, PT.int IntKind.i64,
          PT.list (CTs.cons CT.str (CTs.cons (CT.int IntKind.u8) (CTs.cons CT.str CTs.nil))),
          PT.list (CTs.cons CT.str (CTs.cons (CT.int IntKind.u8) (CTs.cons CT.str CTs.nil))),
          PT.list (CTs.cons CT.str CTs.nil), PT.int IntKind.u8, PT.bytes,
          PT.list (CTs.cons CT.str (CTs.cons CT.str CTs.nil)), PT.int IntKind.u8, PT.int IntKind.u64, PT.int IntKind.u8,
          PT.int IntKind.i64, PT.int IntKind.u8, PT.bytes, PT.list (CTs.cons CT.str (CTs.cons CT.str CTs.nil)),
          PT.int IntKind.u8, PT.int IntKind.u64, PT.int IntKind.u8, PT.int IntKind.i64,
          PT.list
            (CTs.cons (CT.int IntKind.u8)
              (CTs.cons CT.str
                (CTs.cons (CT.ro (CTs.cons CT.str (CTs.cons CT.str CTs.nil)))
                  (CTs.cons (CT.int IntKind.u8)
                    (CTs.cons (CT.int IntKind.u64)
                      (CTs.cons (CT.int IntKind.u8) (CTs.cons (CT.int IntKind.i64) CTs.nil)))))))]
        (Option (Bool × Unit)))
    (t : List (UInt8 × UInt8 × UInt8 × UInt8 × UInt8 × UInt8)) (t_1 t_2 : Int64)
    (c0 c1 : List (List UInt8 × UInt8 × List UInt8)) (c2 : List (List UInt8)) (a0 : UInt8) (a1 : List UInt8)
    (a2 : List (List UInt8 × List UInt8)) (a3 : UInt8) (a4 : UInt64) (a5 : UInt8) (a6 : Int64) (b0 : UInt8)
    (b1 : List UInt8) (b2 : List (List UInt8 × List UInt8)) (b3 : UInt8) (b4 : UInt64) (b5 : UInt8) (b6 : Int64)
    (all_ : List (UInt8 × List UInt8 × List (List UInt8 × List UInt8) × UInt8 × UInt64 × UInt8 × Int64)) =>
  oite (decide (t_2 < t_1))
    (obind (at? t (Int64.toInt t_2)) fun (x_2 : UInt8 × UInt8 × UInt8 × UInt8 × UInt8 × UInt8) =>
      obind
        (F6 n
          (Prod.fst x_2, Prod.fst (Prod.snd x_2), Prod.fst (Prod.snd (Prod.snd x_2)),
            Prod.fst (Prod.snd (Prod.snd (Prod.snd x_2))), Prod.fst (Prod.snd (Prod.snd (Prod.snd (Prod.snd x_2)))),
            Prod.snd (Prod.snd (Prod.snd (Prod.snd (Prod.snd x_2))))))
        fun (x_3 : (UInt8 × List UInt8 × List (List UInt8 × List UInt8) × UInt8 × UInt64 × UInt8 × Int64) × Unit) =>
        oite
          (Nat.ble
            (List.length all_ +
              List.length
                [(Prod.fst (Prod.fst x_3), Prod.fst (Prod.snd (Prod.fst x_3)),
                    Prod.fst (Prod.snd (Prod.snd (Prod.fst x_3))),
                    Prod.fst (Prod.snd (Prod.snd (Prod.snd (Prod.fst x_3)))),
                    Prod.fst (Prod.snd (Prod.snd (Prod.snd (Prod.snd (Prod.fst x_3))))),
                    Prod.fst (Prod.snd (Prod.snd (Prod.snd (Prod.snd (Prod.snd (Prod.fst x_3)))))),
                    Prod.snd (Prod.snd (Prod.snd (Prod.snd (Prod.snd (Prod.snd (Prod.fst x_3)))))))])
            (4294967296 : Nat))
          (rec t t_1 (t_2 + (1 : Int64)) c0 c1 c2 a0 a1 a2 a3 a4 a5 a6 b0 b1 b2 b3 b4 b5 b6
            (all_ ++
              [(Prod.fst (Prod.fst x_3), Prod.fst (Prod.snd (Prod.fst x_3)),
                  Prod.fst (Prod.snd (Prod.snd (Prod.fst x_3))),
                  Prod.fst (Prod.snd (Prod.snd (Prod.snd (Prod.fst x_3)))),
                  Prod.fst (Prod.snd (Prod.snd (Prod.snd (Prod.snd (Prod.fst x_3))))),
                  Prod.fst (Prod.snd (Prod.snd (Prod.snd (Prod.snd (Prod.snd (Prod.fst x_3)))))),
                  Prod.snd (Prod.snd (Prod.snd (Prod.snd (Prod.snd (Prod.snd (Prod.fst x_3)))))))]))
          none)
    (ojoinA (63 : Nat)
      [PT.list (CTs.cons CT.str (CTs.cons (CT.int IntKind.u8) (CTs.cons CT.str CTs.nil))),
        PT.list (CTs.cons CT.str (CTs.cons (CT.int IntKind.u8) (CTs.cons CT.str CTs.nil))),
        PT.list (CTs.cons CT.str CTs.nil), PT.int IntKind.u8, PT.bytes,
        PT.list (CTs.cons CT.str (CTs.cons CT.str CTs.nil)), PT.int IntKind.u8, PT.int IntKind.u64, PT.int IntKind.u8,
        PT.int IntKind.i64,
        PT.list
          (CTs.cons (CT.int IntKind.u8)
            (CTs.cons CT.str
              (CTs.cons (CT.ro (CTs.cons CT.str (CTs.cons CT.str CTs.nil)))
                (CTs.cons (CT.int IntKind.u8)
                  (CTs.cons (CT.int IntKind.u64)
                    (CTs.cons (CT.int IntKind.u8) (CTs.cons (CT.int IntKind.i64) CTs.nil)))))))]
      (fun
          (J :
            Arr
              [PT.list (CTs.cons CT.str (CTs.cons (CT.int IntKind.u8) (CTs.cons CT.str CTs.nil))),
                PT.list (CTs.cons CT.str (CTs.cons (CT.int IntKind.u8) (CTs.cons CT.str CTs.nil))),
                PT.list (CTs.cons CT.str CTs.nil), PT.int IntKind.u8, PT.bytes,
                PT.list (CTs.cons CT.str (CTs.cons CT.str CTs.nil)), PT.int IntKind.u8, PT.int IntKind.u64,
                PT.int IntKind.u8, PT.int IntKind.i64,
                PT.list
                  (CTs.cons (CT.int IntKind.u8)
                    (CTs.cons CT.str
                      (CTs.cons (CT.ro (CTs.cons CT.str (CTs.cons CT.str CTs.nil)))
                        (CTs.cons (CT.int IntKind.u8)
                          (CTs.cons (CT.int IntKind.u64)
                            (CTs.cons (CT.int IntKind.u8) (CTs.cons (CT.int IntKind.i64) CTs.nil)))))))]
              (Option (Bool × Unit))) =>
        oite (!decide (a3 = (2 : UInt8)))
          (obind (F7 n ((c0, c1, c2), (a0, a1, a2, a3, a4, a5, a6), b0, b1, b2, b3, b4, b5, b6))
            fun (x_2 : Bool × Unit) =>
            oite (Prod.fst x_2) (some (false, ()))
              (obind (F7 n ((c0, c1, c2), (a0, a1, a2, a3, a4, a5, a6), a0, a1, a2, a3, a4, a5, a6))
                fun (x_3 : Bool × Unit) =>
                oite (Prod.fst x_3) (some (false, ()))
                  (obind (F7 n ((c0, c1, c2), (b0, b1, b2, b3, b4, b5, b6), b0, b1, b2, b3, b4, b5, b6))
                    fun (x_4 : Bool × Unit) =>
                    oite (Prod.fst x_4) (some (false, ())) (J c0 c1 c2 a0 a1 a2 a3 a4 a5 a6 all_))))
          (obind (F7 n ((c0, c1, c2), (a0, a1, a2, a3, a4, a5, a6), a0, a1, a2, a3, a4, a5, a6))
            fun (x_2 : Bool × Unit) =>
            oite (Prod.fst x_2) (some (false, ()))
              (obind (F7 n ((c0, c1, c2), (b0, b1, b2, b3, b4, b5, b6), b0, b1, b2, b3, b4, b5, b6))
                fun (x_3 : Bool × Unit) =>
                oite (Prod.fst x_3) (some (false, ())) (J c0 c1 c2 a0 a1 a2 a3 a4 a5 a6 all_))))
      (F3_J63 n))
def F3_R125 : Nat →
  Nat →
    PT.T
        (PT.list
          (CTs.cons (CT.int IntKind.u8)
            (CTs.cons (CT.int IntKind.u8)
              (CTs.cons (CT.int IntKind.u8)
                (CTs.cons (CT.int IntKind.u8)
                  (CTs.cons (CT.int IntKind.u8) (CTs.cons (CT.int IntKind.u8) CTs.nil))))))) →
      Int64 →
        Int64 →
          List (List UInt8 × UInt8 × List UInt8) →
            List (List UInt8 × UInt8 × List UInt8) →
              List (List UInt8) →
                UInt8 →
                  List UInt8 →
                    List (List UInt8 × List UInt8) →
                      UInt8 →
                        UInt64 →
                          UInt8 →
                            Int64 →
                              UInt8 →
                                List UInt8 →
                                  List (List UInt8 × List UInt8) →
                                    UInt8 →
                                      UInt64 →
                                        UInt8 →
                                          Int64 →
                                            List
                                                (UInt8 ×
                                                  List UInt8 ×
                                                    List (List UInt8 × List UInt8) × UInt8 × UInt64 × UInt8 × Int64) →
                                              Option (Bool × Unit) := fun (n : Nat) =>
  ofixA (125 : Nat)
    [PT.list
        (CTs.cons (CT.int IntKind.u8)
          (CTs.cons (CT.int IntKind.u8)
            (CTs.cons (CT.int IntKind.u8)
              (CTs.cons (CT.int IntKind.u8) (CTs.cons (CT.int IntKind.u8) (CTs.cons (CT.int IntKind.u8) CTs.nil)))))),
      PT.int IntKind.i64, PT.int IntKind.i64,
      PT.list (CTs.cons CT.str (CTs.cons (CT.int IntKind.u8) (CTs.cons CT.str CTs.nil))),
      PT.list (CTs.cons CT.str (CTs.cons (CT.int IntKind.u8) (CTs.cons CT.str CTs.nil))),
      PT.list (CTs.cons CT.str CTs.nil), PT.int IntKind.u8, PT.bytes,
      PT.list (CTs.cons CT.str (CTs.cons CT.str CTs.nil)), PT.int IntKind.u8, PT.int IntKind.u64, PT.int IntKind.u8,
      PT.int IntKind.i64, PT.int IntKind.u8, PT.bytes, PT.list (CTs.cons CT.str (CTs.cons CT.str CTs.nil)),
      PT.int IntKind.u8, PT.int IntKind.u64, PT.int IntKind.u8, PT.int IntKind.i64,
      PT.list
        (CTs.cons (CT.int IntKind.u8)
          (CTs.cons CT.str
            (CTs.cons (CT.ro (CTs.cons CT.str (CTs.cons CT.str CTs.nil)))
              (CTs.cons (CT.int IntKind.u8)
                (CTs.cons (CT.int IntKind.u64)
                  (CTs.cons (CT.int IntKind.u8) (CTs.cons (CT.int IntKind.i64) CTs.nil)))))))]
    (F3_L125 n)
def F3 : Nat →
  (List (List UInt8 × UInt8 × List UInt8) × List (List UInt8 × UInt8 × List UInt8) × List (List UInt8)) ×
      (UInt8 × List UInt8 × List (List UInt8 × List UInt8) × UInt8 × UInt64 × UInt8 × Int64) ×
        (UInt8 × List UInt8 × List (List UInt8 × List UInt8) × UInt8 × UInt64 × UInt8 × Int64) ×
          List (UInt8 × UInt8 × UInt8 × UInt8 × UInt8 × UInt8) →
    Option (Bool × Unit) := fun (n : Nat)
    (x :
      (List (List UInt8 × UInt8 × List UInt8) × List (List UInt8 × UInt8 × List UInt8) × List (List UInt8)) ×
        (UInt8 × List UInt8 × List (List UInt8 × List UInt8) × UInt8 × UInt64 × UInt8 × Int64) ×
          (UInt8 × List UInt8 × List (List UInt8 × List UInt8) × UInt8 × UInt64 × UInt8 × Int64) ×
            List (UInt8 × UInt8 × UInt8 × UInt8 × UInt8 × UInt8)) =>
  obind (F5 n ()) fun (x_1 : Bool × Unit) =>
    oite (!Prod.fst x_1) (some (false, ()))
      (oite (decide ((12 : Int64) < Int64.ofInt ↑(List.length (Prod.fst (Prod.fst x))))) (some (true, ()))
        (oite (decide ((12 : Int64) < Int64.ofInt ↑(List.length (Prod.fst (Prod.snd (Prod.fst x))))))
          (some (true, ()))
          (oite (decide ((12 : Int64) < Int64.ofInt ↑(List.length (Prod.snd (Prod.snd (Prod.fst x))))))
            (some (true, ()))
            (oite
              (decide
                ((12 : Int64) < Int64.ofInt ↑(List.length (Prod.fst (Prod.snd (Prod.snd (Prod.fst (Prod.snd x))))))))
              (some (true, ()))
              (oite
                (decide
                  ((12 : Int64) <
                    Int64.ofInt ↑(List.length (Prod.fst (Prod.snd (Prod.snd (Prod.fst (Prod.snd (Prod.snd x)))))))))
                (some (true, ()))
                (oite (decide ((12 : Int64) < Int64.ofInt ↑(List.length (Prod.snd (Prod.snd (Prod.snd x))))))
                  (some (true, ()))
                  (F3_R125 n n (Prod.snd (Prod.snd (Prod.snd x)))
                    (Int64.ofInt ↑(List.length (Prod.snd (Prod.snd (Prod.snd x))))) (0 : Int64) (Prod.fst (Prod.fst x))
                    (Prod.fst (Prod.snd (Prod.fst x))) (Prod.snd (Prod.snd (Prod.fst x)))
                    (Prod.fst (Prod.fst (Prod.snd x))) (Prod.fst (Prod.snd (Prod.fst (Prod.snd x))))
                    (Prod.fst (Prod.snd (Prod.snd (Prod.fst (Prod.snd x)))))
                    (Prod.fst (Prod.snd (Prod.snd (Prod.snd (Prod.fst (Prod.snd x))))))
                    (Prod.fst (Prod.snd (Prod.snd (Prod.snd (Prod.snd (Prod.fst (Prod.snd x)))))))
                    (Prod.fst (Prod.snd (Prod.snd (Prod.snd (Prod.snd (Prod.snd (Prod.fst (Prod.snd x))))))))
                    (Prod.snd (Prod.snd (Prod.snd (Prod.snd (Prod.snd (Prod.snd (Prod.fst (Prod.snd x))))))))
                    (Prod.fst (Prod.fst (Prod.snd (Prod.snd x))))
                    (Prod.fst (Prod.snd (Prod.fst (Prod.snd (Prod.snd x)))))
                    (Prod.fst (Prod.snd (Prod.snd (Prod.fst (Prod.snd (Prod.snd x))))))
                    (Prod.fst (Prod.snd (Prod.snd (Prod.snd (Prod.fst (Prod.snd (Prod.snd x)))))))
                    (Prod.fst (Prod.snd (Prod.snd (Prod.snd (Prod.snd (Prod.fst (Prod.snd (Prod.snd x))))))))
                    (Prod.fst (Prod.snd (Prod.snd (Prod.snd (Prod.snd (Prod.snd (Prod.fst (Prod.snd (Prod.snd x)))))))))
                    (Prod.snd (Prod.snd (Prod.snd (Prod.snd (Prod.snd (Prod.snd (Prod.fst (Prod.snd (Prod.snd x)))))))))
                    [])))))))
theorem F3_R125_s (n : Nat) (m_ : Nat) : F3_R125 n (m_ + 1) = F3_L125 n (F3_R125 n m_) := rfl
theorem ok3 (n : Nat) : FunOK Try.prog ⟨3, sig3, F3 n⟩ :=
  fun_ok (hints := ⟨[(63, ⟨[(4, .one (.own 4)), (5, .one (.own 5)), (9, .one (.own 6))], [(4, .cells [.ro (.cons .str (.cons (.int .u8) (.cons .str .nil))), .ro (.cons .str (.cons (.int .u8) (.cons .str .nil))), .ro (.cons .str .nil)]), (5, .cells [.int .u8, .str, .ro (.cons .str (.cons .str .nil)), .int .u8, .int .u64, .int .u8, .int .i64]), (6, .row (.cons (.int .u8) (.cons .str (.cons (.ro (.cons .str (.cons .str .nil))) (.cons (.int .u8) (.cons (.int .u64) (.cons (.int .u8) (.cons (.int .i64) .nil))))))))], 7⟩)], [(125, ⟨[(4, .one (.own 4)), (5, .one (.own 5)), (6, .one (.own 6)), (9, .one (.own 7)), (47, .one (.ro (.cons (.int .u8) (.cons (.int .u8) (.cons (.int .u8) (.cons (.int .u8) (.cons (.int .u8) (.cons (.int .u8) .nil)))))))), (48, .one (.int .i64)), (49, .one (.int .i64))], [(4, .cells [.ro (.cons .str (.cons (.int .u8) (.cons .str .nil))), .ro (.cons .str (.cons (.int .u8) (.cons .str .nil))), .ro (.cons .str .nil)]), (5, .cells [.int .u8, .str, .ro (.cons .str (.cons .str .nil)), .int .u8, .int .u64, .int .u8, .int .i64]), (6, .cells [.int .u8, .str, .ro (.cons .str (.cons .str .nil)), .int .u8, .int .u64, .int .u8, .int .i64]), (7, .row (.cons (.int .u8) (.cons .str (.cons (.ro (.cons .str (.cons .str .nil))) (.cons (.int .u8) (.cons (.int .u64) (.cons (.int .u8) (.cons (.int .i64) .nil))))))))], 8⟩)]⟩) (fuel := n) (c := Try.f3.body.getD .skip) (rs := Try.f3.results.toList) tt_ok mix (FsOK.cons (ok5 n) (FsOK.cons (ok6 n) (FsOK.cons (ok7 n) (FsOK.cons (ok8 n) (FsOK.cons (ok9 n) (FsOK.nil)))))) Try.func3 (by kernel_rfl) (by kernel_rfl) rfl (by kernel_rfl) rfl rfl (by kernel_rfl)
end Go.Proofs.Ytlkjacdnnbmmmaa
