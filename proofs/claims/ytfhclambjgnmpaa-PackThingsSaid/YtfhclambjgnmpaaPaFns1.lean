/- What the functions of this seat compute, found by walking their code symbolically: each F is what the walk finds, each ok says that the Go function keeps it as a contract. Printed by a program of this repo's. -/
import Derived.Test.YtfhclambjgnmpaaProg
import Derived.KernelRfl
import Derived.Test.YtfhclambjgnmpaaSxFun
open Go Go.Sx
namespace Go.Proofs.Ytfhclambjgnmpaa
set_option maxRecDepth 100000
set_option linter.unusedVariables false
def tt : TT := [(2, ⟨.int .i64, 1, 8, some (.int .i64 0), false⟩), (3, ⟨.int .i64, 1, 8, some (.int .i64 0), false⟩), (4, ⟨.bool, 1, 1, some (.bool false), false⟩), (5, ⟨.int .u8, 1, 1, some (.int .u8 0), false⟩), (9, ⟨.str, 1, 16, some (.string ⟨#[]⟩), false⟩), (22, ⟨.slice 5, 1, 24, some (.slice none 0 0), false⟩), (24, ⟨.ptr 55, 1, 8, some (.pointer none), false⟩), (26, ⟨.int .u64, 1, 8, some (.int .u64 0), false⟩), (28, ⟨.int .i64, 1, 8, some (.int .i64 0), false⟩), (34, ⟨.struct [(0, 22, false)], 1, 24, some (.agg #[.slice none 0 0]), false⟩), (41, ⟨.slice 47, 1, 24, some (.slice none 0 0), false⟩), (47, ⟨.struct [(0, 5, false), (1, 26, false), (2, 9, false)], 3, 32, some (.agg #[.int .u8 0, .int .u64 0, .string ⟨#[]⟩]), false⟩), (48, ⟨.ptr 34, 1, 8, some (.pointer none), false⟩), (55, ⟨.struct [(0, 22, false), (1, 28, false)], 2, 32, some (.agg #[.slice none 0 0, .int .i64 0]), false⟩)]
theorem tt_ok : TTOK Try.prog tt := TTOK.of_rows (by kernel_rfl)
theorem mix : Try.prog.follows .mixedOrders = true := by kernel_rfl
-- (*watchfire/pack.Writer).Uint
def sig18 : Sig := ⟨(.cons (.one (.ptr (.cons (.row (.cons (.int .u8) .nil)) .nil))) (.cons (.one (.c (.int .u64))) .nil)), .nil⟩
def F18_L6 : Arr [PT.int IntKind.u64, PT.list (CTs.cons (CT.int IntKind.u8) CTs.nil)] (Option (Unit × Option (List UInt8))) →
  UInt64 → List UInt8 → Option (Unit × Option (List UInt8)) := fun
    (rec :
      Arr [PT.int IntKind.u64, PT.list (CTs.cons (CT.int IntKind.u8) CTs.nil)] (Option (Unit × Option (List UInt8))))
    (n_ : UInt64) (wl : List UInt8) =>
  oite (decide ((128 : UInt64) ≤ n_))
    (oite (Nat.ble (List.length wl + List.length [UInt8.ofInt ↑(UInt64.toNat n_) ||| (128 : UInt8)]) (4294967296 : Nat))
      (rec (IK.shr IntKind.u64 n_ ↑(UInt64.toNat (7 : UInt64)))
        (wl ++ [UInt8.ofInt ↑(UInt64.toNat n_) ||| (128 : UInt8)]))
      none)
    (oite (Nat.ble (List.length wl + List.length [UInt8.ofInt ↑(UInt64.toNat n_)]) (4294967296 : Nat))
      (some ((), some (wl ++ [UInt8.ofInt ↑(UInt64.toNat n_)]))) none)
def F18_R6 : Nat → PT.T (PT.int IntKind.u64) → List UInt8 → Option (Unit × Option (List UInt8)) := ofixA (6 : Nat) [PT.int IntKind.u64, PT.list (CTs.cons (CT.int IntKind.u8) CTs.nil)] F18_L6
def F18 : Nat → Option (List UInt8) × UInt64 → Option (Unit × Option (List UInt8)) := fun (n : Nat) (x : Option (List UInt8) × UInt64) =>
  oelim (Prod.fst x) (some ((), none)) fun (x_1 : List UInt8) => F18_R6 n (Prod.snd x) x_1
theorem F18_R6_s  (m_ : Nat) : F18_R6  (m_ + 1) = F18_L6  (F18_R6  m_) := rfl
theorem ok18 (n : Nat) : FunOK Try.prog ⟨18, sig18, F18 n⟩ :=
  fun_ok (hints := ⟨[], [(6, ⟨[(0, .one (.own 0)), (1, .one (.int .u64))], [(0, .cells [.own 2]), (2, .row (.cons (.int .u8) .nil))], 3⟩)]⟩) (fuel := n) (c := Try.f18.body.getD .skip) (rs := Try.f18.results.toList) tt_ok mix (FsOK.nil) Try.func18 (by kernel_rfl) (by kernel_rfl) rfl (by kernel_rfl) rfl rfl (by kernel_rfl)
-- (*watchfire/pack.Writer).Int
def sig26 : Sig := ⟨(.cons (.one (.ptr (.cons (.row (.cons (.int .u8) .nil)) .nil))) (.cons (.one (.c (.int .i64))) .nil)), .nil⟩
def F26 : Nat → Option (List UInt8) × Int64 → Option (Unit × Option (List UInt8)) := fun (n : Nat) (x : Option (List UInt8) × Int64) =>
  obind
    (F18 n
      (Prod.fst x,
        IK.shl IntKind.u64 (UInt64.ofInt (Int64.toInt (Prod.snd x))) ↑(UInt64.toNat (1 : UInt64)) ^^^
          UInt64.ofInt (Int64.toInt (IK.shr IntKind.i64 (Prod.snd x) ↑(UInt64.toNat (63 : UInt64))))))
    fun (x_1 : Unit × Option (List UInt8)) => some ((), Prod.snd x_1)
theorem ok26 (n : Nat) : FunOK Try.prog ⟨26, sig26, F26 n⟩ :=
  fun_ok (hints := ⟨[], []⟩) (fuel := n) (c := Try.f26.body.getD .skip) (rs := Try.f26.results.toList) tt_ok mix (FsOK.cons (ok18 n) (FsOK.nil)) Try.func26 (by kernel_rfl) (by kernel_rfl) rfl (by kernel_rfl) rfl rfl (by kernel_rfl)
-- (*watchfire/pack.Writer).Bytes
def sig15 : Sig := ⟨(.cons (.one (.ptr (.cons (.row (.cons (.int .u8) .nil)) .nil))) .nil), (.cons (.one (.c (.ro (.cons (.int .u8) .nil)))) .nil)⟩
def F15 : Nat → Option (List UInt8) → Option (List UInt8 × Option (List UInt8)) := fun (n : Nat) (x : Option (List UInt8)) =>
  oelim x (some ([], none)) fun (x_1 : List UInt8) =>
    oite (Nat.ble ((0 : Nat) + List.length x_1) (4294967296 : Nat)) (some ([] ++ x_1, some x_1)) none
theorem ok15 (n : Nat) : FunOK Try.prog ⟨15, sig15, F15 n⟩ :=
  fun_ok (hints := ⟨[], []⟩) (fuel := n) (c := Try.f15.body.getD .skip) (rs := Try.f15.results.toList) tt_ok mix (FsOK.nil) Try.func15 (by kernel_rfl) (by kernel_rfl) rfl (by kernel_rfl) rfl rfl (by kernel_rfl)
-- watchfire/watchfirelaw03.Awake
def sig8 : Sig := ⟨.nil, (.cons (.one (.c .bool)) .nil)⟩
def F8 : Nat → Unit → Option (Bool × Unit) := fun (n : Nat) (x : Unit) =>
  obind (F18 n (some [], (300 : UInt64))) fun (x_1 : Unit × Option (List UInt8)) =>
    obind (F26 n (Prod.snd x_1, (-1 : Int64))) fun (x_2 : Unit × Option (List UInt8)) =>
      obind (F15 n (Prod.snd x_2)) fun (x_3 : List UInt8 × Option (List UInt8)) =>
        some (Prod.fst x_3 == [(172 : UInt8), (2 : UInt8), (1 : UInt8)], ())
theorem ok8 (n : Nat) : FunOK Try.prog ⟨8, sig8, F8 n⟩ :=
  fun_ok (hints := ⟨[], []⟩) (fuel := n) (c := Try.f8.body.getD .skip) (rs := Try.f8.results.toList) tt_ok mix (FsOK.cons (ok18 n) (FsOK.cons (ok26 n) (FsOK.cons (ok15 n) (FsOK.nil)))) Try.func8 (by kernel_rfl) (by kernel_rfl) rfl (by kernel_rfl) rfl rfl (by kernel_rfl)
-- watchfire/pack.Read
def sig9 : Sig := ⟨(.cons (.one (.c (.ro (.cons (.int .u8) .nil)))) .nil), (.cons (.one (.ptr (.cons (.c (.ro (.cons (.int .u8) .nil))) (.cons (.c (.int .i64)) .nil)))) .nil)⟩
def F9 : Nat → List UInt8 → Option (Option (List UInt8 × Int64) × Unit) := fun (n : Nat) (x : List UInt8) => some (some (x, (0 : Int64)), ())
theorem ok9 (n : Nat) : FunOK Try.prog ⟨9, sig9, F9 n⟩ :=
  fun_ok (hints := ⟨[], []⟩) (fuel := n) (c := Try.f9.body.getD .skip) (rs := Try.f9.results.toList) tt_ok mix (FsOK.nil) Try.func9 (by kernel_rfl) (by kernel_rfl) rfl (by kernel_rfl) rfl rfl (by kernel_rfl)
-- (*watchfire/pack.Reader).ok
def sig27 : Sig := ⟨(.cons (.one (.ptr (.cons (.c (.ro (.cons (.int .u8) .nil))) (.cons (.c (.int .i64)) .nil)))) .nil), (.cons (.one (.c .bool)) .nil)⟩
def F27 : Nat → Option (List UInt8 × Int64) → Option (Bool × Option (List UInt8 × Int64)) := fun (n : Nat) (x : Option (List UInt8 × Int64)) =>
  oelim x (some (false, none)) fun (x_1 : List UInt8 × Int64) =>
    some (decide (Prod.snd x_1 = (0 : Int64)), some (Prod.fst x_1, Prod.snd x_1))
theorem ok27 (n : Nat) : FunOK Try.prog ⟨27, sig27, F27 n⟩ :=
  fun_ok (hints := ⟨[], []⟩) (fuel := n) (c := Try.f27.body.getD .skip) (rs := Try.f27.results.toList) tt_ok mix (FsOK.nil) Try.func27 (by kernel_rfl) (by kernel_rfl) rfl (by kernel_rfl) rfl rfl (by kernel_rfl)
-- (*watchfire/pack.Reader).Fail
def sig20 : Sig := ⟨(.cons (.one (.ptr (.cons (.c (.ro (.cons (.int .u8) .nil))) (.cons (.c (.int .i64)) .nil)))) (.cons (.one (.c (.int .i64))) .nil)), .nil⟩
def F20 : Nat → Option (List UInt8 × Int64) × Int64 → Option (Unit × Option (List UInt8 × Int64)) := fun (n : Nat) (x : Option (List UInt8 × Int64) × Int64) =>
  oelim (Prod.fst x) (some ((), none)) fun (x_1 : List UInt8 × Int64) =>
    oite (decide (Prod.snd x_1 = (0 : Int64))) (some ((), some (Prod.fst x_1, Prod.snd x)))
      (some ((), some (Prod.fst x_1, Prod.snd x_1)))
theorem ok20 (n : Nat) : FunOK Try.prog ⟨20, sig20, F20 n⟩ :=
  fun_ok (hints := ⟨[], []⟩) (fuel := n) (c := Try.f20.body.getD .skip) (rs := Try.f20.results.toList) tt_ok mix (FsOK.nil) Try.func20 (by kernel_rfl) (by kernel_rfl) rfl (by kernel_rfl) rfl rfl (by kernel_rfl)
-- (*watchfire/pack.Reader).Byte
def sig21 : Sig := ⟨(.cons (.one (.ptr (.cons (.c (.ro (.cons (.int .u8) .nil))) (.cons (.c (.int .i64)) .nil)))) .nil), (.cons (.one (.c (.int .u8))) .nil)⟩
def F21 : Nat → Option (List UInt8 × Int64) → Option (UInt8 × Option (List UInt8 × Int64)) := fun (n : Nat) (x : Option (List UInt8 × Int64)) =>
  obind (F27 n x) fun (x_1 : Bool × Option (List UInt8 × Int64)) =>
    oite (!Prod.fst x_1) (some ((0 : UInt8), Prod.snd x_1))
      (obind (Prod.snd x_1) fun (x_2 : List UInt8 × Int64) =>
        oite (decide (Int64.ofInt ↑(List.length (Prod.fst x_2)) = (0 : Int64)))
          (obind (F20 n (some (Prod.fst x_2, Prod.snd x_2), (3 : Int64)))
            fun (x_3 : Unit × Option (List UInt8 × Int64)) => some ((0 : UInt8), Prod.snd x_3))
          (obind (at? (Prod.fst x_2) (Int64.toInt (0 : Int64))) fun (x_3 : UInt8) =>
            oite (Nat.ble (Int.toNat (Int64.toInt (1 : Int64))) (List.length (Prod.fst x_2)))
              (some
                (x_3,
                  some
                    (List.drop (Int.toNat (Int64.toInt (1 : Int64)))
                        (List.take (List.length (Prod.fst x_2)) (Prod.fst x_2)),
                      Prod.snd x_2)))
              none))
theorem ok21 (n : Nat) : FunOK Try.prog ⟨21, sig21, F21 n⟩ :=
  fun_ok (hints := ⟨[], []⟩) (fuel := n) (c := Try.f21.body.getD .skip) (rs := Try.f21.results.toList) tt_ok mix (FsOK.cons (ok27 n) (FsOK.cons (ok20 n) (FsOK.nil))) Try.func21 (by kernel_rfl) (by kernel_rfl) rfl (by kernel_rfl) rfl rfl (by kernel_rfl)
-- (*watchfire/pack.Reader).Uint
def sig10 : Sig := ⟨(.cons (.one (.ptr (.cons (.c (.ro (.cons (.int .u8) .nil))) (.cons (.c (.int .i64)) .nil)))) .nil), (.cons (.one (.c (.int .u64))) .nil)⟩
def F10_J121 : Nat →
  Arr
      [PT.int IntKind.u64, PT.int IntKind.i64,
        PT.opt
          (OTs.cons (OT.c (CT.ro (CTs.cons (CT.int IntKind.u8) CTs.nil)))
            (OTs.cons (OT.c (CT.int IntKind.i64)) OTs.nil))]
      (Option (UInt64 × Option (List UInt8 × Int64))) →
    UInt64 → Int64 → UInt8 → Option (List UInt8 × Int64) → Option (UInt64 × Option (List UInt8 × Int64)) := fun (n : Nat)
    (rec :
      Arr
        [PT.int IntKind.u64, PT.int IntKind.i64,
          PT.opt
            (OTs.cons (OT.c (CT.ro (CTs.cons (CT.int IntKind.u8) CTs.nil)))
              (OTs.cons (OT.c (CT.int IntKind.i64)) OTs.nil))]
        (Option (UInt64 × Option (List UInt8 × Int64))))
    (n__1 : UInt64) (shift_1 : Int64) (c : UInt8) (r_1 : Option (List UInt8 × Int64)) =>
  oite (decide ((0 : Int) ≤ Int64.toInt shift_1))
    (oite (decide (c < (128 : UInt8)))
      (oite (decide (c = (0 : UInt8)))
        (oite (decide ((0 : Int64) < shift_1))
          (obind (F20 n (r_1, (2 : Int64))) fun (x_2 : Unit × Option (List UInt8 × Int64)) =>
            some ((0 : UInt64), Prod.snd x_2))
          (some
            (n__1 ||| IK.shl IntKind.u64 (UInt64.ofInt ↑(UInt8.toNat (c &&& (127 : UInt8)))) (Int64.toInt shift_1),
              r_1)))
        (some
          (n__1 ||| IK.shl IntKind.u64 (UInt64.ofInt ↑(UInt8.toNat (c &&& (127 : UInt8)))) (Int64.toInt shift_1), r_1)))
      (rec (n__1 ||| IK.shl IntKind.u64 (UInt64.ofInt ↑(UInt8.toNat (c &&& (127 : UInt8)))) (Int64.toInt shift_1))
        (shift_1 + (7 : Int64)) r_1))
    none
def F10_L15 : Nat →
  Arr
      [PT.int IntKind.u64, PT.int IntKind.i64,
        PT.opt
          (OTs.cons (OT.c (CT.ro (CTs.cons (CT.int IntKind.u8) CTs.nil)))
            (OTs.cons (OT.c (CT.int IntKind.i64)) OTs.nil))]
      (Option (UInt64 × Option (List UInt8 × Int64))) →
    UInt64 → Int64 → Option (List UInt8 × Int64) → Option (UInt64 × Option (List UInt8 × Int64)) := fun (n : Nat)
    (rec :
      Arr
        [PT.int IntKind.u64, PT.int IntKind.i64,
          PT.opt
            (OTs.cons (OT.c (CT.ro (CTs.cons (CT.int IntKind.u8) CTs.nil)))
              (OTs.cons (OT.c (CT.int IntKind.i64)) OTs.nil))]
        (Option (UInt64 × Option (List UInt8 × Int64))))
    (n_ : UInt64) (shift : Int64) (r : Option (List UInt8 × Int64)) =>
  obind (F21 n r) fun (x_1 : UInt8 × Option (List UInt8 × Int64)) =>
    ojoinA (121 : Nat)
      [PT.int IntKind.u64, PT.int IntKind.i64, PT.int IntKind.u8,
        PT.opt
          (OTs.cons (OT.c (CT.ro (CTs.cons (CT.int IntKind.u8) CTs.nil)))
            (OTs.cons (OT.c (CT.int IntKind.i64)) OTs.nil))]
      (fun
          (J :
            Arr
              [PT.int IntKind.u64, PT.int IntKind.i64, PT.int IntKind.u8,
                PT.opt
                  (OTs.cons (OT.c (CT.ro (CTs.cons (CT.int IntKind.u8) CTs.nil)))
                    (OTs.cons (OT.c (CT.int IntKind.i64)) OTs.nil))]
              (Option (UInt64 × Option (List UInt8 × Int64)))) =>
        obind (F27 n (Prod.snd x_1)) fun (x_2 : Bool × Option (List UInt8 × Int64)) =>
          oite (!Prod.fst x_2) (some ((0 : UInt64), Prod.snd x_2))
            (oite (decide (shift = (63 : Int64)))
              (oite (decide ((1 : UInt8) < Prod.fst x_1))
                (obind (F20 n (Prod.snd x_2, (6 : Int64))) fun (x_3 : Unit × Option (List UInt8 × Int64)) =>
                  some ((0 : UInt64), Prod.snd x_3))
                (J n_ shift (Prod.fst x_1) (Prod.snd x_2)))
              (J n_ shift (Prod.fst x_1) (Prod.snd x_2))))
      (F10_J121 n rec)
def F10_R15 : Nat →
  Nat → PT.T (PT.int IntKind.u64) → Int64 → Option (List UInt8 × Int64) → Option (UInt64 × Option (List UInt8 × Int64)) := fun (n : Nat) =>
  ofixA (15 : Nat)
    [PT.int IntKind.u64, PT.int IntKind.i64,
      PT.opt
        (OTs.cons (OT.c (CT.ro (CTs.cons (CT.int IntKind.u8) CTs.nil))) (OTs.cons (OT.c (CT.int IntKind.i64)) OTs.nil))]
    (F10_L15 n)
def F10 : Nat → Option (List UInt8 × Int64) → Option (UInt64 × Option (List UInt8 × Int64)) := fun (n : Nat) (x : Option (List UInt8 × Int64)) => F10_R15 n n (0 : UInt64) (0 : Int64) x
theorem F10_R15_s (n : Nat) (m_ : Nat) : F10_R15 n (m_ + 1) = F10_L15 n (F10_R15 n m_) := rfl
theorem ok10 (n : Nat) : FunOK Try.prog ⟨10, sig10, F10 n⟩ :=
  fun_ok (hints := ⟨[(121, ⟨[(0, .one (.own 0)), (3, .one (.int .u64)), (4, .one (.int .i64)), (5, .one (.int .u8))], [(0, .fold (.cons (.c (.ro (.cons (.int .u8) .nil))) (.cons (.c (.int .i64)) .nil)))], 1⟩)], [(15, ⟨[(0, .one (.own 0)), (3, .one (.int .u64)), (4, .one (.int .i64))], [(0, .fold (.cons (.c (.ro (.cons (.int .u8) .nil))) (.cons (.c (.int .i64)) .nil)))], 1⟩)]⟩) (fuel := n) (c := Try.f10.body.getD .skip) (rs := Try.f10.results.toList) tt_ok mix (FsOK.cons (ok21 n) (FsOK.cons (ok27 n) (FsOK.cons (ok20 n) (FsOK.nil)))) Try.func10 (by kernel_rfl) (by kernel_rfl) rfl (by kernel_rfl) rfl rfl (by kernel_rfl)
-- (*watchfire/pack.Reader).Err
def sig11 : Sig := ⟨(.cons (.one (.ptr (.cons (.c (.ro (.cons (.int .u8) .nil))) (.cons (.c (.int .i64)) .nil)))) .nil), (.cons (.one (.c (.int .i64))) .nil)⟩
def F11 : Nat → Option (List UInt8 × Int64) → Option (Int64 × Option (List UInt8 × Int64)) := fun (n : Nat) (x : Option (List UInt8 × Int64)) =>
  oelim x (some ((1 : Int64), none)) fun (x_1 : List UInt8 × Int64) =>
    some (Prod.snd x_1, some (Prod.fst x_1, Prod.snd x_1))
theorem ok11 (n : Nat) : FunOK Try.prog ⟨11, sig11, F11 n⟩ :=
  fun_ok (hints := ⟨[], []⟩) (fuel := n) (c := Try.f11.body.getD .skip) (rs := Try.f11.results.toList) tt_ok mix (FsOK.nil) Try.func11 (by kernel_rfl) (by kernel_rfl) rfl (by kernel_rfl) rfl rfl (by kernel_rfl)
-- (*watchfire/pack.Reader).Left
def sig12 : Sig := ⟨(.cons (.one (.ptr (.cons (.c (.ro (.cons (.int .u8) .nil))) (.cons (.c (.int .i64)) .nil)))) .nil), (.cons (.one (.c (.int .i64))) .nil)⟩
def F12 : Nat → Option (List UInt8 × Int64) → Option (Int64 × Option (List UInt8 × Int64)) := fun (n : Nat) (x : Option (List UInt8 × Int64)) =>
  obind (F27 n x) fun (x_1 : Bool × Option (List UInt8 × Int64)) =>
    oite (!Prod.fst x_1) (some ((0 : Int64), Prod.snd x_1))
      (obind (Prod.snd x_1) fun (x_2 : List UInt8 × Int64) =>
        some (Int64.ofInt ↑(List.length (Prod.fst x_2)), some (Prod.fst x_2, Prod.snd x_2)))
theorem ok12 (n : Nat) : FunOK Try.prog ⟨12, sig12, F12 n⟩ :=
  fun_ok (hints := ⟨[], []⟩) (fuel := n) (c := Try.f12.body.getD .skip) (rs := Try.f12.results.toList) tt_ok mix (FsOK.cons (ok27 n) (FsOK.nil)) Try.func12 (by kernel_rfl) (by kernel_rfl) rfl (by kernel_rfl) rfl rfl (by kernel_rfl)
-- watchfire/watchfireref01.Uint
def sig13 : Sig := ⟨(.cons (.one (.c (.int .u64))) .nil), (.cons (.one (.row (.cons (.int .u8) .nil))) .nil)⟩
def F13_L14 : Arr [PT.int IntKind.u64, PT.list (CTs.cons (CT.int IntKind.u8) CTs.nil)] (Option (List UInt8 × Unit)) →
  UInt64 → List UInt8 → Option (List UInt8 × Unit) := fun (rec : Arr [PT.int IntKind.u64, PT.list (CTs.cons (CT.int IntKind.u8) CTs.nil)] (Option (List UInt8 × Unit)))
    (n_ : UInt64) (out : List UInt8) =>
  oite (decide ((128 : UInt64) ≤ n_))
    (oite
      (Nat.ble (List.length out + List.length [UInt8.ofInt ↑(UInt64.toNat (n_ % (128 : UInt64) + (128 : UInt64)))])
        (4294967296 : Nat))
      (rec (n_ / (128 : UInt64)) (out ++ [UInt8.ofInt ↑(UInt64.toNat (n_ % (128 : UInt64) + (128 : UInt64)))])) none)
    (oite (Nat.ble (List.length out + List.length [UInt8.ofInt ↑(UInt64.toNat n_)]) (4294967296 : Nat))
      (some (out ++ [UInt8.ofInt ↑(UInt64.toNat n_)], ())) none)
def F13_R14 : Nat → PT.T (PT.int IntKind.u64) → List UInt8 → Option (List UInt8 × Unit) := ofixA (14 : Nat) [PT.int IntKind.u64, PT.list (CTs.cons (CT.int IntKind.u8) CTs.nil)] F13_L14
def F13 : Nat → UInt64 → Option (List UInt8 × Unit) := fun (n : Nat) (x : UInt64) => F13_R14 n x []
theorem F13_R14_s  (m_ : Nat) : F13_R14  (m_ + 1) = F13_L14  (F13_R14  m_) := rfl
theorem ok13 (n : Nat) : FunOK Try.prog ⟨13, sig13, F13 n⟩ :=
  fun_ok (hints := ⟨[], [(14, ⟨[(0, .one (.int .u64)), (3, .one (.own 1))], [(1, .row (.cons (.int .u8) .nil))], 2⟩)]⟩) (fuel := n) (c := Try.f13.body.getD .skip) (rs := Try.f13.results.toList) tt_ok mix (FsOK.nil) Try.func13 (by kernel_rfl) (by kernel_rfl) rfl (by kernel_rfl) rfl rfl (by kernel_rfl)
-- watchfire/watchfirelaw03.PackBytes
def sig3 : Sig := ⟨(.cons (.one (.c (.ro (.cons (.int .u8) .nil)))) .nil), (.cons (.one (.c .bool)) .nil)⟩
def F3_J255 : Nat → List UInt8 → UInt64 → Int64 → Option (List UInt8 × Int64) → Option (Bool × Unit) := fun (n : Nat) (b_1 : List UInt8) (n__1 : UInt64) (end__1 : Int64) (r_1 : Option (List UInt8 × Int64)) =>
  obind (F11 n r_1) fun (x_4 : Int64 × Option (List UInt8 × Int64)) =>
    oite (decide (Prod.fst x_4 = (0 : Int64)))
      (obind (F12 n (Prod.snd x_4)) fun (x_5 : Int64 × Option (List UInt8 × Int64)) =>
        oite (decide (Prod.fst x_5 = Int64.ofInt ↑(List.length b_1) - end__1 - (1 : Int64)))
          (obind (F13 n n__1) fun (x_6 : List UInt8 × Unit) =>
            oite
              (decide ((0 : Int) ≤ Int64.toInt (end__1 + (1 : Int64))) &&
                  Nat.ble (Int.toNat (Int64.toInt (end__1 + (1 : Int64)))) (List.length b_1) &&
                true)
              (some
                (Prod.fst x_6 == List.drop (0 : Nat) (List.take (Int.toNat (Int64.toInt (end__1 + (1 : Int64)))) b_1),
                  ()))
              none)
          (some (false, ())))
      (some (false, ()))
def F3_J2043 : Nat →
  Arr
      [PT.list (CTs.cons (CT.int IntKind.u8) CTs.nil), PT.int IntKind.u64, PT.int IntKind.i64,
        PT.opt
          (OTs.cons (OT.c (CT.ro (CTs.cons (CT.int IntKind.u8) CTs.nil)))
            (OTs.cons (OT.c (CT.int IntKind.i64)) OTs.nil))]
      (Option (Bool × Unit)) →
    List UInt8 → UInt64 → Int64 → Bool → Option (List UInt8 × Int64) → Option (Bool × Unit) := fun (n : Nat)
    (J :
      Arr
        [PT.list (CTs.cons (CT.int IntKind.u8) CTs.nil), PT.int IntKind.u64, PT.int IntKind.i64,
          PT.opt
            (OTs.cons (OT.c (CT.ro (CTs.cons (CT.int IntKind.u8) CTs.nil)))
              (OTs.cons (OT.c (CT.int IntKind.i64)) OTs.nil))]
        (Option (Bool × Unit)))
    (b_1 : List UInt8) (n__1 : UInt64) (end__1 : Int64) (t : Bool) (r_1 : Option (List UInt8 × Int64)) =>
  oite t
    (oite (decide (n__1 = (0 : UInt64)))
      (obind (F11 n r_1) fun (x_4 : Int64 × Option (List UInt8 × Int64)) =>
        some (decide (Prod.fst x_4 = (6 : Int64)), ()))
      (some (false, ())))
    (oite (decide ((0 : Int64) < end__1))
      (obind (at? b_1 (Int64.toInt end__1)) fun (x_4 : UInt8) =>
        oite (decide (x_4 = (0 : UInt8)))
          (oite (decide (n__1 = (0 : UInt64)))
            (obind (F11 n r_1) fun (x_5 : Int64 × Option (List UInt8 × Int64)) =>
              some (decide (Prod.fst x_5 = (2 : Int64)), ()))
            (some (false, ())))
          (J b_1 n__1 end__1 r_1))
      (J b_1 n__1 end__1 r_1))
def F3_J127 : Nat → List UInt8 → UInt64 → Int64 → Option (List UInt8 × Int64) → Option (Bool × Unit) := fun (n : Nat) (b : List UInt8) (n_ : UInt64) (end_ : Int64) (r : Option (List UInt8 × Int64)) =>
  ojoinA (255 : Nat)
    [PT.list (CTs.cons (CT.int IntKind.u8) CTs.nil), PT.int IntKind.u64, PT.int IntKind.i64,
      PT.opt
        (OTs.cons (OT.c (CT.ro (CTs.cons (CT.int IntKind.u8) CTs.nil))) (OTs.cons (OT.c (CT.int IntKind.i64)) OTs.nil))]
    (fun
        (J :
          Arr
            [PT.list (CTs.cons (CT.int IntKind.u8) CTs.nil), PT.int IntKind.u64, PT.int IntKind.i64,
              PT.opt
                (OTs.cons (OT.c (CT.ro (CTs.cons (CT.int IntKind.u8) CTs.nil)))
                  (OTs.cons (OT.c (CT.int IntKind.i64)) OTs.nil))]
            (Option (Bool × Unit))) =>
      oite (decide (end_ = Int64.ofInt ↑(List.length b)))
        (oite (decide (n_ = (0 : UInt64)))
          (obind (F11 n r) fun (x_4 : Int64 × Option (List UInt8 × Int64)) =>
            oite (decide (Prod.fst x_4 = (3 : Int64)))
              (obind (F12 n (Prod.snd x_4)) fun (x_5 : Int64 × Option (List UInt8 × Int64)) =>
                some (decide (Prod.fst x_5 = (0 : Int64)), ()))
              (some (false, ())))
          (some (false, ())))
        (ojoinA (2043 : Nat)
          [PT.list (CTs.cons (CT.int IntKind.u8) CTs.nil), PT.int IntKind.u64, PT.int IntKind.i64, PT.bool,
            PT.opt
              (OTs.cons (OT.c (CT.ro (CTs.cons (CT.int IntKind.u8) CTs.nil)))
                (OTs.cons (OT.c (CT.int IntKind.i64)) OTs.nil))]
          (fun
              (J_1 :
                Arr
                  [PT.list (CTs.cons (CT.int IntKind.u8) CTs.nil), PT.int IntKind.u64, PT.int IntKind.i64, PT.bool,
                    PT.opt
                      (OTs.cons (OT.c (CT.ro (CTs.cons (CT.int IntKind.u8) CTs.nil)))
                        (OTs.cons (OT.c (CT.int IntKind.i64)) OTs.nil))]
                  (Option (Bool × Unit))) =>
            oite (decide (end_ = (9 : Int64)))
              (obind (at? b (Int64.toInt (9 : Int64))) fun (x_4 : UInt8) =>
                J_1 b n_ end_ (decide ((1 : UInt8) < x_4)) r)
              (J_1 b n_ end_ false r))
          (F3_J2043 n J)))
    (F3_J255 n)
def F3_L254 : Arr
    [PT.list (CTs.cons (CT.int IntKind.u8) CTs.nil), PT.int IntKind.u64, PT.int IntKind.i64,
      PT.opt
        (OTs.cons (OT.c (CT.ro (CTs.cons (CT.int IntKind.u8) CTs.nil))) (OTs.cons (OT.c (CT.int IntKind.i64)) OTs.nil))]
    (Option (Bool × Unit)) →
  Arr
      [PT.list (CTs.cons (CT.int IntKind.u8) CTs.nil), PT.int IntKind.u64, PT.int IntKind.i64,
        PT.opt
          (OTs.cons (OT.c (CT.ro (CTs.cons (CT.int IntKind.u8) CTs.nil)))
            (OTs.cons (OT.c (CT.int IntKind.i64)) OTs.nil))]
      (Option (Bool × Unit)) →
    List UInt8 → UInt64 → Int64 → Option (List UInt8 × Int64) → Option (Bool × Unit) := fun
    (J rec :
      Arr
        [PT.list (CTs.cons (CT.int IntKind.u8) CTs.nil), PT.int IntKind.u64, PT.int IntKind.i64,
          PT.opt
            (OTs.cons (OT.c (CT.ro (CTs.cons (CT.int IntKind.u8) CTs.nil)))
              (OTs.cons (OT.c (CT.int IntKind.i64)) OTs.nil))]
        (Option (Bool × Unit)))
    (b : List UInt8) (n_ : UInt64) (end_ : Int64) (r : Option (List UInt8 × Int64)) =>
  oite (decide (end_ < Int64.ofInt ↑(List.length b)))
    (obind (at? b (Int64.toInt end_)) fun (x_4 : UInt8) =>
      oite (decide ((128 : UInt8) ≤ x_4))
        (oite (decide (end_ < (9 : Int64))) (rec b n_ (end_ + (1 : Int64)) r) (J b n_ end_ r)) (J b n_ end_ r))
    (J b n_ end_ r)
def F3_R254 : Arr
    [PT.list (CTs.cons (CT.int IntKind.u8) CTs.nil), PT.int IntKind.u64, PT.int IntKind.i64,
      PT.opt
        (OTs.cons (OT.c (CT.ro (CTs.cons (CT.int IntKind.u8) CTs.nil))) (OTs.cons (OT.c (CT.int IntKind.i64)) OTs.nil))]
    (Option (Bool × Unit)) →
  Nat →
    PT.T (PT.list (CTs.cons (CT.int IntKind.u8) CTs.nil)) →
      UInt64 → Int64 → Option (List UInt8 × Int64) → Option (Bool × Unit) := fun
    (J :
      Arr
        [PT.list (CTs.cons (CT.int IntKind.u8) CTs.nil), PT.int IntKind.u64, PT.int IntKind.i64,
          PT.opt
            (OTs.cons (OT.c (CT.ro (CTs.cons (CT.int IntKind.u8) CTs.nil)))
              (OTs.cons (OT.c (CT.int IntKind.i64)) OTs.nil))]
        (Option (Bool × Unit))) =>
  ofixA (254 : Nat)
    [PT.list (CTs.cons (CT.int IntKind.u8) CTs.nil), PT.int IntKind.u64, PT.int IntKind.i64,
      PT.opt
        (OTs.cons (OT.c (CT.ro (CTs.cons (CT.int IntKind.u8) CTs.nil))) (OTs.cons (OT.c (CT.int IntKind.i64)) OTs.nil))]
    (F3_L254 J)
def F3 : Nat → List UInt8 → Option (Bool × Unit) := fun (n : Nat) (x : List UInt8) =>
  obind (F8 n ()) fun (x_1 : Bool × Unit) =>
    oite (!Prod.fst x_1) (some (false, ()))
      (oite (decide ((30 : Int64) < Int64.ofInt ↑(List.length x))) (some (true, ()))
        (obind (F9 n x) fun (x_2 : Option (List UInt8 × Int64) × Unit) =>
          obind (F10 n (Prod.fst x_2)) fun (x_3 : UInt64 × Option (List UInt8 × Int64)) =>
            ojoinA (127 : Nat)
              [PT.list (CTs.cons (CT.int IntKind.u8) CTs.nil), PT.int IntKind.u64, PT.int IntKind.i64,
                PT.opt
                  (OTs.cons (OT.c (CT.ro (CTs.cons (CT.int IntKind.u8) CTs.nil)))
                    (OTs.cons (OT.c (CT.int IntKind.i64)) OTs.nil))]
              (fun
                  (J :
                    Arr
                      [PT.list (CTs.cons (CT.int IntKind.u8) CTs.nil), PT.int IntKind.u64, PT.int IntKind.i64,
                        PT.opt
                          (OTs.cons (OT.c (CT.ro (CTs.cons (CT.int IntKind.u8) CTs.nil)))
                            (OTs.cons (OT.c (CT.int IntKind.i64)) OTs.nil))]
                      (Option (Bool × Unit))) =>
                F3_R254 J n x (Prod.fst x_3) (0 : Int64) (Prod.snd x_3))
              (F3_J127 n)))
theorem F3_R254_s (J : Arr [PT.list (CTs.cons (CT.int IntKind.u8) CTs.nil), PT.int IntKind.u64, PT.int IntKind.i64, PT.opt (OTs.cons (OT.c (CT.ro (CTs.cons (CT.int IntKind.u8) CTs.nil))) (OTs.cons (OT.c (CT.int IntKind.i64)) OTs.nil))] (Option (Bool × Unit))) (m_ : Nat) : F3_R254 J (m_ + 1) = F3_L254 J (F3_R254 J m_) := rfl
theorem ok3 (n : Nat) : FunOK Try.prog ⟨3, sig3, F3 n⟩ :=
  fun_ok (hints := ⟨[(127, ⟨[(0, .one (.ro (.cons (.int .u8) .nil))), (3, .one (.own 1)), (4, .one (.int .u64)), (5, .one (.int .i64))], [(1, .fold (.cons (.c (.ro (.cons (.int .u8) .nil))) (.cons (.c (.int .i64)) .nil)))], 2⟩), (255, ⟨[(0, .one (.ro (.cons (.int .u8) .nil))), (3, .one (.own 1)), (4, .one (.int .u64)), (5, .one (.int .i64))], [(1, .fold (.cons (.c (.ro (.cons (.int .u8) .nil))) (.cons (.c (.int .i64)) .nil)))], 2⟩), (2043, ⟨[(0, .one (.ro (.cons (.int .u8) .nil))), (3, .one (.own 1)), (4, .one (.int .u64)), (5, .one (.int .i64)), (49, .one (.bool))], [(1, .fold (.cons (.c (.ro (.cons (.int .u8) .nil))) (.cons (.c (.int .i64)) .nil)))], 2⟩)], [(254, ⟨[(0, .one (.ro (.cons (.int .u8) .nil))), (3, .one (.own 1)), (4, .one (.int .u64)), (5, .one (.int .i64))], [(1, .fold (.cons (.c (.ro (.cons (.int .u8) .nil))) (.cons (.c (.int .i64)) .nil)))], 2⟩)]⟩) (fuel := n) (c := Try.f3.body.getD .skip) (rs := Try.f3.results.toList) tt_ok mix (FsOK.cons (ok8 n) (FsOK.cons (ok9 n) (FsOK.cons (ok10 n) (FsOK.cons (ok11 n) (FsOK.cons (ok12 n) (FsOK.cons (ok13 n) (FsOK.nil))))))) Try.func3 (by kernel_rfl) (by kernel_rfl) rfl (by kernel_rfl) rfl rfl (by kernel_rfl)
-- (*watchfire/pack.Writer).Text
def sig14 : Sig := ⟨(.cons (.one (.ptr (.cons (.row (.cons (.int .u8) .nil)) .nil))) (.cons (.one (.c .str)) .nil)), .nil⟩
def F14 : Nat → Option (List UInt8) × List UInt8 → Option (Unit × Option (List UInt8)) := fun (n : Nat) (x : Option (List UInt8) × List UInt8) =>
  oelim (Prod.fst x) (some ((), none)) fun (x_1 : List UInt8) =>
    obind (F18 n (some x_1, UInt64.ofInt (Int64.toInt (Int64.ofInt ↑(List.length (Prod.snd x))))))
      fun (x_2 : Unit × Option (List UInt8)) =>
      obind (Prod.snd x_2) fun (x_3 : List UInt8) =>
        oite (Nat.ble (List.length x_3 + List.length (Prod.snd x)) (4294967296 : Nat))
          (some ((), some (x_3 ++ Prod.snd x))) none
theorem ok14 (n : Nat) : FunOK Try.prog ⟨14, sig14, F14 n⟩ :=
  fun_ok (hints := ⟨[], []⟩) (fuel := n) (c := Try.f14.body.getD .skip) (rs := Try.f14.results.toList) tt_ok mix (FsOK.cons (ok18 n) (FsOK.nil)) Try.func14 (by kernel_rfl) (by kernel_rfl) rfl (by kernel_rfl) rfl rfl (by kernel_rfl)
-- (*watchfire/pack.Reader).Text
def sig16 : Sig := ⟨(.cons (.one (.ptr (.cons (.c (.ro (.cons (.int .u8) .nil))) (.cons (.c (.int .i64)) .nil)))) (.cons (.one (.c (.int .i64))) .nil)), (.cons (.one (.c .str)) .nil)⟩
def F16 : Nat → Option (List UInt8 × Int64) × Int64 → Option (List UInt8 × Option (List UInt8 × Int64)) := fun (n : Nat) (x : Option (List UInt8 × Int64) × Int64) =>
  obind (F10 n (Prod.fst x)) fun (x_1 : UInt64 × Option (List UInt8 × Int64)) =>
    obind (F27 n (Prod.snd x_1)) fun (x_2 : Bool × Option (List UInt8 × Int64)) =>
      oite (!Prod.fst x_2) (some ([], Prod.snd x_2))
        (oite (decide (UInt64.ofInt (Int64.toInt (IK.maxI IntKind.i64 (Prod.snd x) (0 : Int64))) < Prod.fst x_1))
          (obind (F20 n (Prod.snd x_2, (4 : Int64))) fun (x_3 : Unit × Option (List UInt8 × Int64)) =>
            some ([], Prod.snd x_3))
          (obind (Prod.snd x_2) fun (x_3 : List UInt8 × Int64) =>
            oite (decide (UInt64.ofInt (Int64.toInt (Int64.ofInt ↑(List.length (Prod.fst x_3)))) < Prod.fst x_1))
              (obind (F20 n (some (Prod.fst x_3, Prod.snd x_3), (3 : Int64)))
                fun (x_4 : Unit × Option (List UInt8 × Int64)) => some ([], Prod.snd x_4))
              (oite
                (decide ((0 : Int) ≤ ↑(UInt64.toNat (Prod.fst x_1))) &&
                    Nat.ble (Int.toNat ↑(UInt64.toNat (Prod.fst x_1))) (List.length (Prod.fst x_3)) &&
                  true)
                (oite
                  (decide ((0 : Int) ≤ ↑(UInt64.toNat (Prod.fst x_1))) &&
                    Nat.ble (Int.toNat ↑(UInt64.toNat (Prod.fst x_1))) (List.length (Prod.fst x_3)))
                  (some
                    (List.drop (0 : Nat) (List.take (Int.toNat ↑(UInt64.toNat (Prod.fst x_1))) (Prod.fst x_3)),
                      some
                        (List.drop (Int.toNat ↑(UInt64.toNat (Prod.fst x_1)))
                            (List.take (List.length (Prod.fst x_3)) (Prod.fst x_3)),
                          Prod.snd x_3)))
                  none)
                none)))
theorem ok16 (n : Nat) : FunOK Try.prog ⟨16, sig16, F16 n⟩ :=
  fun_ok (hints := ⟨[], []⟩) (fuel := n) (c := Try.f16.body.getD .skip) (rs := Try.f16.results.toList) tt_ok mix (FsOK.cons (ok10 n) (FsOK.cons (ok27 n) (FsOK.cons (ok20 n) (FsOK.nil)))) Try.func16 (by kernel_rfl) (by kernel_rfl) rfl (by kernel_rfl) rfl rfl (by kernel_rfl)
-- (*watchfire/pack.Reader).Done
def sig17 : Sig := ⟨(.cons (.one (.ptr (.cons (.c (.ro (.cons (.int .u8) .nil))) (.cons (.c (.int .i64)) .nil)))) .nil), (.cons (.one (.c (.int .i64))) .nil)⟩
def F17 : Nat → Option (List UInt8 × Int64) → Option (Int64 × Option (List UInt8 × Int64)) := fun (n : Nat) (x : Option (List UInt8 × Int64)) =>
  obind (F12 n x) fun (x_1 : Int64 × Option (List UInt8 × Int64)) =>
    oite (decide ((0 : Int64) < Prod.fst x_1))
      (obind (F20 n (Prod.snd x_1, (25 : Int64))) fun (x_2 : Unit × Option (List UInt8 × Int64)) =>
        obind (F11 n (Prod.snd x_2)) fun (x_3 : Int64 × Option (List UInt8 × Int64)) =>
          some (Prod.fst x_3, Prod.snd x_3))
      (obind (F11 n (Prod.snd x_1)) fun (x_2 : Int64 × Option (List UInt8 × Int64)) =>
        some (Prod.fst x_2, Prod.snd x_2))
theorem ok17 (n : Nat) : FunOK Try.prog ⟨17, sig17, F17 n⟩ :=
  fun_ok (hints := ⟨[], []⟩) (fuel := n) (c := Try.f17.body.getD .skip) (rs := Try.f17.results.toList) tt_ok mix (FsOK.cons (ok12 n) (FsOK.cons (ok20 n) (FsOK.cons (ok11 n) (FsOK.nil)))) Try.func17 (by kernel_rfl) (by kernel_rfl) rfl (by kernel_rfl) rfl rfl (by kernel_rfl)
-- (*watchfire/pack.Reader).Count
def sig19 : Sig := ⟨(.cons (.one (.ptr (.cons (.c (.ro (.cons (.int .u8) .nil))) (.cons (.c (.int .i64)) .nil)))) (.cons (.one (.c (.int .u64))) .nil)), (.cons (.one (.c (.int .u64))) .nil)⟩
def F19 : Nat → Option (List UInt8 × Int64) × UInt64 → Option (UInt64 × Option (List UInt8 × Int64)) := fun (n : Nat) (x : Option (List UInt8 × Int64) × UInt64) =>
  obind (F10 n (Prod.fst x)) fun (x_1 : UInt64 × Option (List UInt8 × Int64)) =>
    oite (decide (Prod.snd x < Prod.fst x_1))
      (obind (F20 n (Prod.snd x_1, (6 : Int64))) fun (x_2 : Unit × Option (List UInt8 × Int64)) =>
        some ((0 : UInt64), Prod.snd x_2))
      (some (Prod.fst x_1, Prod.snd x_1))
theorem ok19 (n : Nat) : FunOK Try.prog ⟨19, sig19, F19 n⟩ :=
  fun_ok (hints := ⟨[], []⟩) (fuel := n) (c := Try.f19.body.getD .skip) (rs := Try.f19.results.toList) tt_ok mix (FsOK.cons (ok10 n) (FsOK.cons (ok20 n) (FsOK.nil))) Try.func19 (by kernel_rfl) (by kernel_rfl) rfl (by kernel_rfl) rfl rfl (by kernel_rfl)
-- watchfire/watchfirelaw03.PackLimits
def sig4 : Sig := ⟨(.cons (.one (.c .str)) (.cons (.one (.c (.int .i64))) (.cons (.one (.c (.int .u64))) (.cons (.one (.c (.int .u64))) (.cons (.one (.c (.int .u8))) .nil))))), (.cons (.one (.c .bool)) .nil)⟩
def F4_J1023 : Nat → List UInt8 → UInt64 → UInt64 → UInt8 → List UInt8 → Option (Bool × Unit) := fun (n : Nat) (s : List UInt8) (n_ top : UInt64) (cut : UInt8) (b : List UInt8) =>
  oite (decide (Int64.ofInt ↑(List.length b) = (0 : Int64))) none
    (oite
      (decide
            ((0 : Int) ≤
              Int64.toInt
                (Int64.ofInt ↑(List.length b) - (1 : Int64) -
                  Int64.ofInt ↑(UInt8.toNat cut) % Int64.ofInt ↑(List.length b))) &&
          Nat.ble
            (Int.toNat
              (Int64.toInt
                (Int64.ofInt ↑(List.length b) - (1 : Int64) -
                  Int64.ofInt ↑(UInt8.toNat cut) % Int64.ofInt ↑(List.length b))))
            (List.length b) &&
        true)
      (obind
        (F9 n
          (List.drop (0 : Nat)
            (List.take
              (Int.toNat
                (Int64.toInt
                  (Int64.ofInt ↑(List.length b) - (1 : Int64) -
                    Int64.ofInt ↑(UInt8.toNat cut) % Int64.ofInt ↑(List.length b))))
              b)))
        fun (x_6 : Option (List UInt8 × Int64) × Unit) =>
        obind (F16 n (Prod.fst x_6, Int64.ofInt ↑(List.length s)))
          fun (x_7 : List UInt8 × Option (List UInt8 × Int64)) =>
          oite (!Prod.fst x_7 == []) (some (false, ()))
            (obind (F11 n (Prod.snd x_7)) fun (x_8 : Int64 × Option (List UInt8 × Int64)) =>
              oite (!decide (Prod.fst x_8 = (3 : Int64))) (some (false, ()))
                (obind (F18 n (some [], n_)) fun (x_9 : Unit × Option (List UInt8)) =>
                  obind (F15 n (Prod.snd x_9)) fun (x_10 : List UInt8 × Option (List UInt8)) =>
                    obind (F9 n (Prod.fst x_10)) fun (x_11 : Option (List UInt8 × Int64) × Unit) =>
                      obind (F19 n (Prod.fst x_11, top)) fun (x_12 : UInt64 × Option (List UInt8 × Int64)) =>
                        oite (decide (n_ ≤ top))
                          (oite (decide (Prod.fst x_12 = n_))
                            (obind (F17 n (Prod.snd x_12)) fun (x_13 : Int64 × Option (List UInt8 × Int64)) =>
                              oite (decide (Prod.fst x_13 = (0 : Int64))) (some (true, ()))
                                (oite (decide (top < n_))
                                  (oite (decide (Prod.fst x_12 = (0 : UInt64)))
                                    (obind (F11 n (Prod.snd x_13)) fun (x_14 : Int64 × Option (List UInt8 × Int64)) =>
                                      some (decide (Prod.fst x_14 = (6 : Int64)), ()))
                                    (some (false, ())))
                                  (some (false, ()))))
                            (oite (decide (top < n_))
                              (oite (decide (Prod.fst x_12 = (0 : UInt64)))
                                (obind (F11 n (Prod.snd x_12)) fun (x_13 : Int64 × Option (List UInt8 × Int64)) =>
                                  some (decide (Prod.fst x_13 = (6 : Int64)), ()))
                                (some (false, ())))
                              (some (false, ()))))
                          (oite (decide (top < n_))
                            (oite (decide (Prod.fst x_12 = (0 : UInt64)))
                              (obind (F11 n (Prod.snd x_12)) fun (x_13 : Int64 × Option (List UInt8 × Int64)) =>
                                some (decide (Prod.fst x_13 = (6 : Int64)), ()))
                              (some (false, ())))
                            (some (false, ()))))))
      none)
def F4 : Nat → List UInt8 × Int64 × UInt64 × UInt64 × UInt8 → Option (Bool × Unit) := fun (n : Nat) (x : List UInt8 × Int64 × UInt64 × UInt64 × UInt8) =>
  obind (F8 n ()) fun (x_1 : Bool × Unit) =>
    oite (!Prod.fst x_1) (some (false, ()))
      (oite (decide ((200 : Int64) < Int64.ofInt ↑(List.length (Prod.fst x)))) (some (true, ()))
        (obind (F14 n (some [], Prod.fst x)) fun (x_2 : Unit × Option (List UInt8)) =>
          obind (F15 n (Prod.snd x_2)) fun (x_3 : List UInt8 × Option (List UInt8)) =>
            obind (F9 n (Prod.fst x_3)) fun (x_4 : Option (List UInt8 × Int64) × Unit) =>
              obind (F16 n (Prod.fst x_4, Prod.fst (Prod.snd x)))
                fun (x_5 : List UInt8 × Option (List UInt8 × Int64)) =>
                ojoinA (1023 : Nat)
                  [PT.bytes, PT.int IntKind.u64, PT.int IntKind.u64, PT.int IntKind.u8,
                    PT.list (CTs.cons (CT.int IntKind.u8) CTs.nil)]
                  (fun
                      (J :
                        Arr
                          [PT.bytes, PT.int IntKind.u64, PT.int IntKind.u64, PT.int IntKind.u8,
                            PT.list (CTs.cons (CT.int IntKind.u8) CTs.nil)]
                          (Option (Bool × Unit))) =>
                    oite
                      (decide
                        (IK.maxI IntKind.i64 (Prod.fst (Prod.snd x)) (0 : Int64) <
                          Int64.ofInt ↑(List.length (Prod.fst x))))
                      (oite (!Prod.fst x_5 == []) (some (false, ()))
                        (obind (F11 n (Prod.snd x_5)) fun (x_6 : Int64 × Option (List UInt8 × Int64)) =>
                          oite (!decide (Prod.fst x_6 = (4 : Int64))) (some (false, ()))
                            (oite
                              (!decide
                                  (IK.maxI IntKind.i64 (Prod.fst (Prod.snd x)) (0 : Int64) <
                                    Int64.ofInt ↑(List.length (Prod.fst x))))
                              (oite (!Prod.fst x_5 == Prod.fst x) (some (false, ()))
                                (obind (F17 n (Prod.snd x_6)) fun (x_7 : Int64 × Option (List UInt8 × Int64)) =>
                                  oite (!decide (Prod.fst x_7 = (0 : Int64))) (some (false, ()))
                                    (J (Prod.fst x) (Prod.fst (Prod.snd (Prod.snd x)))
                                      (Prod.fst (Prod.snd (Prod.snd (Prod.snd x))))
                                      (Prod.snd (Prod.snd (Prod.snd (Prod.snd x)))) (Prod.fst x_3))))
                              (J (Prod.fst x) (Prod.fst (Prod.snd (Prod.snd x)))
                                (Prod.fst (Prod.snd (Prod.snd (Prod.snd x))))
                                (Prod.snd (Prod.snd (Prod.snd (Prod.snd x)))) (Prod.fst x_3)))))
                      (oite
                        (!decide
                            (IK.maxI IntKind.i64 (Prod.fst (Prod.snd x)) (0 : Int64) <
                              Int64.ofInt ↑(List.length (Prod.fst x))))
                        (oite (!Prod.fst x_5 == Prod.fst x) (some (false, ()))
                          (obind (F17 n (Prod.snd x_5)) fun (x_6 : Int64 × Option (List UInt8 × Int64)) =>
                            oite (!decide (Prod.fst x_6 = (0 : Int64))) (some (false, ()))
                              (J (Prod.fst x) (Prod.fst (Prod.snd (Prod.snd x)))
                                (Prod.fst (Prod.snd (Prod.snd (Prod.snd x))))
                                (Prod.snd (Prod.snd (Prod.snd (Prod.snd x)))) (Prod.fst x_3))))
                        (J (Prod.fst x) (Prod.fst (Prod.snd (Prod.snd x))) (Prod.fst (Prod.snd (Prod.snd (Prod.snd x))))
                          (Prod.snd (Prod.snd (Prod.snd (Prod.snd x)))) (Prod.fst x_3))))
                  (F4_J1023 n)))
theorem ok4 (n : Nat) : FunOK Try.prog ⟨4, sig4, F4 n⟩ :=
  fun_ok (hints := ⟨[(1023, ⟨[(0, .one (.str)), (2, .one (.int .u64)), (3, .one (.int .u64)), (4, .one (.int .u8)), (12, .one (.ro (.cons (.int .u8) .nil)))], [], 5⟩)], []⟩) (fuel := n) (c := Try.f4.body.getD .skip) (rs := Try.f4.results.toList) tt_ok mix (FsOK.cons (ok8 n) (FsOK.cons (ok14 n) (FsOK.cons (ok15 n) (FsOK.cons (ok9 n) (FsOK.cons (ok16 n) (FsOK.cons (ok11 n) (FsOK.cons (ok17 n) (FsOK.cons (ok18 n) (FsOK.cons (ok19 n) (FsOK.nil)))))))))) Try.func4 (by kernel_rfl) (by kernel_rfl) rfl (by kernel_rfl) rfl rfl (by kernel_rfl)
-- (*watchfire/pack.Reader).Int
def sig22 : Sig := ⟨(.cons (.one (.ptr (.cons (.c (.ro (.cons (.int .u8) .nil))) (.cons (.c (.int .i64)) .nil)))) .nil), (.cons (.one (.c (.int .i64))) .nil)⟩
def F22 : Nat → Option (List UInt8 × Int64) → Option (Int64 × Option (List UInt8 × Int64)) := fun (n : Nat) (x : Option (List UInt8 × Int64)) =>
  obind (F10 n x) fun (x_1 : UInt64 × Option (List UInt8 × Int64)) =>
    some
      (Int64.ofInt ↑(UInt64.toNat (IK.shr IntKind.u64 (Prod.fst x_1) ↑(UInt64.toNat (1 : UInt64)))) ^^^
          (0 : Int64) - Int64.ofInt ↑(UInt64.toNat (Prod.fst x_1 &&& (1 : UInt64))),
        Prod.snd x_1)
theorem ok22 (n : Nat) : FunOK Try.prog ⟨22, sig22, F22 n⟩ :=
  fun_ok (hints := ⟨[], []⟩) (fuel := n) (c := Try.f22.body.getD .skip) (rs := Try.f22.results.toList) tt_ok mix (FsOK.cons (ok10 n) (FsOK.nil)) Try.func22 (by kernel_rfl) (by kernel_rfl) rfl (by kernel_rfl) rfl rfl (by kernel_rfl)
-- (*watchfire/pack.Reader).Bool
def sig23 : Sig := ⟨(.cons (.one (.ptr (.cons (.c (.ro (.cons (.int .u8) .nil))) (.cons (.c (.int .i64)) .nil)))) .nil), (.cons (.one (.c .bool)) .nil)⟩
def F23 : Nat → Option (List UInt8 × Int64) → Option (Bool × Option (List UInt8 × Int64)) := fun (n : Nat) (x : Option (List UInt8 × Int64)) =>
  obind (F21 n x) fun (x_1 : UInt8 × Option (List UInt8 × Int64)) =>
    oite (decide ((1 : UInt8) < Prod.fst x_1))
      (obind (F20 n (Prod.snd x_1, (2 : Int64))) fun (x_2 : Unit × Option (List UInt8 × Int64)) =>
        some (decide (Prod.fst x_1 = (1 : UInt8)), Prod.snd x_2))
      (some (decide (Prod.fst x_1 = (1 : UInt8)), Prod.snd x_1))
theorem ok23 (n : Nat) : FunOK Try.prog ⟨23, sig23, F23 n⟩ :=
  fun_ok (hints := ⟨[], []⟩) (fuel := n) (c := Try.f23.body.getD .skip) (rs := Try.f23.results.toList) tt_ok mix (FsOK.cons (ok21 n) (FsOK.cons (ok20 n) (FsOK.nil))) Try.func23 (by kernel_rfl) (by kernel_rfl) rfl (by kernel_rfl) rfl rfl (by kernel_rfl)
-- watchfire/watchfirelaw03.PackFails
def sig5 : Sig := ⟨(.cons (.one (.c (.ro (.cons (.int .u8) .nil)))) (.cons (.one (.c (.ro (.cons (.int .u8) (.cons (.int .u64) (.cons .str .nil)))))) (.cons (.one (.c (.int .i64))) .nil))), (.cons (.one (.c .bool)) .nil)⟩
def F5_L1021 : Nat →
  Arr
      [PT.int IntKind.i64, PT.int IntKind.i64, PT.int IntKind.i64,
        PT.opt
          (OTs.cons (OT.c (CT.ro (CTs.cons (CT.int IntKind.u8) CTs.nil)))
            (OTs.cons (OT.c (CT.int IntKind.i64)) OTs.nil))]
      (Option (Bool × Unit)) →
    Int64 → Int64 → Int64 → Option (List UInt8 × Int64) → Option (Bool × Unit) := fun (n : Nat)
    (rec :
      Arr
        [PT.int IntKind.i64, PT.int IntKind.i64, PT.int IntKind.i64,
          PT.opt
            (OTs.cons (OT.c (CT.ro (CTs.cons (CT.int IntKind.u8) CTs.nil)))
              (OTs.cons (OT.c (CT.int IntKind.i64)) OTs.nil))]
        (Option (Bool × Unit)))
    (code t t_1 : Int64) (r : Option (List UInt8 × Int64)) =>
  oite (decide (t_1 < t))
    (obind (F21 n r) fun (x_4 : UInt8 × Option (List UInt8 × Int64)) =>
      oite (!decide (Prod.fst x_4 = (0 : UInt8))) (some (false, ()))
        (obind (F10 n (Prod.snd x_4)) fun (x_5 : UInt64 × Option (List UInt8 × Int64)) =>
          oite (!decide (Prod.fst x_5 = (0 : UInt64))) (some (false, ()))
            (obind (F22 n (Prod.snd x_5)) fun (x_6 : Int64 × Option (List UInt8 × Int64)) =>
              oite (!decide (Prod.fst x_6 = (0 : Int64))) (some (false, ()))
                (obind (F23 n (Prod.snd x_6)) fun (x_7 : Bool × Option (List UInt8 × Int64)) =>
                  oite (Prod.fst x_7) (some (false, ()))
                    (obind (F16 n (Prod.snd x_7, (9 : Int64))) fun (x_8 : List UInt8 × Option (List UInt8 × Int64)) =>
                      oite (!Prod.fst x_8 == []) (some (false, ()))
                        (obind (F19 n (Prod.snd x_8, (9 : UInt64))) fun (x_9 : UInt64 × Option (List UInt8 × Int64)) =>
                          oite (!decide (Prod.fst x_9 = (0 : UInt64))) (some (false, ()))
                            (obind (F20 n (Prod.snd x_9, code + (1 : Int64)))
                              fun (x_10 : Unit × Option (List UInt8 × Int64)) =>
                              rec code t (t_1 + (1 : Int64)) (Prod.snd x_10))))))))
    (obind (F12 n r) fun (x_4 : Int64 × Option (List UInt8 × Int64)) =>
      oite (decide (Prod.fst x_4 = (0 : Int64)))
        (obind (F11 n (Prod.snd x_4)) fun (x_5 : Int64 × Option (List UInt8 × Int64)) =>
          oite (decide (Prod.fst x_5 = code))
            (obind (F17 n (Prod.snd x_5)) fun (x_6 : Int64 × Option (List UInt8 × Int64)) =>
              some (decide (Prod.fst x_6 = code), ()))
            (some (false, ())))
        (some (false, ())))
def F5_R1021 : Nat → Nat → PT.T (PT.int IntKind.i64) → Int64 → Int64 → Option (List UInt8 × Int64) → Option (Bool × Unit) := fun (n : Nat) =>
  ofixA (1021 : Nat)
    [PT.int IntKind.i64, PT.int IntKind.i64, PT.int IntKind.i64,
      PT.opt
        (OTs.cons (OT.c (CT.ro (CTs.cons (CT.int IntKind.u8) CTs.nil))) (OTs.cons (OT.c (CT.int IntKind.i64)) OTs.nil))]
    (F5_L1021 n)
def F5 : Nat → List UInt8 × List (UInt8 × UInt64 × List UInt8) × Int64 → Option (Bool × Unit) := fun (n : Nat) (x : List UInt8 × List (UInt8 × UInt64 × List UInt8) × Int64) =>
  obind (F8 n ()) fun (x_1 : Bool × Unit) =>
    oite (!Prod.fst x_1) (some (false, ()))
      (oite (decide ((100 : Int64) < Int64.ofInt ↑(List.length (Prod.fst x)))) (some (true, ()))
        (oite (decide ((20 : Int64) < Int64.ofInt ↑(List.length (Prod.fst (Prod.snd x))))) (some (true, ()))
          (obind (F9 n (Prod.fst x)) fun (x_2 : Option (List UInt8 × Int64) × Unit) =>
            obind (F20 n (Prod.fst x_2, Prod.snd (Prod.snd x))) fun (x_3 : Unit × Option (List UInt8 × Int64)) =>
              oite (decide (Prod.snd (Prod.snd x) = (0 : Int64)))
                (obind (F11 n (Prod.snd x_3)) fun (x_4 : Int64 × Option (List UInt8 × Int64)) =>
                  oite (decide (Prod.fst x_4 = (0 : Int64)))
                    (obind (F12 n (Prod.snd x_4)) fun (x_5 : Int64 × Option (List UInt8 × Int64)) =>
                      some (decide (Prod.fst x_5 = Int64.ofInt ↑(List.length (Prod.fst x))), ()))
                    (some (false, ())))
                (F5_R1021 n n (Prod.snd (Prod.snd x)) (Int64.ofInt ↑(List.length (Prod.fst (Prod.snd x)))) (0 : Int64)
                  (Prod.snd x_3)))))
theorem F5_R1021_s (n : Nat) (m_ : Nat) : F5_R1021 n (m_ + 1) = F5_L1021 n (F5_R1021 n m_) := rfl
theorem ok5 (n : Nat) : FunOK Try.prog ⟨5, sig5, F5 n⟩ :=
  fun_ok (hints := ⟨[], [(1021, ⟨[(7, .one (.own 3)), (8, .one (.int .i64)), (38, .one (.int .i64)), (39, .one (.int .i64))], [(3, .fold (.cons (.c (.ro (.cons (.int .u8) .nil))) (.cons (.c (.int .i64)) .nil)))], 4⟩)]⟩) (fuel := n) (c := Try.f5.body.getD .skip) (rs := Try.f5.results.toList) tt_ok mix (FsOK.cons (ok8 n) (FsOK.cons (ok9 n) (FsOK.cons (ok20 n) (FsOK.cons (ok11 n) (FsOK.cons (ok12 n) (FsOK.cons (ok21 n) (FsOK.cons (ok10 n) (FsOK.cons (ok22 n) (FsOK.cons (ok23 n) (FsOK.cons (ok16 n) (FsOK.cons (ok19 n) (FsOK.cons (ok17 n) (FsOK.nil))))))))))))) Try.func5 (by kernel_rfl) (by kernel_rfl) rfl (by kernel_rfl) rfl rfl (by kernel_rfl)
-- (*watchfire/pack.Writer).Byte
def sig28 : Sig := ⟨(.cons (.one (.ptr (.cons (.row (.cons (.int .u8) .nil)) .nil))) (.cons (.one (.c (.int .u8))) .nil)), .nil⟩
def F28 : Nat → Option (List UInt8) × UInt8 → Option (Unit × Option (List UInt8)) := fun (n : Nat) (x : Option (List UInt8) × UInt8) =>
  oelim (Prod.fst x) (some ((), none)) fun (x_1 : List UInt8) =>
    oite (Nat.ble (List.length x_1 + List.length [Prod.snd x]) (4294967296 : Nat))
      (some ((), some (x_1 ++ [Prod.snd x]))) none
theorem ok28 (n : Nat) : FunOK Try.prog ⟨28, sig28, F28 n⟩ :=
  fun_ok (hints := ⟨[], []⟩) (fuel := n) (c := Try.f28.body.getD .skip) (rs := Try.f28.results.toList) tt_ok mix (FsOK.nil) Try.func28 (by kernel_rfl) (by kernel_rfl) rfl (by kernel_rfl) rfl rfl (by kernel_rfl)
-- watchfire/watchfireref01.Int
def sig29 : Sig := ⟨(.cons (.one (.c (.int .i64))) .nil), (.cons (.one (.c (.ro (.cons (.int .u8) .nil)))) .nil)⟩
def F29 : Nat → Int64 → Option (List UInt8 × Unit) := fun (n : Nat) (x : Int64) =>
  oite (decide (x < (0 : Int64)))
    (obind (F13 n ((2 : UInt64) * UInt64.ofInt (Int64.toInt ((0 : Int64) - (x + (1 : Int64)))) + (1 : UInt64)))
      fun (x_1 : List UInt8 × Unit) => some (Prod.fst x_1, ()))
    (obind (F13 n ((2 : UInt64) * UInt64.ofInt (Int64.toInt x))) fun (x_1 : List UInt8 × Unit) =>
      some (Prod.fst x_1, ()))
theorem ok29 (n : Nat) : FunOK Try.prog ⟨29, sig29, F29 n⟩ :=
  fun_ok (hints := ⟨[], []⟩) (fuel := n) (c := Try.f29.body.getD .skip) (rs := Try.f29.results.toList) tt_ok mix (FsOK.cons (ok13 n) (FsOK.nil)) Try.func29 (by kernel_rfl) (by kernel_rfl) rfl (by kernel_rfl) rfl rfl (by kernel_rfl)
-- (*watchfire/pack.Writer).Bool
def sig30 : Sig := ⟨(.cons (.one (.ptr (.cons (.row (.cons (.int .u8) .nil)) .nil))) (.cons (.one (.c .bool)) .nil)), .nil⟩
def F30 : Nat → Option (List UInt8) × Bool → Option (Unit × Option (List UInt8)) := fun (n : Nat) (x : Option (List UInt8) × Bool) =>
  oite (Prod.snd x)
    (obind (F28 n (Prod.fst x, (1 : UInt8))) fun (x_1 : Unit × Option (List UInt8)) => some ((), Prod.snd x_1))
    (obind (F28 n (Prod.fst x, (0 : UInt8))) fun (x_1 : Unit × Option (List UInt8)) => some ((), Prod.snd x_1))
theorem ok30 (n : Nat) : FunOK Try.prog ⟨30, sig30, F30 n⟩ :=
  fun_ok (hints := ⟨[], []⟩) (fuel := n) (c := Try.f30.body.getD .skip) (rs := Try.f30.results.toList) tt_ok mix (FsOK.cons (ok28 n) (FsOK.nil)) Try.func30 (by kernel_rfl) (by kernel_rfl) rfl (by kernel_rfl) rfl rfl (by kernel_rfl)
-- watchfire/watchfireref01.Long
def sig31 : Sig := ⟨(.cons (.one (.c .str)) .nil), (.cons (.one (.c (.ro (.cons (.int .u8) .nil)))) .nil)⟩
def F31 : Nat → List UInt8 → Option (List UInt8 × Unit) := fun (n : Nat) (x : List UInt8) =>
  obind (F13 n (UInt64.ofInt (Int64.toInt (Int64.ofInt ↑(List.length x))))) fun (x_1 : List UInt8 × Unit) =>
    oite (Nat.ble (List.length (Prod.fst x_1) + List.length x) (4294967296 : Nat))
      (some (Prod.fst x_1 ++ x, ())) none
theorem ok31 (n : Nat) : FunOK Try.prog ⟨31, sig31, F31 n⟩ :=
  fun_ok (hints := ⟨[], []⟩) (fuel := n) (c := Try.f31.body.getD .skip) (rs := Try.f31.results.toList) tt_ok mix (FsOK.cons (ok13 n) (FsOK.nil)) Try.func31 (by kernel_rfl) (by kernel_rfl) rfl (by kernel_rfl) rfl rfl (by kernel_rfl)
-- (watchfire/watchfirelaw03.Thing).put
def sig24 : Sig := ⟨(.cons (.agg (.cons (.int .u8) (.cons (.int .u64) (.cons .str .nil)))) (.cons (.one (.ptr (.cons (.row (.cons (.int .u8) .nil)) .nil))) .nil)), (.cons (.one (.c (.ro (.cons (.int .u8) .nil)))) .nil)⟩
def F24 : Nat → (UInt8 × UInt64 × List UInt8) × Option (List UInt8) → Option (List UInt8 × Option (List UInt8)) := fun (n : Nat) (x : (UInt8 × UInt64 × List UInt8) × Option (List UInt8)) =>
  oite (decide (Prod.fst (Prod.fst x) % (5 : UInt8) = (0 : UInt8)))
    (obind (F28 n (Prod.snd x, UInt8.ofInt ↑(UInt64.toNat (Prod.fst (Prod.snd (Prod.fst x))))))
      fun (x_1 : Unit × Option (List UInt8)) =>
      some ([UInt8.ofInt ↑(UInt64.toNat (Prod.fst (Prod.snd (Prod.fst x))))], Prod.snd x_1))
    (oite (decide (Prod.fst (Prod.fst x) % (5 : UInt8) = (1 : UInt8)))
      (obind (F18 n (Prod.snd x, Prod.fst (Prod.snd (Prod.fst x)))) fun (x_1 : Unit × Option (List UInt8)) =>
        obind (F13 n (Prod.fst (Prod.snd (Prod.fst x)))) fun (x_2 : List UInt8 × Unit) =>
          some (Prod.fst x_2, Prod.snd x_1))
      (oite (decide (Prod.fst (Prod.fst x) % (5 : UInt8) = (2 : UInt8)))
        (obind (F26 n (Prod.snd x, Int64.ofInt ↑(UInt64.toNat (Prod.fst (Prod.snd (Prod.fst x))))))
          fun (x_1 : Unit × Option (List UInt8)) =>
          obind (F29 n (Int64.ofInt ↑(UInt64.toNat (Prod.fst (Prod.snd (Prod.fst x))))))
            fun (x_2 : List UInt8 × Unit) => some (Prod.fst x_2, Prod.snd x_1))
        (oite (decide (Prod.fst (Prod.fst x) % (5 : UInt8) = (3 : UInt8)))
          (obind (F30 n (Prod.snd x, decide (Prod.fst (Prod.snd (Prod.fst x)) % (2 : UInt64) = (1 : UInt64))))
            fun (x_1 : Unit × Option (List UInt8)) =>
            some ([UInt8.ofInt ↑(UInt64.toNat (Prod.fst (Prod.snd (Prod.fst x)) % (2 : UInt64)))], Prod.snd x_1))
          (obind (F14 n (Prod.snd x, Prod.snd (Prod.snd (Prod.fst x)))) fun (x_1 : Unit × Option (List UInt8)) =>
            obind (F31 n (Prod.snd (Prod.snd (Prod.fst x)))) fun (x_2 : List UInt8 × Unit) =>
              some (Prod.fst x_2, Prod.snd x_1)))))
theorem ok24 (n : Nat) : FunOK Try.prog ⟨24, sig24, F24 n⟩ :=
  fun_ok (hints := ⟨[], []⟩) (fuel := n) (c := Try.f24.body.getD .skip) (rs := Try.f24.results.toList) tt_ok mix (FsOK.cons (ok28 n) (FsOK.cons (ok18 n) (FsOK.cons (ok13 n) (FsOK.cons (ok26 n) (FsOK.cons (ok29 n) (FsOK.cons (ok30 n) (FsOK.cons (ok14 n) (FsOK.cons (ok31 n) (FsOK.nil))))))))) Try.func24 (by kernel_rfl) (by kernel_rfl) rfl (by kernel_rfl) rfl rfl (by kernel_rfl)
-- watchfire/watchfirelaw03.PackNone
def sig6 : Sig := ⟨(.cons (.agg (.cons (.int .u8) (.cons (.int .u64) (.cons .str .nil)))) (.cons (.one (.c (.int .i64))) .nil)), (.cons (.one (.c .bool)) .nil)⟩
def F6 : Nat → (UInt8 × UInt64 × List UInt8) × Int64 → Option (Bool × Unit) := fun (n : Nat) (x : (UInt8 × UInt64 × List UInt8) × Int64) =>
  obind (F8 n ()) fun (x_1 : Bool × Unit) =>
    oite (!Prod.fst x_1) (some (false, ()))
      (oite (decide ((100 : Int64) < Int64.ofInt ↑(List.length (Prod.snd (Prod.snd (Prod.fst x))))))
        (some (true, ()))
        (obind
          (F24 n ((Prod.fst (Prod.fst x), Prod.fst (Prod.snd (Prod.fst x)), Prod.snd (Prod.snd (Prod.fst x))), none))
          fun (x_2 : List UInt8 × Option (List UInt8)) =>
          obind (F20 n (none, (2 : Int64))) fun (x_3 : Unit × Option (List UInt8 × Int64)) =>
            obind (F15 n none) fun (x_4 : List UInt8 × Option (List UInt8)) =>
              oite (decide (Int64.ofInt ↑(List.length (Prod.fst x_4)) = (0 : Int64)))
                (obind (F11 n none) fun (x_5 : Int64 × Option (List UInt8 × Int64)) =>
                  oite (decide (Prod.fst x_5 = (1 : Int64)))
                    (obind (F21 n none) fun (x_6 : UInt8 × Option (List UInt8 × Int64)) =>
                      oite (decide (Prod.fst x_6 = (0 : UInt8)))
                        (obind (F10 n none) fun (x_7 : UInt64 × Option (List UInt8 × Int64)) =>
                          oite (decide (Prod.fst x_7 = (0 : UInt64)))
                            (obind (F23 n none) fun (x_8 : Bool × Option (List UInt8 × Int64)) =>
                              oite (!Prod.fst x_8)
                                (obind (F16 n (none, Prod.snd x))
                                  fun (x_9 : List UInt8 × Option (List UInt8 × Int64)) =>
                                  oite (Prod.fst x_9 == [])
                                    (obind (F12 n none) fun (x_10 : Int64 × Option (List UInt8 × Int64)) =>
                                      oite (decide (Prod.fst x_10 = (0 : Int64)))
                                        (obind (F17 n none) fun (x_11 : Int64 × Option (List UInt8 × Int64)) =>
                                          some (decide (Prod.fst x_11 = (1 : Int64)), ()))
                                        (some (false, ())))
                                    (some (false, ())))
                                (some (false, ())))
                            (some (false, ())))
                        (some (false, ())))
                    (some (false, ())))
                (some (false, ()))))
theorem ok6 (n : Nat) : FunOK Try.prog ⟨6, sig6, F6 n⟩ :=
  fun_ok (hints := ⟨[], []⟩) (fuel := n) (c := Try.f6.body.getD .skip) (rs := Try.f6.results.toList) tt_ok mix (FsOK.cons (ok8 n) (FsOK.cons (ok24 n) (FsOK.cons (ok20 n) (FsOK.cons (ok15 n) (FsOK.cons (ok11 n) (FsOK.cons (ok21 n) (FsOK.cons (ok10 n) (FsOK.cons (ok23 n) (FsOK.cons (ok16 n) (FsOK.cons (ok12 n) (FsOK.cons (ok17 n) (FsOK.nil)))))))))))) Try.func6 (by kernel_rfl) (by kernel_rfl) rfl (by kernel_rfl) rfl rfl (by kernel_rfl)
-- (watchfire/watchfirelaw03.Thing).back
def sig25 : Sig := ⟨(.cons (.agg (.cons (.int .u8) (.cons (.int .u64) (.cons .str .nil)))) (.cons (.one (.ptr (.cons (.c (.ro (.cons (.int .u8) .nil))) (.cons (.c (.int .i64)) .nil)))) .nil)), (.cons (.one (.c .bool)) .nil)⟩
def F25 : Nat → (UInt8 × UInt64 × List UInt8) × Option (List UInt8 × Int64) → Option (Bool × Option (List UInt8 × Int64)) := fun (n : Nat) (x : (UInt8 × UInt64 × List UInt8) × Option (List UInt8 × Int64)) =>
  oite (decide (Prod.fst (Prod.fst x) % (5 : UInt8) = (0 : UInt8)))
    (obind (F21 n (Prod.snd x)) fun (x_1 : UInt8 × Option (List UInt8 × Int64)) =>
      some (decide (Prod.fst x_1 = UInt8.ofInt ↑(UInt64.toNat (Prod.fst (Prod.snd (Prod.fst x))))), Prod.snd x_1))
    (oite (decide (Prod.fst (Prod.fst x) % (5 : UInt8) = (1 : UInt8)))
      (obind (F10 n (Prod.snd x)) fun (x_1 : UInt64 × Option (List UInt8 × Int64)) =>
        some (decide (Prod.fst x_1 = Prod.fst (Prod.snd (Prod.fst x))), Prod.snd x_1))
      (oite (decide (Prod.fst (Prod.fst x) % (5 : UInt8) = (2 : UInt8)))
        (obind (F22 n (Prod.snd x)) fun (x_1 : Int64 × Option (List UInt8 × Int64)) =>
          some (decide (Prod.fst x_1 = Int64.ofInt ↑(UInt64.toNat (Prod.fst (Prod.snd (Prod.fst x))))), Prod.snd x_1))
        (oite (decide (Prod.fst (Prod.fst x) % (5 : UInt8) = (3 : UInt8)))
          (obind (F23 n (Prod.snd x)) fun (x_1 : Bool × Option (List UInt8 × Int64)) =>
            some
              (Prod.fst x_1 == decide (Prod.fst (Prod.snd (Prod.fst x)) % (2 : UInt64) = (1 : UInt64)), Prod.snd x_1))
          (obind (F16 n (Prod.snd x, Int64.ofInt ↑(List.length (Prod.snd (Prod.snd (Prod.fst x))))))
            fun (x_1 : List UInt8 × Option (List UInt8 × Int64)) =>
            some (Prod.fst x_1 == Prod.snd (Prod.snd (Prod.fst x)), Prod.snd x_1)))))
theorem ok25 (n : Nat) : FunOK Try.prog ⟨25, sig25, F25 n⟩ :=
  fun_ok (hints := ⟨[], []⟩) (fuel := n) (c := Try.f25.body.getD .skip) (rs := Try.f25.results.toList) tt_ok mix (FsOK.cons (ok21 n) (FsOK.cons (ok10 n) (FsOK.cons (ok22 n) (FsOK.cons (ok23 n) (FsOK.cons (ok16 n) (FsOK.nil)))))) Try.func25 (by kernel_rfl) (by kernel_rfl) rfl (by kernel_rfl) rfl rfl (by kernel_rfl)
-- watchfire/watchfirelaw03.PackThings
def sig7 : Sig := ⟨(.cons (.one (.c (.ro (.cons (.int .u8) (.cons (.int .u64) (.cons .str .nil)))))) (.cons (.one (.c (.ro (.cons (.int .u8) .nil)))) .nil)), (.cons (.one (.c .bool)) .nil)⟩
def F7_J2047 : Nat → List UInt8 → List UInt8 → Int64 → List UInt8 → Option (List UInt8 × Int64) → Option (Bool × Unit) := fun (n : Nat) (rest_2 b_1 : List UInt8) (end_ : Int64) (want_2 : List UInt8) (r_1 : Option (List UInt8 × Int64)) =>
  oite (b_1 == want_2)
    (obind (F12 n r_1) fun (x_4 : Int64 × Option (List UInt8 × Int64)) =>
      oite (decide (Prod.fst x_4 = Int64.ofInt ↑(List.length rest_2)))
        (obind (F17 n (Prod.snd x_4)) fun (x_5 : Int64 × Option (List UInt8 × Int64)) =>
          oite (decide (Prod.fst x_5 = end_))
            (obind (F11 n (Prod.snd x_5)) fun (x_6 : Int64 × Option (List UInt8 × Int64)) =>
              some (decide (Prod.fst x_6 = end_), ()))
            (some (false, ())))
        (some (false, ())))
    (some (false, ()))
def F7_L2045 : Nat →
  Arr
      [PT.list (CTs.cons (CT.int IntKind.u8) CTs.nil), PT.list (CTs.cons (CT.int IntKind.u8) CTs.nil),
        PT.list (CTs.cons (CT.int IntKind.u8) (CTs.cons (CT.int IntKind.u64) (CTs.cons CT.str CTs.nil))),
        PT.int IntKind.i64, PT.int IntKind.i64, PT.list (CTs.cons (CT.int IntKind.u8) CTs.nil),
        PT.opt
          (OTs.cons (OT.c (CT.ro (CTs.cons (CT.int IntKind.u8) CTs.nil)))
            (OTs.cons (OT.c (CT.int IntKind.i64)) OTs.nil))]
      (Option (Bool × Unit)) →
    List UInt8 →
      List UInt8 →
        List (UInt8 × UInt64 × List UInt8) →
          Int64 → Int64 → List UInt8 → Option (List UInt8 × Int64) → Option (Bool × Unit) := fun (n : Nat)
    (rec_1 :
      Arr
        [PT.list (CTs.cons (CT.int IntKind.u8) CTs.nil), PT.list (CTs.cons (CT.int IntKind.u8) CTs.nil),
          PT.list (CTs.cons (CT.int IntKind.u8) (CTs.cons (CT.int IntKind.u64) (CTs.cons CT.str CTs.nil))),
          PT.int IntKind.i64, PT.int IntKind.i64, PT.list (CTs.cons (CT.int IntKind.u8) CTs.nil),
          PT.opt
            (OTs.cons (OT.c (CT.ro (CTs.cons (CT.int IntKind.u8) CTs.nil)))
              (OTs.cons (OT.c (CT.int IntKind.i64)) OTs.nil))]
        (Option (Bool × Unit)))
    (rest_1 b : List UInt8) (t_3 : List (UInt8 × UInt64 × List UInt8)) (t_1_1 t_2_1 : Int64) (want_1 : List UInt8)
    (r : Option (List UInt8 × Int64)) =>
  oite (decide (t_2_1 < t_1_1))
    (obind (at? t_3 (Int64.toInt t_2_1)) fun (x_4 : UInt8 × UInt64 × List UInt8) =>
      obind (F25 n ((Prod.fst x_4, Prod.fst (Prod.snd x_4), Prod.snd (Prod.snd x_4)), r))
        fun (x_5 : Bool × Option (List UInt8 × Int64)) =>
        oite (!Prod.fst x_5) (some (false, ()))
          (rec_1 rest_1 b t_3 t_1_1 (t_2_1 + (1 : Int64)) want_1 (Prod.snd x_5)))
    (ojoinA (2047 : Nat)
      [PT.list (CTs.cons (CT.int IntKind.u8) CTs.nil), PT.list (CTs.cons (CT.int IntKind.u8) CTs.nil),
        PT.int IntKind.i64, PT.list (CTs.cons (CT.int IntKind.u8) CTs.nil),
        PT.opt
          (OTs.cons (OT.c (CT.ro (CTs.cons (CT.int IntKind.u8) CTs.nil)))
            (OTs.cons (OT.c (CT.int IntKind.i64)) OTs.nil))]
      (fun
          (J :
            Arr
              [PT.list (CTs.cons (CT.int IntKind.u8) CTs.nil), PT.list (CTs.cons (CT.int IntKind.u8) CTs.nil),
                PT.int IntKind.i64, PT.list (CTs.cons (CT.int IntKind.u8) CTs.nil),
                PT.opt
                  (OTs.cons (OT.c (CT.ro (CTs.cons (CT.int IntKind.u8) CTs.nil)))
                    (OTs.cons (OT.c (CT.int IntKind.i64)) OTs.nil))]
              (Option (Bool × Unit))) =>
        oite (decide ((0 : Int64) < Int64.ofInt ↑(List.length rest_1))) (J rest_1 b (25 : Int64) want_1 r)
          (J rest_1 b (0 : Int64) want_1 r))
      (F7_J2047 n))
def F7_R2045 : Nat →
  Nat →
    PT.T (PT.list (CTs.cons (CT.int IntKind.u8) CTs.nil)) →
      List UInt8 →
        List (UInt8 × UInt64 × List UInt8) →
          Int64 → Int64 → List UInt8 → Option (List UInt8 × Int64) → Option (Bool × Unit) := fun (n : Nat) =>
  ofixA (2045 : Nat)
    [PT.list (CTs.cons (CT.int IntKind.u8) CTs.nil), PT.list (CTs.cons (CT.int IntKind.u8) CTs.nil),
      PT.list (CTs.cons (CT.int IntKind.u8) (CTs.cons (CT.int IntKind.u64) (CTs.cons CT.str CTs.nil))),
      PT.int IntKind.i64, PT.int IntKind.i64, PT.list (CTs.cons (CT.int IntKind.u8) CTs.nil),
      PT.opt
        (OTs.cons (OT.c (CT.ro (CTs.cons (CT.int IntKind.u8) CTs.nil))) (OTs.cons (OT.c (CT.int IntKind.i64)) OTs.nil))]
    (F7_L2045 n)
def F7_L253 : Nat →
  Arr
      [PT.list (CTs.cons (CT.int IntKind.u8) (CTs.cons (CT.int IntKind.u64) (CTs.cons CT.str CTs.nil))),
        PT.list (CTs.cons (CT.int IntKind.u8) CTs.nil),
        PT.list (CTs.cons (CT.int IntKind.u8) (CTs.cons (CT.int IntKind.u64) (CTs.cons CT.str CTs.nil))),
        PT.int IntKind.i64, PT.int IntKind.i64,
        PT.opt (OTs.cons (OT.row (CTs.cons (CT.int IntKind.u8) CTs.nil)) OTs.nil),
        PT.list (CTs.cons (CT.int IntKind.u8) CTs.nil)]
      (Option (Bool × Unit)) →
    List (UInt8 × UInt64 × List UInt8) →
      List UInt8 →
        List (UInt8 × UInt64 × List UInt8) → Int64 → Int64 → Option (List UInt8) → List UInt8 → Option (Bool × Unit) := fun (n : Nat)
    (rec :
      Arr
        [PT.list (CTs.cons (CT.int IntKind.u8) (CTs.cons (CT.int IntKind.u64) (CTs.cons CT.str CTs.nil))),
          PT.list (CTs.cons (CT.int IntKind.u8) CTs.nil),
          PT.list (CTs.cons (CT.int IntKind.u8) (CTs.cons (CT.int IntKind.u64) (CTs.cons CT.str CTs.nil))),
          PT.int IntKind.i64, PT.int IntKind.i64,
          PT.opt (OTs.cons (OT.row (CTs.cons (CT.int IntKind.u8) CTs.nil)) OTs.nil),
          PT.list (CTs.cons (CT.int IntKind.u8) CTs.nil)]
        (Option (Bool × Unit)))
    (l : List (UInt8 × UInt64 × List UInt8)) (rest : List UInt8) (t : List (UInt8 × UInt64 × List UInt8))
    (t_1 t_2 : Int64) (w : Option (List UInt8)) (want : List UInt8) =>
  oite (decide (t_2 < t_1))
    (obind (at? t (Int64.toInt t_2)) fun (x_2 : UInt8 × UInt64 × List UInt8) =>
      oite (decide ((300 : Int64) < Int64.ofInt ↑(List.length (Prod.snd (Prod.snd x_2))))) (some (true, ()))
        (obind (F24 n ((Prod.fst x_2, Prod.fst (Prod.snd x_2), Prod.snd (Prod.snd x_2)), w))
          fun (x_3 : List UInt8 × Option (List UInt8)) =>
          oite (Nat.ble (List.length want + List.length (Prod.fst x_3)) (4294967296 : Nat))
            (rec l rest t t_1 (t_2 + (1 : Int64)) (Prod.snd x_3) (want ++ Prod.fst x_3)) none))
    (obind (F15 n w) fun (x_2 : List UInt8 × Option (List UInt8)) =>
      oite (Nat.ble ((0 : Nat) + List.length (Prod.fst x_2)) (4294967296 : Nat))
        (oite (Nat.ble (List.length ([] ++ Prod.fst x_2) + List.length rest) (4294967296 : Nat))
          (obind (F9 n ([] ++ Prod.fst x_2 ++ rest)) fun (x_3 : Option (List UInt8 × Int64) × Unit) =>
            F7_R2045 n n rest (Prod.fst x_2) l (Int64.ofInt ↑(List.length l)) (0 : Int64) want (Prod.fst x_3))
          none)
        none)
def F7_R253 : Nat →
  Nat →
    PT.T (PT.list (CTs.cons (CT.int IntKind.u8) (CTs.cons (CT.int IntKind.u64) (CTs.cons CT.str CTs.nil)))) →
      List UInt8 →
        List (UInt8 × UInt64 × List UInt8) → Int64 → Int64 → Option (List UInt8) → List UInt8 → Option (Bool × Unit) := fun (n : Nat) =>
  ofixA (253 : Nat)
    [PT.list (CTs.cons (CT.int IntKind.u8) (CTs.cons (CT.int IntKind.u64) (CTs.cons CT.str CTs.nil))),
      PT.list (CTs.cons (CT.int IntKind.u8) CTs.nil),
      PT.list (CTs.cons (CT.int IntKind.u8) (CTs.cons (CT.int IntKind.u64) (CTs.cons CT.str CTs.nil))),
      PT.int IntKind.i64, PT.int IntKind.i64, PT.opt (OTs.cons (OT.row (CTs.cons (CT.int IntKind.u8) CTs.nil)) OTs.nil),
      PT.list (CTs.cons (CT.int IntKind.u8) CTs.nil)]
    (F7_L253 n)
def F7 : Nat → List (UInt8 × UInt64 × List UInt8) × List UInt8 → Option (Bool × Unit) := fun (n : Nat) (x : List (UInt8 × UInt64 × List UInt8) × List UInt8) =>
  obind (F8 n ()) fun (x_1 : Bool × Unit) =>
    oite (!Prod.fst x_1) (some (false, ()))
      (oite (decide ((30 : Int64) < Int64.ofInt ↑(List.length (Prod.fst x)))) (some (true, ()))
        (oite (decide ((100 : Int64) < Int64.ofInt ↑(List.length (Prod.snd x)))) (some (true, ()))
          (F7_R253 n n (Prod.fst x) (Prod.snd x) (Prod.fst x) (Int64.ofInt ↑(List.length (Prod.fst x))) (0 : Int64)
            (some []) [])))
theorem F7_R2045_s (n : Nat) (m_ : Nat) : F7_R2045 n (m_ + 1) = F7_L2045 n (F7_R2045 n m_) := rfl
theorem F7_R253_s (n : Nat) (m_ : Nat) : F7_R253 n (m_ + 1) = F7_L253 n (F7_R253 n m_) := rfl
theorem ok7 (n : Nat) : FunOK Try.prog ⟨7, sig7, F7 n⟩ :=
  fun_ok (hints := ⟨[(2047, ⟨[(1, .one (.ro (.cons (.int .u8) .nil))), (6, .one (.own 2)), (9, .one (.ro (.cons (.int .u8) .nil))), (10, .one (.own 3)), (13, .one (.int .i64))], [(2, .row (.cons (.int .u8) .nil)), (3, .fold (.cons (.c (.ro (.cons (.int .u8) .nil))) (.cons (.c (.int .i64)) .nil)))], 4⟩)], [(253, ⟨[(0, .one (.ro (.cons (.int .u8) (.cons (.int .u64) (.cons .str .nil))))), (1, .one (.ro (.cons (.int .u8) .nil))), (5, .one (.own 2)), (6, .one (.own 3)), (24, .one (.ro (.cons (.int .u8) (.cons (.int .u64) (.cons .str .nil))))), (25, .one (.int .i64)), (26, .one (.int .i64))], [(2, .fold (.cons (.row (.cons (.int .u8) .nil)) .nil)), (3, .row (.cons (.int .u8) .nil))], 4⟩), (2045, ⟨[(1, .one (.ro (.cons (.int .u8) .nil))), (6, .one (.own 2)), (9, .one (.ro (.cons (.int .u8) .nil))), (10, .one (.own 3)), (46, .one (.ro (.cons (.int .u8) (.cons (.int .u64) (.cons .str .nil))))), (47, .one (.int .i64)), (48, .one (.int .i64))], [(2, .row (.cons (.int .u8) .nil)), (3, .fold (.cons (.c (.ro (.cons (.int .u8) .nil))) (.cons (.c (.int .i64)) .nil)))], 4⟩)]⟩) (fuel := n) (c := Try.f7.body.getD .skip) (rs := Try.f7.results.toList) tt_ok mix (FsOK.cons (ok8 n) (FsOK.cons (ok24 n) (FsOK.cons (ok15 n) (FsOK.cons (ok9 n) (FsOK.cons (ok25 n) (FsOK.cons (ok12 n) (FsOK.cons (ok17 n) (FsOK.cons (ok11 n) (FsOK.nil))))))))) Try.func7 (by kernel_rfl) (by kernel_rfl) rfl (by kernel_rfl) rfl rfl (by kernel_rfl)
end Go.Proofs.Ytfhclambjgnmpaa
