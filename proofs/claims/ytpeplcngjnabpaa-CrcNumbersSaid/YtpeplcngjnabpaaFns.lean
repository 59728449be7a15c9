/- What the functions of this seat compute, found by walking their code symbolically: each F is what the walk finds, each ok says that the Go function keeps it as a contract. Printed by a program of this repo's. -/
import Derived.Test.YtpeplcngjnabpaaOnceC
import Derived.Test.YtpeplcngjnabpaaSxClone
import Derived.Test.YtpeplcngjnabpaaAtom
open Go Go.Sx
namespace Go.Proofs.Ytpeplcngjnabpaa
set_option maxRecDepth 100000
set_option linter.unusedVariables false
-- watchfire/crc.New
def sig11 : Sig := ⟨.nil, (.cons (.one (.ptrA (.cons (.c (.int .u32)) (.cons (.c (.int .i32)) (.cons (.c (.int .u32)) .nil))) (.int .u32) 256 (.cons (.c (.int .u64)) (.cons (.c (.int .u64)) .nil)))) .nil)⟩
def F11 : Nat → Unit → Option (Option ((UInt32 × Int32 × UInt32) × List UInt32 × UInt64 × UInt64) × Unit) := fun (n : Nat) (x : Unit) =>
  some
    (some
        (((0 : UInt32), (0 : Int32), (0 : UInt32)), List.replicate (256 : Nat) (0 : UInt32), (0 : UInt64),
          (0 : UInt64)),
      ())
theorem ok11 (n : Nat) : FunOK Try.prog ⟨11, sig11, F11 n⟩ :=
  fun_ok (hints := ⟨[], []⟩) (fuel := n) (c := Try.f11.body.getD .skip) (rs := Try.f11.results.toList) tt_ok mix (FsOK.nil) Try.func11 (by kernel_rfl) (by kernel_rfl) rfl (by kernel_rfl) rfl rfl (by kernel_rfl)
-- (*sync/atomic.Uint64).Add
def sig19 : Sig := ⟨(.cons (.oagg .nil) (.cons (.one (.c (.int .u64))) .nil)), (.cons (.one (.c (.int .u64))) .nil)⟩
def F19 (n : Nat) : sig19.In → Option sig19.Out := fun _ => none
theorem ok19 (n : Nat) : FunOK Try.prog ⟨19, sig19, F19 n⟩ := ⟨atom19, _, Try.func19, by kernel_rfl, by kernel_rfl⟩
-- (*watchfire/crc.Table).Add
def sig17 : Sig := ⟨(.cons (.one (.ptrA (.cons (.c (.int .u32)) (.cons (.c (.int .i32)) (.cons (.c (.int .u32)) .nil))) (.int .u32) 256 (.cons (.c (.int .u64)) (.cons (.c (.int .u64)) .nil)))) (.cons (.one (.c (.int .u32))) (.cons (.one (.c (.ro (.cons (.int .u8) .nil)))) .nil))), (.cons (.one (.c (.int .u32))) .nil)⟩
def F17_L125 : Arr
    [PT.list (CTs.cons (CT.int IntKind.u8) CTs.nil), PT.int IntKind.u32, PT.list (CTs.cons (CT.int IntKind.u8) CTs.nil),
      PT.int IntKind.i64, PT.int IntKind.i64,
      PT.optA
        (OTs.cons (OT.c (CT.int IntKind.u32))
          (OTs.cons (OT.c (CT.int IntKind.i32)) (OTs.cons (OT.c (CT.int IntKind.u32)) OTs.nil)))
        (CT.int IntKind.u32) (OTs.cons (OT.c (CT.int IntKind.u64)) (OTs.cons (OT.c (CT.int IntKind.u64)) OTs.nil))]
    (Option (UInt32 × Option ((UInt32 × Int32 × UInt32) × List UInt32 × UInt64 × UInt64))) →
  List UInt8 →
    UInt32 →
      List UInt8 →
        Int64 →
          Int64 →
            Option ((UInt32 × Int32 × UInt32) × List UInt32 × UInt64 × UInt64) →
              Option (UInt32 × Option ((UInt32 × Int32 × UInt32) × List UInt32 × UInt64 × UInt64)) := fun
    (rec :
      Arr
        [PT.list (CTs.cons (CT.int IntKind.u8) CTs.nil), PT.int IntKind.u32,
          PT.list (CTs.cons (CT.int IntKind.u8) CTs.nil), PT.int IntKind.i64, PT.int IntKind.i64,
          PT.optA
            (OTs.cons (OT.c (CT.int IntKind.u32))
              (OTs.cons (OT.c (CT.int IntKind.i32)) (OTs.cons (OT.c (CT.int IntKind.u32)) OTs.nil)))
            (CT.int IntKind.u32) (OTs.cons (OT.c (CT.int IntKind.u64)) (OTs.cons (OT.c (CT.int IntKind.u64)) OTs.nil))]
        (Option (UInt32 × Option ((UInt32 × Int32 × UInt32) × List UInt32 × UInt64 × UInt64))))
    (b : List UInt8) (n_ : UInt32) (t : List UInt8) (t_1 t_2 : Int64)
    (t_3 : Option ((UInt32 × Int32 × UInt32) × List UInt32 × UInt64 × UInt64)) =>
  oite (decide (t_2 < t_1))
    (obind (at? t (Int64.toInt t_2)) fun (x_3 : UInt8) =>
      obind t_3 fun (x_4 : (UInt32 × Int32 × UInt32) × List UInt32 × UInt64 × UInt64) =>
        oite (decide ((0 : Int) ≤ ↑(UInt8.toNat (UInt8.ofInt ↑(UInt32.toNat n_) ^^^ x_3))))
          (oite (Nat.blt (Int.toNat ↑(UInt8.toNat (UInt8.ofInt ↑(UInt32.toNat n_) ^^^ x_3))) (256 : Nat))
            (obind
              (Prod.fst (Prod.snd x_4))[Int.toNat ↑(UInt8.toNat (UInt8.ofInt ↑(UInt32.toNat n_) ^^^ x_3)) * (1 : Nat)]?
              fun (x_5 : UInt32) =>
              rec b (x_5 ^^^ IK.shr IntKind.u32 n_ ↑(UInt64.toNat (8 : UInt64))) t t_1 (t_2 + (1 : Int64))
                (some
                  ((Prod.fst (Prod.fst x_4), Prod.fst (Prod.snd (Prod.fst x_4)), Prod.snd (Prod.snd (Prod.fst x_4))),
                    Prod.fst (Prod.snd x_4), Prod.fst (Prod.snd (Prod.snd x_4)), Prod.snd (Prod.snd (Prod.snd x_4)))))
            none)
          none)
    (obind t_3 fun (x_3 : (UInt32 × Int32 × UInt32) × List UInt32 × UInt64 × UInt64) =>
      some
        (IK.com IntKind.u32 n_,
          some
            ((Prod.fst (Prod.fst x_3), Prod.fst (Prod.snd (Prod.fst x_3)), Prod.snd (Prod.snd (Prod.fst x_3))),
              Prod.fst (Prod.snd x_3), Prod.fst (Prod.snd (Prod.snd x_3)),
              Prod.snd (Prod.snd (Prod.snd x_3)) + UInt64.ofInt (Int64.toInt (Int64.ofInt ↑(List.length b))))))
def F17_R125 : Nat →
  PT.T (PT.list (CTs.cons (CT.int IntKind.u8) CTs.nil)) →
    UInt32 →
      List UInt8 →
        Int64 →
          Int64 →
            Option ((UInt32 × Int32 × UInt32) × List UInt32 × UInt64 × UInt64) →
              Option (UInt32 × Option ((UInt32 × Int32 × UInt32) × List UInt32 × UInt64 × UInt64)) := ofixA (125 : Nat)
  [PT.list (CTs.cons (CT.int IntKind.u8) CTs.nil), PT.int IntKind.u32, PT.list (CTs.cons (CT.int IntKind.u8) CTs.nil),
    PT.int IntKind.i64, PT.int IntKind.i64,
    PT.optA
      (OTs.cons (OT.c (CT.int IntKind.u32))
        (OTs.cons (OT.c (CT.int IntKind.i32)) (OTs.cons (OT.c (CT.int IntKind.u32)) OTs.nil)))
      (CT.int IntKind.u32) (OTs.cons (OT.c (CT.int IntKind.u64)) (OTs.cons (OT.c (CT.int IntKind.u64)) OTs.nil))]
  F17_L125
def F17 : Nat →
  Option ((UInt32 × Int32 × UInt32) × List UInt32 × UInt64 × UInt64) × UInt32 × List UInt8 →
    Option (UInt32 × Option ((UInt32 × Int32 × UInt32) × List UInt32 × UInt64 × UInt64)) := fun (n : Nat) (x : Option ((UInt32 × Int32 × UInt32) × List UInt32 × UInt64 × UInt64) × UInt32 × List UInt8) =>
  oelim (Prod.fst x) (some ((0 : UInt32), none))
    fun (x_1 : (UInt32 × Int32 × UInt32) × List UInt32 × UInt64 × UInt64) =>
    obind
      (F20 n
        ([], (),
          some
            ((Prod.fst (Prod.fst x_1), Prod.fst (Prod.snd (Prod.fst x_1)), Prod.snd (Prod.snd (Prod.fst x_1))),
              Prod.fst (Prod.snd x_1), Prod.fst (Prod.snd (Prod.snd x_1)), Prod.snd (Prod.snd (Prod.snd x_1)))))
      fun (x_2 : Unit × Option ((UInt32 × Int32 × UInt32) × List UInt32 × UInt64 × UInt64)) =>
      F17_R125 n (Prod.snd (Prod.snd x)) (IK.com IntKind.u32 (Prod.fst (Prod.snd x))) (Prod.snd (Prod.snd x))
        (Int64.ofInt ↑(List.length (Prod.snd (Prod.snd x)))) (0 : Int64) (Prod.snd x_2)
theorem F17_R125_s  (m_ : Nat) : F17_R125  (m_ + 1) = F17_L125  (F17_R125  m_) := rfl
theorem ok17 (n : Nat) : FunOK Try.prog ⟨17, sig17, F17 n⟩ :=
  fun_ok (hints := ⟨[], [(125, ⟨[(0, .one (.own 0)), (2, .one (.ro (.cons (.int .u8) .nil))), (7, .one (.int .u32)), (20, .one (.ro (.cons (.int .u8) .nil))), (21, .one (.int .i64)), (22, .one (.int .i64))], [(0, .foldA (.cons (.c (.int .u32)) (.cons (.c (.int .i32)) (.cons (.c (.int .u32)) .nil))) (.int .u32) 256 (.cons (.c (.int .u64)) (.cons (.c (.int .u64)) .nil)))], 3⟩)]⟩) (fuel := n) (c := Try.f17.body.getD .skip) (rs := Try.f17.results.toList) tt_ok mix (FsOK.cons (ok21 n) (FsOK.cons (ok20 n) (FsOK.cons (ok19 n) (FsOK.nil)))) Try.func17 (by kernel_rfl) (by kernel_rfl) rfl (by kernel_rfl) rfl rfl (by kernel_rfl)
-- (*watchfire/crc.Table).Sum
def sig16 : Sig := ⟨(.cons (.one (.ptrA (.cons (.c (.int .u32)) (.cons (.c (.int .i32)) (.cons (.c (.int .u32)) .nil))) (.int .u32) 256 (.cons (.c (.int .u64)) (.cons (.c (.int .u64)) .nil)))) (.cons (.one (.c (.ro (.cons (.ro (.cons (.int .u8) .nil)) .nil)))) .nil)), (.cons (.one (.c (.int .u32))) .nil)⟩
def F16_L61 : Nat →
  Arr
      [PT.int IntKind.u32, PT.list (CTs.cons (CT.ro (CTs.cons (CT.int IntKind.u8) CTs.nil)) CTs.nil),
        PT.int IntKind.i64, PT.int IntKind.i64,
        PT.optA
          (OTs.cons (OT.c (CT.int IntKind.u32))
            (OTs.cons (OT.c (CT.int IntKind.i32)) (OTs.cons (OT.c (CT.int IntKind.u32)) OTs.nil)))
          (CT.int IntKind.u32) (OTs.cons (OT.c (CT.int IntKind.u64)) (OTs.cons (OT.c (CT.int IntKind.u64)) OTs.nil))]
      (Option (UInt32 × Option ((UInt32 × Int32 × UInt32) × List UInt32 × UInt64 × UInt64))) →
    UInt32 →
      List (List UInt8) →
        Int64 →
          Int64 →
            Option ((UInt32 × Int32 × UInt32) × List UInt32 × UInt64 × UInt64) →
              Option (UInt32 × Option ((UInt32 × Int32 × UInt32) × List UInt32 × UInt64 × UInt64)) := fun (n : Nat)
    (rec :
      Arr
        [PT.int IntKind.u32, PT.list (CTs.cons (CT.ro (CTs.cons (CT.int IntKind.u8) CTs.nil)) CTs.nil),
          PT.int IntKind.i64, PT.int IntKind.i64,
          PT.optA
            (OTs.cons (OT.c (CT.int IntKind.u32))
              (OTs.cons (OT.c (CT.int IntKind.i32)) (OTs.cons (OT.c (CT.int IntKind.u32)) OTs.nil)))
            (CT.int IntKind.u32) (OTs.cons (OT.c (CT.int IntKind.u64)) (OTs.cons (OT.c (CT.int IntKind.u64)) OTs.nil))]
        (Option (UInt32 × Option ((UInt32 × Int32 × UInt32) × List UInt32 × UInt64 × UInt64))))
    (n_ : UInt32) (t : List (List UInt8)) (t_1 t_2 : Int64)
    (t_3 : Option ((UInt32 × Int32 × UInt32) × List UInt32 × UInt64 × UInt64)) =>
  oite (decide (t_2 < t_1))
    (obind (at? t (Int64.toInt t_2)) fun (x_2 : List UInt8) =>
      obind (F17 n (t_3, n_, x_2))
        fun (x_3 : UInt32 × Option ((UInt32 × Int32 × UInt32) × List UInt32 × UInt64 × UInt64)) =>
        rec (Prod.fst x_3) t t_1 (t_2 + (1 : Int64)) (Prod.snd x_3))
    (obind t_3 fun (x_2 : (UInt32 × Int32 × UInt32) × List UInt32 × UInt64 × UInt64) =>
      some
        (n_,
          some
            ((Prod.fst (Prod.fst x_2), Prod.fst (Prod.snd (Prod.fst x_2)), Prod.snd (Prod.snd (Prod.fst x_2))),
              Prod.fst (Prod.snd x_2), Prod.fst (Prod.snd (Prod.snd x_2)) + (1 : UInt64),
              Prod.snd (Prod.snd (Prod.snd x_2)))))
def F16_R61 : Nat →
  Nat →
    PT.T (PT.int IntKind.u32) →
      List (List UInt8) →
        Int64 →
          Int64 →
            Option ((UInt32 × Int32 × UInt32) × List UInt32 × UInt64 × UInt64) →
              Option (UInt32 × Option ((UInt32 × Int32 × UInt32) × List UInt32 × UInt64 × UInt64)) := fun (n : Nat) =>
  ofixA (61 : Nat)
    [PT.int IntKind.u32, PT.list (CTs.cons (CT.ro (CTs.cons (CT.int IntKind.u8) CTs.nil)) CTs.nil), PT.int IntKind.i64,
      PT.int IntKind.i64,
      PT.optA
        (OTs.cons (OT.c (CT.int IntKind.u32))
          (OTs.cons (OT.c (CT.int IntKind.i32)) (OTs.cons (OT.c (CT.int IntKind.u32)) OTs.nil)))
        (CT.int IntKind.u32) (OTs.cons (OT.c (CT.int IntKind.u64)) (OTs.cons (OT.c (CT.int IntKind.u64)) OTs.nil))]
    (F16_L61 n)
def F16 : Nat →
  Option ((UInt32 × Int32 × UInt32) × List UInt32 × UInt64 × UInt64) × List (List UInt8) →
    Option (UInt32 × Option ((UInt32 × Int32 × UInt32) × List UInt32 × UInt64 × UInt64)) := fun (n : Nat) (x : Option ((UInt32 × Int32 × UInt32) × List UInt32 × UInt64 × UInt64) × List (List UInt8)) =>
  oelim (Prod.fst x) (some ((0 : UInt32), none))
    fun (x_1 : (UInt32 × Int32 × UInt32) × List UInt32 × UInt64 × UInt64) =>
    F16_R61 n n (0 : UInt32) (Prod.snd x) (Int64.ofInt ↑(List.length (Prod.snd x))) (0 : Int64)
      (some
        ((Prod.fst (Prod.fst x_1), Prod.fst (Prod.snd (Prod.fst x_1)), Prod.snd (Prod.snd (Prod.fst x_1))),
          Prod.fst (Prod.snd x_1), Prod.fst (Prod.snd (Prod.snd x_1)), Prod.snd (Prod.snd (Prod.snd x_1))))
theorem F16_R61_s (n : Nat) (m_ : Nat) : F16_R61 n (m_ + 1) = F16_L61 n (F16_R61 n m_) := rfl
theorem ok16 (n : Nat) : FunOK Try.prog ⟨16, sig16, F16 n⟩ :=
  fun_ok (hints := ⟨[], [(61, ⟨[(0, .one (.own 0)), (5, .one (.int .u32)), (10, .one (.ro (.cons (.ro (.cons (.int .u8) .nil)) .nil))), (11, .one (.int .i64)), (12, .one (.int .i64))], [(0, .foldA (.cons (.c (.int .u32)) (.cons (.c (.int .i32)) (.cons (.c (.int .u32)) .nil))) (.int .u32) 256 (.cons (.c (.int .u64)) (.cons (.c (.int .u64)) .nil)))], 2⟩)]⟩) (fuel := n) (c := Try.f16.body.getD .skip) (rs := Try.f16.results.toList) tt_ok mix (FsOK.cons (ok17 n) (FsOK.cons (ok19 n) (FsOK.nil))) Try.func16 (by kernel_rfl) (by kernel_rfl) rfl (by kernel_rfl) rfl rfl (by kernel_rfl)
-- watchfire/watchfirelaw02.Awake
def sig7 : Sig := ⟨.nil, (.cons (.one (.c .bool)) .nil)⟩
def F7 : Nat → Unit → Option (Bool × Unit) := fun (n : Nat) (x : Unit) =>
  obind (F11 n ()) fun (x_1 : Option ((UInt32 × Int32 × UInt32) × List UInt32 × UInt64 × UInt64) × Unit) =>
    obind
      (F16 n
        (Prod.fst x_1,
          [[(49 : UInt8), (50 : UInt8), (51 : UInt8), (52 : UInt8), (53 : UInt8), (54 : UInt8), (55 : UInt8),
              (56 : UInt8), (57 : UInt8)]]))
      fun (x_2 : UInt32 × Option ((UInt32 × Int32 × UInt32) × List UInt32 × UInt64 × UInt64)) =>
      some (decide (Prod.fst x_2 = (3421780262 : UInt32)), ())
theorem ok7 (n : Nat) : FunOK Try.prog ⟨7, sig7, F7 n⟩ :=
  fun_ok (hints := ⟨[], []⟩) (fuel := n) (c := Try.f7.body.getD .skip) (rs := Try.f7.results.toList) tt_ok mix (FsOK.cons (ok11 n) (FsOK.cons (ok16 n) (FsOK.nil))) Try.func7 (by kernel_rfl) (by kernel_rfl) rfl (by kernel_rfl) rfl rfl (by kernel_rfl)
-- watchfire/crc.Put
def sig8 : Sig := ⟨(.cons (.one (.c (.int .u32))) .nil), (.cons (.agg (.cons (.int .u8) (.cons (.int .u8) (.cons (.int .u8) (.cons (.int .u8) .nil))))) .nil)⟩
def F8 : Nat → UInt32 → Option ((UInt8 × UInt8 × UInt8 × UInt8) × Unit) := fun (n : Nat) (x : UInt32) =>
  some
    ((UInt8.ofInt ↑(UInt32.toNat x), UInt8.ofInt ↑(UInt32.toNat (IK.shr IntKind.u32 x ↑(UInt64.toNat (8 : UInt64)))),
        UInt8.ofInt ↑(UInt32.toNat (IK.shr IntKind.u32 x ↑(UInt64.toNat (16 : UInt64)))),
        UInt8.ofInt ↑(UInt32.toNat (IK.shr IntKind.u32 x ↑(UInt64.toNat (24 : UInt64))))),
      ())
theorem ok8 (n : Nat) : FunOK Try.prog ⟨8, sig8, F8 n⟩ :=
  fun_ok (hints := ⟨[], []⟩) (fuel := n) (c := Try.f8.body.getD .skip) (rs := Try.f8.results.toList) tt_ok mix (FsOK.nil) Try.func8 (by kernel_rfl) (by kernel_rfl) rfl (by kernel_rfl) rfl rfl (by kernel_rfl)
-- watchfire/watchfireref01.Four
def sig9 : Sig := ⟨(.cons (.one (.c (.int .u32))) .nil), (.cons (.one (.c (.ro (.cons (.int .u8) .nil)))) .nil)⟩
def F9 : Nat → UInt32 → Option (List UInt8 × Unit) := fun (n : Nat) (x : UInt32) =>
  some
    ([UInt8.ofInt ↑(UInt32.toNat (x % (256 : UInt32))),
        UInt8.ofInt ↑(UInt32.toNat (x / (256 : UInt32) % (256 : UInt32))),
        UInt8.ofInt ↑(UInt32.toNat (x / (65536 : UInt32) % (256 : UInt32))),
        UInt8.ofInt ↑(UInt32.toNat (x / (16777216 : UInt32)))],
      ())
theorem ok9 (n : Nat) : FunOK Try.prog ⟨9, sig9, F9 n⟩ :=
  fun_ok (hints := ⟨[], []⟩) (fuel := n) (c := Try.f9.body.getD .skip) (rs := Try.f9.results.toList) tt_ok mix (FsOK.nil) Try.func9 (by kernel_rfl) (by kernel_rfl) rfl (by kernel_rfl) rfl rfl (by kernel_rfl)
-- watchfire/crc.Take
def sig10 : Sig := ⟨(.cons (.agg (.cons (.int .u8) (.cons (.int .u8) (.cons (.int .u8) (.cons (.int .u8) .nil))))) .nil), (.cons (.one (.c (.int .u32))) .nil)⟩
def F10 : Nat → UInt8 × UInt8 × UInt8 × UInt8 → Option (UInt32 × Unit) := fun (n : Nat) (x : UInt8 × UInt8 × UInt8 × UInt8) =>
  some
    (UInt32.ofInt ↑(UInt8.toNat (Prod.fst x)) |||
            IK.shl IntKind.u32 (UInt32.ofInt ↑(UInt8.toNat (Prod.fst (Prod.snd x)))) ↑(UInt64.toNat (8 : UInt64)) |||
          IK.shl IntKind.u32 (UInt32.ofInt ↑(UInt8.toNat (Prod.fst (Prod.snd (Prod.snd x)))))
            ↑(UInt64.toNat (16 : UInt64)) |||
        IK.shl IntKind.u32 (UInt32.ofInt ↑(UInt8.toNat (Prod.snd (Prod.snd (Prod.snd x)))))
          ↑(UInt64.toNat (24 : UInt64)),
      ())
theorem ok10 (n : Nat) : FunOK Try.prog ⟨10, sig10, F10 n⟩ :=
  fun_ok (hints := ⟨[], []⟩) (fuel := n) (c := Try.f10.body.getD .skip) (rs := Try.f10.results.toList) tt_ok mix (FsOK.nil) Try.func10 (by kernel_rfl) (by kernel_rfl) rfl (by kernel_rfl) rfl rfl (by kernel_rfl)
-- watchfire/watchfirelaw02.CrcNumbers
def sig3 : Sig := ⟨(.cons (.one (.c (.int .u32))) (.cons (.agg (.cons (.int .u8) (.cons (.int .u8) (.cons (.int .u8) (.cons (.int .u8) .nil))))) .nil)), (.cons (.one (.c .bool)) .nil)⟩
def F3 : Nat → UInt32 × UInt8 × UInt8 × UInt8 × UInt8 → Option (Bool × Unit) := fun (n : Nat) (x : UInt32 × UInt8 × UInt8 × UInt8 × UInt8) =>
  obind (F7 n ()) fun (x_1 : Bool × Unit) =>
    oite (!Prod.fst x_1) (some (false, ()))
      (obind (F8 n (Prod.fst x)) fun (x_2 : (UInt8 × UInt8 × UInt8 × UInt8) × Unit) =>
        obind (F9 n (Prod.fst x)) fun (x_3 : List UInt8 × Unit) =>
          oite
            ([Prod.fst (Prod.fst x_2), Prod.fst (Prod.snd (Prod.fst x_2)),
                Prod.fst (Prod.snd (Prod.snd (Prod.fst x_2))), Prod.snd (Prod.snd (Prod.snd (Prod.fst x_2)))] ==
              Prod.fst x_3)
            (obind
              (F10 n
                (Prod.fst (Prod.fst x_2), Prod.fst (Prod.snd (Prod.fst x_2)),
                  Prod.fst (Prod.snd (Prod.snd (Prod.fst x_2))), Prod.snd (Prod.snd (Prod.snd (Prod.fst x_2)))))
              fun (x_4 : UInt32 × Unit) =>
              oite (decide (Prod.fst x_4 = Prod.fst x))
                (obind
                  (F10 n
                    (Prod.fst (Prod.snd x), Prod.fst (Prod.snd (Prod.snd x)),
                      Prod.fst (Prod.snd (Prod.snd (Prod.snd x))), Prod.snd (Prod.snd (Prod.snd (Prod.snd x)))))
                  fun (x_5 : UInt32 × Unit) =>
                  obind (F8 n (Prod.fst x_5)) fun (x_6 : (UInt8 × UInt8 × UInt8 × UInt8) × Unit) =>
                    some
                      (decide (Prod.fst (Prod.fst x_6) = Prod.fst (Prod.snd x)) &&
                          (decide (Prod.fst (Prod.snd (Prod.fst x_6)) = Prod.fst (Prod.snd (Prod.snd x))) &&
                            (decide
                                (Prod.fst (Prod.snd (Prod.snd (Prod.fst x_6))) =
                                  Prod.fst (Prod.snd (Prod.snd (Prod.snd x)))) &&
                              (decide
                                  (Prod.snd (Prod.snd (Prod.snd (Prod.fst x_6))) =
                                    Prod.snd (Prod.snd (Prod.snd (Prod.snd x)))) &&
                                true))),
                        ()))
                (some (false, ())))
            (some (false, ())))
theorem ok3 (n : Nat) : FunOK Try.prog ⟨3, sig3, F3 n⟩ :=
  fun_ok (hints := ⟨[], []⟩) (fuel := n) (c := Try.f3.body.getD .skip) (rs := Try.f3.results.toList) tt_ok mix (FsOK.cons (ok7 n) (FsOK.cons (ok8 n) (FsOK.cons (ok9 n) (FsOK.cons (ok10 n) (FsOK.nil))))) Try.func3 (by kernel_rfl) (by kernel_rfl) rfl (by kernel_rfl) rfl rfl (by kernel_rfl)
-- (*watchfire/crc.Table).Seal
def sig12 : Sig := ⟨(.cons (.one (.ptrA (.cons (.c (.int .u32)) (.cons (.c (.int .i32)) (.cons (.c (.int .u32)) .nil))) (.int .u32) 256 (.cons (.c (.int .u64)) (.cons (.c (.int .u64)) .nil)))) (.cons (.one (.c (.ro (.cons (.int .u8) .nil)))) .nil)), (.cons (.one (.row (.cons (.int .u8) .nil))) .nil)⟩
def F12 : Nat →
  Option ((UInt32 × Int32 × UInt32) × List UInt32 × UInt64 × UInt64) × List UInt8 →
    Option (List UInt8 × Option ((UInt32 × Int32 × UInt32) × List UInt32 × UInt64 × UInt64)) := fun (n : Nat) (x : Option ((UInt32 × Int32 × UInt32) × List UInt32 × UInt64 × UInt64) × List UInt8) =>
  obind (F16 n (Prod.fst x, [Prod.snd x]))
    fun (x_1 : UInt32 × Option ((UInt32 × Int32 × UInt32) × List UInt32 × UInt64 × UInt64)) =>
    obind (F8 n (Prod.fst x_1)) fun (x_2 : (UInt8 × UInt8 × UInt8 × UInt8) × Unit) =>
      oite (Nat.ble ((0 : Nat) + List.length (Prod.snd x)) (4294967296 : Nat))
        (oite
          (Nat.ble
            (List.length ([] ++ Prod.snd x) +
              List.length
                [Prod.fst (Prod.fst x_2), Prod.fst (Prod.snd (Prod.fst x_2)),
                  Prod.fst (Prod.snd (Prod.snd (Prod.fst x_2))), Prod.snd (Prod.snd (Prod.snd (Prod.fst x_2)))])
            (4294967296 : Nat))
          (some
            ([] ++ Prod.snd x ++
                [Prod.fst (Prod.fst x_2), Prod.fst (Prod.snd (Prod.fst x_2)),
                  Prod.fst (Prod.snd (Prod.snd (Prod.fst x_2))), Prod.snd (Prod.snd (Prod.snd (Prod.fst x_2)))],
              Prod.snd x_1))
          none)
        none
theorem ok12 (n : Nat) : FunOK Try.prog ⟨12, sig12, F12 n⟩ :=
  fun_ok (hints := ⟨[], []⟩) (fuel := n) (c := Try.f12.body.getD .skip) (rs := Try.f12.results.toList) tt_ok mix (FsOK.cons (ok16 n) (FsOK.cons (ok8 n) (FsOK.nil))) Try.func12 (by kernel_rfl) (by kernel_rfl) rfl (by kernel_rfl) rfl rfl (by kernel_rfl)
-- watchfire/watchfireref01.Sum
def sig13 : Sig := ⟨(.cons (.one (.c (.ro (.cons (.int .u8) .nil)))) .nil), (.cons (.one (.c (.int .u32))) .nil)⟩
def F13_L939 : Arr [PT.list (CTs.cons (CT.int IntKind.u8) CTs.nil), PT.int IntKind.u32, PT.int IntKind.i64] (Option (UInt32 × Unit)) →
  Arr [PT.list (CTs.cons (CT.int IntKind.u8) CTs.nil), PT.int IntKind.u32, PT.int IntKind.i64, PT.int IntKind.i64]
      (Option (UInt32 × Unit)) →
    List UInt8 → UInt32 → Int64 → Int64 → Option (UInt32 × Unit) := fun
    (rec :
      Arr [PT.list (CTs.cons (CT.int IntKind.u8) CTs.nil), PT.int IntKind.u32, PT.int IntKind.i64]
        (Option (UInt32 × Unit)))
    (rec_1 :
      Arr [PT.list (CTs.cons (CT.int IntKind.u8) CTs.nil), PT.int IntKind.u32, PT.int IntKind.i64, PT.int IntKind.i64]
        (Option (UInt32 × Unit)))
    (b_1 : List UInt8) (n__1 : UInt32) (i_1 k : Int64) =>
  oite (decide (k < (8 : Int64)))
    (oite (decide (n__1 % (2 : UInt32) = (1 : UInt32)))
      (rec_1 b_1 (n__1 / (2 : UInt32) ^^^ (3988292384 : UInt32)) i_1 (k + (1 : Int64)))
      (rec_1 b_1 (n__1 / (2 : UInt32)) i_1 (k + (1 : Int64))))
    (rec b_1 n__1 (i_1 + (1 : Int64)))
def F13_R939 : Arr [PT.list (CTs.cons (CT.int IntKind.u8) CTs.nil), PT.int IntKind.u32, PT.int IntKind.i64] (Option (UInt32 × Unit)) →
  Nat → PT.T (PT.list (CTs.cons (CT.int IntKind.u8) CTs.nil)) → UInt32 → Int64 → Int64 → Option (UInt32 × Unit) := fun
    (rec :
      Arr [PT.list (CTs.cons (CT.int IntKind.u8) CTs.nil), PT.int IntKind.u32, PT.int IntKind.i64]
        (Option (UInt32 × Unit))) =>
  ofixA (939 : Nat)
    [PT.list (CTs.cons (CT.int IntKind.u8) CTs.nil), PT.int IntKind.u32, PT.int IntKind.i64, PT.int IntKind.i64]
    (F13_L939 rec)
def F13_L29 : Nat →
  Arr [PT.list (CTs.cons (CT.int IntKind.u8) CTs.nil), PT.int IntKind.u32, PT.int IntKind.i64]
      (Option (UInt32 × Unit)) →
    List UInt8 → UInt32 → Int64 → Option (UInt32 × Unit) := fun (n : Nat)
    (rec :
      Arr [PT.list (CTs.cons (CT.int IntKind.u8) CTs.nil), PT.int IntKind.u32, PT.int IntKind.i64]
        (Option (UInt32 × Unit)))
    (b : List UInt8) (n_ : UInt32) (i : Int64) =>
  oite (decide (i < Int64.ofInt ↑(List.length b)))
    (obind (at? b (Int64.toInt i)) fun (x_1 : UInt8) =>
      F13_R939 rec n b (n_ ^^^ UInt32.ofInt ↑(UInt8.toNat x_1)) i (0 : Int64))
    (some (n_ ^^^ (4294967295 : UInt32), ()))
def F13_R29 : Nat → Nat → PT.T (PT.list (CTs.cons (CT.int IntKind.u8) CTs.nil)) → UInt32 → Int64 → Option (UInt32 × Unit) := fun (n : Nat) =>
  ofixA (29 : Nat) [PT.list (CTs.cons (CT.int IntKind.u8) CTs.nil), PT.int IntKind.u32, PT.int IntKind.i64] (F13_L29 n)
def F13 : Nat → List UInt8 → Option (UInt32 × Unit) := fun (n : Nat) (x : List UInt8) => F13_R29 n n x (4294967295 : UInt32) (0 : Int64)
theorem F13_R939_s (rec : Arr [PT.list (CTs.cons (CT.int IntKind.u8) CTs.nil), PT.int IntKind.u32, PT.int IntKind.i64] (Option (UInt32 × Unit))) (m_ : Nat) : F13_R939 rec (m_ + 1) = F13_L939 rec (F13_R939 rec m_) := rfl
theorem F13_R29_s (n : Nat) (m_ : Nat) : F13_R29 n (m_ + 1) = F13_L29 n (F13_R29 n m_) := rfl
theorem ok13 (n : Nat) : FunOK Try.prog ⟨13, sig13, F13 n⟩ :=
  fun_ok (hints := ⟨[], [(29, ⟨[(0, .one (.ro (.cons (.int .u8) .nil))), (3, .one (.int .u32)), (4, .one (.int .i64))], [], 1⟩), (939, ⟨[(0, .one (.ro (.cons (.int .u8) .nil))), (3, .one (.int .u32)), (4, .one (.int .i64)), (5, .one (.int .i64))], [], 1⟩)]⟩) (fuel := n) (c := Try.f13.body.getD .skip) (rs := Try.f13.results.toList) tt_ok mix (FsOK.nil) Try.func13 (by kernel_rfl) (by kernel_rfl) rfl (by kernel_rfl) rfl rfl (by kernel_rfl)
-- (*watchfire/crc.Table).Open
def sig14 : Sig := ⟨(.cons (.one (.ptrA (.cons (.c (.int .u32)) (.cons (.c (.int .i32)) (.cons (.c (.int .u32)) .nil))) (.int .u32) 256 (.cons (.c (.int .u64)) (.cons (.c (.int .u64)) .nil)))) (.cons (.one (.c (.ro (.cons (.int .u8) .nil)))) .nil)), (.cons (.one (.c (.ro (.cons (.int .u8) .nil)))) (.cons (.one (.c .bool)) .nil))⟩
def F14 : Nat →
  Option ((UInt32 × Int32 × UInt32) × List UInt32 × UInt64 × UInt64) × List UInt8 →
    Option ((List UInt8 × Bool) × Option ((UInt32 × Int32 × UInt32) × List UInt32 × UInt64 × UInt64)) := fun (n : Nat) (x : Option ((UInt32 × Int32 × UInt32) × List UInt32 × UInt64 × UInt64) × List UInt8) =>
  oelim (Prod.fst x) (some (([], false), none)) fun (x_1 : (UInt32 × Int32 × UInt32) × List UInt32 × UInt64 × UInt64) =>
    oite (decide (Int64.ofInt ↑(List.length (Prod.snd x)) - (4 : Int64) < (0 : Int64)))
      (some
        (([], false),
          some
            ((Prod.fst (Prod.fst x_1), Prod.fst (Prod.snd (Prod.fst x_1)), Prod.snd (Prod.snd (Prod.fst x_1))),
              Prod.fst (Prod.snd x_1), Prod.fst (Prod.snd (Prod.snd x_1)), Prod.snd (Prod.snd (Prod.snd x_1)))))
      (oite
        (decide ((0 : Int) ≤ Int64.toInt (Int64.ofInt ↑(List.length (Prod.snd x)) - (4 : Int64))) &&
            Nat.ble (Int.toNat (Int64.toInt (Int64.ofInt ↑(List.length (Prod.snd x)) - (4 : Int64))))
              (List.length (Prod.snd x)) &&
          true)
        (obind
          (F16 n
            (some
                ((Prod.fst (Prod.fst x_1), Prod.fst (Prod.snd (Prod.fst x_1)), Prod.snd (Prod.snd (Prod.fst x_1))),
                  Prod.fst (Prod.snd x_1), Prod.fst (Prod.snd (Prod.snd x_1)), Prod.snd (Prod.snd (Prod.snd x_1))),
              [List.drop (0 : Nat)
                  (List.take (Int.toNat (Int64.toInt (Int64.ofInt ↑(List.length (Prod.snd x)) - (4 : Int64))))
                    (Prod.snd x))]))
          fun (x_2 : UInt32 × Option ((UInt32 × Int32 × UInt32) × List UInt32 × UInt64 × UInt64)) =>
          oite
            (decide ((0 : Int) ≤ Int64.toInt (Int64.ofInt ↑(List.length (Prod.snd x)) - (4 : Int64))) &&
              Nat.ble (Int.toNat (Int64.toInt (Int64.ofInt ↑(List.length (Prod.snd x)) - (4 : Int64))))
                (List.length (Prod.snd x)))
            (obind
              (firstN (CT.int IntKind.u8) (4 : Nat)
                (List.drop (Int.toNat (Int64.toInt (Int64.ofInt ↑(List.length (Prod.snd x)) - (4 : Int64))))
                  (List.take (List.length (Prod.snd x)) (Prod.snd x))))
              fun (x_3 : UInt8 × UInt8 × UInt8 × UInt8) =>
              obind
                (F10 n
                  (Prod.fst x_3, Prod.fst (Prod.snd x_3), Prod.fst (Prod.snd (Prod.snd x_3)),
                    Prod.snd (Prod.snd (Prod.snd x_3))))
                fun (x_4 : UInt32 × Unit) =>
                oite (!decide (Prod.fst x_2 = Prod.fst x_4)) (some (([], false), Prod.snd x_2))
                  (oite
                    (decide ((0 : Int) ≤ Int64.toInt (Int64.ofInt ↑(List.length (Prod.snd x)) - (4 : Int64))) &&
                        Nat.ble (Int.toNat (Int64.toInt (Int64.ofInt ↑(List.length (Prod.snd x)) - (4 : Int64))))
                          (List.length (Prod.snd x)) &&
                      true)
                    (oite
                      (Nat.ble
                        ((0 : Nat) +
                          List.length
                            (List.drop (0 : Nat)
                              (List.take
                                (Int.toNat (Int64.toInt (Int64.ofInt ↑(List.length (Prod.snd x)) - (4 : Int64))))
                                (Prod.snd x))))
                        (4294967296 : Nat))
                      (some
                        (([] ++
                              List.drop (0 : Nat)
                                (List.take
                                  (Int.toNat (Int64.toInt (Int64.ofInt ↑(List.length (Prod.snd x)) - (4 : Int64))))
                                  (Prod.snd x)),
                            true),
                          Prod.snd x_2))
                      none)
                    none))
            none)
        none)
theorem ok14 (n : Nat) : FunOK Try.prog ⟨14, sig14, F14 n⟩ :=
  fun_ok (hints := ⟨[], []⟩) (fuel := n) (c := Try.f14.body.getD .skip) (rs := Try.f14.results.toList) tt_ok mix (FsOK.cons (ok16 n) (FsOK.cons (ok10 n) (FsOK.nil))) Try.func14 (by kernel_rfl) (by kernel_rfl) rfl (by kernel_rfl) rfl rfl (by kernel_rfl)
-- watchfire/watchfirelaw02.CrcSeals
def sig4 : Sig := ⟨(.cons (.one (.c (.ro (.cons (.int .u8) .nil)))) .nil), (.cons (.one (.c .bool)) .nil)⟩
def F4_J511 : List UInt8 → List UInt8 → Bool → List UInt8 → Bool → Bool → List UInt8 → List UInt8 → Option (Bool × Unit) := fun (b y : List UInt8) (ok : Bool) (z : List UInt8) (is_ right : Bool) (x_ want : List UInt8) =>
  oite (x_ == want)
    (oite ok
      (oite (y == b)
        (oite (is_ == right)
          (oite (!is_)
            (oite is_ (some (true, ()))
              (some (decide (Int64.ofInt ↑(List.length z) = (0 : Int64)), ())))
            (oite
              (decide ((0 : Int) ≤ Int64.toInt (Int64.ofInt ↑(List.length b) - (4 : Int64))) &&
                  Nat.ble (Int.toNat (Int64.toInt (Int64.ofInt ↑(List.length b) - (4 : Int64)))) (List.length b) &&
                true)
              (oite
                (z ==
                  List.drop (0 : Nat)
                    (List.take (Int.toNat (Int64.toInt (Int64.ofInt ↑(List.length b) - (4 : Int64)))) b))
                (oite is_ (some (true, ()))
                  (some (decide (Int64.ofInt ↑(List.length z) = (0 : Int64)), ())))
                (some (false, ())))
              none))
          (some (false, ())))
        (some (false, ())))
      (some (false, ())))
    (some (false, ()))
def F4 : Nat → List UInt8 → Option (Bool × Unit) := fun (n : Nat) (x : List UInt8) =>
  obind (F7 n ()) fun (x_1 : Bool × Unit) =>
    oite (!Prod.fst x_1) (some (false, ()))
      (oite (decide ((1000 : Int64) < Int64.ofInt ↑(List.length x))) (some (true, ()))
        (obind (F11 n ())
          fun (x_2 : Option ((UInt32 × Int32 × UInt32) × List UInt32 × UInt64 × UInt64) × Unit) =>
          obind (F12 n (Prod.fst x_2, x))
            fun (x_3 : List UInt8 × Option ((UInt32 × Int32 × UInt32) × List UInt32 × UInt64 × UInt64)) =>
            oite (Nat.ble ((0 : Nat) + List.length x) (4294967296 : Nat))
              (obind (F13 n x) fun (x_4 : UInt32 × Unit) =>
                obind (F9 n (Prod.fst x_4)) fun (x_5 : List UInt8 × Unit) =>
                  oite (Nat.ble (List.length ([] ++ x) + List.length (Prod.fst x_5)) (4294967296 : Nat))
                    (obind (F14 n (Prod.snd x_3, Prod.fst x_3))
                      fun
                        (x_6 :
                          (List UInt8 × Bool) × Option ((UInt32 × Int32 × UInt32) × List UInt32 × UInt64 × UInt64)) =>
                      obind (F14 n (Prod.snd x_6, x))
                        fun
                          (x_7 :
                            (List UInt8 × Bool) × Option ((UInt32 × Int32 × UInt32) × List UInt32 × UInt64 × UInt64)) =>
                        ojoinA (511 : Nat)
                          [PT.list (CTs.cons (CT.int IntKind.u8) CTs.nil),
                            PT.list (CTs.cons (CT.int IntKind.u8) CTs.nil), PT.bool,
                            PT.list (CTs.cons (CT.int IntKind.u8) CTs.nil), PT.bool, PT.bool,
                            PT.list (CTs.cons (CT.int IntKind.u8) CTs.nil),
                            PT.list (CTs.cons (CT.int IntKind.u8) CTs.nil)]
                          (fun
                              (J :
                                Arr
                                  [PT.list (CTs.cons (CT.int IntKind.u8) CTs.nil),
                                    PT.list (CTs.cons (CT.int IntKind.u8) CTs.nil), PT.bool,
                                    PT.list (CTs.cons (CT.int IntKind.u8) CTs.nil), PT.bool, PT.bool,
                                    PT.list (CTs.cons (CT.int IntKind.u8) CTs.nil),
                                    PT.list (CTs.cons (CT.int IntKind.u8) CTs.nil)]
                                  (Option (Bool × Unit))) =>
                            oite (decide ((4 : Int64) ≤ Int64.ofInt ↑(List.length x)))
                              (oite
                                (decide ((0 : Int) ≤ Int64.toInt (Int64.ofInt ↑(List.length x) - (4 : Int64))) &&
                                    Nat.ble (Int.toNat (Int64.toInt (Int64.ofInt ↑(List.length x) - (4 : Int64))))
                                      (List.length x) &&
                                  true)
                                (obind
                                  (F13 n
                                    (List.drop (0 : Nat)
                                      (List.take (Int.toNat (Int64.toInt (Int64.ofInt ↑(List.length x) - (4 : Int64))))
                                        x)))
                                  fun (x_8 : UInt32 × Unit) =>
                                  obind (F9 n (Prod.fst x_8)) fun (x_9 : List UInt8 × Unit) =>
                                    oite
                                      (decide ((0 : Int) ≤ Int64.toInt (Int64.ofInt ↑(List.length x) - (4 : Int64))) &&
                                        Nat.ble (Int.toNat (Int64.toInt (Int64.ofInt ↑(List.length x) - (4 : Int64))))
                                          (List.length x))
                                      (J x (Prod.fst (Prod.fst x_6)) (Prod.snd (Prod.fst x_6)) (Prod.fst (Prod.fst x_7))
                                        (Prod.snd (Prod.fst x_7))
                                        (Prod.fst x_9 ==
                                          List.drop
                                            (Int.toNat (Int64.toInt (Int64.ofInt ↑(List.length x) - (4 : Int64))))
                                            (List.take (List.length x) x))
                                        (Prod.fst x_3) ([] ++ x ++ Prod.fst x_5))
                                      none)
                                none)
                              (J x (Prod.fst (Prod.fst x_6)) (Prod.snd (Prod.fst x_6)) (Prod.fst (Prod.fst x_7))
                                (Prod.snd (Prod.fst x_7)) false (Prod.fst x_3) ([] ++ x ++ Prod.fst x_5)))
                          F4_J511)
                    none)
              none))
theorem ok4 (n : Nat) : FunOK Try.prog ⟨4, sig4, F4 n⟩ :=
  fun_ok (hints := ⟨[(511, ⟨[(0, .one (.ro (.cons (.int .u8) .nil))), (4, .one (.own 1)), (5, .one (.own 2)), (6, .one (.ro (.cons (.int .u8) .nil))), (7, .one (.bool)), (8, .one (.ro (.cons (.int .u8) .nil))), (9, .one (.bool)), (10, .one (.bool))], [(1, .sealed (.cons (.int .u8) .nil)), (2, .row (.cons (.int .u8) .nil))], 3⟩)], []⟩) (fuel := n) (c := Try.f4.body.getD .skip) (rs := Try.f4.results.toList) tt_ok mix (FsOK.cons (ok7 n) (FsOK.cons (ok11 n) (FsOK.cons (ok12 n) (FsOK.cons (ok13 n) (FsOK.cons (ok9 n) (FsOK.cons (ok14 n) (FsOK.nil))))))) Try.func4 (by kernel_rfl) (by kernel_rfl) rfl (by kernel_rfl) rfl rfl (by kernel_rfl)
-- watchfire/watchfirelaw02.CrcBits
def sig5 : Sig := ⟨(.cons (.one (.c (.ro (.cons (.int .u8) .nil)))) (.cons (.one (.c (.int .u16))) (.cons (.one (.c (.int .u32))) .nil))), (.cons (.one (.c .bool)) .nil)⟩
def F5_L1021 : Nat →
  Arr
      [PT.int IntKind.u32, PT.int IntKind.i64, PT.bool, PT.int IntKind.i64,
        PT.optA
          (OTs.cons (OT.c (CT.int IntKind.u32))
            (OTs.cons (OT.c (CT.int IntKind.i32)) (OTs.cons (OT.c (CT.int IntKind.u32)) OTs.nil)))
          (CT.int IntKind.u32) (OTs.cons (OT.c (CT.int IntKind.u64)) (OTs.cons (OT.c (CT.int IntKind.u64)) OTs.nil)),
        PT.list (CTs.cons (CT.int IntKind.u8) CTs.nil)]
      (Option (Bool × Unit)) →
    UInt32 →
      Int64 →
        Bool →
          Int64 →
            Option ((UInt32 × Int32 × UInt32) × List UInt32 × UInt64 × UInt64) → List UInt8 → Option (Bool × Unit) := fun (n : Nat)
    (rec :
      Arr
        [PT.int IntKind.u32, PT.int IntKind.i64, PT.bool, PT.int IntKind.i64,
          PT.optA
            (OTs.cons (OT.c (CT.int IntKind.u32))
              (OTs.cons (OT.c (CT.int IntKind.i32)) (OTs.cons (OT.c (CT.int IntKind.u32)) OTs.nil)))
            (CT.int IntKind.u32) (OTs.cons (OT.c (CT.int IntKind.u64)) (OTs.cons (OT.c (CT.int IntKind.u64)) OTs.nil)),
          PT.list (CTs.cons (CT.int IntKind.u8) CTs.nil)]
        (Option (Bool × Unit)))
    (turn : UInt32) (from_ : Int64) (changed : Bool) (t : Int64)
    (t_1 : Option ((UInt32 × Int32 × UInt32) × List UInt32 × UInt64 × UInt64)) (x_ : List UInt8) =>
  oite (decide (t < (32 : Int64)))
    (oite (decide ((0 : Int) ≤ Int64.toInt t))
      (oite (decide (IK.shr IntKind.u32 turn (Int64.toInt t) &&& (1 : UInt32) = (1 : UInt32)))
        (oite (decide (from_ + t < (8 : Int64) * Int64.ofInt ↑(List.length x_)))
          (oite
            (decide ((0 : Int) ≤ Int64.toInt ((from_ + t) / (8 : Int64))) &&
              Nat.blt (Int.toNat (Int64.toInt ((from_ + t) / (8 : Int64)))) (List.length x_))
            (obind x_[Int.toNat (Int64.toInt ((from_ + t) / (8 : Int64)))]? fun (x_4 : UInt8) =>
              oite (decide ((0 : Int) ≤ Int64.toInt ((from_ + t) % (8 : Int64))))
                (oite
                  (decide ((0 : Int) ≤ Int64.toInt ((from_ + t) / (8 : Int64))) &&
                    Nat.blt (Int.toNat (Int64.toInt ((from_ + t) / (8 : Int64)))) (List.length x_))
                  (obind x_[Int.toNat (Int64.toInt ((from_ + t) / (8 : Int64)))]? fun (x_5 : UInt8) =>
                    rec turn from_ true (t + (1 : Int64)) t_1
                      (List.set x_ (Int.toNat (Int64.toInt ((from_ + t) / (8 : Int64))))
                        (x_4 ^^^ IK.shl IntKind.u8 (1 : UInt8) (Int64.toInt ((from_ + t) % (8 : Int64))))))
                  none)
                none)
            none)
          (rec turn from_ changed (t + (1 : Int64)) t_1 x_))
        (rec turn from_ changed (t + (1 : Int64)) t_1 x_))
      none)
    (obind (F14 n (t_1, x_))
      fun (x_4 : (List UInt8 × Bool) × Option ((UInt32 × Int32 × UInt32) × List UInt32 × UInt64 × UInt64)) =>
      some (!Prod.snd (Prod.fst x_4) == changed, ()))
def F5_R1021 : Nat →
  Nat →
    PT.T (PT.int IntKind.u32) →
      Int64 →
        Bool →
          Int64 →
            Option ((UInt32 × Int32 × UInt32) × List UInt32 × UInt64 × UInt64) → List UInt8 → Option (Bool × Unit) := fun (n : Nat) =>
  ofixA (1021 : Nat)
    [PT.int IntKind.u32, PT.int IntKind.i64, PT.bool, PT.int IntKind.i64,
      PT.optA
        (OTs.cons (OT.c (CT.int IntKind.u32))
          (OTs.cons (OT.c (CT.int IntKind.i32)) (OTs.cons (OT.c (CT.int IntKind.u32)) OTs.nil)))
        (CT.int IntKind.u32) (OTs.cons (OT.c (CT.int IntKind.u64)) (OTs.cons (OT.c (CT.int IntKind.u64)) OTs.nil)),
      PT.list (CTs.cons (CT.int IntKind.u8) CTs.nil)]
    (F5_L1021 n)
def F5 : Nat → List UInt8 × UInt16 × UInt32 → Option (Bool × Unit) := fun (n : Nat) (x : List UInt8 × UInt16 × UInt32) =>
  obind (F7 n ()) fun (x_1 : Bool × Unit) =>
    oite (!Prod.fst x_1) (some (false, ()))
      (oite (decide ((200 : Int64) < Int64.ofInt ↑(List.length (Prod.fst x)))) (some (true, ()))
        (obind (F11 n ())
          fun (x_2 : Option ((UInt32 × Int32 × UInt32) × List UInt32 × UInt64 × UInt64) × Unit) =>
          obind (F12 n (Prod.fst x_2, Prod.fst x))
            fun (x_3 : List UInt8 × Option ((UInt32 × Int32 × UInt32) × List UInt32 × UInt64 × UInt64)) =>
            oite (decide ((8 : Int64) * Int64.ofInt ↑(List.length (Prod.fst x_3)) = (0 : Int64))) none
              (F5_R1021 n n (Prod.snd (Prod.snd x))
                (Int64.ofInt ↑(UInt16.toNat (Prod.fst (Prod.snd x))) %
                  ((8 : Int64) * Int64.ofInt ↑(List.length (Prod.fst x_3))))
                false (0 : Int64) (Prod.snd x_3) (Prod.fst x_3))))
theorem F5_R1021_s (n : Nat) (m_ : Nat) : F5_R1021 n (m_ + 1) = F5_L1021 n (F5_R1021 n m_) := rfl
theorem ok5 (n : Nat) : FunOK Try.prog ⟨5, sig5, F5 n⟩ :=
  fun_ok (hints := ⟨[], [(1021, ⟨[(2, .one (.int .u32)), (7, .one (.own 3)), (8, .one (.own 4)), (9, .one (.int .i64)), (10, .one (.bool)), (29, .one (.int .i64))], [(3, .foldA (.cons (.c (.int .u32)) (.cons (.c (.int .i32)) (.cons (.c (.int .u32)) .nil))) (.int .u32) 256 (.cons (.c (.int .u64)) (.cons (.c (.int .u64)) .nil))), (4, .row (.cons (.int .u8) .nil))], 5⟩)]⟩) (fuel := n) (c := Try.f5.body.getD .skip) (rs := Try.f5.results.toList) tt_ok mix (FsOK.cons (ok7 n) (FsOK.cons (ok11 n) (FsOK.cons (ok12 n) (FsOK.cons (ok14 n) (FsOK.nil))))) Try.func5 (by kernel_rfl) (by kernel_rfl) rfl (by kernel_rfl) rfl rfl (by kernel_rfl)
-- (*sync/atomic.Uint64).Load
def sig18 : Sig := ⟨(.cons (.oagg .nil) .nil), (.cons (.one (.c (.int .u64))) .nil)⟩
def F18 (n : Nat) : sig18.In → Option sig18.Out := fun _ => none
theorem ok18 (n : Nat) : FunOK Try.prog ⟨18, sig18, F18 n⟩ := ⟨atom18, _, Try.func18, by kernel_rfl, by kernel_rfl⟩
-- (*watchfire/crc.Table).Counts
def sig15 : Sig := ⟨(.cons (.one (.ptrA (.cons (.c (.int .u32)) (.cons (.c (.int .i32)) (.cons (.c (.int .u32)) .nil))) (.int .u32) 256 (.cons (.c (.int .u64)) (.cons (.c (.int .u64)) .nil)))) .nil), (.cons (.one (.c (.int .u64))) (.cons (.one (.c (.int .u64))) .nil))⟩
def F15 : Nat →
  Option ((UInt32 × Int32 × UInt32) × List UInt32 × UInt64 × UInt64) →
    Option ((UInt64 × UInt64) × Option ((UInt32 × Int32 × UInt32) × List UInt32 × UInt64 × UInt64)) := fun (n : Nat) (x : Option ((UInt32 × Int32 × UInt32) × List UInt32 × UInt64 × UInt64)) =>
  oelim x (some (((0 : UInt64), (0 : UInt64)), none))
    fun (x_1 : (UInt32 × Int32 × UInt32) × List UInt32 × UInt64 × UInt64) =>
    some
      ((Prod.fst (Prod.snd (Prod.snd x_1)), Prod.snd (Prod.snd (Prod.snd x_1))),
        some
          ((Prod.fst (Prod.fst x_1), Prod.fst (Prod.snd (Prod.fst x_1)), Prod.snd (Prod.snd (Prod.fst x_1))),
            Prod.fst (Prod.snd x_1), Prod.fst (Prod.snd (Prod.snd x_1)), Prod.snd (Prod.snd (Prod.snd x_1))))
theorem ok15 (n : Nat) : FunOK Try.prog ⟨15, sig15, F15 n⟩ :=
  fun_ok (hints := ⟨[], []⟩) (fuel := n) (c := Try.f15.body.getD .skip) (rs := Try.f15.results.toList) tt_ok mix (FsOK.cons (ok18 n) (FsOK.nil)) Try.func15 (by kernel_rfl) (by kernel_rfl) rfl (by kernel_rfl) rfl rfl (by kernel_rfl)
-- watchfire/watchfirelaw02.CrcOnce
def sig6 : Sig := ⟨(.cons (.one (.c (.ro (.cons (.ro (.cons (.int .u8) .nil)) .nil)))) (.cons (.one (.c (.ro (.cons (.int .u8) .nil)))) .nil)), (.cons (.one (.c .bool)) .nil)⟩
def F6_L253 : Nat →
  Arr
      [PT.list (CTs.cons (CT.int IntKind.u8) CTs.nil), PT.int IntKind.u64,
        PT.list (CTs.cons (CT.ro (CTs.cons (CT.int IntKind.u8) CTs.nil)) CTs.nil), PT.int IntKind.i64,
        PT.int IntKind.i64,
        PT.optA
          (OTs.cons (OT.c (CT.int IntKind.u32))
            (OTs.cons (OT.c (CT.int IntKind.i32)) (OTs.cons (OT.c (CT.int IntKind.u32)) OTs.nil)))
          (CT.int IntKind.u32) (OTs.cons (OT.c (CT.int IntKind.u64)) (OTs.cons (OT.c (CT.int IntKind.u64)) OTs.nil))]
      (Option (Bool × Unit)) →
    List UInt8 →
      UInt64 →
        List (List UInt8) →
          Int64 → Int64 → Option ((UInt32 × Int32 × UInt32) × List UInt32 × UInt64 × UInt64) → Option (Bool × Unit) := fun (n : Nat)
    (rec :
      Arr
        [PT.list (CTs.cons (CT.int IntKind.u8) CTs.nil), PT.int IntKind.u64,
          PT.list (CTs.cons (CT.ro (CTs.cons (CT.int IntKind.u8) CTs.nil)) CTs.nil), PT.int IntKind.i64,
          PT.int IntKind.i64,
          PT.optA
            (OTs.cons (OT.c (CT.int IntKind.u32))
              (OTs.cons (OT.c (CT.int IntKind.i32)) (OTs.cons (OT.c (CT.int IntKind.u32)) OTs.nil)))
            (CT.int IntKind.u32) (OTs.cons (OT.c (CT.int IntKind.u64)) (OTs.cons (OT.c (CT.int IntKind.u64)) OTs.nil))]
        (Option (Bool × Unit)))
    (b : List UInt8) (sum : UInt64) (t : List (List UInt8)) (t_1 t_2 : Int64)
    (t_3 : Option ((UInt32 × Int32 × UInt32) × List UInt32 × UInt64 × UInt64)) =>
  oite (decide (t_2 < t_1))
    (obind (at? t (Int64.toInt t_2)) fun (x_3 : List UInt8) =>
      oite (decide ((300 : Int64) < Int64.ofInt ↑(List.length x_3))) (some (true, ()))
        (obind (F12 n (t_3, x_3))
          fun (x_4 : List UInt8 × Option ((UInt32 × Int32 × UInt32) × List UInt32 × UInt64 × UInt64)) =>
          obind (F14 n (Prod.snd x_4, Prod.fst x_4))
            fun (x_5 : (List UInt8 × Bool) × Option ((UInt32 × Int32 × UInt32) × List UInt32 × UInt64 × UInt64)) =>
            rec b (sum + (2 : UInt64)) t t_1 (t_2 + (1 : Int64)) (Prod.snd x_5)))
    (obind (F15 n t_3)
      fun (x_3 : (UInt64 × UInt64) × Option ((UInt32 × Int32 × UInt32) × List UInt32 × UInt64 × UInt64)) =>
      obind (F15 n none)
        fun (x_4 : (UInt64 × UInt64) × Option ((UInt32 × Int32 × UInt32) × List UInt32 × UInt64 × UInt64)) =>
        obind (F14 n (none, b))
          fun (x_5 : (List UInt8 × Bool) × Option ((UInt32 × Int32 × UInt32) × List UInt32 × UInt64 × UInt64)) =>
          oite (decide (Prod.fst (Prod.fst x_3) = sum))
            (obind (F16 n (Prod.snd x_3, [b]))
              fun (x_6 : UInt32 × Option ((UInt32 × Int32 × UInt32) × List UInt32 × UInt64 × UInt64)) =>
              obind (F11 n ())
                fun (x_7 : Option ((UInt32 × Int32 × UInt32) × List UInt32 × UInt64 × UInt64) × Unit) =>
                obind (F16 n (Prod.fst x_7, [b]))
                  fun (x_8 : UInt32 × Option ((UInt32 × Int32 × UInt32) × List UInt32 × UInt64 × UInt64)) =>
                  oite (decide (Prod.fst x_6 = Prod.fst x_8))
                    (obind (F16 n (none, [b]))
                      fun (x_9 : UInt32 × Option ((UInt32 × Int32 × UInt32) × List UInt32 × UInt64 × UInt64)) =>
                      oite (decide (Prod.fst x_9 = (0 : UInt32)))
                        (obind (F17 n (none, (7 : UInt32), b))
                          fun (x_10 : UInt32 × Option ((UInt32 × Int32 × UInt32) × List UInt32 × UInt64 × UInt64)) =>
                          oite (decide (Prod.fst x_10 = (0 : UInt32)))
                            (oite (decide (Prod.fst (Prod.fst x_4) + Prod.snd (Prod.fst x_4) = (0 : UInt64)))
                              (oite (!Prod.snd (Prod.fst x_5))
                                (obind (F12 n (none, b))
                                  fun
                                    (x_11 :
                                      List UInt8 ×
                                        Option ((UInt32 × Int32 × UInt32) × List UInt32 × UInt64 × UInt64)) =>
                                  oite
                                    (Nat.ble
                                      (List.length b + List.length [(0 : UInt8), (0 : UInt8), (0 : UInt8), (0 : UInt8)])
                                      (4294967296 : Nat))
                                    (some
                                      (Prod.fst x_11 == b ++ [(0 : UInt8), (0 : UInt8), (0 : UInt8), (0 : UInt8)],
                                        ()))
                                    none)
                                (some (false, ())))
                              (some (false, ())))
                            (some (false, ())))
                        (some (false, ())))
                    (some (false, ())))
            (some (false, ())))
def F6_R253 : Nat →
  Nat →
    PT.T (PT.list (CTs.cons (CT.int IntKind.u8) CTs.nil)) →
      UInt64 →
        List (List UInt8) →
          Int64 → Int64 → Option ((UInt32 × Int32 × UInt32) × List UInt32 × UInt64 × UInt64) → Option (Bool × Unit) := fun (n : Nat) =>
  ofixA (253 : Nat)
    [PT.list (CTs.cons (CT.int IntKind.u8) CTs.nil), PT.int IntKind.u64,
      PT.list (CTs.cons (CT.ro (CTs.cons (CT.int IntKind.u8) CTs.nil)) CTs.nil), PT.int IntKind.i64, PT.int IntKind.i64,
      PT.optA
        (OTs.cons (OT.c (CT.int IntKind.u32))
          (OTs.cons (OT.c (CT.int IntKind.i32)) (OTs.cons (OT.c (CT.int IntKind.u32)) OTs.nil)))
        (CT.int IntKind.u32) (OTs.cons (OT.c (CT.int IntKind.u64)) (OTs.cons (OT.c (CT.int IntKind.u64)) OTs.nil))]
    (F6_L253 n)
def F6 : Nat → List (List UInt8) × List UInt8 → Option (Bool × Unit) := fun (n : Nat) (x : List (List UInt8) × List UInt8) =>
  obind (F7 n ()) fun (x_1 : Bool × Unit) =>
    oite (!Prod.fst x_1) (some (false, ()))
      (oite (decide ((10 : Int64) < Int64.ofInt ↑(List.length (Prod.fst x)))) (some (true, ()))
        (oite (decide ((300 : Int64) < Int64.ofInt ↑(List.length (Prod.snd x)))) (some (true, ()))
          (obind (F11 n ())
            fun (x_2 : Option ((UInt32 × Int32 × UInt32) × List UInt32 × UInt64 × UInt64) × Unit) =>
            F6_R253 n n (Prod.snd x) (0 : UInt64) (Prod.fst x) (Int64.ofInt ↑(List.length (Prod.fst x))) (0 : Int64)
              (Prod.fst x_2))))
theorem F6_R253_s (n : Nat) (m_ : Nat) : F6_R253 n (m_ + 1) = F6_L253 n (F6_R253 n m_) := rfl
theorem ok6 (n : Nat) : FunOK Try.prog ⟨6, sig6, F6 n⟩ :=
  fun_ok (hints := ⟨[], [(253, ⟨[(1, .one (.ro (.cons (.int .u8) .nil))), (5, .one (.own 2)), (6, .one (.int .u64)), (27, .one (.ro (.cons (.ro (.cons (.int .u8) .nil)) .nil))), (28, .one (.int .i64)), (29, .one (.int .i64))], [(2, .foldA (.cons (.c (.int .u32)) (.cons (.c (.int .i32)) (.cons (.c (.int .u32)) .nil))) (.int .u32) 256 (.cons (.c (.int .u64)) (.cons (.c (.int .u64)) .nil)))], 3⟩)]⟩) (fuel := n) (c := Try.f6.body.getD .skip) (rs := Try.f6.results.toList) tt_ok mix (FsOK.cons (ok7 n) (FsOK.cons (ok11 n) (FsOK.cons (ok12 n) (FsOK.cons (ok14 n) (FsOK.cons (ok15 n) (FsOK.cons (ok16 n) (FsOK.cons (ok17 n) (FsOK.nil)))))))) Try.func6 (by kernel_rfl) (by kernel_rfl) rfl (by kernel_rfl) rfl rfl (by kernel_rfl)
end Go.Proofs.Ytpeplcngjnabpaa
