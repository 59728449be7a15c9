/- A part of the proof: a walk of Go code by plain functions, and that it is sound. -/
import Derived.Test.YtblldmpkljcnjaaSxCodec
namespace Go.Sx
/-! Numbers that may be below 0, as numbers without a sign. -/
theorem xor_ones (a : UInt64) : a ^^^ UInt64.ofInt (-1) = ~~~a := by
  apply UInt64.toBitVec_inj.1
  have : (UInt64.ofInt (-1)).toBitVec = BitVec.allOnes 64 := by decide
  rw [UInt64.toBitVec_xor, this, UInt64.toBitVec_not, BitVec.xor_allOnes]
theorem xor_ones_i (a : Int64) : a ^^^ (-1) = ~~~a := by
  apply Int64.toBitVec_inj.1
  have : (-1 : Int64).toBitVec = BitVec.allOnes 64 := by decide
  rw [Int64.toBitVec_xor, this, Int64.toBitVec_not, BitVec.xor_allOnes]
/-- a number with a sign, turned -/
def zig (x : Int64) : UInt64 := if x.toInt < 0 then UInt64.ofInt (2 * (-(x.toInt + 1)) + 1) else UInt64.ofInt (2 * x.toInt)
theorem zig_toNat (x : Int64) : ((zig x).toNat : Int) = if x.toInt < 0 then -2 * x.toInt - 1 else 2 * x.toInt := by
  have h1 := Int64.le_toInt x
  have h2 := Int64.toInt_lt x
  unfold zig
  by_cases h : x.toInt < 0
  · rw [if_pos h, if_pos h]
    have e := u64_ofInt (2 * (-(x.toInt + 1)) + 1)
    omega
  · rw [if_neg h, if_neg h]
    have e := u64_ofInt (2 * x.toInt)
    omega
theorem shl1 (u : UInt64) : (IK.shl IntKind.u64 u ↑(UInt64.toNat (1 : UInt64))).toNat = u.toNat * 2 % 2 ^ 64 := by
  have h := IK.shl_toInt .u64 u ((UInt64.toNat (1 : UInt64) : Nat) : Int)
  have e : IK.toInt .u64 (IK.shl .u64 u ((UInt64.toNat (1 : UInt64) : Nat) : Int)) = ((IK.shl IntKind.u64 u ↑(UInt64.toNat (1 : UInt64))).toNat : Int) := rfl
  have e2 : IK.toInt .u64 u = (u.toNat : Int) := rfl
  have e3 : (2 : Int) ^ (min ((UInt64.toNat (1 : UInt64) : Nat) : Int).toNat IntKind.u64.bits) = 2 := by decide
  rw [e, e2, e3, wrap_eq] at h
  simp only [IntKind.signed, IntKind.bits, Bool.false_eq_true, if_false] at h
  omega
theorem shr63 (x : Int64) : Int64.toInt (IK.shr IntKind.i64 x ↑(UInt64.toNat (63 : UInt64))) = if x.toInt < 0 then -1 else 0 := by
  have h := IK.shr_toInt .i64 x ((UInt64.toNat (63 : UInt64) : Nat) : Int)
  have e : IK.toInt .i64 (IK.shr .i64 x ((UInt64.toNat (63 : UInt64) : Nat) : Int)) = Int64.toInt (IK.shr IntKind.i64 x ↑(UInt64.toNat (63 : UInt64))) := rfl
  have e2 : IK.toInt .i64 x = x.toInt := rfl
  have e3 : (2 : Int) ^ (min ((UInt64.toNat (63 : UInt64) : Nat) : Int).toNat IntKind.i64.bits) = 9223372036854775808 := by decide
  have h1 := Int64.le_toInt x
  have h2 := Int64.toInt_lt x
  rw [e, e2, e3, Int.fdiv_eq_ediv_of_nonneg _ (by decide)] at h
  rw [h]
  split <;> omega
/-- as the program turns it -/
theorem zig_prog (x : Int64) : IK.shl IntKind.u64 (UInt64.ofInt (Int64.toInt x)) ↑(UInt64.toNat (1 : UInt64)) ^^^ UInt64.ofInt (Int64.toInt (IK.shr IntKind.i64 x ↑(UInt64.toNat (63 : UInt64)))) = zig x := by
  rw [shr63]
  have h1 := Int64.le_toInt x
  have h2 := Int64.toInt_lt x
  have hz := zig_toNat x
  have hs := shl1 (UInt64.ofInt x.toInt)
  have hu := u64_ofInt x.toInt
  by_cases h : x.toInt < 0
  · rw [if_pos h, xor_ones]
    rw [if_pos h] at hz
    apply UInt64.toNat.inj
    rw [UInt64.toNat_not, hs]
    have : UInt64.size = 18446744073709551616 := rfl
    omega
  · rw [if_neg h]
    rw [if_neg h] at hz
    have : UInt64.ofInt 0 = 0 := by decide
    rw [this, UInt64.xor_zero]
    apply UInt64.toNat.inj
    omega
/-- as the document turns it -/
theorem zig_neg (x : Int64) (h : x.toInt < 0) : (2 : UInt64) * UInt64.ofInt (Int64.toInt ((0 : Int64) - (x + (1 : Int64)))) + (1 : UInt64) = zig x := by
  have h1 := Int64.le_toInt x
  have z0 : (0 : Int64).toInt = 0 := by decide
  have z1 : (1 : Int64).toInt = 1 := by decide
  have e1 : (x + 1).toInt = x.toInt + 1 := by rw [Int64.toInt_add, z1, Int.bmod_eq_of_le (by omega) (by omega)]
  have e2 : ((0 : Int64) - (x + 1)).toInt = -(x.toInt + 1) := by rw [Int64.toInt_sub, z0, e1, Int.bmod_eq_of_le (by omega) (by omega)]; omega
  rw [e2]
  have hz := zig_toNat x
  rw [if_pos h] at hz
  have hu := u64_ofInt (-(x.toInt + 1))
  apply UInt64.toNat.inj
  rw [UInt64.toNat_add, UInt64.toNat_mul]
  have a : (2 : UInt64).toNat = 2 := rfl
  have b : (1 : UInt64).toNat = 1 := rfl
  rw [a, b]
  omega
theorem zig_pos (x : Int64) (h : ¬ x.toInt < 0) : (2 : UInt64) * UInt64.ofInt (Int64.toInt x) = zig x := by
  have h2 := Int64.toInt_lt x
  have hz := zig_toNat x
  rw [if_neg h] at hz
  have hu := u64_ofInt x.toInt
  apply UInt64.toNat.inj
  rw [UInt64.toNat_mul]
  have a : (2 : UInt64).toNat = 2 := rfl
  rw [a]
  omega
/-- and back -/
theorem zag (x : Int64) : Int64.ofInt ↑(UInt64.toNat (IK.shr IntKind.u64 (zig x) ↑(UInt64.toNat (1 : UInt64)))) ^^^ (0 : Int64) - Int64.ofInt ↑(UInt64.toNat (zig x &&& (1 : UInt64))) = x := by
  have h1 := Int64.le_toInt x
  have h2 := Int64.toInt_lt x
  have hz := zig_toNat x
  have hs : (IK.shr IntKind.u64 (zig x) ↑(UInt64.toNat (1 : UInt64))).toNat = (zig x).toNat / 2 := by
    have h := IK.shr_toInt .u64 (zig x) ((UInt64.toNat (1 : UInt64) : Nat) : Int)
    have e : IK.toInt .u64 (IK.shr .u64 (zig x) ((UInt64.toNat (1 : UInt64) : Nat) : Int)) = ((IK.shr IntKind.u64 (zig x) ↑(UInt64.toNat (1 : UInt64))).toNat : Int) := rfl
    have e2 : IK.toInt .u64 (zig x) = ((zig x).toNat : Int) := rfl
    have e3 : (2 : Int) ^ (min ((UInt64.toNat (1 : UInt64) : Nat) : Int).toNat IntKind.u64.bits) = 2 := by decide
    rw [e, e2, e3, Int.fdiv_eq_ediv_of_nonneg _ (by decide)] at h
    omega
  have ha : (zig x &&& 1).toNat = (zig x).toNat % 2 := by
    rw [UInt64.toNat_and]
    show (zig x).toNat &&& 1 = _
    exact Nat.and_one_is_mod _
  rw [hs, ha]
  by_cases h : x.toInt < 0
  · rw [if_pos h] at hz
    have e1 : (zig x).toNat % 2 = 1 := by omega
    have e2 : ((0 : Int64) - Int64.ofInt ((1 : Nat) : Int)) = -1 := by decide
    rw [e1, e2, xor_ones_i]
    apply Int64.toInt_inj.1
    rw [Int64.toInt_not, Int64.toInt_ofInt_of_le (by omega) (by omega), Int.bmod_eq_of_le (by omega) (by omega)]
    omega
  · rw [if_neg h] at hz
    have e1 : (zig x).toNat % 2 = 0 := by omega
    have e2 : ((0 : Int64) - Int64.ofInt ((0 : Nat) : Int)) = 0 := by decide
    rw [e1, e2, Int64.xor_zero]
    apply Int64.toInt_inj.1
    rw [Int64.toInt_ofInt_of_le (by omega) (by omega)]
    omega
end Go.Sx
