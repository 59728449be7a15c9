/- A walk of Go code by plain functions is sound. -/
import Derived.Test.YtfmomnniadlbhaaSxCodec
namespace Go.Sx
theorem xor_ones (a : UInt64) : a ^^^ UInt64.ofInt (-1) = ~~~a := by
 apply UInt64.toBitVec_inj.1
 have : (UInt64.ofInt (-1)).toBitVec = BitVec.allOnes 64 := by decide
 rw [UInt64.toBitVec_xor, this, UInt64.toBitVec_not, BitVec.xor_allOnes]
def zig (x : Int64) : UInt64 := if x.toInt < 0 then UInt64.ofInt (2 * (-(x.toInt + 1)) + 1) else UInt64.ofInt (2 * x.toInt)
theorem zig_toNat (x : Int64) : ((zig x).toNat : Int) = if x.toInt < 0 then -2 * x.toInt - 1 else 2 * x.toInt := by
 have h1 := Int64.le_toInt x
 have h2 := Int64.toInt_lt x
 unfold zig
 by_cases h : x.toInt < 0
 ·rw [if_pos h, if_pos h]
  have e := u64_ofInt (2 * (-(x.toInt + 1)) + 1)
  omega
 ·rw [if_neg h, if_neg h]
  have e := u64_ofInt (2 * x.toInt)
  omega
theorem shl1 (u : UInt64) : (IK.shl IntKind.u64 u ↑(UInt64.toNat (1 : UInt64))).toNat = u.toNat * 2 % 2 ^ 64 := by
 have h := IK.shl_toInt .u64 u ((UInt64.toNat (1 : UInt64) : Nat) : Int)
 have e : IK.toInt .u64 (IK.shl .u64 u ((UInt64.toNat (1 : UInt64) : Nat) : Int)) = ((IK.shl IntKind.u64 u ↑(UInt64.toNat (1 : UInt64))).toNat : Int) := rfl
 have e2 : IK.toInt .u64 u = (u.toNat : Int) := rfl
 have e3 : (2 : Int) ^ (min ((UInt64.toNat (1 : UInt64) : Nat) : Int).toNat IntKind.u64.bits) = 2 := by decide
 rw [e, e2, e3, wrap_eq] at h
 simp only [IntKind.signed, IntKind.bits, Bool.false_eq_true, if_false] at h
 omega
theorem shr63 (x : Int64) : Int64.toInt (IK.shr IntKind.i64 x ↑(UInt64.toNat (63 : UInt64))) = if x.toInt < 0 then -1 else 0 := by
 have h := IK.shr_toInt .i64 x ((UInt64.toNat (63 : UInt64) : Nat) : Int)
 have e : IK.toInt .i64 (IK.shr .i64 x ((UInt64.toNat (63 : UInt64) : Nat) : Int)) = Int64.toInt (IK.shr IntKind.i64 x ↑(UInt64.toNat (63 : UInt64))) := rfl
 have e2 : IK.toInt .i64 x = x.toInt := rfl
 have e3 : (2 : Int) ^ (min ((UInt64.toNat (63 : UInt64) : Nat) : Int).toNat IntKind.i64.bits) = 9223372036854775808 := by decide
 have h1 := Int64.le_toInt x
 have h2 := Int64.toInt_lt x
 rw [e, e2, e3, Int.fdiv_eq_ediv_of_nonneg _ (by decide)] at h
 rw [h]
 split <;> omega
theorem zig_prog (x : Int64) : IK.shl IntKind.u64 (UInt64.ofInt (Int64.toInt x)) ↑(UInt64.toNat (1 : UInt64)) ^^^ UInt64.ofInt (Int64.toInt (IK.shr IntKind.i64 x ↑(UInt64.toNat (63 : UInt64)))) = zig x := by
 rw [shr63]
 have h1 := Int64.le_toInt x
 have h2 := Int64.toInt_lt x
 have hz := zig_toNat x
 have hs := shl1 (UInt64.ofInt x.toInt)
 have hu := u64_ofInt x.toInt
 by_cases h : x.toInt < 0
 ·rw [if_pos h, xor_ones]
  rw [if_pos h] at hz
  apply UInt64.toNat.inj
  rw [UInt64.toNat_not, hs]
  have : UInt64.size = 18446744073709551616 := rfl
  omega
 ·rw [if_neg h]
  rw [if_neg h] at hz
  have : UInt64.ofInt 0 = 0 := by decide
  rw [this, UInt64.xor_zero]
  apply UInt64.toNat.inj
  omega
end Go.Sx
