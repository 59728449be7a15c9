/- A walk of Go code by plain functions is sound. -/
import Derived.Test.YtfmomnniadlbhaaSxPlain
namespace Go.Sx
def encF : Nat → Nat → List UInt8
  | 0, _ => []
  | f + 1, v => if v < 128 then [UInt8.ofNat v] else UInt8.ofNat (v % 128 + 128) :: encF f (v / 128)
def enc (v : UInt64) : List UInt8 := encF 10 v.toNat
theorem encF_len : ∀ (f v : Nat), (encF f v).length ≤ f
  | 0, _ => by simp [encF]
  | f + 1, v => by
    simp only [encF]
    split
    · simp
    · simp only [List.length_cons]; have := encF_len f (v / 128); omega
theorem u8_small {v : Nat} (h : v < 256) : (UInt8.ofNat v).toNat = v := by rw [UInt8.toNat_ofNat']; omega
theorem pow7 (i : Nat) : (128 : Nat) ^ (i + 1) = 128 ^ i * 128 := Nat.pow_succ _ _
theorem toNat_lt128 (v : UInt64) : v.toNat < 128 ^ 10 := by have := UInt64.toNat_lt v; have : (128 : Nat) ^ 10 = 2 ^ 70 := by decide
                                                            omega
theorem enc_len (v : UInt64) : (enc v).length ≤ 10 := encF_len _ _
end Go.Sx
