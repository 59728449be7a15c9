/- A part of the proof: a walk of Go code by plain functions, and that it is sound. -/
import Derived.Test.YtgknjddbbehboaaGreatSxPlain
/-! A sum of 32 bits over bytes, bit by bit; its table; that it is linear, and loses nothing. -/
namespace Go.Sx.Crc

/-- one bit -/
def stp (n : UInt32) : UInt32 := if n % 2 = 1 then n / 2 ^^^ 3988292384 else n / 2
def stpN : Nat → UInt32 → UInt32
  | 0, n => n
  | k + 1, n => stpN k (stp n)
def word (i : Nat) : UInt32 := stpN 8 (UInt32.ofNat i)
def words : List UInt32 := (List.range 256).map word
def byt (n : UInt32) (c : UInt8) : UInt32 := stpN 8 (n ^^^ UInt32.ofInt (c.toNat : Int))
def reg (n : UInt32) (b : List UInt8) : UInt32 := b.foldl byt n
def sum (b : List UInt8) : UInt32 := reg 4294967295 b ^^^ 4294967295

/-! As bits -/
def L (x : BitVec 32) : BitVec 32 := (x >>> 1) ^^^ (if x.getLsbD 0 then 3988292384#32 else 0#32)
def LN : Nat → BitVec 32 → BitVec 32
  | 0, x => x
  | k + 1, x => LN k (L x)
theorem L_xor (a b : BitVec 32) : L (a ^^^ b) = L a ^^^ L b := by
  unfold L
  rw [BitVec.getLsbD_xor, BitVec.ushiftRight_xor_distrib]
  generalize a >>> 1 = x
  generalize b >>> 1 = y
  generalize 3988292384#32 = p
  cases a.getLsbD 0 <;> cases b.getLsbD 0 <;> simp
  · rw [BitVec.xor_assoc]
  · rw [BitVec.xor_assoc, BitVec.xor_comm y p, ← BitVec.xor_assoc]
  · rw [BitVec.xor_comm y p, ← BitVec.xor_assoc, BitVec.xor_assoc x p p, BitVec.xor_self]; simp
theorem LN_xor : ∀ (k : Nat) (a b : BitVec 32), LN k (a ^^^ b) = LN k a ^^^ LN k b
  | 0, _, _ => rfl
  | k + 1, a, b => by simp only [LN]; rw [L_xor, LN_xor k]
theorem L_zero : L 0#32 = 0#32 := by decide
theorem LN_zero : ∀ k, LN k 0#32 = 0#32
  | 0 => rfl
  | k + 1 => by simp only [LN]; rw [L_zero, LN_zero k]
theorem LN_shift : ∀ (k : Nat) (x : BitVec 32), (∀ i, i < k → x.getLsbD i = false) → LN k x = x >>> k
  | 0, x, _ => by simp [LN]
  | k + 1, x, h => by
    simp only [LN]
    have h0 : L x = x >>> 1 := by unfold L; rw [h 0 (by omega)]; simp
    rw [h0, LN_shift k _ (fun i hi => by rw [BitVec.getLsbD_ushiftRight]; exact h _ (by omega)), Nat.add_comm k 1, BitVec.shiftRight_add]
theorem L_ne (a : BitVec 32) (h : L a = 0#32) : a = 0#32 := by
  unfold L at h
  cases h0 : a.getLsbD 0 with
  | true =>
    exfalso
    rw [h0] at h
    have := congrArg (fun x => BitVec.getLsbD x 31) h
    simp at this
  | false =>
    rw [h0] at h
    simp only [Bool.false_eq_true, if_false, BitVec.xor_zero] at h
    apply BitVec.eq_of_getLsbD_eq
    intro i hi
    cases i with
    | zero => rw [h0]; simp
    | succ i =>
      have := congrArg (fun x => BitVec.getLsbD x i) h
      simp only [BitVec.getLsbD_ushiftRight, BitVec.getLsbD_zero] at this
      rw [Nat.add_comm] at this
      rw [this]; simp
theorem LN_ne : ∀ (k : Nat) (a : BitVec 32), LN k a = 0#32 → a = 0#32
  | 0, _, h => h
  | k + 1, a, h => L_ne a (LN_ne k (L a) h)

theorem stp_bv (n : UInt32) : (stp n).toBitVec = L n.toBitVec := by
  unfold stp L
  have h1 : (n / 2).toBitVec = n.toBitVec >>> 1 := by
    apply BitVec.eq_of_toNat_eq
    simp [Nat.shiftRight_eq_div_pow]
  have h2 : n.toBitVec.getLsbD 0 = decide (n % 2 = 1) := by
    rw [BitVec.getLsbD, Nat.testBit_zero]
    congr 1
    apply propext
    constructor
    · intro h; apply UInt32.toNat_inj.1; simpa using h
    · intro h; have := congrArg UInt32.toNat h; simpa using this
  rw [h2]
  by_cases h : n % 2 = 1
  · rw [if_pos h]; simp only [h, decide_true, if_true]
    rw [UInt32.toBitVec_xor, h1]; rfl
  · rw [if_neg h]; simp only [h, decide_false, Bool.false_eq_true, if_false, BitVec.xor_zero]
    exact h1
theorem stpN_bv : ∀ (k : Nat) (n : UInt32), (stpN k n).toBitVec = LN k n.toBitVec
  | 0, _ => rfl
  | k + 1, n => by simp only [stpN, LN]; rw [stpN_bv k, stp_bv]
theorem stpN_xor (k : Nat) (a b : UInt32) : stpN k (a ^^^ b) = stpN k a ^^^ stpN k b := by
  apply UInt32.toBitVec_inj.1
  rw [UInt32.toBitVec_xor, stpN_bv, stpN_bv, stpN_bv, UInt32.toBitVec_xor, LN_xor]
theorem stpN_zero (k : Nat) : stpN k 0 = 0 := by
  apply UInt32.toBitVec_inj.1
  rw [stpN_bv]; exact LN_zero k
theorem stpN_ne (k : Nat) (a : UInt32) (h : stpN k a = 0) : a = 0 := by
  apply UInt32.toBitVec_inj.1
  have := congrArg UInt32.toBitVec h
  rw [stpN_bv] at this
  exact LN_ne k _ this
theorem xor_eq_zero {a b : UInt32} : a ^^^ b = 0 ↔ a = b := by
  constructor
  · intro h
    have : a ^^^ b ^^^ b = 0 ^^^ b := by rw [h]
    rwa [UInt32.xor_assoc, UInt32.xor_self, UInt32.xor_zero, UInt32.zero_xor] at this
  · intro h; rw [h, UInt32.xor_self]
theorem stpN_inj (k : Nat) {a b : UInt32} (h : stpN k a = stpN k b) : a = b := by
  apply xor_eq_zero.1
  apply stpN_ne k
  rw [stpN_xor, h, UInt32.xor_self]

/-! The table -/
theorem byte32 (c : UInt8) : (UInt32.ofInt (c.toNat : Int)).toNat = c.toNat := by
  have := u32_ofInt (c.toNat : Int)
  have := c.toNat_lt
  omega
theorem word_at {i : Nat} (h : i < 256) : words[i]? = some (word i) := by simp [words, h]
theorem low_nat (n : UInt32) (c : UInt8) : (UInt8.ofInt (n.toNat : Int) ^^^ c).toNat = (n ^^^ UInt32.ofInt (c.toNat : Int)).toNat % 256 := by
  have h1 : (UInt8.ofInt (n.toNat : Int)).toNat = n.toNat % 256 := by have := u8_ofInt (n.toNat : Int); omega
  rw [UInt8.toNat_xor, UInt32.toNat_xor, byte32, h1]
  have h2 : c.toNat % 2 ^ 8 = c.toNat := Nat.mod_eq_of_lt c.toNat_lt
  rw [show (256 : Nat) = 2 ^ 8 from rfl, Nat.xor_mod_two_pow, h2]
theorem table (n : UInt32) (c : UInt8) {m : UInt32} (hm : m.toNat = n.toNat / 256) : word (UInt8.ofInt (n.toNat : Int) ^^^ c).toNat ^^^ m = byt n c := by
  unfold byt word
  rw [low_nat]
  generalize hv : n ^^^ UInt32.ofInt (c.toNat : Int) = v
  have hvn : v.toNat / 256 = n.toNat / 256 := by
    rw [← hv, UInt32.toNat_xor, byte32]
    rw [show (256 : Nat) = 2 ^ 8 from rfl, ← Nat.shiftRight_eq_div_pow, ← Nat.shiftRight_eq_div_pow, Nat.shiftRight_xor_distrib]
    have : c.toNat >>> 8 = 0 := by rw [Nat.shiftRight_eq_div_pow]; exact Nat.div_eq_of_lt c.toNat_lt
    rw [this, Nat.xor_zero]
  apply UInt32.toBitVec_inj.1
  rw [UInt32.toBitVec_xor, stpN_bv, stpN_bv]
  have hlo : (UInt32.ofNat (v.toNat % 256)).toBitVec = v.toBitVec &&& 255#32 := by
    apply BitVec.eq_of_toNat_eq
    simp only [UInt32.toNat_toBitVec, BitVec.toNat_and]
    rw [UInt32.toNat_ofNat']
    have : (255#32).toNat = 2 ^ 8 - 1 := rfl
    rw [this, Nat.and_two_pow_sub_one_eq_mod]
    omega
  have hsplit : v.toBitVec = (v.toBitVec &&& 255#32) ^^^ (v.toBitVec &&& ~~~255#32) := by
    apply BitVec.eq_of_getLsbD_eq
    intro i hi
    simp only [BitVec.getLsbD_xor, BitVec.getLsbD_and, BitVec.getLsbD_not, hi, decide_true, Bool.true_and]
    cases v.toBitVec.getLsbD i <;> cases (255#32).getLsbD i <;> rfl
  rw [hlo]
  conv => rhs; rw [hsplit, LN_xor]
  congr 1
  rw [LN_shift 8 _ (fun i hi => ?_)]
  · apply BitVec.eq_of_toNat_eq
    rw [UInt32.toNat_toBitVec, hm, ← hvn]
    have e : (v.toBitVec &&& ~~~255#32) >>> 8 = v.toBitVec >>> 8 := by
      apply BitVec.eq_of_getLsbD_eq
      intro i hi
      simp only [BitVec.getLsbD_ushiftRight, BitVec.getLsbD_and, BitVec.getLsbD_not]
      by_cases h : 8 + i < 32
      · have : (255#32).getLsbD (8 + i) = false := by
          have : (255 : Nat).testBit (8 + i) = false := by
            rw [show (255 : Nat) = 2 ^ 8 - 1 from rfl, Nat.testBit_two_pow_sub_one]; simp
          simp [BitVec.getLsbD, this]
        rw [this]; simp [h]
      · have : v.toBitVec.getLsbD (8 + i) = false := BitVec.getLsbD_of_ge _ _ (by omega)
        rw [this]; rfl
    rw [e, BitVec.toNat_ushiftRight, UInt32.toNat_toBitVec, Nat.shiftRight_eq_div_pow]
  · rw [BitVec.getLsbD_and, BitVec.getLsbD_not]
    have : (255#32).getLsbD i = true := by
      have : (255 : Nat).testBit i = true := by
        rw [show (255 : Nat) = 2 ^ 8 - 1 from rfl, Nat.testBit_two_pow_sub_one]; simpa using hi
      simp [BitVec.getLsbD, this]
    rw [this]; simp
theorem shr32 (n : UInt32) (k : Nat) (hk : k ≤ 32) : (IK.shr .u32 n (k : Int)).toNat = n.toNat / 2 ^ k := by
  have h := IK.shr_toInt .u32 n (k : Int)
  have e1 : IK.toInt .u32 (IK.shr .u32 n (k : Int)) = ((IK.shr .u32 n (k : Int)).toNat : Int) := rfl
  have e2 : IK.toInt .u32 n = (n.toNat : Int) := rfl
  have e3 : min (k : Int).toNat IntKind.u32.bits = k := by simp [IntKind.bits]; omega
  rw [e1, e2, e3, Int.fdiv_eq_ediv_of_nonneg _ (by exact Int.le_of_lt (Int.pow_pos (by decide)))] at h
  have : ((n.toNat : Int) / 2 ^ k) = ((n.toNat / 2 ^ k : Nat) : Int) := by simp
  rw [this] at h
  omega
theorem com32 (n : UInt32) : IK.com .u32 n = n ^^^ 4294967295 := by
  have h := IK.com_toInt .u32 n
  have e2 : IK.toInt .u32 n = (n.toNat : Int) := rfl
  have e1 : IK.toInt .u32 (IK.com .u32 n) = ((IK.com .u32 n).toNat : Int) := rfl
  rw [e1, e2] at h
  have e3 : (BitVec.ofInt IntKind.u32.bits (if IntKind.u32.signed then -1 else IntKind.u32.max) ^^^ BitVec.ofInt IntKind.u32.bits (n.toNat : Int)).toNat = (n ^^^ 4294967295).toNat := by
    rw [BitVec.toNat_xor, UInt32.toNat_xor, Nat.xor_comm]
    have : (BitVec.ofInt IntKind.u32.bits (n.toNat : Int)).toNat = n.toNat := by
      have := n.toNat_lt
      simp [IntKind.bits]
    rw [this]
    rfl
  rw [e3] at h
  apply UInt32.toNat_inj.1
  have := (n ^^^ 4294967295).toNat_lt
  have hw : IntKind.u32.wrap ((n ^^^ 4294967295).toNat : Int) = ((n ^^^ 4294967295).toNat : Int) := by
    rw [wrap_eq]
    have e : (if IntKind.u32.signed = true then Int.bmod (((n ^^^ 4294967295).toNat : Int)) (2 ^ IntKind.u32.bits) else ((n ^^^ 4294967295).toNat : Int) % (2 ^ IntKind.u32.bits : Int)) = ((n ^^^ 4294967295).toNat : Int) % 4294967296 := by simp [IntKind.signed, IntKind.bits]
    rw [e]; omega
  rw [hw] at h
  omega
theorem com_com (n : UInt32) : n ^^^ 4294967295 ^^^ 4294967295 = n := by
  rw [UInt32.xor_assoc, UInt32.xor_self, UInt32.xor_zero]
theorem reg_append (n : UInt32) (a b : List UInt8) : reg n (a ++ b) = reg (reg n a) b := by simp [reg]
end Go.Sx.Crc
