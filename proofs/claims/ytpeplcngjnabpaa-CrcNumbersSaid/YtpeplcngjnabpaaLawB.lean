/- Sums as bytes and back; the document's answer for a sum; the chapter's example. -/
import Derived.Test.YtpeplcngjnabpaaLaw
open Go Go.Sx Go.Sx.Crc
namespace Go.Proofs.Ytpeplcngjnabpaa
set_option maxRecDepth 100000
/-! ### Four bytes -/
def b4 (x : UInt32) : UInt8 × UInt8 × UInt8 × UInt8 :=
  (UInt8.ofInt (x.toNat : Int), UInt8.ofInt ((IK.shr .u32 x ((UInt64.toNat 8 : Nat) : Int)).toNat : Int), UInt8.ofInt ((IK.shr .u32 x ((UInt64.toNat 16 : Nat) : Int)).toNat : Int), UInt8.ofInt ((IK.shr .u32 x ((UInt64.toNat 24 : Nat) : Int)).toNat : Int))
def l4 (b : UInt8 × UInt8 × UInt8 × UInt8) : List UInt8 := [b.1, b.2.1, b.2.2.1, b.2.2.2]
def v4 (b : UInt8 × UInt8 × UInt8 × UInt8) : UInt32 :=
  UInt32.ofInt (b.1.toNat : Int) ||| IK.shl .u32 (UInt32.ofInt (b.2.1.toNat : Int)) ((UInt64.toNat 8 : Nat) : Int) ||| IK.shl .u32 (UInt32.ofInt (b.2.2.1.toNat : Int)) ((UInt64.toNat 16 : Nat) : Int) ||| IK.shl .u32 (UInt32.ofInt (b.2.2.2.toNat : Int)) ((UInt64.toNat 24 : Nat) : Int)
theorem f8 (n : Nat) (x : UInt32) : F8 n x = some (b4 x, ()) := rfl
theorem f10 (n : Nat) (b : UInt8 × UInt8 × UInt8 × UInt8) : F10 n b = some (v4 b, ()) := rfl
theorem u8i (m : Nat) : (UInt8.ofInt (m : Int)).toNat = m % 256 := by have := u8_ofInt (m : Int); omega
theorem b4_nat (x : UInt32) : (b4 x).1.toNat = x.toNat % 256 ∧ (b4 x).2.1.toNat = x.toNat / 256 % 256 ∧ (b4 x).2.2.1.toNat = x.toNat / 65536 % 256 ∧ (b4 x).2.2.2.toNat = x.toNat / 16777216 := by
  have h1 := shr32 x 8 (by omega)
  have h2 := shr32 x 16 (by omega)
  have h3 := shr32 x 24 (by omega)
  have e1 : ((UInt64.toNat 8 : Nat) : Int) = ((8 : Nat) : Int) := rfl
  have e2 : ((UInt64.toNat 16 : Nat) : Int) = ((16 : Nat) : Int) := rfl
  have e3 : ((UInt64.toNat 24 : Nat) : Int) = ((24 : Nat) : Int) := rfl
  have hx := x.toNat_lt
  unfold b4
  simp only [u8i, e1, e2, e3, h1, h2, h3]
  refine ⟨trivial, trivial, trivial, ?_⟩
  have : x.toNat / 2 ^ 24 < 256 := by omega
  omega
theorem shl32 (b : UInt8) (k : Nat) (hk : k ≤ 24) : (IK.shl .u32 (UInt32.ofInt (b.toNat : Int)) (k : Int)).toNat = b.toNat <<< k := by
  have h := IK.shl_toInt .u32 (UInt32.ofInt (b.toNat : Int)) (k : Int)
  have e1 : IK.toInt .u32 (IK.shl .u32 (UInt32.ofInt (b.toNat : Int)) (k : Int)) = ((IK.shl .u32 (UInt32.ofInt (b.toNat : Int)) (k : Int)).toNat : Int) := rfl
  have e2 : IK.toInt .u32 (UInt32.ofInt (b.toNat : Int)) = (b.toNat : Int) := by
    have : IK.toInt .u32 (UInt32.ofInt (b.toNat : Int)) = ((UInt32.ofInt (b.toNat : Int)).toNat : Int) := rfl
    rw [this, byte32]
  have e3 : min (k : Int).toNat IntKind.u32.bits = k := by simp [IntKind.bits]; omega
  rw [e1, e2, e3] at h
  have hb := b.toNat_lt
  have hlt : b.toNat * 2 ^ k < 4294967296 := by
    have : 2 ^ k ≤ 2 ^ 24 := Nat.pow_le_pow_right (by omega) hk
    have : b.toNat * 2 ^ k ≤ b.toNat * 2 ^ 24 := Nat.mul_le_mul_left _ this
    omega
  have hw : IntKind.u32.wrap ((b.toNat : Int) * 2 ^ k) = (b.toNat : Int) * 2 ^ k := by
    rw [wrap_eq]
    have e : (if IntKind.u32.signed = true then Int.bmod ((b.toNat : Int) * 2 ^ k) (2 ^ IntKind.u32.bits) else ((b.toNat : Int) * 2 ^ k) % (2 ^ IntKind.u32.bits : Int)) = ((b.toNat : Int) * 2 ^ k) % 4294967296 := by simp [IntKind.signed, IntKind.bits]
    rw [e]
    have : ((b.toNat : Int) * 2 ^ k) = ((b.toNat * 2 ^ k : Nat) : Int) := by simp
    rw [this]; omega
  rw [hw] at h
  have : ((b.toNat : Int) * 2 ^ k) = ((b.toNat * 2 ^ k : Nat) : Int) := by simp
  rw [this] at h
  rw [Nat.shiftLeft_eq]; omega
theorem v4_nat (b : UInt8 × UInt8 × UInt8 × UInt8) : (v4 b).toNat = b.1.toNat + 256 * b.2.1.toNat + 65536 * b.2.2.1.toNat + 16777216 * b.2.2.2.toNat := by
  have e1 : ((UInt64.toNat 8 : Nat) : Int) = ((8 : Nat) : Int) := rfl
  have e2 : ((UInt64.toNat 16 : Nat) : Int) = ((16 : Nat) : Int) := rfl
  have e3 : ((UInt64.toNat 24 : Nat) : Int) = ((24 : Nat) : Int) := rfl
  unfold v4
  rw [e1, e2, e3, UInt32.toNat_or, UInt32.toNat_or, UInt32.toNat_or, shl32 _ 8 (by omega), shl32 _ 16 (by omega), shl32 _ 24 (by omega), byte32]
  have h0 := b.1.toNat_lt
  have h1 := b.2.1.toNat_lt
  have h2 := b.2.2.1.toNat_lt
  rw [Nat.or_comm b.1.toNat, ← Nat.shiftLeft_add_eq_or_of_lt (by omega : b.1.toNat < 2 ^ 8)]
  have g1 : b.2.1.toNat <<< 8 + b.1.toNat < 2 ^ 16 := by rw [Nat.shiftLeft_eq]; omega
  rw [Nat.or_comm (b.2.1.toNat <<< 8 + b.1.toNat), ← Nat.shiftLeft_add_eq_or_of_lt g1]
  have g2 : b.2.2.1.toNat <<< 16 + (b.2.1.toNat <<< 8 + b.1.toNat) < 2 ^ 24 := by rw [Nat.shiftLeft_eq, Nat.shiftLeft_eq]; omega
  rw [Nat.or_comm, ← Nat.shiftLeft_add_eq_or_of_lt g2, Nat.shiftLeft_eq, Nat.shiftLeft_eq, Nat.shiftLeft_eq]
  omega
theorem v4_b4 (x : UInt32) : v4 (b4 x) = x := by
  apply UInt32.toNat_inj.1
  obtain ⟨h1, h2, h3, h4⟩ := b4_nat x
  have hx := x.toNat_lt
  rw [v4_nat, h1, h2, h3, h4]; omega
theorem b4_v4 (b : UInt8 × UInt8 × UInt8 × UInt8) : b4 (v4 b) = b := by
  obtain ⟨h1, h2, h3, h4⟩ := b4_nat (v4 b)
  rw [v4_nat] at h1 h2 h3 h4
  have k0 := b.1.toNat_lt
  have k1 := b.2.1.toNat_lt
  have k2 := b.2.2.1.toNat_lt
  have k3 := b.2.2.2.toNat_lt
  have e1 : (b4 (v4 b)).1 = b.1 := UInt8.toNat_inj.1 (by omega)
  have e2 : (b4 (v4 b)).2.1 = b.2.1 := UInt8.toNat_inj.1 (by omega)
  have e3 : (b4 (v4 b)).2.2.1 = b.2.2.1 := UInt8.toNat_inj.1 (by omega)
  have e4 : (b4 (v4 b)).2.2.2 = b.2.2.2 := UInt8.toNat_inj.1 (by omega)
  have : b4 (v4 b) = ((b4 (v4 b)).1, (b4 (v4 b)).2.1, (b4 (v4 b)).2.2.1, (b4 (v4 b)).2.2.2) := rfl
  rw [this, e1, e2, e3, e4]
theorem f9 (n : Nat) (x : UInt32) : F9 n x = some (l4 (b4 x), ()) := by
  obtain ⟨h1, h2, h3, h4⟩ := b4_nat x
  have hx := x.toNat_lt
  have m256 : (256 : UInt32).toNat = 256 := rfl
  have e : ∀ (a b : UInt8), a.toNat = b.toNat → a = b := fun a b h => UInt8.toNat_inj.1 h
  unfold F9
  congr 2
  unfold l4
  congr 1
  · apply e; rw [u8i, h1, UInt32.toNat_mod]; have : (256 : UInt32).toNat = 256 := rfl; rw [this]; omega
  congr 1
  · apply e; rw [u8i, h2, UInt32.toNat_mod, UInt32.toNat_div]; have : (256 : UInt32).toNat = 256 := rfl; rw [this]; omega
  congr 1
  · apply e; rw [u8i, h3, UInt32.toNat_mod, UInt32.toNat_div]; have h : (65536 : UInt32).toNat = 65536 := rfl; rw [h, m256]; omega
  congr 1
  · apply e; rw [u8i, h4, UInt32.toNat_div]; have h : (16777216 : UInt32).toNat = 16777216 := rfl; rw [h]; omega

/-! ### The document's answer -/
theorem ref_bits (rec : Arr [PT.list u8s, PT.int .u32, PT.int .i64] (Option (UInt32 × Unit))) (b : List UInt8) (i : Int64) : ∀ (m k : Nat) (n : UInt32), k ≤ 8 → 8 - k < m → F13_R939 rec m b n i (I64 k) = rec b (stpN (8 - k) n) (i + 1) := by
  intro m
  induction m with
  | zero => intro k n _ h; omega
  | succ m ih =>
    intro k n hk hm
    have hs : F13_R939 rec (m + 1) = F13_L939 rec (F13_R939 rec m) := rfl
    rw [hs]
    unfold F13_L939
    by_cases h8 : k < 8
    · have e1 : decide (I64 k < 8) = true := dec_t ((i64_lt (a := k) (b := 8) (by omega) (by omega)).2 h8)
      have e2 : 8 - k = (8 - (k + 1)) + 1 := by omega
      have es : stpN (8 - k) n = stpN (8 - (k + 1)) (stp n) := by rw [e2]; rfl
      rw [e1, oite_t, i64_succ, es]
      by_cases hb : n % 2 = 1
      · rw [dec_t hb, oite_t, ih (k + 1) _ (by omega) (by omega)]
        unfold stp; rw [if_pos hb]
      · rw [dec_f hb, oite_f, ih (k + 1) _ (by omega) (by omega)]
        unfold stp; rw [if_neg hb]
    · have hk8 : k = 8 := by omega
      subst hk8
      have e1 : decide (I64 8 < 8) = false := by decide
      rw [e1, oite_f]
      rfl
theorem ref_loop (n0 : Nat) (hn : 9 ≤ n0) (b : List UInt8) (hb : b.length < 2 ^ 63) : ∀ (m k : Nat) (n : UInt32), k ≤ b.length → b.length - k < m → F13_R29 n0 m b n (I64 k) = some (reg n (b.drop k) ^^^ 4294967295, ()) := by
  intro m
  induction m with
  | zero => intro k n _ h; omega
  | succ m ih =>
    intro k n hk hm
    have hs : F13_R29 n0 (m + 1) = F13_L29 n0 (F13_R29 n0 m) := rfl
    rw [hs]
    unfold F13_L29
    by_cases h : k < b.length
    · have e1 : decide (I64 k < I64 (List.length b)) = true := dec_t ((i64_lt (by omega) hb).2 h)
      rw [e1, oite_t, at_i64_lt (by omega) h, obind_s]
      have := ref_bits (F13_R29 n0 m) b (I64 k) n0 0 (n ^^^ UInt32.ofInt (b[k].toNat : Int)) (by omega) (by omega)
      have e0 : (I64 0 : Int64) = 0 := rfl
      rw [e0] at this
      rw [this, i64_succ, ih (k + 1) _ (by omega) (by omega)]
      have hd : b.drop k = b[k] :: b.drop (k + 1) := List.drop_eq_getElem_cons h
      rw [hd]
      rfl
    · have hk : k = b.length := by omega
      subst hk
      have e1 : decide (I64 b.length < I64 (List.length b)) = false := dec_f (fun h => by have := (i64_lt hb hb).1 h; omega)
      rw [e1, oite_f, List.drop_eq_nil_of_le (Nat.le_refl _)]
      rfl
theorem f13 (n : Nat) (b : List UInt8) (hb : b.length < 2 ^ 63) (hn : b.length + 300 ≤ n) : F13 n b = some (Crc.sum b, ()) := by
  have := ref_loop n (by omega) b hb n 0 4294967295 (by omega) (by omega)
  have e0 : (I64 0 : Int64) = 0 := rfl
  rw [e0, List.drop_zero] at this
  exact this

/-! ### The example -/
theorem f7 (n : Nat) (hn : 400 ≤ n) : F7 n () = some (true, ()) := by
  unfold F7
  obtain ⟨x, hx, ht⟩ := f11 n
  rw [hx, obind_s, f16 n x 0 0 ht [49, 50, 51, 52, 53, 54, 55, 56, 57] (by simp) (by simp; omega), obind_s]
  have : Crc.sum [49, 50, 51, 52, 53, 54, 55, 56, 57] = 3421780262 := by decide +kernel
  simp only [this, decide_true]

theorem numbers (n : Nat) (hn : 400 ≤ n) (x : UInt32 × UInt8 × UInt8 × UInt8 × UInt8) : F3 n x = some (true, ()) := by
  obtain ⟨v, b⟩ := x
  unfold F3
  simp only [f7 n hn, f8, f9, f10, obind_s, oite_f, Bool.not_true]
  have e : ([(b4 v).1, (b4 v).2.1, (b4 v).2.2.1, (b4 v).2.2.2] == l4 (b4 v)) = true := by simp [l4]
  have e' : v4 ((b4 v).1, (b4 v).2.1, (b4 v).2.2.1, (b4 v).2.2.2) = v := v4_b4 v
  have e2 : v4 (b.1, b.2.1, b.2.2.1, b.2.2.2) = v4 b := rfl
  rw [e, oite_t, e', dec_t rfl, oite_t, e2, b4_v4]
  simp
theorem truth3 : ∀ x, PTys.fits sig3.ps x → ∃ n y, F3 n x = some y ∧ PTys.hd (.one (.c .bool)) .nil y.1 = true :=
  fun x _ => ⟨400, _, numbers 400 (by omega) x, rfl⟩
end Go.Proofs.Ytpeplcngjnabpaa
