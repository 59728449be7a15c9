/- A part of the proof: a walk of Go code by plain functions, and that it is sound. -/
import Derived.Test.YtblldmpkljcnjaaSxPlain
namespace Go.Sx
/-! Numbers as bytes, seven bits each: plain. -/
def encF : Nat → Nat → List UInt8
  | 0, _ => []
  | f + 1, v => if v < 128 then [UInt8.ofNat v] else UInt8.ofNat (v % 128 + 128) :: encF f (v / 128)
def enc (v : UInt64) : List UInt8 := encF 10 v.toNat
def dec : Nat → List UInt8 → Int64 × Nat × List UInt8
  | _, [] => (3, 0, [])
  | i, c :: r => if i = 9 ∧ 1 < c.toNat then (6, 0, r) else if c.toNat < 128 then (if c.toNat = 0 ∧ 0 < i then (2, 0, r) else (0, c.toNat, r)) else
      if (dec (i + 1) r).1 = 0 then (0, c.toNat % 128 + 128 * (dec (i + 1) r).2.1, (dec (i + 1) r).2.2) else ((dec (i + 1) r).1, 0, (dec (i + 1) r).2.2)
theorem encF_len : ∀ (f v : Nat), (encF f v).length ≤ f
  | 0, _ => by simp [encF]
  | f + 1, v => by
    simp only [encF]
    split
    · simp
    · simp only [List.length_cons]; have := encF_len f (v / 128); omega
theorem encF_pos (f v : Nat) : 0 < (encF (f + 1) v).length := by
  simp only [encF]; split <;> simp
theorem u8_small {v : Nat} (h : v < 256) : (UInt8.ofNat v).toNat = v := by rw [UInt8.toNat_ofNat']; omega
theorem pow7 (i : Nat) : (128 : Nat) ^ (i + 1) = 128 ^ i * 128 := Nat.pow_succ _ _
theorem p128 : ∀ i : Nat, 0 < (128 : Nat) ^ i := fun i => Nat.pow_pos (by decide)
theorem p128_9 : (128 : Nat) ^ 9 = 2 ^ 63 := by decide
/-- what was put is taken -/
theorem dec_enc : ∀ (f u i : Nat) (rest : List UInt8), u < 128 ^ (f + 1) → u * 128 ^ i < 2 ^ 64 → i ≤ 9 → (0 < i → 0 < u) → dec i (encF (f + 1) u ++ rest) = (0, u, rest) := by
  intro f
  induction f with
  | zero =>
    intro u i rest h hb hi hp
    have h : u < 128 := by simpa using h
    have hu : (UInt8.ofNat u).toNat = u := u8_small (by omega)
    simp only [encF, h, if_true, List.cons_append, List.nil_append, dec, hu]
    have c1 : ¬ (i = 9 ∧ 1 < u) := fun ⟨h1, h2⟩ => by
      subst h1
      have : 2 * 128 ^ 9 ≤ u * 128 ^ 9 := Nat.mul_le_mul_right _ h2
      rw [p128_9] at *; omega
    have c2 : ¬ (u = 0 ∧ 0 < i) := fun ⟨h1, h2⟩ => by have := hp h2; omega
    rw [if_neg c1, if_neg c2]
  | succ f ih =>
    intro u i rest h hb hi hp
    rw [encF]
    by_cases h1 : u < 128
    · have hu : (UInt8.ofNat u).toNat = u := u8_small (by omega)
      simp only [h1, if_true, List.cons_append, List.nil_append, dec, hu]
      have c1 : ¬ (i = 9 ∧ 1 < u) := fun ⟨h1, h2⟩ => by
        subst h1
        have : 2 * 128 ^ 9 ≤ u * 128 ^ 9 := Nat.mul_le_mul_right _ h2
        rw [p128_9] at *; omega
      have c2 : ¬ (u = 0 ∧ 0 < i) := fun ⟨h1, h2⟩ => by have := hp h2; omega
      rw [if_neg c1, if_neg c2]
    · have hu : (UInt8.ofNat (u % 128 + 128)).toNat = u % 128 + 128 := u8_small (by omega)
      have hi9 : i ≠ 9 := fun e => by
        subst e
        have : 128 * 128 ^ 9 ≤ u * 128 ^ 9 := Nat.mul_le_mul_right _ (by omega)
        rw [p128_9] at *; omega
      have next := ih (u / 128) (i + 1) rest (by rw [pow7] at h; exact Nat.div_lt_of_lt_mul (by rw [Nat.mul_comm]; exact h)) (by
        rw [pow7, Nat.mul_comm (128 ^ i) 128, ← Nat.mul_assoc]
        have : u / 128 * 128 * 128 ^ i ≤ u * 128 ^ i := Nat.mul_le_mul_right _ (by omega)
        omega) (by omega) (fun _ => by omega)
      simp only [h1, if_false, List.cons_append, dec, hu]
      rw [if_neg (fun c => hi9 c.1), if_neg (by omega), next]
      simp only [if_true]
      congr 2; omega
theorem toNat_lt128 (v : UInt64) : v.toNat < 128 ^ 10 := by have := UInt64.toNat_lt v; have : (128 : Nat) ^ 10 = 2 ^ 70 := by decide
                                                            omega
theorem dec_enc64 (v : UInt64) (rest : List UInt8) : dec 0 (enc v ++ rest) = (0, v.toNat, rest) :=
  dec_enc 9 v.toNat 0 rest (toNat_lt128 v) (by have := UInt64.toNat_lt v; simpa using this) (by omega) (by omega)
theorem enc_len (v : UInt64) : (enc v).length ≤ 10 := encF_len _ _
theorem enc_pos (v : UInt64) : 0 < (enc v).length := encF_pos 9 _
/-- cut, it is too short -/
theorem dec_cut : ∀ (f u i k : Nat), u < 128 ^ (f + 1) → u * 128 ^ i < 2 ^ 64 → k < (encF (f + 1) u).length → dec i ((encF (f + 1) u).take k) = (3, 0, []) := by
  intro f
  induction f with
  | zero =>
    intro u i k h hb hk
    have h : u < 128 := by simpa using h
    simp only [encF, h, if_true, List.length_cons, List.length_nil] at hk
    have : k = 0 := by omega
    subst this; simp [dec]
  | succ f ih =>
    intro u i k h hb hk
    cases k with
    | zero => simp [dec]
    | succ k =>
    rw [encF] at hk ⊢
    by_cases h1 : u < 128
    · simp [h1] at hk
    · have hu : (UInt8.ofNat (u % 128 + 128)).toNat = u % 128 + 128 := u8_small (by omega)
      simp only [h1, if_false, List.length_cons] at hk
      have hlt : u / 128 * 128 ^ (i + 1) < 2 ^ 64 := by
        rw [pow7, Nat.mul_comm (128 ^ i) 128, ← Nat.mul_assoc]
        have : u / 128 * 128 * 128 ^ i ≤ u * 128 ^ i := Nat.mul_le_mul_right _ (by omega)
        omega
      have hi9 : i ≠ 9 := fun e => by
        subst e
        have : 128 * 128 ^ 9 ≤ u * 128 ^ 9 := Nat.mul_le_mul_right _ (by omega)
        rw [p128_9] at *; omega
      have next := ih (u / 128) (i + 1) k (by rw [pow7] at h; exact Nat.div_lt_of_lt_mul (by rw [Nat.mul_comm]; exact h)) hlt (by omega)
      simp only [h1, if_false, List.take_succ_cons, dec, hu]
      rw [if_neg (fun c => hi9 c.1), if_neg (by omega), next]
      simp
/-- what is taken is within, and was put so -/
theorem dec_ok : ∀ (b : List UInt8) (i : Nat), i ≤ 9 → (dec i b).1 = 0 → (dec i b).2.1 * 128 ^ i < 2 ^ 64 ∧ (0 < i → 0 < (dec i b).2.1) ∧
    ∃ f, f + i ≤ 9 ∧ (dec i b).2.1 < 128 ^ (f + 1) ∧ b = encF (f + 1) (dec i b).2.1 ++ (dec i b).2.2
  | [], i, hi, h => by simp [dec] at h
  | c :: r, i, hi, h => by
    have hc := UInt8.toNat_lt c
    simp only [dec] at h ⊢
    by_cases c1 : i = 9 ∧ 1 < c.toNat
    · rw [if_pos c1] at h; exact absurd (show (6 : Int64) = 0 from h) (by decide)
    · rw [if_neg c1] at h ⊢
      by_cases c2 : c.toNat < 128
      · rw [if_pos c2] at h ⊢
        by_cases c3 : c.toNat = 0 ∧ 0 < i
        · rw [if_pos c3] at h; exact absurd (show (2 : Int64) = 0 from h) (by decide)
        · rw [if_neg c3]
          dsimp only
          refine ⟨?_, by omega, 0, by omega, by simpa using c2, ?_⟩
          · rcases Nat.lt_or_ge i 9 with h9 | h9
            · have : c.toNat * 128 ^ i ≤ 127 * 128 ^ 8 := Nat.mul_le_mul (by omega) (Nat.pow_le_pow_right (by decide) (by omega))
              have e : (127 : Nat) * 128 ^ 8 < 2 ^ 64 := by decide
              omega
            · have : i = 9 := by omega
              subst this
              have : c.toNat * 128 ^ 9 ≤ 1 * 128 ^ 9 := Nat.mul_le_mul_right _ (by omega)
              rw [p128_9] at *; omega
          · simp [encF, c2]
      · rw [if_neg c2] at h ⊢
        by_cases c4 : (dec (i + 1) r).1 = 0
        · rw [if_pos c4]
          have hi9 : i ≠ 9 := fun e => c1 ⟨e, by omega⟩
          obtain ⟨a1, a2, f, a3, a4, a5⟩ := dec_ok r (i + 1) (by omega) c4
          have a2 := a2 (by omega)
          generalize (dec (i + 1) r).2.1 = u at *
          generalize (dec (i + 1) r).2.2 = q at *
          simp only
          refine ⟨?_, by omega, f + 1, by omega, ?_, ?_⟩
          · rw [pow7, Nat.mul_comm (128 ^ i) 128, ← Nat.mul_assoc] at a1
            have d : (c.toNat % 128 + 128 * u) * 128 ^ i < (u * 128 + 128) * 128 ^ i := Nat.mul_lt_mul_of_pos_right (by omega) (p128 i)
            -- as 2^64 is a multiple of what stands ahead
            have hdiv : u * 128 * 128 ^ i + 128 * 128 ^ i ≤ 2 ^ 64 := by
              have e1 : u * 128 * 128 ^ i = u * (128 ^ (i + 1)) := by rw [pow7, Nat.mul_assoc, Nat.mul_comm 128]
              have e2 : (128 : Nat) * 128 ^ i = 128 ^ (i + 1) := by rw [pow7, Nat.mul_comm]
              rw [e1] at a1; rw [e1, e2]
              have hd : ∃ q, 2 ^ 64 = q * 128 ^ (i + 1) := ⟨2 ^ (64 - 7 * (i + 1)), by
                have : (128 : Nat) = 2 ^ 7 := by decide
                rw [this, ← Nat.pow_mul, ← Nat.pow_add]; congr 1; omega⟩
              obtain ⟨q, hq⟩ := hd
              rw [hq] at a1 ⊢
              have := Nat.lt_of_mul_lt_mul_right a1
              calc u * 128 ^ (i + 1) + 128 ^ (i + 1) = (u + 1) * 128 ^ (i + 1) := by rw [Nat.add_mul, Nat.one_mul]
                _ ≤ q * 128 ^ (i + 1) := Nat.mul_le_mul_right _ this
            have d2 : (u * 128 + 128) * 128 ^ i = u * 128 * 128 ^ i + 128 * 128 ^ i := Nat.add_mul _ _ _
            omega
          · rw [pow7]; omega
          · rw [encF, if_neg (by omega)]
            have e1 : (c.toNat % 128 + 128 * u) % 128 + 128 = c.toNat := by omega
            have e2 : (c.toNat % 128 + 128 * u) / 128 = u := by omega
            rw [e1, e2, List.cons_append, ← a5]
            simp
        · rw [if_neg c4] at h; exact absurd h c4
/-- with more room it is put alike -/
theorem encF_more : ∀ (f v : Nat), v < 128 ^ (f + 1) → encF (f + 2) v = encF (f + 1) v := by
  intro f
  induction f with
  | zero => intro v h; have h : v < 128 := by simpa using h
            simp [encF, h]
  | succ f ih =>
    intro v h
    have E : ∀ g w : Nat, encF (g + 1) w = if w < 128 then [UInt8.ofNat w] else UInt8.ofNat (w % 128 + 128) :: encF g (w / 128) := fun _ _ => rfl
    rw [E (f + 2) v, E (f + 1) v]
    split
    · rfl
    · rw [ih (v / 128) (by rw [pow7] at h; exact Nat.div_lt_of_lt_mul (by rw [Nat.mul_comm]; exact h))]
theorem encF_room : ∀ (d f v : Nat), v < 128 ^ (f + 1) → encF (f + 1 + d) v = encF (f + 1) v
  | 0, f, v, _ => rfl
  | d + 1, f, v, h => by
    have : v < 128 ^ (f + d + 1) := Nat.lt_of_lt_of_le h (Nat.pow_le_pow_right (by decide) (by omega))
    have e := encF_more (f + d) v this
    have e1 : f + 1 + (d + 1) = f + d + 2 := by omega
    have e2 : f + d + 1 = f + 1 + d := by omega
    rw [e1, e, e2]; exact encF_room d f v h
theorem dec_enc_back (b : List UInt8) (h : (dec 0 b).1 = 0) : (dec 0 b).2.1 < 2 ^ 64 ∧ b = enc (UInt64.ofNat (dec 0 b).2.1) ++ (dec 0 b).2.2 := by
  obtain ⟨h1, _, f, h3, h4, h5⟩ := dec_ok b 0 (by omega) h
  have h1 : (dec 0 b).2.1 < 2 ^ 64 := by simpa using h1
  refine ⟨h1, ?_⟩
  unfold enc
  have : (UInt64.ofNat (dec 0 b).2.1).toNat = (dec 0 b).2.1 := by rw [UInt64.toNat_ofNat']; omega
  rw [this]
  have e : 10 = f + 1 + (9 - f) := by omega
  rw [e, encF_room _ _ _ h4]; exact h5
end Go.Sx
