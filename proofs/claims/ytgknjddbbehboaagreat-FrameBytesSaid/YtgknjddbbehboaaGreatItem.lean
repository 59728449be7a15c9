/- Lemmas moved here from another seat of this repo (tools/port.py). -/
import Derived.Test.YtgknjddbbehboaaGreatFnsC
import Derived.Test.YtgknjddbbehboaaGreatSxPlain
import Derived.Test.YtgknjddbbehboaaGreatSxCodec
import Derived.Test.YtgknjddbbehboaaGreatSxRead
import Derived.Test.YtgknjddbbehboaaGreatSxLaw3
open Go Go.Sx
namespace Go.Proofs.YtgknjddbbehboaaGreat
theorem or128 (k : Nat) : (UInt8.ofInt (k : Int) ||| 128) = UInt8.ofNat (k % 128 + 128) := by
  apply UInt8.toNat.inj
  have h1 := u8_ofInt (k : Int)
  have h2 : ∀ a : Fin 256, a.val ||| 128 = a.val % 128 + 128 := by decide +kernel
  have h3 := h2 ⟨(UInt8.ofInt (k : Int)).toNat, UInt8.toNat_lt _⟩
  rw [UInt8.toNat_or, u8_small (by omega)]
  show (UInt8.ofInt (k : Int)).toNat ||| 128 = _
  rw [h3]; simp only; omega
theorem ofInt_u8 {k : Nat} (h : k < 256) : UInt8.ofInt (k : Int) = UInt8.ofNat k := by
  apply UInt8.toNat.inj
  have h1 := u8_ofInt (k : Int)
  rw [u8_small h]; omega
theorem shr7 (v : UInt64) : (IK.shr IntKind.u64 v ↑(UInt64.toNat (7 : UInt64))).toNat = v.toNat / 128 := by
  have h := IK.shr_toInt .u64 v ((UInt64.toNat (7 : UInt64) : Nat) : Int)
  have e : IK.toInt .u64 (IK.shr .u64 v ((UInt64.toNat (7 : UInt64) : Nat) : Int)) = ((IK.shr IntKind.u64 v ↑(UInt64.toNat (7 : UInt64))).toNat : Int) := rfl
  rw [e] at h
  have e2 : IK.toInt .u64 v = (v.toNat : Int) := rfl
  have e3 : (2 : Int) ^ (min ((UInt64.toNat (7 : UInt64) : Nat) : Int).toNat IntKind.u64.bits) = 128 := by decide
  rw [e2, e3, Int.fdiv_eq_ediv_of_nonneg _ (by decide)] at h
  omega
theorem uint_loop (f : Nat) : ∀ (m : Nat) (v : UInt64) (w : List UInt8), v.toNat < 128 ^ (f + 1) → f < m → w.length + f + 1 ≤ 4294967296 → F31_R6 m v w = some ((), some (w ++ encF (f + 1) v.toNat)) := by
  induction f with
  | zero =>
    intro m v w hv hm hw
    obtain ⟨m, rfl⟩ : ∃ k, m = k + 1 := ⟨m - 1, by omega⟩
    have hv : v.toNat < 128 := by simpa using hv
    rw [F31_R6_s]
    unfold F31_L6
    have : ¬ (128 : UInt64) ≤ v := fun h => by have := UInt64.le_iff_toNat_le.1 h; have e : (128 : UInt64).toNat = 128 := rfl; omega
    rw [dec_f this, oite_f, ble_t (by simp; omega), oite_t, encF, if_pos hv, ofInt_u8 (by omega)]
  | succ f ih =>
    intro m v w hv hm hw
    obtain ⟨m, rfl⟩ : ∃ k, m = k + 1 := ⟨m - 1, by omega⟩
    have e : (128 : UInt64).toNat = 128 := rfl
    rw [F31_R6_s, encF]
    unfold F31_L6
    by_cases h1 : v.toNat < 128
    · have : ¬ (128 : UInt64) ≤ v := fun h => by have := UInt64.le_iff_toNat_le.1 h; omega
      rw [dec_f this, oite_f, ble_t (by simp; omega), oite_t, if_pos h1, ofInt_u8 (by omega)]
    · have : (128 : UInt64) ≤ v := UInt64.le_iff_toNat_le.2 (by omega)
      rw [dec_t this, oite_t, ble_t (by simp; omega), oite_t, if_neg h1, or128]
      rw [ih m _ _ (by rw [shr7]; rw [pow7] at hv; exact Nat.div_lt_of_lt_mul (by rw [Nat.mul_comm]; exact hv)) (by omega) (by simp; omega), shr7]
      simp
theorem uint_spec (n : Nat) (hn : 10 < n) (w : List UInt8) (v : UInt64) (hw : w.length + 10 ≤ 4294967296) : F31 n (some w, v) = some ((), some (w ++ enc v)) := by
  show oelim (some w) _ _ = _
  rw [oelim_s]
  exact uint_loop 9 n v w (toNat_lt128 v) (by omega) (by omega)
theorem ref_loop (f : Nat) : ∀ (m : Nat) (v : UInt64) (w : List UInt8), v.toNat < 128 ^ (f + 1) → f < m → w.length + f + 1 ≤ 4294967296 → F13_R14 m v w = some (w ++ encF (f + 1) v.toNat, ()) := by
  induction f with
  | zero =>
    intro m v w hv hm hw
    obtain ⟨m, rfl⟩ : ∃ k, m = k + 1 := ⟨m - 1, by omega⟩
    have hv : v.toNat < 128 := by simpa using hv
    rw [F13_R14_s]
    unfold F13_L14
    have : ¬ (128 : UInt64) ≤ v := fun h => by have := UInt64.le_iff_toNat_le.1 h; have e : (128 : UInt64).toNat = 128 := rfl; omega
    rw [dec_f this, oite_f, ble_t (by simp; omega), oite_t, encF, if_pos hv, ofInt_u8 (by omega)]
  | succ f ih =>
    intro m v w hv hm hw
    obtain ⟨m, rfl⟩ : ∃ k, m = k + 1 := ⟨m - 1, by omega⟩
    have e : (128 : UInt64).toNat = 128 := rfl
    rw [F13_R14_s, encF]
    unfold F13_L14
    by_cases h1 : v.toNat < 128
    · have : ¬ (128 : UInt64) ≤ v := fun h => by have := UInt64.le_iff_toNat_le.1 h; omega
      rw [dec_f this, oite_f, ble_t (by simp; omega), oite_t, if_pos h1, ofInt_u8 (by omega)]
    · have : (128 : UInt64) ≤ v := UInt64.le_iff_toNat_le.2 (by omega)
      have hb : (v % 128 + 128).toNat = v.toNat % 128 + 128 := by rw [UInt64.toNat_add, UInt64.toNat_mod, e]; omega
      have hd : (v / 128).toNat = v.toNat / 128 := by rw [UInt64.toNat_div, e]
      rw [dec_t this, oite_t, ble_t (by simp; omega), oite_t, if_neg h1, hb, ofInt_u8 (by omega)]
      rw [ih m _ _ (by rw [hd]; rw [pow7] at hv; exact Nat.div_lt_of_lt_mul (by rw [Nat.mul_comm]; exact hv)) (by omega) (by simp; omega), hd]
      simp
theorem ref_spec (n : Nat) (hn : 10 < n) (v : UInt64) : F13 n v = some (enc v, ()) := ref_loop 9 n v [] (toNat_lt128 v) (by omega) (by simp)

/-! the reader -/
theorem ok_spec (n : Nat) (b : List UInt8) (e : Int64) : F41 n (some (b, e)) = some (decide (e = 0), some (b, e)) := rfl
theorem fail_first (n : Nat) (b : List UInt8) (e : Int64) : F42 n (some (b, 0), e) = some ((), some (b, e)) := rfl
theorem fail_later (n : Nat) (b : List UInt8) (e e' : Int64) (h : e ≠ 0) : F42 n (some (b, e), e') = some ((), some (b, e)) := by
  unfold F42; rw [oelim_s]; simp only; rw [dec_f h, oite_f]
theorem err_spec (n : Nat) (b : List UInt8) (e : Int64) : F45 n (some (b, e)) = some (e, some (b, e)) := rfl
theorem byte_nil (n : Nat) : F22 n (some ([], 0)) = some (0, some ([], 3)) := rfl
theorem byte_cons (n : Nat) (c : UInt8) (r : List UInt8) (h : (c :: r).length < 2 ^ 63) : F22 n (some (c :: r, 0)) = some (c, some (r, 0)) := by
  unfold F22
  rw [ok_spec]
  have e1 : decide (Int64.ofInt ↑(List.length (c :: r)) = (0 : Int64)) = false := dec_f fun q => by have := (i64_eq (a := (c :: r).length) (b := 0) h (by omega)).1 q; simp at this
  have e2 : at? (c :: r) (Int64.toInt 0) = some c := at_i64_lt (k := 0) (by omega) (by simp)
  have e3 : Nat.ble (Int.toNat (Int64.toInt 1)) (List.length (c :: r)) = true := ble_t (by simp)
  have e4 : List.drop (Int.toNat (Int64.toInt 1)) (List.take (List.length (c :: r)) (c :: r)) = r := by rw [List.take_length]; rfl
  simp only [obind_s, decide_true, Bool.not_true, oite_f, e1, e2, e3, oite_t, e4]
theorem byte_err (n : Nat) (b : List UInt8) (e : Int64) (h : e ≠ 0) : F22 n (some (b, e)) = some (0, some (b, e)) := by
  unfold F22; rw [ok_spec, dec_f h]; rfl
theorem acc_or {acc c i : Nat} (ha : acc < 128 ^ i) (hi : i ≤ 9) (hc : c % 128 * 128 ^ i < 2 ^ 64) (ha2 : acc < 2 ^ 64) (hc2 : c < 256) :
    (UInt64.ofNat acc ||| IK.shl IntKind.u64 (UInt64.ofInt ↑(UInt8.toNat (UInt8.ofNat c &&& 127))) (Int64.toInt (I64 (7 * i)))) = UInt64.ofNat (acc + c % 128 * 128 ^ i) := by
  apply UInt64.toNat.inj
  have e1 : (UInt8.ofNat c &&& 127).toNat = c % 128 := by
    have h2 : ∀ a : Fin 256, a.val &&& 127 = a.val % 128 := by decide +kernel
    have h3 := h2 ⟨c, hc2⟩
    rw [UInt8.toNat_and, u8_small hc2]
    exact h3
  have e2 : (UInt64.ofInt ((c % 128 : Nat) : Int)).toNat = c % 128 := by
    have := u64_ofInt ((c % 128 : Nat) : Int); omega
  have e3 : (IK.shl IntKind.u64 (UInt64.ofInt ((c % 128 : Nat) : Int)) (Int64.toInt (I64 (7 * i)))).toNat = c % 128 * 128 ^ i := by
    have h := IK.shl_toInt .u64 (UInt64.ofInt ((c % 128 : Nat) : Int)) (Int64.toInt (I64 (7 * i)))
    have q1 : IK.toInt .u64 (IK.shl .u64 (UInt64.ofInt ((c % 128 : Nat) : Int)) (Int64.toInt (I64 (7 * i)))) = ((IK.shl IntKind.u64 (UInt64.ofInt ((c % 128 : Nat) : Int)) (Int64.toInt (I64 (7 * i)))).toNat : Int) := rfl
    have q2 : IK.toInt .u64 (UInt64.ofInt ((c % 128 : Nat) : Int)) = ((c % 128 : Nat) : Int) := by
      show ((UInt64.ofInt ((c % 128 : Nat) : Int)).toNat : Int) = _; rw [e2]
    have q3 : min (Int64.toInt (I64 (7 * i))).toNat IntKind.u64.bits = 7 * i := by
      rw [i64_toInt (by omega)]
      show min (Int.toNat ((7 * i : Nat) : Int)) 64 = 7 * i
      omega
    have q4 : ((2 : Int) ^ (7 * i)) = ((128 ^ i : Nat) : Int) := by rw [Int.pow_mul]; simp
    rw [q1, q2, q3, q4, wrap_eq] at h
    simp only [IntKind.signed, IntKind.bits, Bool.false_eq_true, if_false] at h
    rw [← Int.natCast_mul] at h
    have : ((c % 128 * 128 ^ i : Nat) : Int) % 2 ^ 64 = ((c % 128 * 128 ^ i : Nat) : Int) := by
      rw [Int.emod_eq_of_lt (by omega)]
      exact_mod_cast hc
    rw [this] at h
    exact_mod_cast h
  rw [UInt64.toNat_or, e1, e3, UInt64.toNat_ofNat', UInt64.toNat_ofNat', Nat.mod_eq_of_lt ha2]
  have e4 : (128 : Nat) ^ i = 2 ^ (7 * i) := by rw [Nat.pow_mul]
  rw [e4] at ha hc ⊢
  have hor := Nat.two_pow_add_eq_or_of_lt (i := 7 * i) ha (c % 128)
  rw [Nat.mul_comm] at hor
  rw [Nat.or_comm, ← hor, Nat.add_comm]
  refine (Nat.mod_eq_of_lt ?_).symm
  -- no number is beyond
  have hd : ∃ q, 2 ^ 64 = q * 2 ^ (7 * i) := ⟨2 ^ (64 - 7 * i), by rw [← Nat.pow_add]; congr 1; omega⟩
  obtain ⟨q, hq⟩ := hd
  rw [hq] at hc ⊢
  have := Nat.lt_of_mul_lt_mul_right hc
  calc acc + c % 128 * 2 ^ (7 * i) < 2 ^ (7 * i) + c % 128 * 2 ^ (7 * i) := Nat.add_lt_add_right ha _
    _ = (c % 128 + 1) * 2 ^ (7 * i) := by rw [Nat.add_mul, Nat.one_mul, Nat.add_comm]
    _ ≤ q * 2 ^ (7 * i) := Nat.mul_le_mul_right _ this
/-- what taking a number comes to -/
def decF (acc p : Nat) (q : Int64 × Nat × List UInt8) : UInt64 × Option (List UInt8 × Int64) :=
  if q.1 = 0 then (UInt64.ofNat (acc + q.2.1 * p), some (q.2.2, 0)) else (0, some (q.2.2, q.1))
def decR (i acc : Nat) (b : List UInt8) : UInt64 × Option (List UInt8 × Int64) := decF acc (128 ^ i) (dec i b)
theorem decF_ok (acc p u : Nat) (r : List UInt8) : decF acc p (0, u, r) = (UInt64.ofNat (acc + u * p), some (r, 0)) := rfl
theorem decF_err (acc p u : Nat) (r : List UInt8) (e : Int64) (h : e ≠ 0) : decF acc p (e, u, r) = (0, some (r, e)) := by unfold decF; rw [if_neg h]
theorem dec_cons (i : Nat) (c : UInt8) (r : List UInt8) : dec i (c :: r) = if i = 9 ∧ 1 < c.toNat then (6, 0, r) else if c.toNat < 128 then (if c.toNat = 0 ∧ 0 < i then (2, 0, r) else (0, c.toNat, r)) else
      if (dec (i + 1) r).1 = 0 then (0, c.toNat % 128 + 128 * (dec (i + 1) r).2.1, (dec (i + 1) r).2.2) else ((dec (i + 1) r).1, 0, (dec (i + 1) r).2.2) := rfl
theorem read_loop (n : Nat) (b : List UInt8) : ∀ (m i acc : Nat), b.length < 2 ^ 63 → i ≤ 9 → acc < 128 ^ i → acc < 2 ^ 64 → 9 < m + i → F23_R15 n m (UInt64.ofNat acc) (I64 (7 * i)) (some (b, 0)) = some (decR i acc b) := by
  induction b with
  | nil =>
    intro m i acc _ hi ha ha2 hm
    obtain ⟨m, rfl⟩ : ∃ k, m = k + 1 := ⟨m - 1, by omega⟩
    rw [F23_R15_s]
    unfold F23_L15
    rw [byte_nil]
    simp only [obind_s, ojoinA_eq, ok_spec]
    rw [dec_f (by decide)]
    rfl
  | cons c r ih =>
    intro m i acc hl hi ha ha2 hm
    obtain ⟨m, rfl⟩ : ∃ k, m = k + 1 := ⟨m - 1, by omega⟩
    have hc := UInt8.toNat_lt c
    have hlr : r.length < 2 ^ 63 := by simp at hl; omega
    rw [F23_R15_s]
    unfold F23_L15
    rw [byte_cons n c r hl]
    simp only [obind_s, ojoinA_eq, ok_spec, decide_true, Bool.not_true, oite_f]
    have cc : UInt8.ofNat c.toNat = c := UInt8.ofNat_toNat
    have e63 : decide (I64 (7 * i) = (63 : Int64)) = decide (i = 9) := by
      rw [decide_eq_decide, show (63 : Int64) = I64 63 from rfl, i64_eq (by omega) (by omega)]; omega
    have e1c : decide ((1 : UInt8) < c) = decide (1 < c.toNat) := by rw [decide_eq_decide, UInt8.lt_iff_toNat_lt]; rfl
    rw [e63, e1c]
    have body : ¬ (i = 9 ∧ 1 < c.toNat) → F23_J121 n (F23_R15 n m) (UInt64.ofNat acc) (I64 (7 * i)) c (some (r, 0)) = some (decR i acc (c :: r)) := by
      intro hno
      have hmul : c.toNat % 128 * 128 ^ i < 2 ^ 64 := by
        rcases Nat.lt_or_ge i 9 with h9 | h9
        · have : c.toNat % 128 * 128 ^ i ≤ 127 * 128 ^ 8 := Nat.mul_le_mul (by omega) (Nat.pow_le_pow_right (by decide) (by omega))
          have e : (127 : Nat) * 128 ^ 8 < 2 ^ 64 := by decide
          omega
        · have : i = 9 := by omega
          subst this
          have : c.toNat % 128 * 128 ^ 9 ≤ 1 * 128 ^ 9 := Nat.mul_le_mul_right _ (by omega)
          rw [p128_9] at *; omega
      have hor := acc_or ha hi hmul ha2 hc
      rw [cc] at hor
      unfold F23_J121
      rw [hor]
      have e0 : decide ((0 : Int) ≤ Int64.toInt (I64 (7 * i))) = true := dec_t (by rw [i64_toInt (by omega)]; omega)
      have e2 : decide (c < (128 : UInt8)) = decide (c.toNat < 128) := by rw [decide_eq_decide, UInt8.lt_iff_toNat_lt]; rfl
      have e3 : decide (c = (0 : UInt8)) = decide (c.toNat = 0) := by
        rw [decide_eq_decide]
        exact ⟨fun h => by rw [h]; rfl, fun h => UInt8.toNat_inj.1 h⟩
      have e4 : decide ((0 : Int64) < I64 (7 * i)) = decide (0 < i) := by
        rw [decide_eq_decide, show (0 : Int64) = I64 0 from rfl, i64_lt (by omega) (by omega)]; omega
      rw [e0, e2, e3, e4, fail_first]
      simp only [oite_t]
      unfold decR
      rw [dec_cons, if_neg hno]
      by_cases h1 : c.toNat < 128
      · rw [dec_t h1, if_pos h1]
        have hm1 : c.toNat % 128 = c.toNat := Nat.mod_eq_of_lt h1
        rw [hm1]
        by_cases h2 : c.toNat = 0
        · by_cases h3 : 0 < i
          · rw [dec_t h2, dec_t h3, if_pos ⟨h2, h3⟩]
            rw [decF_err _ _ _ _ _ (by decide)]; rfl
          · rw [dec_t h2, dec_f h3, if_neg (fun q => h3 q.2), decF_ok]; rfl
        · rw [dec_f h2, if_neg (fun q => h2 q.1), decF_ok]; rfl
      · rw [dec_f h1, if_neg h1]
        simp only [oite_f]
        have hi9 : i ≠ 9 := fun e => hno ⟨e, by omega⟩
        have e7 : I64 (7 * i) + 7 = I64 (7 * (i + 1)) := i64_add (7 * i) 7
        have hacc : acc + c.toNat % 128 * 128 ^ i < 128 ^ (i + 1) := by
          rw [pow7]
          calc acc + c.toNat % 128 * 128 ^ i < 128 ^ i + c.toNat % 128 * 128 ^ i := Nat.add_lt_add_right ha _
            _ = (c.toNat % 128 + 1) * 128 ^ i := by rw [Nat.add_mul, Nat.one_mul, Nat.add_comm]
            _ ≤ 128 * 128 ^ i := Nat.mul_le_mul_right _ (by omega)
            _ = 128 ^ i * 128 := Nat.mul_comm _ _
        have h63 : (128 : Nat) ^ (i + 1) ≤ 128 ^ 9 := Nat.pow_le_pow_right (by decide) (by omega)
        rw [p128_9] at h63
        rw [e7, ih m (i + 1) (acc + c.toNat % 128 * 128 ^ i) hlr (by omega) hacc (by omega) (by omega)]
        unfold decR
        by_cases h4 : (dec (i + 1) r).1 = 0
        · rw [if_pos h4, decF_ok]
          unfold decF
          rw [if_pos h4]
          congr 3
          rw [pow7, Nat.add_mul, Nat.add_assoc]
          congr 2
          rw [Nat.mul_comm (128 ^ i) 128, ← Nat.mul_assoc, Nat.mul_comm 128 (dec (i + 1) r).2.1]
        · rw [if_neg h4, decF_err _ _ _ _ _ h4]
          unfold decF
          rw [if_neg h4]
    by_cases h9 : i = 9
    · rw [dec_t h9]
      simp only [oite_t]
      by_cases h1 : 1 < c.toNat
      · rw [dec_t h1]
        simp only [oite_t, fail_first, obind_s]
        unfold decR
        rw [dec_cons, if_pos ⟨h9, h1⟩, decF_err _ _ _ _ _ (by decide)]
      · rw [dec_f h1]
        simp only [oite_f]
        exact body (fun q => h1 q.2)
    · rw [dec_f h9]
      simp only [oite_f]
      exact body (fun q => h9 q.1)
theorem read_spec (n : Nat) (hn : 10 < n) (b : List UInt8) (hb : b.length < 2 ^ 63) : F23 n (some (b, 0)) = some (decR 0 0 b) :=
  read_loop n b n 0 0 hb (by omega) (by decide) (by decide) (by omega)
theorem read_err (n : Nat) (hn : 10 < n) (b : List UInt8) (e : Int64) (h : e ≠ 0) : F23 n (some (b, e)) = some (0, some (b, e)) := by
  obtain ⟨m, rfl⟩ : ∃ k, n = k + 1 := ⟨n - 1, by omega⟩
  show F23_R15 (m + 1) (m + 1) 0 0 (some (b, e)) = _
  rw [F23_R15_s]
  unfold F23_L15
  rw [byte_err _ b e h]
  simp only [obind_s, ojoinA_eq, ok_spec]
  rw [dec_f h]; rfl
theorem read_enc (n : Nat) (hn : 10 < n) (v : UInt64) (rest : List UInt8) (hr : rest.length < 2 ^ 62) : F23 n (some (enc v ++ rest, 0)) = some (v, some (rest, 0)) := by
  have := enc_len v
  rw [read_spec n hn _ (by simp; omega)]
  unfold decR
  rw [dec_enc64, decF_ok]
  simp

/-! ### Runes -/
theorem ba_get (s : List UInt8) (i : Nat) (h : i < s.length) : ByteArray.get! (⟨s.toArray⟩ : ByteArray) i = s[i] := by
  show (s.toArray)[i]! = s[i]
  simp [h]
theorem rune_small (s : List UInt8) (i : Nat) (h : i < s.length) (hs : s[i].toNat < 128) : runeAt s i = s[i].toNat ∧ runeLen s i = 1 := by
  have e : (ByteArray.get! (⟨s.toArray⟩ : ByteArray) (i + 0)).toNat = s[i].toNat := by rw [Nat.add_zero, ba_get s i h]
  unfold runeAt runeLen Utf8.decode
  dsimp only
  have hs' : (ByteArray.get! (⟨s.toArray⟩ : ByteArray) (i + 0)).toNat < 128 := by rw [e]; exact hs
  rw [if_pos hs']
  exact ⟨e, rfl⟩
theorem pair_ge {c : Prop} [Decidable c] {a b : Nat × Nat} {N : Nat} (ha : c → N ≤ a.1) (hb : ¬ c → N ≤ b.1) : N ≤ (if c then a else b).1 := by
  by_cases h : c
  · rw [if_pos h]; exact ha h
  · rw [if_neg h]; exact hb h
theorem rune_big (s : List UInt8) (i : Nat) (h : i < s.length) (hs : ¬ s[i].toNat < 128) : 128 ≤ runeAt s i := by
  have e : (ByteArray.get! (⟨s.toArray⟩ : ByteArray) (i + 0)).toNat = s[i].toNat := by rw [Nat.add_zero, ba_get s i h]
  have e0 : 128 ≤ Utf8.runeError := by decide
  unfold runeAt Utf8.decode
  dsimp only
  refine pair_ge (fun q => absurd (by rw [← e]; exact q) hs) fun _ => pair_ge (fun _ => pair_ge (fun q => ?_) fun _ => e0) fun _ => pair_ge (fun _ => pair_ge (fun q => ?_) fun _ => e0) fun _ => pair_ge (fun _ => pair_ge (fun q => ?_) fun _ => e0) fun _ => e0
  · exact q
  · simp only [Bool.and_eq_true, decide_eq_true_eq] at q; exact Nat.le_trans (by decide) q.1
  · simp only [Bool.and_eq_true, decide_eq_true_eq] at q; exact Nat.le_trans (by decide) q.1

/-! ### Bytes -/
def letter (c : UInt8) : Bool := decide (97 ≤ c) && decide (c ≤ 122)
def digit (c : UInt8) : Bool := decide (48 ≤ c) && decide (c ≤ 57)
def okb (also : Bool) (c : UInt8) : Bool := letter c || (also && (digit c || decide (c = 46) || decide (c = 95) || decide (c = 45)))
def okI (also : Bool) (c : Int32) : Bool := (decide ((97 : Int32) ≤ c) && decide (c ≤ 122)) || (also && ((decide ((48 : Int32) ≤ c) && decide (c ≤ 57)) || decide (c = 46) || decide (c = 95) || decide (c = 45)))
theorem okI_small (also : Bool) (c : UInt8) : okI also (Int32.ofInt (c.toNat : Int)) = okb also c := by
  have h : ∀ a : Bool, ∀ k : Fin 256, okI a (Int32.ofInt (k.val : Int)) = okb a (UInt8.ofNat k.val) := by decide +kernel
  have := h also ⟨c.toNat, UInt8.toNat_lt c⟩
  rw [this]; simp
theorem i32_toInt {r : Nat} (h : r < 2 ^ 31) : (Int32.ofInt (r : Int)).toInt = r := Int32.toInt_ofInt_of_le (by omega) (by omega)
theorem okI_big (also : Bool) (r : Nat) (h : 128 ≤ r) (h2 : r < 2 ^ 31) : okI also (Int32.ofInt (r : Int)) = false := by
  have e := i32_toInt h2
  have a1 : ¬ Int32.ofInt (r : Int) ≤ 122 := by rw [Int32.le_iff_toInt_le, e]; show ¬ (r : Int) ≤ 122; omega
  have a2 : ¬ Int32.ofInt (r : Int) ≤ 57 := by rw [Int32.le_iff_toInt_le, e]; show ¬ (r : Int) ≤ 57; omega
  have ne : ∀ z : Int32, z.toInt < 128 → ¬ Int32.ofInt (r : Int) = z := fun z hz q => by rw [q] at e; omega
  unfold okI
  rw [dec_f a1, dec_f a2, dec_f (ne 46 (by decide)), dec_f (ne 95 (by decide)), dec_f (ne 45 (by decide))]
  cases also <;> simp
/-- which words: the longest, also digits and signs -/
def wordOK (most : Nat) (also : Bool) (s : List UInt8) : Bool := decide (1 ≤ s.length) && (decide (s.length ≤ most) && s.all (okb also))

theorem word_body (r : Arr [PT.bool, PT.bytes, PT.nat] (Option (Bool × Unit))) (also : Bool) (c : Int32) (s : List UInt8) (k : Nat) :
    oite (decide ((97 : Int32) ≤ c)) (F80_J471 r also c (decide (c ≤ (122 : Int32))) s k) (F80_J471 r also c false s k) = oite (okI also c) (r also s k) (some (false, ())) := by
  unfold F80_J471 okI
  cases decide ((97 : Int32) ≤ c) <;> cases decide (c ≤ (122 : Int32)) <;> cases also <;> cases decide ((48 : Int32) ≤ c) <;> cases decide (c ≤ (57 : Int32)) <;> cases decide (c = (46 : Int32)) <;> cases decide (c = (95 : Int32)) <;> cases decide (c = (45 : Int32)) <;> rfl
theorem word_loop (also : Bool) (s : List UInt8) : ∀ (m k : Nat), k ≤ s.length → s.length - k < m → F80_R29 m also s k = some ((s.drop k).all (okb also), ()) := by
  intro m
  induction m with
  | zero => intro k _ h; omega
  | succ m ih =>
    intro k hk hm
    rw [F80_R29_s]
    unfold F80_L29
    by_cases hlt : k < s.length
    · rw [blt_iff, dec_t hlt, oite_t, ojoinA_eq, word_body, List.drop_eq_getElem_cons hlt, List.all_cons]
      by_cases hs : s[k].toNat < 128
      · obtain ⟨e1, e2⟩ := rune_small s k hlt hs
        rw [e1, e2, okI_small, ih (k + 1) (by omega) (by omega)]
        cases okb also s[k] <;> rfl
      · have hb := rune_big s k hlt hs
        rw [okI_big also _ hb (runeAt_lt s k)]
        have : okb also s[k] = false := by
          rw [← okI_small]; exact okI_big also _ (by omega) (by have := UInt8.toNat_lt s[k]; omega)
        rw [this]; rfl
    · rw [blt_iff, dec_f hlt, oite_f]
      have : k = s.length := by omega
      subst this; simp
theorem word_eq (n most : Nat) (also : Bool) (s : List UInt8) (hs : s.length < 2 ^ 63) (hm : most < n) (hm2 : most < 2 ^ 63) : F80 n (s, I64 most, also) = some (wordOK most also s, ()) := by
  unfold F80 wordOK
  dsimp only
  by_cases h1 : s.length < 1
  · rw [dec_t (p := Int64.ofInt ↑s.length < 1) ((i64_lt (b := 1) hs (by omega)).2 h1), dec_f (by omega : ¬ 1 ≤ s.length)]; rfl
  · rw [dec_f (p := Int64.ofInt ↑s.length < 1) (fun q => h1 ((i64_lt (b := 1) hs (by omega)).1 q)), dec_t (by omega : 1 ≤ s.length), oite_f]
    by_cases h2 : most < s.length
    · rw [dec_t ((i64_lt hm2 hs).2 h2), dec_f (by omega : ¬ s.length ≤ most)]; rfl
    · rw [dec_f (fun q => h2 ((i64_lt hm2 hs).1 q)), dec_t (by omega : s.length ≤ most), oite_f, word_loop also s n 0 (by omega) (by omega)]; rfl

/-! ### By definition -/
theorem small_eq (n : Nat) (c : UInt8) : F67 n c = some (letter c, ()) := by
  unfold F67 letter
  cases decide ((97 : UInt8) ≤ c) <;> rfl
theorem val_loop (n : Nat) (s : List UInt8) (hs : s.length < 2 ^ 63) : ∀ (m k : Nat), k ≤ s.length → s.length - k < m →
    F66_R13 n m s (I64 k) = some ((s.drop k).all (okb true) && (decide (1 ≤ s.length) && decide (s.length ≤ 16)), ()) := by
  intro m
  induction m with
  | zero => intro k _ h; omega
  | succ m ih =>
    intro k hk hm
    rw [F66_R13_s]
    unfold F66_L13
    by_cases hlt : k < s.length
    · rw [dec_t ((i64_lt (by omega) hs).2 hlt), oite_t, ojoinA_eq, at_i64_lt (by omega) hlt]
      simp only [obind_s, small_eq]
      unfold F66_J53
      rw [i64_succ, ih (k + 1) (by omega) (by omega), List.drop_eq_getElem_cons hlt, List.all_cons]
      generalize s[k] = c
      unfold okb digit
      cases letter c <;> cases decide ((48 : UInt8) ≤ c) <;> cases decide (c ≤ (57 : UInt8)) <;> cases decide (c = (46 : UInt8)) <;> cases decide (c = (95 : UInt8)) <;> cases decide (c = (45 : UInt8)) <;> rfl
    · rw [dec_f (fun q => hlt ((i64_lt (by omega) hs).1 q)), oite_f]
      have : k = s.length := by omega
      subst this
      have e1 : decide ((1 : Int64) ≤ Int64.ofInt ↑s.length) = decide (1 ≤ s.length) := decide_eq_decide.2 (i64_le (a := 1) (by omega) hs)
      have e2 : decide (Int64.ofInt ↑s.length ≤ (16 : Int64)) = decide (s.length ≤ 16) := decide_eq_decide.2 (i64_le (b := 16) hs (by omega))
      rw [e1, e2, List.drop_length, List.all_nil]
      cases decide (1 ≤ s.length) <;> rfl
theorem val_eq (n : Nat) (s : List UInt8) (hs : s.length < 2 ^ 63) (hn : s.length < n) : F66 n s = some (wordOK 16 true s, ()) := by
  have := val_loop n s hs n 0 (by omega) (by omega)
  unfold F66
  show F66_R13 n n s (I64 0) = _
  rw [this, List.drop_zero]
  unfold wordOK
  cases s.all (okb true) <;> simp
theorem key_loop (n : Nat) (s : List UInt8) (hs : s.length < 2 ^ 63) : ∀ (m k : Nat), k ≤ s.length → s.length - k < m →
    F68_R13 n m s (I64 k) = some ((s.drop k).all (okb false) && (decide (1 ≤ s.length) && decide (s.length ≤ 8)), ()) := by
  intro m
  induction m with
  | zero => intro k _ h; omega
  | succ m ih =>
    intro k hk hm
    rw [F68_R13_s]
    unfold F68_L13
    by_cases hlt : k < s.length
    · rw [dec_t ((i64_lt (by omega) hs).2 hlt), oite_t, at_i64_lt (by omega) hlt]
      simp only [obind_s, small_eq]
      rw [i64_succ, ih (k + 1) (by omega) (by omega), List.drop_eq_getElem_cons hlt, List.all_cons]
      generalize s[k] = c
      unfold okb
      cases letter c <;> rfl
    · rw [dec_f (fun q => hlt ((i64_lt (by omega) hs).1 q)), oite_f]
      have : k = s.length := by omega
      subst this
      have e1 : decide ((1 : Int64) ≤ Int64.ofInt ↑s.length) = decide (1 ≤ s.length) := decide_eq_decide.2 (i64_le (a := 1) (by omega) hs)
      have e2 : decide (Int64.ofInt ↑s.length ≤ (8 : Int64)) = decide (s.length ≤ 8) := decide_eq_decide.2 (i64_le (b := 8) hs (by omega))
      rw [e1, e2, List.drop_length, List.all_nil]
      cases decide (1 ≤ s.length) <;> rfl
theorem key_eq (n : Nat) (s : List UInt8) (hs : s.length < 2 ^ 63) (hn : s.length < n) : F68 n s = some (wordOK 8 false s, ()) := by
  have := key_loop n s hs n 0 (by omega) (by omega)
  unfold F68
  show F68_R13 n n s (I64 0) = _
  rw [this, List.drop_zero]
  unfold wordOK
  cases s.all (okb false) <;> simp
/-- may it be a name? -/
def nameOK (s : List UInt8) : Bool := wordOK 12 true s && letter (s.headD 0)
theorem word_ne {m : Nat} {a : Bool} {s : List UInt8} (h : wordOK m a s = true) : 0 < s.length ∧ s.length ≤ m := by
  unfold wordOK at h
  simp only [Bool.and_eq_true, decide_eq_true_eq] at h
  omega
theorem name_eq (n : Nat) (s : List UInt8) (hs : s.length < 2 ^ 63) (hn : 20 < n) : F73 n s = some (nameOK s, ()) := by
  unfold F73 nameOK
  rw [show (12 : Int64) = I64 12 from rfl, word_eq n 12 true s hs (by omega) (by omega)]
  simp only [obind_s]
  cases h : wordOK 12 true s with
  | false => rfl
  | true =>
    obtain ⟨c, t, rfl⟩ : ∃ c t, s = c :: t := by
      cases s with
      | nil => have := word_ne h; simp at this
      | cons c t => exact ⟨c, t, rfl⟩
    have e : at? (c :: t) (Int64.toInt (0 : Int64)) = some c := rfl
    rw [e]
    simp only [oite_t, obind_s, List.headD_cons, Bool.true_and]
    unfold letter
    cases decide ((97 : UInt8) ≤ c) <;> rfl
theorem word_16_12 (s : List UInt8) : (wordOK 16 true s && decide (s.length ≤ 12)) = wordOK 12 true s := by
  unfold wordOK
  by_cases h : s.length ≤ 12
  · rw [dec_t h, dec_t (by omega : s.length ≤ 16)]; simp
  · rw [dec_f h]; simp
theorem rname_eq (n : Nat) (s : List UInt8) (hs : s.length < 2 ^ 63) (hn : s.length < n) : F51 n s = some (nameOK s, ()) := by
  unfold F51 nameOK
  rw [val_eq n s hs hn, ← word_16_12]
  simp only [obind_s]
  have e2 : decide (Int64.ofInt ↑s.length ≤ (12 : Int64)) = decide (s.length ≤ 12) := decide_eq_decide.2 (i64_le (b := 12) hs (by omega))
  rw [e2]
  cases h : wordOK 16 true s with
  | false => rfl
  | true =>
    obtain ⟨c, t, rfl⟩ : ∃ c t, s = c :: t := by
      cases s with
      | nil => have := word_ne h; simp at this
      | cons c t => exact ⟨c, t, rfl⟩
    have e : at? (c :: t) (Int64.toInt (0 : Int64)) = some c := rfl
    rw [e]
    simp only [oite_t, obind_s, List.headD_cons, Bool.true_and, small_eq]
    cases decide ((c :: t).length ≤ 12) <;> rfl
abbrev Pair := List UInt8 × List UInt8

/-! ### Labels -/
def labStep (prev : Option (List UInt8)) (p : Pair) (next : Int64) : Int64 :=
  bif wordOK 8 false p.1 then bif wordOK 16 true p.2 then
      match prev with
      | none => next
      | some q => bif q == p.1 then 7 else bif bytesLt q p.1 then next else 9
    else 8 else 8
def labGo : Option (List UInt8) → List Pair → Int64
  | _, [] => 0
  | prev, p :: r => labStep prev p (labGo (some p.1) r)
def labCheck (l : List Pair) : Int64 := bif decide (8 < l.length) then 5 else labGo none l
def FitL (l : List Pair) (n : Nat) : Prop := l.length < 2 ^ 63 ∧ ∀ p ∈ l, (p.1.length < 2 ^ 63 ∧ p.2.length < 2 ^ 63) ∧ p.1.length < n ∧ p.2.length < n
def prevOf (l : List Pair) (k : Nat) : Option (List UInt8) := match k with | 0 => none | j + 1 => (l[j]?).map (·.1)

theorem own_key (n : Nat) (s : List UInt8) (hs : s.length < 2 ^ 63) (hn : 20 < n) : F82 n s = some (wordOK 8 false s, ()) := by
  unfold F82
  rw [show (8 : Int64) = I64 8 from rfl, word_eq n 8 false s hs (by omega) (by omega)]; rfl
theorem own_val (n : Nat) (s : List UInt8) (hs : s.length < 2 ^ 63) (hn : 20 < n) : F83 n s = some (wordOK 16 true s, ()) := by
  unfold F83
  rw [show (16 : Int64) = I64 16 from rfl, word_eq n 16 true s hs (by omega) (by omega)]; rfl
theorem lab_loop (n N : Nat) (hn : 20 < n) (l : List Pair) (hf : FitL l N) : ∀ (m k : Nat), k ≤ l.length → l.length - k < m →
    F75_R29 n m l l (I64 l.length) (I64 k) = some (labGo (prevOf l k) (l.drop k), ()) := by
  obtain ⟨hl, hf⟩ := hf
  intro m
  induction m with
  | zero => intro k _ h; omega
  | succ m ih =>
    intro k hk hm
    rw [F75_R29_s]
    unfold F75_L29
    by_cases hlt : k < l.length
    · have hp := hf l[k] (List.getElem_mem hlt)
      have hnext := ih (k + 1) (by omega) (by omega)
      rw [dec_t ((i64_lt (by omega) hl).2 hlt), oite_t, at_i64_lt (by omega) hlt]
      simp only [obind_s, own_key n _ hp.1.1 hn, own_val n _ hp.1.2 hn, ojoinA_eq]
      rw [List.drop_eq_getElem_cons hlt, labGo]
      unfold labStep
      cases wordOK 8 false l[k].1 with
      | false => rfl
      | true =>
      cases wordOK 16 true l[k].2 with
      | false => rfl
      | true =>
      simp only [Bool.not_true, oite_f, cond_true]
      unfold F75_J3767
      rw [i64_succ, hnext]
      cases k with
      | zero =>
        rw [dec_f (p := (0 : Int64) < I64 0) (fun q => absurd ((i64_lt (a := 0) (b := 0) (by omega) (by omega)).1 q) (by omega))]
        simp only [oite_f, prevOf]
        have : l[0]?.map (·.1) = some l[0].1 := by rw [List.getElem?_eq_getElem hlt]; rfl
        rw [this]
      | succ j =>
        rw [dec_t (p := (0 : Int64) < I64 (j + 1)) ((i64_lt (a := 0) (b := j + 1) (by omega) (by omega)).2 (by omega))]
        have e1 : I64 (j + 1) - 1 = I64 j := i64_sub (a := j + 1) (b := 1) (by omega)
        rw [e1, at_i64_lt (by omega) (by omega : j < l.length)]
        have e2 : prevOf l (j + 1) = some l[j].1 := by show (l[j]?).map (·.1) = _; rw [List.getElem?_eq_getElem (by omega : j < l.length)]; rfl
        have e3 : prevOf l (j + 1 + 1) = some l[j + 1].1 := by show (l[j + 1]?).map (·.1) = _; rw [List.getElem?_eq_getElem hlt]; rfl
        rw [e2, e3]
        simp only [oite_t, obind_s]
        cases hq : (l[j].1 == l[j + 1].1) with
        | true => rfl
        | false => cases bytesLt l[j].1 l[j + 1].1 <;> rfl
    · rw [dec_f (fun q => hlt ((i64_lt (by omega) hl).1 q)), oite_f]
      have : k = l.length := by omega
      subst this; rw [List.drop_length]; cases prevOf l l.length <;> rfl
theorem lab_eq (n N : Nat) (hn : 20 < n) (l : List Pair) (hf : FitL l N) : F75 n l = some (labCheck l, ()) := by
  have h8 : decide ((8 : Int64) < Int64.ofInt ↑l.length) = decide (8 < l.length) := decide_eq_decide.2 (i64_lt (a := 8) (by omega) hf.1)
  unfold F75 labCheck
  rw [h8]
  by_cases h : 8 < l.length
  · rw [dec_t h]; rfl
  · rw [dec_f h]
    have := lab_loop n N hn l hf n 0 (by omega) (by omega)
    rw [List.drop_zero] at this
    show F75_R29 n n l l (I64 l.length) (I64 0) = _
    rw [this]; rfl
theorem rlab_loop (n : Nat) (l : List Pair) (hf : FitL l n) : ∀ (m k : Nat), k ≤ l.length → l.length - k < m →
    F53_R29 n m l (I64 k) = some (labGo (prevOf l k) (l.drop k), ()) := by
  obtain ⟨hl, hf⟩ := hf
  intro m
  induction m with
  | zero => intro k _ h; omega
  | succ m ih =>
    intro k hk hm
    rw [F53_R29_s]
    unfold F53_L29
    by_cases hlt : k < l.length
    · have hp := hf l[k] (List.getElem_mem hlt)
      have hnext := ih (k + 1) (by omega) (by omega)
      rw [dec_t ((i64_lt (by omega) hl).2 hlt), oite_t, at_i64_lt (by omega) hlt]
      simp only [obind_s, key_eq n _ hp.1.1 hp.2.1, val_eq n _ hp.1.2 hp.2.2, ojoinA_eq]
      rw [List.drop_eq_getElem_cons hlt, labGo]
      unfold labStep
      cases wordOK 8 false l[k].1 with
      | false => rfl
      | true =>
      cases wordOK 16 true l[k].2 with
      | false => rfl
      | true =>
      simp only [Bool.not_true, oite_f, cond_true]
      unfold F53_J469
      rw [i64_succ, hnext]
      cases k with
      | zero =>
        rw [dec_f (p := (0 : Int64) < I64 0) (fun q => absurd ((i64_lt (a := 0) (b := 0) (by omega) (by omega)).1 q) (by omega))]
        simp only [oite_f, prevOf]
        have : l[0]?.map (·.1) = some l[0].1 := by rw [List.getElem?_eq_getElem hlt]; rfl
        rw [this]
      | succ j =>
        rw [dec_t (p := (0 : Int64) < I64 (j + 1)) ((i64_lt (a := 0) (b := j + 1) (by omega) (by omega)).2 (by omega))]
        have e1 : I64 (j + 1) - 1 = I64 j := i64_sub (a := j + 1) (b := 1) (by omega)
        rw [e1, at_i64_lt (by omega) (by omega : j < l.length), at_i64_lt (by omega) hlt]
        have e2 : prevOf l (j + 1) = some l[j].1 := by show (l[j]?).map (·.1) = _; rw [List.getElem?_eq_getElem (by omega : j < l.length)]; rfl
        have e3 : prevOf l (j + 1 + 1) = some l[j + 1].1 := by show (l[j + 1]?).map (·.1) = _; rw [List.getElem?_eq_getElem hlt]; rfl
        rw [e2, e3]
        simp only [oite_t, obind_s]
        cases hq : (l[j].1 == l[j + 1].1) with
        | true => rfl
        | false => cases bytesLt l[j].1 l[j + 1].1 <;> rfl
    · rw [dec_f (fun q => hlt ((i64_lt (by omega) hl).1 q)), oite_f]
      have : k = l.length := by omega
      subst this; rw [List.drop_length]; cases prevOf l l.length <;> rfl
theorem rlab_eq (n : Nat) (hn : 20 < n) (l : List Pair) (hf : FitL l n) : F53 n l = some (labCheck l, ()) := by
  have h8 : decide ((8 : Int64) < Int64.ofInt ↑l.length) = decide (8 < l.length) := decide_eq_decide.2 (i64_lt (a := 8) (by omega) hf.1)
  unfold F53 labCheck
  rw [h8]
  by_cases h : 8 < l.length
  · rw [dec_t h]; rfl
  · rw [dec_f h]
    have := rlab_loop n l hf n 0 (by omega) (by omega)
    rw [List.drop_zero] at this
    show F53_R29 n n l (I64 0) = _
    rw [this]; rfl

/-! ### Own names -/
def ownOK (s : List UInt8) : Bool := decide (4 ≤ s.length) && (s.take 4 == [111, 119, 110, 46])
theorem own_eq (n : Nat) (s : List UInt8) (hs : s.length < 2 ^ 63) : F74 n s = some (ownOK s, ()) := by
  have e1 : decide (Int64.ofInt ↑([(111 : UInt8), 119, 110, 46]).length ≤ Int64.ofInt ↑s.length) = decide (4 ≤ s.length) := decide_eq_decide.2 (i64_le (a := 4) (by omega) hs)
  unfold F74 F81 F88 ownOK
  dsimp only
  rw [e1]
  by_cases h : 4 ≤ s.length
  · rw [dec_t h]
    have e2 : Int.toNat (Int64.toInt (Int64.ofInt ↑([(111 : UInt8), 119, 110, 46]).length)) = 4 := by decide
    have e3 : decide ((0 : Int) ≤ Int64.toInt (Int64.ofInt ↑([(111 : UInt8), 119, 110, 46]).length)) = true := by decide
    rw [e2, e3, ble_t h]; rfl
  · rw [dec_f h]; rfl
theorem rown_eq (n : Nat) (s : List UInt8) (hs : s.length < 2 ^ 63) : F52 n s = some (ownOK s, ()) := by
  have e1 : decide ((4 : Int64) ≤ Int64.ofInt ↑s.length) = decide (4 ≤ s.length) := decide_eq_decide.2 (i64_le (a := 4) (by omega) hs)
  unfold F52 ownOK
  rw [e1]
  by_cases h : 4 ≤ s.length
  · rw [dec_t h]
    have e2 : Int.toNat (Int64.toInt (4 : Int64)) = 4 := by decide
    rw [e2, ble_t h]; rfl
  · rw [dec_f h]; rfl

/-! ### Items -/
abbrev EvT := UInt8 × UInt64 × UInt64 × List UInt8 × List Pair × UInt8 × UInt8 × Int64 × UInt8
abbrev ItT := Bool × UInt8 × UInt64 × UInt64 × List UInt8 × List Pair × UInt8 × UInt8 × Int64 × UInt8 × UInt8 × UInt64 × UInt64
def evCheck (o : UInt8) (seq time : UInt64) (rule : List UInt8) (labels : List Pair) (state prio own : UInt8) : Int64 :=
  bif decide (32 ≤ o) then 6 else bif decide (seq < 1) then 6 else bif decide (seq ≤ 1099511627776) then bif decide (time ≤ 1099511627776) then bif decide (7 < prio) then 6 else
    bif nameOK rule then bif (decide (state = 0) || decide (state = 2)) && !decide (2 < own) then bif (!decide (own = 0)) == ownOK rule then labCheck labels else 27 else 12 else 8 else 6 else 6
def gapCheck (o : UInt8) (a b : UInt64) : Int64 :=
  bif decide (32 ≤ o) then 6 else bif decide (a < 1) then 6 else bif decide (b < a) then 6 else bif decide (b ≤ 1099511627776) then 0 else 6
def itCheck : ItT → Int64
  | (g, o, seq, time, rule, labels, state, prio, _, own, go, ga, gb) => bif g then gapCheck go ga gb else evCheck o seq time rule labels state prio own
def FitI (x : ItT) (n : Nat) : Prop := (x.2.2.2.2.1.length < 2 ^ 63 ∧ x.2.2.2.2.1.length < n) ∧ FitL x.2.2.2.2.2.1 n
theorem ev_eq (n N : Nat) (hn : 20 < n) (o : UInt8) (seq time : UInt64) (rule : List UInt8) (labels : List Pair) (state prio : UInt8) (v : Int64) (own : UInt8) (h1 : rule.length < 2 ^ 63) (h2 : FitL labels N) :
    F65 n (o, seq, time, rule, labels, state, prio, v, own) = some (evCheck o seq time rule labels state prio own, ()) := by
  unfold F65 evCheck F65_J111 F72
  simp only [name_eq n rule h1 hn, own_eq n rule h1, lab_eq n N hn labels h2, obind_s, ojoinA_eq]
  generalize labCheck labels = lc
  generalize ownOK rule = ow
  generalize nameOK rule = nm
  generalize decide (own = 0) = o0
  cases decide ((32 : UInt8) ≤ o) <;> try rfl
  cases decide (seq < 1) <;> try rfl
  cases decide (seq ≤ 1099511627776) <;> try rfl
  cases decide (time ≤ 1099511627776) <;> try rfl
  cases decide ((7 : UInt8) < prio) <;> try rfl
  cases nm <;> try rfl
  cases decide (state = 0) <;> cases decide (state = 2) <;> cases decide ((2 : UInt8) < own) <;> cases o0 <;> cases ow <;> rfl
theorem it_eq (n N : Nat) (hn : 20 < n) (x : ItT) (hf : FitI x N) : F46 n x = some (itCheck x, ()) := by
  obtain ⟨g, o, seq, time, rule, labels, state, prio, v, own, go, ga, gb⟩ := x
  obtain ⟨h1, h2⟩ := hf
  unfold F46 itCheck
  dsimp only
  rw [ev_eq n N hn o seq time rule labels state prio v own h1.1 h2]
  cases g with
  | false => rfl
  | true =>
    unfold F64 F72 gapCheck
    cases decide ((32 : UInt8) ≤ go) <;> try rfl
    cases decide (ga < 1) <;> try rfl
    cases decide (gb < ga) <;> try rfl
    cases decide (gb ≤ 1099511627776) <;> rfl
theorem lt31 (o : UInt8) : decide ((31 : UInt8) < o) = decide ((32 : UInt8) ≤ o) := by
  have h : ∀ k : Fin 256, decide ((31 : UInt8) < UInt8.ofNat k.val) = decide ((32 : UInt8) ≤ UInt8.ofNat k.val) := by decide +kernel
  have := h ⟨o.toNat, UInt8.toNat_lt o⟩
  simpa using this
theorem pos8 (o : UInt8) : decide ((0 : UInt8) < o) = !decide (o = 0) := by
  have h : ∀ k : Fin 256, decide ((0 : UInt8) < UInt8.ofNat k.val) = !decide (UInt8.ofNat k.val = 0) := by decide +kernel
  have := h ⟨o.toNat, UInt8.toNat_lt o⟩
  simpa using this
theorem zero64 (a : UInt64) : decide (a = 0) = decide (a < 1) := by
  refine decide_eq_decide.2 ⟨fun h => by rw [h]; decide, fun h => UInt64.toNat.inj ?_⟩
  have := UInt64.lt_iff_toNat_lt.1 h
  have e : (1 : UInt64).toNat = 1 := rfl
  have e0 : (0 : UInt64).toNat = 0 := rfl
  omega
theorem rit_eq (n : Nat) (hn : 20 < n) (x : ItT) (hf : FitI x n) : F28 n x = some (itCheck x, ()) := by
  obtain ⟨g, o, seq, time, rule, labels, state, prio, v, own, go, ga, gb⟩ := x
  obtain ⟨h1, h2⟩ := hf
  unfold F28 itCheck F28_J127 F50
  simp only [rname_eq n rule h1.1 h1.2, rown_eq n rule h1.1, rlab_eq n hn labels h2, obind_s, ojoinA_eq, lt31, zero64, pos8]
  cases g with
  | false =>
    unfold evCheck
    generalize labCheck labels = lc
    generalize ownOK rule = ow
    generalize nameOK rule = nm
    generalize decide (own = 0) = o0
    simp only [oite_f, cond_false]
    cases decide ((32 : UInt8) ≤ o) <;> try rfl
    cases decide (seq < 1) <;> try rfl
    cases decide (seq ≤ 1099511627776) <;> try rfl
    cases decide (time ≤ 1099511627776) <;> try rfl
    cases decide ((7 : UInt8) < prio) <;> try rfl
    cases nm <;> try rfl
    cases decide (state = 0) <;> cases decide (state = 2) <;> cases decide ((2 : UInt8) < own) <;> cases o0 <;> cases ow <;> rfl
  | true =>
    unfold gapCheck
    simp only [oite_t, cond_true]
    cases decide ((32 : UInt8) ≤ go) <;> try rfl
    cases decide (ga < 1) <;> try rfl
    cases decide (gb < ga) <;> try rfl
    cases decide (gb ≤ 1099511627776) <;> rfl
theorem mod_lt8 (x c : UInt8) (hc : 0 < c.toNat) : (x % c).toNat < c.toNat := by rw [UInt8.toNat_mod]; exact Nat.mod_lt _ hc
theorem const_idx {α : Type} (l : List α) (x c : UInt8) (hc : 0 < c.toNat) (hl : l.length = c.toNat) :
    (decide ((0 : Int) ≤ ↑(UInt8.toNat (x % c))) && Nat.blt (Int.toNat ↑(UInt8.toNat (x % c))) (List.length l)) = true ∧ ∃ y ∈ l, l[Int.toNat ↑(UInt8.toNat (x % c))]? = some y := by
  have h := mod_lt8 x c hc
  obtain ⟨h1, h2⟩ := idx_nat (l := l) (k := (x % c).toNat) (by omega)
  exact ⟨h1, _, List.getElem_mem (by omega), h2⟩
def labs3 (c : UInt8) : List Pair := [([97], [c]), ([98], [c]), ([99], [c])]
theorem lab_run (n j : Nat) (s0 : Bool) (s1 s2 s3 : UInt8) (s4 s5 s6 : UInt16) (s7 s8 s9 : UInt8) (s10 t0 : Bool) (t1 : UInt8) (t2 t3 : UInt64) (t4 : List UInt8) (t6 t7 : UInt8) (t8 : Int64)
    (t9 t10 : UInt8) (t11 t12 : UInt64) (v0 : UInt8) (v1 v2 : UInt64) (v3 : List UInt8) (v5 v6 : UInt8) (v7 : Int64) (v8 : UInt8) (d : Fin 4) :
    F17_R1021 n (j + 4) (UInt8.ofNat d.val) 0 s0 s1 s2 s3 s4 s5 s6 s7 s8 s9 s10 t0 t1 t2 t3 t4 t6 t7 t8 t9 t10 t11 t12 v0 v1 v2 v3 v5 v6 v7 v8 [] =
      some ((false, v0, v1, v2, v3, (labs3 (48 + s8 / 4 % 10)).take d.val, v5, v6, v7, v8, 0, 0, 0), ()) := by
  generalize hc : (48 : UInt8) + s8 / 4 % 10 = c
  have hL : ∀ r t1' vl, F17_L1021 n r (UInt8.ofNat d.val) t1' s0 s1 s2 s3 s4 s5 s6 s7 s8 s9 s10 t0 t1 t2 t3 t4 t6 t7 t8 t9 t10 t11 t12 v0 v1 v2 v3 v5 v6 v7 v8 vl =
      oite (decide (t1' < UInt8.ofNat d.val)) (oite (Nat.ble (vl.length + 1) 4294967296) (r (UInt8.ofNat d.val) (t1' + 1) s0 s1 s2 s3 s4 s5 s6 s7 s8 s9 s10 t0 t1 t2 t3 t4 t6 t7 t8 t9 t10 t11 t12 v0 v1 v2 v3 v5 v6 v7 v8 (vl ++ [([97 + t1'], [c])])) none)
        (some ((false, v0, v1, v2, v3, vl, v5, v6, v7, v8, 0, 0, 0), ())) := by
    intro r t1' vl; rw [← hc]; rfl
  have hR : ∀ m, F17_R1021 n (m + 1) = F17_L1021 n (F17_R1021 n m) := F17_R1021_s n
  rw [hR, hL]
  match d with
  | 0 => rfl
  | 1 => rw [show decide ((0 : UInt8) < UInt8.ofNat (1 : Fin 4).val) = true from by decide, oite_t, show Nat.ble (List.length ([] : List Pair) + 1) 4294967296 = true from rfl, oite_t, hR, hL]; rfl
  | 2 =>
    rw [show decide ((0 : UInt8) < UInt8.ofNat (2 : Fin 4).val) = true from by decide, oite_t, show Nat.ble (List.length ([] : List Pair) + 1) 4294967296 = true from rfl, oite_t, hR, hL,
      show decide ((0 : UInt8) + 1 < UInt8.ofNat (2 : Fin 4).val) = true from by decide, oite_t, show Nat.ble (List.length (([] : List Pair) ++ [([97 + 0], [c])]) + 1) 4294967296 = true from rfl, oite_t, hR, hL]; rfl
  | 3 =>
    rw [show decide ((0 : UInt8) < UInt8.ofNat (3 : Fin 4).val) = true from by decide, oite_t, show Nat.ble (List.length ([] : List Pair) + 1) 4294967296 = true from rfl, oite_t, hR, hL,
      show decide ((0 : UInt8) + 1 < UInt8.ofNat (3 : Fin 4).val) = true from by decide, oite_t, show Nat.ble (List.length (([] : List Pair) ++ [([97 + 0], [c])]) + 1) 4294967296 = true from rfl, oite_t, hR, hL,
      show decide ((0 : UInt8) + 1 + 1 < UInt8.ofNat (3 : Fin 4).val) = true from by decide, oite_t, show Nat.ble (List.length (([] : List Pair) ++ [([97 + 0], [c])] ++ [([97 + (0 + 1)], [c])]) + 1) 4294967296 = true from rfl, oite_t, hR, hL]; rfl
theorem mod4 (x : UInt8) : ∃ d : Fin 4, x % 4 = UInt8.ofNat d.val := by
  have h : ∀ k : Fin 256, ∃ d : Fin 4, UInt8.ofNat k.val % 4 = UInt8.ofNat d.val := by decide +kernel
  have := h ⟨x.toNat, UInt8.toNat_lt x⟩
  simpa using this
theorem j127 (n : Nat) (hn : 4 ≤ n) (s0 : Bool) (s1 s2 s3 : UInt8) (s4 s5 s6 : UInt16) (s7 s8 s9 : UInt8) (s10 t0 : Bool) (t1 : UInt8) (t2 t3 : UInt64) (t4 : List UInt8) (t6 t7 : UInt8) (t8 : Int64)
    (t9 t10 : UInt8) (t11 t12 : UInt64) (v0 : UInt8) (v1 v2 : UInt64) (v3 : List UInt8) (v5 v6 : UInt8) (v7 : Int64) (v8 : UInt8) :
    ∃ d : Nat, F17_J127 n s0 s1 s2 s3 s4 s5 s6 s7 s8 s9 s10 t0 t1 t2 t3 t4 t6 t7 t8 t9 t10 t11 t12 v0 v1 v2 v3 v5 v6 v7 v8 =
      some ((false, v0, v1, v2, v3, (labs3 (48 + s8 / 4 % 10)).take d, v5, v6, v7, v8, 0, 0, 0), ()) := by
  obtain ⟨j, rfl⟩ : ∃ j, n = j + 4 := ⟨n - 4, by omega⟩
  obtain ⟨d, hd⟩ := mod4 s8
  refine ⟨d.val, ?_⟩
  unfold F17_J127
  rw [hd]
  exact lab_run (j + 4) j s0 s1 s2 s3 s4 s5 s6 s7 s8 s9 s10 t0 t1 t2 t3 t4 t6 t7 t8 t9 t10 t11 t12 v0 v1 v2 v3 v5 v6 v7 v8 d
theorem byte_all (P : UInt8 → Bool) (h : ∀ k : Fin 256, P (UInt8.ofNat k.val) = true) (x : UInt8) : P x = true := by
  have := h ⟨x.toNat, UInt8.toNat_lt x⟩
  simpa using this
theorem labs_ok (x : UInt8) (d : Nat) : labCheck ((labs3 (48 + x / 4 % 10)).take d) = 0 := by
  have hb := byte_all (fun x => okb true (48 + x / 4 % 10)) (by decide +kernel) x
  have hb : okb true (48 + x / 4 % 10) = true := hb
  generalize (48 : UInt8) + x / 4 % 10 = c at hb
  have hw : wordOK 16 true [c] = true := by unfold wordOK; simp [hb]
  have k1 : wordOK 8 false [97] = true := by decide
  have k2 : wordOK 8 false [98] = true := by decide
  have k3 : wordOK 8 false [99] = true := by decide
  have e1 : ([97] == ([98] : List UInt8)) = false := by decide
  have e2 : ([98] == ([99] : List UInt8)) = false := by decide
  have b1 : bytesLt [97] [98] = true := by decide
  have b2 : bytesLt [98] [99] = true := by decide
  match d with
  | 0 => rfl
  | 1 => simp only [labs3, List.take, labCheck, labGo, labStep, hw, k1, cond_true, List.length]; rfl
  | 2 => simp only [labs3, List.take, labCheck, labGo, labStep, hw, k1, k2, e1, b1, cond_true, cond_false, List.length]; rfl
  | 3 => simp only [labs3, List.take, labCheck, labGo, labStep, hw, k1, k2, k3, e1, e2, b1, b2, cond_true, cond_false, List.length]; rfl
  | d + 4 =>
    have : (labs3 c).take (d + 4) = labs3 c := List.take_of_length_le (by simp [labs3])
    rw [this]
    simp only [labs3, labCheck, labGo, labStep, hw, k1, k2, k3, e1, e2, b1, b2, cond_true, cond_false, List.length]; rfl
theorem labs_len (c : UInt8) (d : Nat) : ((labs3 c).take d).length ≤ 3 ∧ ∀ p ∈ (labs3 c).take d, p.1.length = 1 ∧ p.2.length = 1 := by
  refine ⟨by rw [List.length_take]; exact Nat.le_trans (Nat.min_le_right _ _) (by simp [labs3]), fun p hp => ?_⟩
  have := List.mem_of_mem_take hp
  simp [labs3] at this
  rcases this with rfl | rfl | rfl <;> simp
abbrev SmT := Bool × UInt8 × UInt8 × UInt8 × UInt16 × UInt16 × UInt16 × UInt8 × UInt8 × UInt8 × Bool
theorem u64of16 (x : UInt16) : (UInt64.ofInt ↑(UInt16.toNat x)).toNat = x.toNat := by
  have := u64_ofInt ((x.toNat : Nat) : Int)
  have h := UInt16.toNat_lt x
  omega
theorem seq_ok (x : UInt16) : decide ((1 : UInt64) + UInt64.ofInt ↑(UInt16.toNat x) < 1) = false ∧ decide ((1 : UInt64) + UInt64.ofInt ↑(UInt16.toNat x) ≤ 1099511627776) = true ∧ ((1 : UInt64) + UInt64.ofInt ↑(UInt16.toNat x)).toNat = 1 + x.toNat := by
  have h := UInt16.toNat_lt x
  have e : ((1 : UInt64) + UInt64.ofInt ↑(UInt16.toNat x)).toNat = 1 + x.toNat := by
    rw [UInt64.toNat_add, u64of16]; show (1 + x.toNat) % _ = _; omega
  refine ⟨dec_f fun q => ?_, dec_t ?_, e⟩
  · have := UInt64.lt_iff_toNat_lt.1 q; rw [e] at this; have e1 : (1 : UInt64).toNat = 1 := rfl; omega
  · rw [UInt64.le_iff_toNat_le, e]; show 1 + x.toNat ≤ 1099511627776; omega
/-- what such an item is like -/
structure Small (x : ItT) : Prop where
  ok : itCheck x = 0
  rule : x.2.2.2.2.1.length ≤ 12
  labs : x.2.2.2.2.2.1.length ≤ 3
  each : ∀ p ∈ x.2.2.2.2.2.1, p.1.length = 1 ∧ p.2.length = 1
theorem Small.fit {x : ItT} (h : Small x) (n : Nat) (hn : 20 < n) : FitI x n := by
  refine ⟨⟨by have := h.rule; omega, by have := h.rule; omega⟩, by have := h.labs; omega, fun p hp => ?_⟩
  have := h.each p hp
  omega
theorem ev_ok (o s2 : UInt8) (s4 s6 : UInt16) (rule : List UInt8) (state own : UInt8) (l : List Pair) (hr : nameOK rule = true) (hs : (decide (state = 0) || decide (state = 2)) = true)
    (ho : decide (2 < own) = false) (hw : ((!decide (own = 0)) == ownOK rule) = true) (hl : labCheck l = 0) :
    evCheck (o % 32) (1 + UInt64.ofInt ↑(UInt16.toNat s4)) (UInt64.ofInt ↑(UInt16.toNat s6)) rule l state (s2 % 8) own = 0 := by
  obtain ⟨q1, q2, _⟩ := seq_ok s4
  have q3 : decide (UInt64.ofInt ↑(UInt16.toNat s6) ≤ 1099511627776) = true := by
    refine dec_t ?_
    rw [UInt64.le_iff_toNat_le, u64of16]
    have := UInt16.toNat_lt s6
    show s6.toNat ≤ 1099511627776; omega
  have q4 := byte_all (fun o => !decide ((32 : UInt8) ≤ o % 32)) (by decide +kernel) o
  have q5 := byte_all (fun o => !decide ((7 : UInt8) < o % 8)) (by decide +kernel) s2
  simp only [Bool.not_eq_true'] at q4 q5
  unfold evCheck
  rw [q1, q2, q3, q4, q5, hr, hs, ho, hw, hl]; rfl
theorem item_small (n : Nat) (hn : 20 < n) (z : SmT) : ∃ x, F17 n z = some (x, ()) ∧ Small x := by
  obtain ⟨s0, s1, s2, s3, s4, s5, s6, s7, s8, s9, s10⟩ := z
  cases s0 with
  | true =>
    refine ⟨_, rfl, ?_, by simp, by simp, by simp⟩
    obtain ⟨q1, q2, q3⟩ := seq_ok s4
    have q4 := byte_all (fun o => !decide ((32 : UInt8) ≤ o % 32)) (by decide +kernel) s1
    simp only [Bool.not_eq_true'] at q4
    have h4 := UInt16.toNat_lt s4
    have h5 := UInt16.toNat_lt s5
    have e : ((1 : UInt64) + UInt64.ofInt ↑(UInt16.toNat s4) + UInt64.ofInt ↑(UInt16.toNat s5)).toNat = 1 + s4.toNat + s5.toNat := by
      rw [UInt64.toNat_add, q3, u64of16]; omega
    have g1 : decide ((1 : UInt64) + UInt64.ofInt ↑(UInt16.toNat s4) + UInt64.ofInt ↑(UInt16.toNat s5) < (1 : UInt64) + UInt64.ofInt ↑(UInt16.toNat s4)) = false :=
      dec_f fun q => by have := UInt64.lt_iff_toNat_lt.1 q; rw [e, q3] at this; omega
    have g2 : decide ((1 : UInt64) + UInt64.ofInt ↑(UInt16.toNat s4) + UInt64.ofInt ↑(UInt16.toNat s5) ≤ 1099511627776) = true :=
      dec_t (by rw [UInt64.le_iff_toNat_le, e]; show _ ≤ 1099511627776; omega)
    show gapCheck (s1 % 32) _ _ = 0
    unfold gapCheck
    rw [q4, q1, g1, g2]; rfl
  | false =>
    obtain ⟨f1, rule, f2, f3⟩ := const_idx [[(104 : UInt8), (111 : UInt8), (116 : UInt8)], [(99 : UInt8), (111 : UInt8), (108 : UInt8), (100 : UInt8)],
        [(100 : UInt8), (105 : UInt8), (115 : UInt8), (107 : UInt8), (46 : UInt8), (102 : UInt8), (117 : UInt8), (108 : UInt8), (108 : UInt8)], [(120 : UInt8)]] s7 4 (by decide) rfl
    have hr : nameOK rule = true ∧ ownOK rule = false ∧ rule.length ≤ 12 := by
      simp only [List.mem_cons, List.not_mem_nil, or_false] at f2
      rcases f2 with rfl | rfl | rfl | rfl <;> decide
    have key : ∀ state : UInt8, (decide (state = 0) || decide (state = 2)) = true → ∃ x, F17_J63 n false s1 s2 s3 s4 s5 s6 s7 s8 s9 s10 false 0 0 0 [] 0 0 0 0 0 0 0 (s1 % 32) (1 + UInt64.ofInt ↑(UInt16.toNat s4)) (UInt64.ofInt ↑(UInt16.toNat s6)) rule state (s2 % 8)
        (Int64.ofInt ↑(UInt8.toNat s9) - 100) 0 = some (x, ()) ∧ Small x := by
      intro state hst
      unfold F17_J63
      rw [ojoinA_eq]
      by_cases h7 : s3 % 8 = 7
      · rw [dec_t h7, oite_t]
        obtain ⟨d, hd⟩ := j127 n (by omega) false s1 s2 s3 s4 s5 s6 s7 s8 s9 s10 false 0 0 0 [] 0 0 0 0 0 0 0 (s1 % 32) (1 + UInt64.ofInt ↑(UInt16.toNat s4)) (UInt64.ofInt ↑(UInt16.toNat s6)) [111, 119, 110, 46, 120] state (s2 % 8)
          (Int64.ofInt ↑(UInt8.toNat s9) - 100) (1 + s3 / 8 % 2)
        have o1 := byte_all (fun o => !decide ((2 : UInt8) < 1 + o / 8 % 2)) (by decide +kernel) s3
        have o2 := byte_all (fun o => !decide ((1 : UInt8) + o / 8 % 2 = 0)) (by decide +kernel) s3
        simp only [Bool.not_eq_true'] at o1 o2
        refine ⟨_, hd, ev_ok s1 s2 s4 s6 _ state _ _ (by decide) hst o1 ?_ (labs_ok s8 d), (by simp), (labs_len _ d).1, (labs_len _ d).2⟩
        rw [o2]; decide
      · rw [dec_f h7, oite_f]
        obtain ⟨d, hd⟩ := j127 n (by omega) false s1 s2 s3 s4 s5 s6 s7 s8 s9 s10 false 0 0 0 [] 0 0 0 0 0 0 0 (s1 % 32) (1 + UInt64.ofInt ↑(UInt16.toNat s4)) (UInt64.ofInt ↑(UInt16.toNat s6)) rule state (s2 % 8)
          (Int64.ofInt ↑(UInt8.toNat s9) - 100) 0
        refine ⟨_, hd, ev_ok s1 s2 s4 s6 _ state 0 _ hr.1 hst (by decide) ?_ (labs_ok s8 d), hr.2.2, (labs_len _ d).1, (labs_len _ d).2⟩
        rw [hr.2.1]; decide
    unfold F17
    dsimp only
    rw [oite_f, f1, f3, oite_t, obind_s, ojoinA_eq]
    cases s10 with
    | true => rw [oite_t]; exact key 2 (by decide)
    | false => rw [oite_f]; exact key 0 (by decide)
theorem lenU {k : Nat} (h : k < 2 ^ 63) : UInt64.ofInt (Int64.toInt (I64 k)) = UInt64.ofNat k := by
  apply UInt64.toNat.inj
  rw [i64_toInt h]
  have := u64_ofInt (k : Int)
  rw [UInt64.toNat_ofNat']; omega
theorem bytes_spec (n : Nat) (w : List UInt8) (h : w.length ≤ 4294967296) : F33 n (some w) = some (w, some w) := by
  unfold F33; rw [oelim_s, ble_t (by omega), oite_t]; rfl
theorem text_put (n : Nat) (hn : 10 < n) (w s : List UInt8) (h : w.length + s.length ≤ 4000000000) : F56 n (some w, s) = some ((), some (w ++ (enc (UInt64.ofNat s.length) ++ s))) := by
  unfold F56
  have := enc_len (UInt64.ofNat s.length)
  rw [oelim_s, show (Int64.ofInt ↑(List.length (w, s).2)) = I64 s.length from rfl, lenU (by omega), uint_spec n hn w _ (by omega)]
  simp only [obind_s]
  rw [ble_t (by simp; omega), oite_t, List.append_assoc]
/-- what taking a text comes to -/
def maxU (most : Int64) : UInt64 := UInt64.ofInt (Int64.toInt (IK.maxI IntKind.i64 most 0))
theorem text_take (n : Nat) (hn : 10 < n) (b : List UInt8) (most : Int64) (hb : b.length < 2 ^ 62) : F61 n (some (b, 0), most) =
    if (dec 0 b).1 = 0 then
      (if maxU most < UInt64.ofNat (dec 0 b).2.1 then some ([], some ((dec 0 b).2.2, 4))
       else if (dec 0 b).2.2.length < (dec 0 b).2.1 then some ([], some ((dec 0 b).2.2, 3))
       else some ((dec 0 b).2.2.take (dec 0 b).2.1, some ((dec 0 b).2.2.drop (dec 0 b).2.1, 0)))
    else some ([], some ((dec 0 b).2.2, (dec 0 b).1)) := by
  unfold F61
  rw [read_spec n hn b (by omega)]
  simp only [obind_s]
  unfold decR decF
  by_cases h : (dec 0 b).1 = 0
  · obtain ⟨b1, b2⟩ := dec_enc_back b h
    rw [if_pos h, if_pos h]
    have hlen : (dec 0 b).2.2.length ≤ b.length := by have := congrArg List.length b2; simp only [List.length_append] at this; omega
    generalize (dec 0 b).2.1 = u at *
    generalize (dec 0 b).2.2 = r at *
    have e0 : UInt64.ofNat (0 + u * 128 ^ 0) = UInt64.ofNat u := by simp
    have hu : (UInt64.ofNat u).toNat = u := by rw [UInt64.toNat_ofNat']; omega
    rw [e0]
    simp only [ok_spec, obind_s, decide_true, Bool.not_true, oite_f]
    rw [show UInt64.ofInt (Int64.toInt (IK.maxI IntKind.i64 most 0)) = maxU most from rfl]
    by_cases h1 : maxU most < UInt64.ofNat u
    · rw [dec_t h1, if_pos h1]; simp only [oite_t, fail_first, obind_s]
    · rw [dec_f h1, if_neg h1]
      simp only [oite_f]
      rw [show (Int64.ofInt ↑(List.length r)) = I64 r.length from rfl, lenU (by omega)]
      have e1 : decide (UInt64.ofNat r.length < UInt64.ofNat u) = decide (r.length < u) := by
        rw [decide_eq_decide, UInt64.lt_iff_toNat_lt, hu, UInt64.toNat_ofNat']; omega
      rw [e1, hu]
      by_cases h2 : r.length < u
      · rw [dec_t h2, if_pos h2]; simp only [oite_t, fail_first, obind_s]
      · rw [dec_f h2, if_neg h2]
        have e2 : Int.toNat ((u : Nat) : Int) = u := by omega
        rw [e2, ble_t (by omega), dec_t (by omega)]
        simp only [oite_f, Bool.and_true, oite_t, List.take_length, List.drop_zero]
  · rw [if_neg h, if_neg h]
    simp only [ok_spec, obind_s]
    rw [dec_f h]; rfl
theorem maxU_len {k : Nat} (h : k < 2 ^ 63) : maxU (I64 k) = UInt64.ofNat k := by
  unfold maxU
  have e : IK.maxI IntKind.i64 (I64 k) 0 = I64 k := by
    unfold IK.maxI
    have : IK.ltb .i64 (I64 k) 0 = false := by
      show decide (I64 k < (0 : Int64)) = false
      exact dec_f fun q => by have := (i64_lt (a := k) (b := 0) h (by omega)).1 q; omega
    rw [this]
  rw [e, lenU h]
theorem u64_ofNat {k : Nat} (h : k < 2 ^ 64) : (UInt64.ofNat k).toNat = k := by rw [UInt64.toNat_ofNat']; omega
theorem dec_text (s rest : List UInt8) (hs : s.length < 2 ^ 62) : dec 0 (enc (UInt64.ofNat s.length) ++ s ++ rest) = (0, s.length, s ++ rest) := by
  rw [List.append_assoc, dec_enc64, u64_ofNat (by omega)]
/-- a text that was put is taken, if it may be so long -/
theorem text_back (n : Nat) (hn : 10 < n) (s rest : List UInt8) (most : Int64) (hs : s.length + rest.length < 2 ^ 61) (hm : ¬ maxU most < UInt64.ofNat s.length) :
    F61 n (some (enc (UInt64.ofNat s.length) ++ s ++ rest, 0), most) = some (s, some (rest, 0)) := by
  have := enc_len (UInt64.ofNat s.length)
  rw [text_take n hn _ most (by simp; omega), dec_text s rest (by omega)]
  simp only [if_true]
  rw [if_neg hm, if_neg (by simp)]
  simp
theorem text_long (n : Nat) (hn : 10 < n) (s rest : List UInt8) (most : Int64) (hs : s.length + rest.length < 2 ^ 61) (hm : maxU most < UInt64.ofNat s.length) :
    F61 n (some (enc (UInt64.ofNat s.length) ++ s ++ rest, 0), most) = some ([], some (s ++ rest, 4)) := by
  have := enc_len (UInt64.ofNat s.length)
  rw [text_take n hn _ most (by simp; omega), dec_text s rest (by omega)]
  simp only [if_true]
  rw [if_pos hm]
theorem done_ok (n : Nat) : F47 n (some ([], 0)) = some (0, some ([], 0)) := rfl
/-- cut, a text is too short -/
theorem text_cut (n : Nat) (hn : 10 < n) (s : List UInt8) (hs : s.length ≤ 1000) (k : Nat) (hk : k < (enc (UInt64.ofNat s.length) ++ s).length) :
    ∃ r, F61 n (some ((enc (UInt64.ofNat s.length) ++ s).take k, 0), I64 s.length) = some ([], some (r, 3)) := by
  have hel := enc_len (UInt64.ofNat s.length)
  rw [text_take n hn _ _ (by simp; omega)]
  by_cases h : k < (enc (UInt64.ofNat s.length)).length
  · have : dec 0 ((enc (UInt64.ofNat s.length) ++ s).take k) = (3, 0, []) := by
      rw [List.take_append_of_le_length (by omega)]
      exact dec_cut 9 _ 0 k (toNat_lt128 _) (by have := UInt64.toNat_lt (UInt64.ofNat s.length); simpa using this) h
    rw [this]; exact ⟨_, rfl⟩
  · have e : (enc (UInt64.ofNat s.length) ++ s).take k = enc (UInt64.ofNat s.length) ++ s.take (k - (enc (UInt64.ofNat s.length)).length) := by
      rw [List.take_append]
      congr 1
      exact List.take_of_length_le (by omega)
    rw [e, dec_enc64, u64_ofNat (by omega)]
    simp only [if_true]
    have hm : ¬ maxU (I64 s.length) < UInt64.ofNat s.length := by
      rw [maxU_len (by omega)]
      exact fun q => by have := UInt64.lt_iff_toNat_lt.1 q; omega
    have hl : (s.take (k - (enc (UInt64.ofNat s.length)).length)).length < s.length := by simp at hk ⊢; omega
    rw [if_neg hm, if_pos hl]
    exact ⟨_, rfl⟩
theorem maxI_le (most : Int64) (k : Nat) (hk : k < 2 ^ 62) : maxU most < UInt64.ofNat k ↔ IK.maxI IntKind.i64 most 0 < I64 k := by
  have h0 : 0 ≤ (IK.maxI IntKind.i64 most 0).toInt := by
    unfold IK.maxI
    cases h : IK.ltb .i64 most 0 with
    | true => exact Int.le_refl 0
    | false =>
      have : ¬ most < (0 : Int64) := of_decide_eq_false h
      have := mt Int64.lt_iff_toInt_lt.2 this
      have z : (0 : Int64).toInt = 0 := by decide
      show 0 ≤ Int64.toInt most; omega
  unfold maxU
  generalize IK.maxI IntKind.i64 most 0 = x at h0
  have := Int64.toInt_lt (x : Int64)
  have h0 : 0 ≤ Int64.toInt x := h0
  have e := u64_ofInt (Int64.toInt x)
  rw [UInt64.lt_iff_toNat_lt, u64_ofNat (by omega), Int64.lt_iff_toInt_lt, i64_toInt (by omega)]
  omega

/-! ### The reader's functions -/
theorem f53 (n : Nat) (s : RS) (e : Int64) : F42 n (some s, e) = some ((), some (rFail e s).2) := by
  obtain ⟨b, x⟩ := s
  unfold F42 rFail
  dsimp only
  rw [oelim_s]
  by_cases h : x = 0
  · rw [dec_t h, oite_t, if_pos h]
  · rw [dec_f h, oite_f, if_neg h]
theorem f52 (n : Nat) (s : RS) : F45 n (some s) = some (s.2, some s) := rfl
theorem f49 (n : Nat) (s : RS) (h : s.1.length < 2 ^ 62) : F22 n (some s) = some ((rByte s).1, some (rByte s).2) := by
  obtain ⟨b, x⟩ := s
  unfold rByte
  by_cases hx : x = 0
  · subst hx
    rw [if_pos rfl]
    cases b with
    | nil => exact byte_nil n
    | cons c r => exact byte_cons n c r (Nat.lt_trans h (by decide))
  · rw [if_neg hx]; exact byte_err n b x hx
theorem f50 (n : Nat) (hn : 10 < n) (s : RS) (h : s.1.length < 2 ^ 62) : F23 n (some s) = some ((rUint s).1, some (rUint s).2) := by
  obtain ⟨b, x⟩ := s
  unfold rUint
  by_cases hx : x = 0
  · subst hx
    rw [if_pos rfl, read_spec n hn b (Nat.lt_trans h (by decide))]
    unfold decR decF
    dsimp only
    split
    · simp
    · rfl
  · rw [if_neg hx]; exact read_err n hn b x hx
theorem f67 (n : Nat) (hn : 10 < n) (s : RS) (h : s.1.length < 2 ^ 62) (m : Nat) (hm : m < 2 ^ 62) : F61 n (some s, I64 m) = some ((rText m s).1, some (rText m s).2) := by
  obtain ⟨b, x⟩ := s
  unfold rText
  by_cases hx : x = 0
  · subst hx
    rw [if_pos rfl, text_take n hn b _ h, maxU_len (by omega)]
    dsimp only
    by_cases h0 : (dec 0 b).1 = 0
    · rw [if_pos h0, if_pos h0]
      have hd := (dec_enc_back b h0).1
      have e : UInt64.ofNat m < UInt64.ofNat (dec 0 b).2.1 ↔ m < (dec 0 b).2.1 := by
        rw [UInt64.lt_iff_toNat_lt, u64_ofNat (by omega), u64_ofNat hd]
      by_cases h1 : m < (dec 0 b).2.1
      · rw [if_pos (e.2 h1), if_pos h1]
      · rw [if_neg (fun q => h1 (e.1 q)), if_neg h1]
        split <;> rfl
    · rw [if_neg h0, if_neg h0]
  · rw [if_neg hx]
    unfold F61
    dsimp only
    rw [read_err n hn b x hx]
    simp only [obind_s]
    have : F41 n (some (b, x)) = some (decide (x = 0), some (b, x)) := rfl
    rw [this, dec_f hx]; rfl
theorem f68 (n : Nat) (hn : 10 < n) (s : RS) (h : s.1.length < 2 ^ 62) (m : UInt64) : F62 n (some s, m) = some ((rCount m s).1, some (rCount m s).2) := by
  unfold F62 rCount rbind
  dsimp only
  rw [f50 n hn s h]
  simp only [obind_s]
  by_cases hm : m < (rUint s).1
  · rw [dec_t hm, oite_t, if_pos hm, f53]; rfl
  · rw [dec_f hm, oite_f, if_neg hm]; rfl
theorem f69 (n : Nat) (hn : 10 < n) (s : RS) (h : s.1.length < 2 ^ 62) : F63 n (some s) = some ((rInt s).1, some (rInt s).2) := by
  unfold F63 rInt rbind
  rw [f50 n hn s h]; rfl
theorem f48 (n : Nat) (s : RS) (h : s.1.length < 2 ^ 62) : F43 n (some s) = some ((rBool s).1, some (rBool s).2) := by
  unfold F43 rBool rbind
  rw [f49 n s h]
  simp only [obind_s]
  by_cases hm : 1 < (rByte s).1
  · rw [dec_t hm, oite_t, if_pos hm, f53]; rfl
  · rw [dec_f hm, oite_f, if_neg hm]; rfl
def rDone : Rd Int64 := fun s => if s.2 = 0 then (if 0 < s.1.length then (25, (s.1, 25)) else (0, s)) else (s.2, s)
theorem f29 (n : Nat) (s : RS) (h : s.1.length < 2 ^ 62) : F25 n (some s) = some ((rDone s).1, some (rDone s).2) := by
  obtain ⟨b, x⟩ := s
  have e66 : F41 n (some (b, x)) = some (decide (x = 0), some (b, x)) := rfl
  unfold F25 F47 rDone
  rw [e66]
  by_cases hx : x = 0
  · subst hx
    simp only [obind_s, decide_true, Bool.not_true, oite_f, if_true]
    have e : decide ((0 : Int64) < Int64.ofInt ↑b.length) = decide (0 < b.length) := decide_eq_decide.2 (i64_lt (a := 0) (by omega) (Nat.lt_trans h (by decide)))
    rw [e]
    by_cases hb : 0 < b.length
    · rw [dec_t hb, if_pos hb]; rfl
    · rw [dec_f hb, if_neg hb]; rfl
  · rw [dec_f hx]
    simp only [obind_s, Bool.not_false, oite_t, if_neg hx]
    rfl

/-! ### An item's reader -/
def rLabs : Nat → List Pair → Rd (List Pair)
  | 0, vl => rret vl
  | k + 1, vl => rbind (rText 8) fun a => rbind (rText 16) fun b => rLabs k (vl ++ [(a, b)])
def rEnd (o : UInt8) (seq t : UInt64) (rule : List UInt8) (vl : List Pair) : Rd EvT :=
  rbind rByte fun st => rbind rByte fun p => rbind rInt fun v => rbind rByte fun w => rret (o, seq, t, rule, vl, st, p, v, w)
def rEvent : Rd EvT := rbind rByte fun o => rbind rUint fun seq => rbind rUint fun t => rbind (rText 12) fun rule => rbind (rCount 8) fun c => rbind (rLabs c.toNat []) fun vl => rEnd o seq t rule vl
def rGap : Rd (UInt8 × UInt64 × UInt64) := rbind rByte fun o => rbind rUint fun a => rbind rUint fun b => rret (o, a, b)
def gapI (g : UInt8 × UInt64 × UInt64) : ItT := (true, 0, 0, 0, [], [], 0, 0, 0, 0, g.1, g.2.1, g.2.2)
def evI (e : EvT) : ItT := (false, e.1, e.2.1, e.2.2.1, e.2.2.2.1, e.2.2.2.2.1, e.2.2.2.2.2.1, e.2.2.2.2.2.2.1, e.2.2.2.2.2.2.2.1, e.2.2.2.2.2.2.2.2, 0, 0, 0)
def zeroI : ItT := (false, 0, 0, 0, [], [], 0, 0, 0, 0, 0, 0, 0)
def rItem0 : Rd ItT := rbind rBool fun g => if g = true then rbind rGap fun g => rret (gapI g) else rbind rEvent fun e => rret (evI e)
def rCheck (x : ItT) : Rd ItT := fun s => if s.2 = 0 then (if itCheck x = 0 then (x, s) else (zeroI, (s.1, itCheck x))) else (zeroI, s)
def rItem : Rd ItT := rbind rItem0 rCheck
theorem stick_labs : ∀ k vl, Stick (rLabs k vl)
  | 0, _ => stick_ret _
  | k + 1, _ => stick_bind (stick_text _) fun _ => stick_bind (stick_text _) fun _ => stick_labs k _
theorem short_labs : ∀ k vl, Short (rLabs k vl)
  | 0, _ => short_ret _
  | k + 1, _ => short_bind (short_text _) fun _ => short_bind (short_text _) fun _ => short_labs k _
theorem stick_end (o : UInt8) (seq t : UInt64) (rule : List UInt8) (vl : List Pair) : Stick (rEnd o seq t rule vl) :=
  stick_bind stick_byte fun _ => stick_bind stick_byte fun _ => stick_bind stick_int fun _ => stick_bind stick_byte fun _ => stick_ret _
theorem short_end (o : UInt8) (seq t : UInt64) (rule : List UInt8) (vl : List Pair) : Short (rEnd o seq t rule vl) :=
  short_bind short_byte fun _ => short_bind short_byte fun _ => short_bind short_int fun _ => short_bind short_byte fun _ => short_ret _
theorem stick_event : Stick rEvent := stick_bind stick_byte fun _ => stick_bind stick_uint fun _ => stick_bind stick_uint fun _ => stick_bind (stick_text _) fun _ => stick_bind (stick_count _) fun _ => stick_bind (stick_labs _ _) fun _ => stick_end _ _ _ _ _
theorem short_event : Short rEvent := short_bind short_byte fun _ => short_bind short_uint fun _ => short_bind short_uint fun _ => short_bind (short_text _) fun _ => short_bind (short_count _) fun _ => short_bind (short_labs _ _) fun _ => short_end _ _ _ _ _
theorem stick_gap : Stick rGap := stick_bind stick_byte fun _ => stick_bind stick_uint fun _ => stick_bind stick_uint fun _ => stick_ret _
theorem short_gap : Short rGap := short_bind short_byte fun _ => short_bind short_uint fun _ => short_bind short_uint fun _ => short_ret _
theorem stick_item0 : Stick rItem0 := stick_bind stick_bool fun _ => stick_if (stick_bind stick_gap fun _ => stick_ret _) (stick_bind stick_event fun _ => stick_ret _)
theorem short_item0 : Short rItem0 := short_bind short_bool fun _ => short_if (short_bind short_gap fun _ => short_ret _) (short_bind short_event fun _ => short_ret _)
theorem stick_check (x : ItT) : Stick (rCheck x) := fun s hs => by unfold rCheck; rw [if_neg hs]
theorem short_check (x : ItT) : Short (rCheck x) := fun s => by
  unfold rCheck
  split
  · split <;> exact Nat.le_refl _
  · exact Nat.le_refl _
theorem stick_item : Stick rItem := stick_bind stick_item0 stick_check
theorem short_item : Short rItem := short_bind short_item0 short_check

/-! what is read is short -/
def Vals {α : Type} (r : Rd α) (P : α → Prop) : Prop := ∀ s, P (r s).1
theorem vals_bind {α β : Type} {r : Rd α} {f : α → Rd β} {P : α → Prop} {Q : β → Prop} (h : Vals r P) (hf : ∀ x, P x → Vals (f x) Q) : Vals (rbind r f) Q := fun s => hf _ (h s) _
theorem vals_ret {α : Type} {x : α} {P : α → Prop} (h : P x) : Vals (rret x) P := fun _ => h
theorem vals_any {α : Type} (r : Rd α) : Vals r fun _ => True := fun _ => trivial
theorem vals_text (m : Nat) : Vals (rText m) fun s => s.length ≤ m := fun s => by
  unfold rText
  split
  · split
    · split
      · simp
      · split
        · simp
        · simp; omega
    · simp
  · simp
theorem vals_count (m : UInt64) : Vals (rCount m) fun c => c.toNat ≤ m.toNat := by
  refine vals_bind (vals_any _) fun v _ => ?_
  by_cases h : m < v
  · rw [if_pos h]; exact fun _ => by show (0 : UInt64).toNat ≤ _; exact Nat.zero_le _
  · rw [if_neg h]; exact fun _ => by have := mt UInt64.lt_iff_toNat_lt.2 h; show v.toNat ≤ _; omega
def Tiny (vl : List Pair) : Prop := ∀ p ∈ vl, p.1.length ≤ 8 ∧ p.2.length ≤ 16
theorem vals_labs : ∀ k vl, Tiny vl → Vals (rLabs k vl) fun l => l.length = vl.length + k ∧ Tiny l
  | 0, _, h => vals_ret ⟨rfl, h⟩
  | k + 1, vl, h => vals_bind (vals_text 8) fun a ha => vals_bind (vals_text 16) fun b hb => fun s => by
    have := vals_labs k (vl ++ [(a, b)]) (fun p hp => by
      rcases List.mem_append.1 hp with hp | hp
      · exact h p hp
      · simp at hp; subst hp; exact ⟨ha, hb⟩) s
    refine ⟨?_, this.2⟩
    have h1 := this.1
    simp only [List.length_append, List.length_singleton] at h1
    omega
theorem vals_event : Vals rEvent fun e => e.2.2.2.1.length ≤ 12 ∧ e.2.2.2.2.1.length ≤ 8 ∧ Tiny e.2.2.2.2.1 :=
  vals_bind (vals_any _) fun _ _ => vals_bind (vals_any _) fun _ _ => vals_bind (vals_any _) fun _ _ => vals_bind (vals_text 12) fun _ h1 => vals_bind (vals_count 8) fun c h2 =>
    vals_bind (vals_labs _ [] (by intro p hp; cases hp)) fun _ h3 => vals_bind (vals_any _) fun _ _ => vals_bind (vals_any _) fun _ _ => vals_bind (vals_any _) fun _ _ => vals_bind (vals_any _) fun _ _ => vals_ret
      ⟨h1, by have := h3.1; have e : (8 : UInt64).toNat = 8 := rfl; simp at this; dsimp only; omega, h3.2⟩
theorem vals_item0 : Vals rItem0 fun x => x.2.2.2.2.1.length ≤ 12 ∧ x.2.2.2.2.2.1.length ≤ 8 ∧ Tiny x.2.2.2.2.2.1 :=
  vals_bind (vals_any _) fun g _ => by
    cases g with
    | true => rw [if_pos rfl]; exact vals_bind (vals_any _) fun _ _ => vals_ret ⟨by simp [gapI], by simp [gapI], by intro p hp; cases hp⟩
    | false => rw [if_neg (by decide)]; exact vals_bind vals_event fun _ h => vals_ret h
theorem tiny_fit {x : ItT} (h : x.2.2.2.2.1.length ≤ 12 ∧ x.2.2.2.2.2.1.length ≤ 8 ∧ Tiny x.2.2.2.2.2.1) : FitI x 30 := by
  refine ⟨⟨by omega, by omega⟩, by omega, fun p hp => ?_⟩
  have := h.2.2 p hp
  omega

/-! ### The code is that reader -/
theorem u64_lt {a b : Nat} (ha : a < 2 ^ 64) (hb : b < 2 ^ 64) : (UInt64.ofNat a < UInt64.ofNat b) ↔ a < b := by
  rw [UInt64.lt_iff_toNat_lt, u64_ofNat ha, u64_ofNat hb]
theorem u64_succ (a : Nat) : UInt64.ofNat a + 1 = UInt64.ofNat (a + 1) := by
  apply UInt64.toNat.inj
  rw [UInt64.toNat_add, UInt64.toNat_ofNat', UInt64.toNat_ofNat']; simp
theorem labs_loop (n : Nat) (hn : 10 < n) (T : Nat) (hT : T ≤ 8) (t0 : UInt8) (t1 t2 : UInt64) (t3 : List UInt8) (t5 t6 : UInt8) (t7 : Int64) (t8 : UInt8) (v0 : UInt8) (v1 v2 : UInt64) (v3 : List UInt8) (v5 v6 : UInt8) (v7 : Int64) (v8 : UInt8) :
    ∀ (k i m : Nat) (s : RS) (vl : List Pair), i + k = T → k < m → vl.length ≤ i → s.1.length < 2 ^ 62 →
      F44_R1021 n m (UInt64.ofNat T) (UInt64.ofNat i) (some s) t0 t1 t2 t3 t5 t6 t7 t8 v0 v1 v2 v3 v5 v6 v7 v8 vl =
        some ((rbind (rLabs k vl) (rEnd v0 v1 v2 v3) s).1, some (rbind (rLabs k vl) (rEnd v0 v1 v2 v3) s).2) := by
  intro k
  induction k with
  | zero =>
    intro i m s vl hi hm hvl hs
    obtain ⟨m, rfl⟩ : ∃ j, m = j + 1 := ⟨m - 1, by omega⟩
    have h1 := short_byte s
    have h2 := short_byte (rByte s).2
    have h3 := short_int (rByte (rByte s).2).2
    rw [F44_R1021_s]
    unfold F44_L1021
    rw [dec_f (fun q => by have := (u64_lt (by omega) (by omega)).1 q; omega), oite_f, f49 n s hs]
    simp only [obind_s]
    rw [f49 n _ (by omega)]
    simp only [obind_s]
    rw [f69 n hn _ (by omega)]
    simp only [obind_s]
    rw [f49 n _ (by omega)]
    rfl
  | succ k ih =>
    intro i m s vl hi hm hvl hs
    obtain ⟨m, rfl⟩ : ∃ j, m = j + 1 := ⟨m - 1, by omega⟩
    have h1 := short_text 8 s
    have h2 := short_text 16 (rText 8 s).2
    rw [F44_R1021_s]
    unfold F44_L1021
    rw [dec_t ((u64_lt (by omega) (by omega)).2 (by omega)), oite_t, show (8 : Int64) = I64 8 from rfl, f67 n hn s hs 8 (by omega)]
    simp only [obind_s]
    rw [show (16 : Int64) = I64 16 from rfl, f67 n hn _ (by omega) 16 (by omega)]
    simp only [obind_s]
    rw [ble_t (by simp; omega), oite_t, u64_succ, ih (i + 1) m _ _ (by omega) (by omega) (by simp; omega) (by omega)]
    rfl
theorem shorter {α : Type} {r : Rd α} (h : Short r) {s : RS} {v : α} {t : RS} (e : r s = (v, t)) (hs : s.1.length < 2 ^ 62) : t.1.length < 2 ^ 62 := by
  have := h s; rw [e] at this; exact Nat.lt_of_le_of_lt this hs
theorem f51 (n : Nat) (hn : 30 < n) (s : RS) (hs : s.1.length < 2 ^ 62) : F44 n (some s) = some ((rEvent s).1, some (rEvent s).2) := by
  rcases e1 : rByte s with ⟨o, s1⟩
  have l1 := shorter short_byte e1 hs
  rcases e2 : rUint s1 with ⟨seq, s2⟩
  have l2 := shorter short_uint e2 l1
  rcases e3 : rUint s2 with ⟨t, s3⟩
  have l3 := shorter short_uint e3 l2
  rcases e4 : rText 12 s3 with ⟨rule, s4⟩
  have l4 := shorter (short_text 12) e4 l3
  rcases e5 : rCount 8 s4 with ⟨c, s5⟩
  have l5 := shorter (short_count 8) e5 l4
  have hc : c.toNat ≤ (8 : UInt64).toNat := by have := vals_count 8 s4; rw [e5] at this; exact this
  have e8 : (8 : UInt64).toNat = 8 := rfl
  have hE : rEvent s = rbind (rLabs c.toNat []) (rEnd o seq t rule) s5 := by simp only [rEvent, rbind, e1, e2, e3, e4, e5]
  unfold F44
  rw [f49 n s hs, e1]
  simp only [obind_s]
  rw [f50 n (by omega) _ l1, e2]
  simp only [obind_s]
  rw [f50 n (by omega) _ l2, e3]
  simp only [obind_s]
  rw [show (12 : Int64) = I64 12 from rfl, f67 n (by omega) _ l3 12 (by omega), e4]
  simp only [obind_s]
  rw [f68 n (by omega) _ l4, e5]
  simp only [obind_s]
  have := labs_loop n (by omega) c.toNat (by omega) 0 0 0 [] 0 0 0 0 o seq t rule 0 0 0 0 c.toNat 0 n s5 [] (by omega) (by omega) (by simp) l5
  rw [UInt64.ofNat_toNat] at this
  rw [hE]
  exact this
theorem f28 (n : Nat) (hn : 30 < n) (s : RS) (hs : s.1.length < 2 ^ 62) : F24 n (some s) = some ((rItem s).1, some (rItem s).2) := by
  have hv := vals_item0 s
  -- the check
  have fin : ∀ (x : ItT) (q : RS) (t0 : Bool) (t1 : UInt8) (t2 t3 : UInt64) (t4 : List UInt8) (t6 t7 : UInt8) (t8 : Int64) (t9 t10 : UInt8) (t11 t12 : UInt64), (x.2.2.2.2.1.length ≤ 12 ∧ x.2.2.2.2.2.1.length ≤ 8 ∧ Tiny x.2.2.2.2.2.1) →
      F24_J7 n (some q) t0 t1 t2 t3 t4 t6 t7 t8 t9 t10 t11 t12 x.1 x.2.1 x.2.2.1 x.2.2.2.1 x.2.2.2.2.1 x.2.2.2.2.2.1 x.2.2.2.2.2.2.1 x.2.2.2.2.2.2.2.1 x.2.2.2.2.2.2.2.2.1 x.2.2.2.2.2.2.2.2.2.1 x.2.2.2.2.2.2.2.2.2.2.1 x.2.2.2.2.2.2.2.2.2.2.2.1 x.2.2.2.2.2.2.2.2.2.2.2.2 =
        some ((rCheck x q).1, some (rCheck x q).2) := by
    intro x q t0 t1 t2 t3 t4 t6 t7 t8 t9 t10 t11 t12 hx
    have hi := it_eq n 30 (by omega) x (tiny_fit hx)
    unfold F24_J7 F24_J15 rCheck
    rw [ojoinA_eq, f52]
    simp only [obind_s, f52]
    by_cases hq : q.2 = 0
    · rw [dec_t hq, oite_t, if_pos hq, show (x.1, x.2.1, x.2.2.1, x.2.2.2.1, x.2.2.2.2.1, x.2.2.2.2.2.1, x.2.2.2.2.2.2.1, x.2.2.2.2.2.2.2.1, x.2.2.2.2.2.2.2.2.1, x.2.2.2.2.2.2.2.2.2.1, x.2.2.2.2.2.2.2.2.2.2.1, x.2.2.2.2.2.2.2.2.2.2.2.1, x.2.2.2.2.2.2.2.2.2.2.2.2) = x from rfl, hi]
      simp only [obind_s, f53]
      by_cases hc : itCheck x = 0
      · rw [dec_t hc, if_pos hc]
        simp only [Bool.not_true, oite_f]
      · rw [dec_f hc, if_neg hc]
        unfold rFail
        simp only [Bool.not_false, oite_t, if_pos hq, f52, obind_s, dec_f hc]
        rfl
    · rw [dec_f hq, if_neg hq]
      simp only [oite_f, Bool.not_false, oite_t]
      rfl
  rcases e1 : rBool s with ⟨g, s1⟩
  have l1 := shorter short_bool e1 hs
  unfold F24
  rw [f48 n s hs, e1]
  simp only [obind_s, ojoinA_eq]
  have hsplit : rItem s = rCheck (rItem0 s).1 (rItem0 s).2 := rfl
  have h0 : rItem0 s = (if g = true then rbind rGap (fun g => rret (gapI g)) else rbind rEvent fun e => rret (evI e)) s1 := by simp only [rItem0, rbind, e1]
  cases g with
  | true =>
    rw [if_pos rfl] at h0
    rcases e2 : rByte s1 with ⟨o, s2⟩
    have l2 := shorter short_byte e2 l1
    rcases e3 : rUint s2 with ⟨a, s3⟩
    have l3 := shorter short_uint e3 l2
    rcases e4 : rUint s3 with ⟨b, s4⟩
    have h0' : rItem0 s = (gapI (o, a, b), s4) := by rw [h0]; simp only [rGap, rbind, e2, e3, e4, rret]
    rw [h0'] at hv
    rw [hsplit, h0', oite_t, f49 n _ l1, e2]
    simp only [obind_s]
    rw [f50 n (by omega) _ l2, e3]
    simp only [obind_s]
    rw [f50 n (by omega) _ l3, e4]
    simp only [obind_s]
    exact fin (gapI (o, a, b)) s4 _ _ _ _ _ _ _ _ _ _ _ _ hv
  | false =>
    rw [if_neg (by decide)] at h0
    rcases e2 : rEvent s1 with ⟨e, s2⟩
    have h0' : rItem0 s = (evI e, s2) := by rw [h0]; simp only [rbind, e2, rret]
    rw [h0'] at hv
    rw [hsplit, h0', oite_f, f51 n hn _ l1, e2]
    simp only [obind_s]
    exact fin (evI e) s2 _ _ _ _ _ _ _ _ _ _ _ _ hv

/-! ### What is put -/
def labsB : List Pair → List UInt8
  | [] => []
  | p :: r => encT p.1 ++ (encT p.2 ++ labsB r)
def tailB (st p : UInt8) (v : Int64) (w : UInt8) : List UInt8 := [st] ++ ([p] ++ (enc (zig v) ++ [w]))
def evB (e : EvT) : List UInt8 :=
  [e.1] ++ (enc e.2.1 ++ (enc e.2.2.1 ++ (encT e.2.2.2.1 ++ (enc (UInt64.ofNat e.2.2.2.2.1.length) ++ (labsB e.2.2.2.2.1 ++ tailB e.2.2.2.2.2.1 e.2.2.2.2.2.2.1 e.2.2.2.2.2.2.2.1 e.2.2.2.2.2.2.2.2)))))
def gapB (g : UInt8 × UInt64 × UInt64) : List UInt8 := [g.1] ++ (enc g.2.1 ++ enc g.2.2)
def evOf (x : ItT) : EvT := (x.2.1, x.2.2.1, x.2.2.2.1, x.2.2.2.2.1, x.2.2.2.2.2.1, x.2.2.2.2.2.2.1, x.2.2.2.2.2.2.2.1, x.2.2.2.2.2.2.2.2.1, x.2.2.2.2.2.2.2.2.2.1)
def gapOf (x : ItT) : UInt8 × UInt64 × UInt64 := x.2.2.2.2.2.2.2.2.2.2
def itB (x : ItT) : List UInt8 := [if x.1 then 1 else 0] ++ (if x.1 then gapB (gapOf x) else evB (evOf x))
def normI (x : ItT) : ItT := if x.1 then gapI (gapOf x) else evI (evOf x)
theorem encT_len (s : List UInt8) : (encT s).length ≤ s.length + 10 := by
  have := enc_len (UInt64.ofNat s.length)
  unfold encT; simp; omega

theorem byte_put (n : Nat) (w : List UInt8) (c : UInt8) (hw : w.length + 10 ≤ 4294967296) : F30 n (some w, c) = some ((), some (w ++ [c])) := by
  unfold F30
  rw [oelim_s, ble_t (by simp; omega), oite_t]
theorem int_put (n : Nat) (hn : 10 < n) (w : List UInt8) (x : Int64) (hw : w.length + 10 ≤ 4294967296) : F57 n (some w, x) = some ((), some (w ++ enc (zig x))) := by
  unfold F57
  dsimp only
  rw [zig_prog x, uint_spec n hn w _ hw]; rfl
theorem txt_put (n : Nat) (hn : 10 < n) (w s : List UInt8) (h : w.length + s.length ≤ 4000000000) : F56 n (some w, s) = some ((), some (w ++ encT s)) := text_put n hn w s h
theorem bool_put (n : Nat) (w : List UInt8) (b : Bool) (hw : w.length + 10 ≤ 4294967296) : F55 n (some w, b) = some ((), some (w ++ [if b then 1 else 0])) := by
  unfold F55
  cases b with
  | true => dsimp only; rw [oite_t, byte_put n w 1 hw]; rfl
  | false => dsimp only; rw [oite_f, byte_put n w 0 hw]; rfl
theorem labs_put (n : Nat) (hn : 10 < n) (t : List Pair) (ht : t.length < 2 ^ 63) (v0 : UInt8) (v1 v2 : UInt64) (v3 : List UInt8) (v4 : List Pair) (v5 v6 : UInt8) (v7 : Int64) (v8 : UInt8) :
    ∀ (m k : Nat) (w : List UInt8), k ≤ t.length → t.length - k < m → w.length + (labsB (t.drop k)).length ≤ 3000000000 →
      F32_R4093 n m t (I64 t.length) (I64 k) (some w) v0 v1 v2 v3 v4 v5 v6 v7 v8 = some ((), some (w ++ (labsB (t.drop k) ++ tailB v5 v6 v7 v8))) := by
  intro m
  induction m with
  | zero => intro k w _ h; omega
  | succ m ih =>
    intro k w hk hm hw
    rw [F32_R4093_s]
    unfold F32_L4093
    by_cases hlt : k < t.length
    · rw [List.drop_eq_getElem_cons hlt] at hw ⊢
      have e1 : (encT t[k].1).length = (enc (UInt64.ofNat t[k].1.length)).length + t[k].1.length := by unfold encT; simp
      have e2 : (encT t[k].2).length = (enc (UInt64.ofNat t[k].2.length)).length + t[k].2.length := by unfold encT; simp
      simp only [labsB, List.length_append] at hw
      rw [dec_t ((i64_lt (by omega) ht).2 hlt), oite_t, at_i64_lt (by omega) hlt]
      simp only [obind_s]
      rw [txt_put n hn w _ (by omega)]
      simp only [obind_s]
      rw [txt_put n hn _ _ (by simp; omega)]
      simp only [obind_s]
      rw [i64_succ, ih (k + 1) _ (by omega) (by omega) (by simp; omega)]
      simp only [labsB, List.append_assoc]
    · have : k = t.length := by omega
      subst this
      rw [dec_f (fun q => hlt ((i64_lt (by omega) ht).1 q)), oite_f, List.drop_length]
      have hz := enc_len (zig v7)
      rw [byte_put n w v5 (by omega)]
      simp only [obind_s]
      rw [byte_put n _ v6 (by simp; omega)]
      simp only [obind_s]
      rw [int_put n hn _ v7 (by simp; omega)]
      simp only [obind_s]
      rw [byte_put n _ v8 (by simp; omega)]
      simp only [obind_s, labsB, tailB, List.append_assoc, List.nil_append]
theorem it_put (n : Nat) (x : ItT) (hl : x.2.2.2.2.2.1.length < 2 ^ 63) (hn : x.2.2.2.2.2.1.length + 10 < n) (w : List UInt8) (hw : w.length + x.2.2.2.2.1.length + (labsB x.2.2.2.2.2.1).length ≤ 2000000000) :
    F32 n (some w, x) = some ((), some (w ++ itB x)) := by
  obtain ⟨g, o, seq, time, rule, labels, state, prio, v, own, go, ga, gb⟩ := x
  unfold F32
  dsimp only at hl hn hw ⊢
  rw [bool_put n w g (by omega)]
  simp only [obind_s]
  cases g with
  | true =>
    have q1 := enc_len ga
    rw [oite_t, byte_put n _ go (by simp; omega)]
    simp only [obind_s]
    rw [uint_spec n (by omega) _ ga (by simp; omega)]
    simp only [obind_s]
    rw [uint_spec n (by omega) _ gb (by simp; omega)]
    simp only [obind_s, itB, gapB, gapOf, if_true, List.append_assoc]
  | false =>
    have q1 := enc_len seq
    have q2 := enc_len time
    have q3 := encT_len rule
    have q4 := enc_len (UInt64.ofNat labels.length)
    rw [oite_f, byte_put n _ o (by simp; omega)]
    simp only [obind_s]
    rw [uint_spec n (by omega) _ seq (by simp; omega)]
    simp only [obind_s]
    rw [uint_spec n (by omega) _ time (by simp; omega)]
    simp only [obind_s]
    rw [txt_put n (by omega) _ rule (by simp; omega)]
    simp only [obind_s]
    rw [show Int64.ofInt ↑labels.length = I64 labels.length from rfl, lenU hl, uint_spec n (by omega) _ _ (by simp; omega)]
    simp only [obind_s]
    have := labs_put n (by omega) labels hl o seq time rule labels state prio v own n 0 (w ++ [if false = true then 1 else 0] ++ [o] ++ enc seq ++ enc time ++ encT rule ++ enc (UInt64.ofNat labels.length)) (by omega) (by omega) (by simp; omega)
    rw [show (0 : Int64) = I64 0 from rfl, this]
    simp only [itB, evB, evOf, List.drop_zero, List.append_assoc]
    rfl
/-! ### What is put comes back -/
theorem labs_good : ∀ (l vl : List Pair), Tiny l → RdOf (rLabs l.length vl) (labsB l) (vl ++ l)
  | [], vl, _ => by rw [List.append_nil]; exact good_ret vl
  | (a, b) :: r, vl, h => by
    obtain ⟨ha, hb⟩ := h (a, b) (by simp)
    have ih := labs_good r (vl ++ [(a, b)]) (fun p hp => h p (by simp [hp]))
    rw [List.append_assoc] at ih
    show RdOf (rbind (rText 8) fun a => rbind (rText 16) fun b => rLabs r.length (vl ++ [(a, b)])) (encT a ++ (encT b ++ labsB r)) _
    refine good_bind (good_text 8 a ha (by decide)) ?_ (fun _ => stick_bind (stick_text _) fun _ => stick_labs _ _)
    exact good_bind (good_text 16 b hb (by decide)) ih (fun _ => stick_labs _ _)
theorem end_good (o : UInt8) (seq t : UInt64) (rule : List UInt8) (vl : List Pair) (st p : UInt8) (v : Int64) (w : UInt8) : RdOf (rEnd o seq t rule vl) (tailB st p v w) (o, seq, t, rule, vl, st, p, v, w) := by
  have h := good_bind (f := fun w => rret (o, seq, t, rule, vl, st, p, v, w)) (good_byte w) (good_ret (o, seq, t, rule, vl, st, p, v, w)) (fun _ => stick_ret _)
  rw [List.append_nil] at h
  unfold rEnd tailB
  refine good_bind (good_byte st) ?_ (fun _ => stick_bind stick_byte fun _ => stick_bind stick_int fun _ => stick_bind stick_byte fun _ => stick_ret _)
  refine good_bind (good_byte p) ?_ (fun _ => stick_bind stick_int fun _ => stick_bind stick_byte fun _ => stick_ret _)
  exact good_bind (good_int v) h (fun _ => stick_bind stick_byte fun _ => stick_ret _)
theorem event_good (e : EvT) (h1 : e.2.2.2.1.length ≤ 12) (h2 : e.2.2.2.2.1.length ≤ 8) (h3 : Tiny e.2.2.2.2.1) : RdOf rEvent (evB e) e := by
  obtain ⟨o, seq, t, rule, vl, st, p, v, w⟩ := e
  dsimp only at h1 h2 h3
  have hc : ¬ (8 : UInt64) < UInt64.ofNat vl.length := fun q => by
    have := (u64_lt (a := 8) (by omega) (by omega)).1 q; omega
  have hl := labs_good vl [] h3
  have hl2 : (UInt64.ofNat vl.length).toNat = vl.length := u64_ofNat (by omega)
  rw [List.nil_append] at hl
  unfold rEvent evB
  refine good_bind (good_byte o) ?_ (fun _ => stick_bind stick_uint fun _ => stick_bind stick_uint fun _ => stick_bind (stick_text _) fun _ => stick_bind (stick_count _) fun _ => stick_bind (stick_labs _ _) fun _ => stick_end _ _ _ _ _)
  refine good_bind (good_uint seq) ?_ (fun _ => stick_bind stick_uint fun _ => stick_bind (stick_text _) fun _ => stick_bind (stick_count _) fun _ => stick_bind (stick_labs _ _) fun _ => stick_end _ _ _ _ _)
  refine good_bind (good_uint t) ?_ (fun _ => stick_bind (stick_text _) fun _ => stick_bind (stick_count _) fun _ => stick_bind (stick_labs _ _) fun _ => stick_end _ _ _ _ _)
  refine good_bind (good_text 12 rule h1 (by decide)) ?_ (fun _ => stick_bind (stick_count _) fun _ => stick_bind (stick_labs _ _) fun _ => stick_end _ _ _ _ _)
  refine good_bind (good_count 8 _ hc) ?_ (fun _ => stick_bind (stick_labs _ _) fun _ => stick_end _ _ _ _ _)
  rw [hl2]
  exact good_bind hl (end_good o seq t rule vl st p v w) (fun _ => stick_end _ _ _ _ _)
theorem gap_good (g : UInt8 × UInt64 × UInt64) : RdOf rGap (gapB g) g := by
  obtain ⟨o, a, b⟩ := g
  have h := good_bind (f := fun b => rret (o, a, b)) (good_uint b) (good_ret (o, a, b)) (fun _ => stick_ret _)
  rw [List.append_nil] at h
  unfold rGap gapB
  refine good_bind (good_byte o) ?_ (fun _ => stick_bind stick_uint fun _ => stick_bind stick_uint fun _ => stick_ret _)
  exact good_bind (good_uint a) h (fun _ => stick_bind stick_uint fun _ => stick_ret _)
def Fair (x : ItT) : Prop := x.1 = true ∨ (x.2.2.2.2.1.length ≤ 12 ∧ x.2.2.2.2.2.1.length ≤ 8 ∧ Tiny x.2.2.2.2.2.1)
theorem item0_good (x : ItT) (h : Fair x) : RdOf rItem0 (itB x) (normI x) := by
  unfold rItem0 itB normI
  refine good_bind (good_bool x.1) ?_ (fun _ => stick_if (stick_bind stick_gap fun _ => stick_ret _) (stick_bind stick_event fun _ => stick_ret _))
  cases hx : x.1 with
  | true =>
    have := good_bind (f := fun g => rret (gapI g)) (gap_good (gapOf x)) (good_ret (gapI (gapOf x))) (fun _ => stick_ret _)
    rw [List.append_nil] at this
    simpa using this
  | false =>
    rcases h with h | ⟨h1, h2, h3⟩
    · rw [hx] at h; cases h
    · have := good_bind (f := fun e => rret (evI e)) (event_good (evOf x) h1 h2 h3) (good_ret (evI (evOf x))) (fun _ => stick_ret _)
      rw [List.append_nil] at this
      simpa using this
theorem check_norm (x : ItT) : itCheck (normI x) = itCheck x := by
  obtain ⟨g, o, seq, time, rule, labels, state, prio, v, own, go, ga, gb⟩ := x
  cases g <;> rfl
theorem item_good (x : ItT) (h : Fair x) (hc : itCheck x = 0) : RdOf rItem (itB x) (normI x) := by
  have := good_bind (f := rCheck) (item0_good x h) (w' := []) (v' := normI x) ⟨fun rest => by unfold rCheck; rw [if_pos rfl, if_pos (by rw [check_norm]; exact hc)]; rfl, fun k hk => absurd hk (by simp)⟩ stick_check
  rwa [List.append_nil] at this

/-! ### The same -/
theorem same_loop (l : List Pair) (hl : l.length < 2 ^ 63) : ∀ (m k : Nat), k ≤ l.length → l.length - k < m → F49_R29 m l l (I64 k) = some (true, ()) := by
  intro m
  induction m with
  | zero => intro k _ h; omega
  | succ m ih =>
    intro k hk hm
    rw [F49_R29_s]
    unfold F49_L29
    by_cases hlt : k < l.length
    · rw [dec_t ((i64_lt (by omega) hl).2 hlt), oite_t, at_i64_lt (by omega) hlt]
      simp only [obind_s, beq_self_eq_true, Bool.and_true, Bool.not_true, oite_f]
      rw [i64_succ]; exact ih (k + 1) (by omega) (by omega)
    · rw [dec_f (fun q => hlt ((i64_lt (by omega) hl).1 q)), oite_f]
theorem same_list (n : Nat) (l : List Pair) (hl : l.length < 2 ^ 63) (hn : l.length < n) : F49 n (l, l) = some (true, ()) := by
  unfold F49
  simp only [decide_true, Bool.not_true, oite_f]
  exact same_loop l hl n 0 (by omega) (by omega)
theorem same_norm (n : Nat) (x : ItT) (hl : x.2.2.2.2.2.1.length < 2 ^ 63) (hn : x.2.2.2.2.2.1.length < n) : F27 n (normI x, x) = some (true, ()) := by
  obtain ⟨g, o, seq, time, rule, labels, state, prio, v, own, go, ga, gb⟩ := x
  dsimp only at hl hn
  cases g with
  | true =>
    unfold F27 normI gapI gapOf
    simp
    rfl
  | false =>
    have := same_list n labels hl hn
    unfold F27 normI evI evOf
    simp [this, oite_t, oite_f, obind_s]
def itI (n : Nat) (z : SmT) : ItT := match F17 n z with | some (x, _) => x | none => zeroI
theorem itI_eq (n : Nat) (hn : 20 < n) (z : SmT) : F17 n z = some (itI n z, ()) ∧ Small (itI n z) := by
  obtain ⟨x, h1, h2⟩ := item_small n hn z
  have : itI n z = x := by unfold itI; rw [h1]
  rw [this]; exact ⟨h1, h2⟩
theorem Small.fair {x : ItT} (h : Small x) : Fair x := .inr ⟨h.rule, by have := h.labs; omega, fun p hp => by have := h.each p hp; omega⟩
theorem labsB_len : ∀ l : List Pair, (∀ p ∈ l, p.1.length = 1 ∧ p.2.length = 1) → (labsB l).length ≤ 22 * l.length
  | [], _ => by simp [labsB]
  | p :: r, h => by
    have h1 := h p (by simp)
    have h2 := labsB_len r (fun q hq => h q (by simp [hq]))
    have h3 := encT_len p.1
    have h4 := encT_len p.2
    simp only [labsB, List.length_append, List.length_cons]
    omega
theorem Small.len {x : ItT} (h : Small x) : (labsB x.2.2.2.2.2.1).length ≤ 66 ∧ (itB x).length ≤ 200 ∧ 0 < (itB x).length := by
  have h1 := labsB_len _ h.each
  have h2 := h.labs
  have h3 := h.rule
  obtain ⟨g, o, seq, time, rule, labels, state, prio, v, own, go, ga, gb⟩ := x
  dsimp only at h1 h2 h3 ⊢
  have a1 := enc_len seq
  have a2 := enc_len time
  have a3 := encT_len rule
  have a4 := enc_len (UInt64.ofNat labels.length)
  have a5 := enc_len (zig v)
  have a6 := enc_len ga
  have a7 := enc_len gb
  refine ⟨by omega, ?_, ?_⟩
  · unfold itB
    cases g with
    | true => simp [gapB, gapOf]; omega
    | false => simp [evB, evOf, tailB]; omega
  · unfold itB; simp
def allI (n : Nat) : List SmT → List UInt8
  | [] => []
  | z :: r => itB (itI n z) ++ allI n r
theorem allI_len (n : Nat) (hn : 20 < n) : ∀ l, (allI n l).length ≤ 200 * l.length
  | [] => by simp [allI]
  | z :: r => by
    have h1 := (itI_eq n hn z).2.len
    have h2 := allI_len n hn r
    simp only [allI, List.length_append, List.length_cons]
    omega
theorem i64_mod {a b : Nat} (ha : a < 2 ^ 63) (hb : b < 2 ^ 63) (h0 : 0 < b) : I64 a % I64 b = I64 (a % b) := by
  apply Int64.toInt_inj.1
  have := Nat.mod_lt a h0
  rw [Int64.toInt_mod, i64_toInt ha, i64_toInt hb, i64_toInt (by omega)]
  rw [Int.tmod_eq_emod_of_nonneg (by omega)]
  rfl

/-! ### By definition -/
theorem long_ref (n : Nat) (hn : 10 < n) (s : List UInt8) (hs : s.length ≤ 2000000000) : F34 n s = some (encT s, ()) := by
  have := enc_len (UInt64.ofNat s.length)
  unfold F34
  rw [show Int64.ofInt ↑s.length = I64 s.length from rfl, lenU (by omega), ref_spec n hn, obind_s]
  dsimp only
  rw [ble_t (by omega), oite_t]; rfl
theorem int_ref (n : Nat) (hn : 10 < n) (x : Int64) : F35 n x = some (enc (zig x), ()) := by
  unfold F35
  have z0 : (0 : Int64).toInt = 0 := by decide
  by_cases h : x < 0
  · have h' := Int64.lt_iff_toInt_lt.1 h
    rw [dec_t h, oite_t, zig_neg x (by omega), ref_spec n hn]; rfl
  · have h' := mt Int64.lt_iff_toInt_lt.2 h
    rw [dec_f h, oite_f, zig_pos x (by omega), ref_spec n hn]; rfl
theorem labs_ref (n : Nat) (hn : 10 < n) (v0 : UInt8) (v1 v2 : UInt64) (v3 : List UInt8) (t : List Pair) (ht : t.length < 2 ^ 63) (v5 v6 : UInt8) (v7 : Int64) (v8 : UInt8) :
    ∀ (m k : Nat) (w : List UInt8), k ≤ t.length → t.length - k < m → w.length + (labsB (t.drop k)).length ≤ 2000000000 →
      F14_R509 n m (I64 k) v0 v1 v2 v3 t v5 v6 v7 v8 w = some (w ++ (labsB (t.drop k) ++ tailB v5 v6 v7 v8), ()) := by
  intro m
  induction m with
  | zero => intro k w _ h; omega
  | succ m ih =>
    intro k w hk hm hw
    rw [F14_R509_s]
    unfold F14_L509
    by_cases hlt : k < t.length
    · rw [List.drop_eq_getElem_cons hlt] at hw ⊢
      have e1 : (encT t[k].1).length = (enc (UInt64.ofNat t[k].1.length)).length + t[k].1.length := by unfold encT; simp
      have e2 : (encT t[k].2).length = (enc (UInt64.ofNat t[k].2.length)).length + t[k].2.length := by unfold encT; simp
      simp only [labsB, List.length_append] at hw
      rw [dec_t ((i64_lt (by omega) ht).2 hlt), oite_t, at_i64_lt (by omega) hlt]
      simp only [obind_s]
      rw [long_ref n hn _ (by omega)]
      simp only [obind_s]
      rw [ble_t (by omega), oite_t, long_ref n hn _ (by omega)]
      simp only [obind_s]
      rw [ble_t (by simp; omega), oite_t, i64_succ, ih (k + 1) _ (by omega) (by omega) (by simp; omega)]
      simp only [labsB, List.append_assoc]
    · have : k = t.length := by omega
      subst this
      have hz := enc_len (zig v7)
      rw [dec_f (fun q => hlt ((i64_lt (by omega) ht).1 q)), oite_f, List.drop_length, ble_t (by simp; omega), oite_t, int_ref n hn]
      simp only [obind_s]
      rw [ble_t (by simp; omega), oite_t, ble_t (by simp; omega), oite_t]
      simp [labsB, tailB]
theorem it_ref (n : Nat) (x : ItT) (hl : x.2.2.2.2.2.1.length < 2 ^ 63) (hn : x.2.2.2.2.2.1.length + 10 < n) (hw : x.2.2.2.2.1.length + (labsB x.2.2.2.2.2.1).length ≤ 1900000000) : F14 n x = some (itB x, ()) := by
  obtain ⟨g, o, seq, time, rule, labels, state, prio, v, own, go, ga, gb⟩ := x
  unfold F14
  dsimp only at hl hn hw ⊢
  cases g with
  | true =>
    have q1 := enc_len ga
    have q2 := enc_len gb
    rw [oite_t, ref_spec n (by omega) ga]
    simp only [obind_s]
    rw [ble_t (by simp; omega), oite_t, ref_spec n (by omega) gb]
    simp only [obind_s]
    rw [ble_t (by simp; omega), oite_t]
    simp [itB, gapB, gapOf]
  | false =>
    have q1 := enc_len seq
    have q2 := enc_len time
    have q3 := encT_len rule
    have q4 := enc_len (UInt64.ofNat labels.length)
    rw [oite_f, ref_spec n (by omega) seq]
    simp only [obind_s]
    rw [ble_t (by simp; omega), oite_t, ref_spec n (by omega) time]
    simp only [obind_s]
    rw [ble_t (by simp; omega), oite_t, long_ref n (by omega) rule (by omega)]
    simp only [obind_s]
    rw [ble_t (by simp; omega), oite_t, show Int64.ofInt ↑labels.length = I64 labels.length from rfl, lenU hl, ref_spec n (by omega) _]
    simp only [obind_s]
    rw [ble_t (by simp; omega), oite_t]
    have := labs_ref n (by omega) o seq time rule labels hl state prio v own n 0 ([0, o] ++ enc seq ++ enc time ++ encT rule ++ enc (UInt64.ofNat labels.length)) (by omega) (by omega) (by simp; omega)
    rw [show (0 : Int64) = I64 0 from rfl, this]
    simp [itB, evB, evOf, List.drop_zero]

/-! ### Bytes are of one item alone -/
theorem enc_inj {v v' : UInt64} {w w' : List UInt8} (h : enc v ++ w = enc v' ++ w') : v = v' ∧ w = w' := by
  have h1 := dec_enc64 v w
  rw [h, dec_enc64] at h1
  simp only [Prod.mk.injEq, true_and] at h1
  exact ⟨UInt64.toNat.inj h1.1.symm, h1.2.symm⟩
theorem encT_inj {s s' : List UInt8} {w w' : List UInt8} (hs : s.length < 2 ^ 63) (hs' : s'.length < 2 ^ 63) (h : encT s ++ w = encT s' ++ w') : s = s' ∧ w = w' := by
  unfold encT at h
  rw [List.append_assoc, List.append_assoc] at h
  obtain ⟨h1, h2⟩ := enc_inj h
  have h3 := congrArg UInt64.toNat h1
  rw [u64_ofNat (by omega), u64_ofNat (by omega)] at h3
  exact List.append_inj h2 h3
theorem labsB_inj : ∀ (l l' : List Pair) (w w' : List UInt8), (∀ p ∈ l, p.1.length < 2 ^ 63 ∧ p.2.length < 2 ^ 63) → (∀ p ∈ l', p.1.length < 2 ^ 63 ∧ p.2.length < 2 ^ 63) → l.length = l'.length → labsB l ++ w = labsB l' ++ w' → l = l' ∧ w = w'
  | [], [], _, _, _, _, _, h => ⟨rfl, h⟩
  | [], _ :: _, _, _, _, _, h, _ => by simp at h
  | _ :: _, [], _, _, _, _, h, _ => by simp at h
  | (a, b) :: r, (a', b') :: r', w, w', hl, hl', hlen, h => by
    have q := hl (a, b) (by simp)
    have q' := hl' (a', b') (by simp)
    simp only [labsB, List.append_assoc] at h
    obtain ⟨h1, k1⟩ := encT_inj q.1 q'.1 h
    obtain ⟨h2, k2⟩ := encT_inj q.2 q'.2 k1
    obtain ⟨h3, k3⟩ := labsB_inj r r' w w' (fun p hp => hl p (by simp [hp])) (fun p hp => hl' p (by simp [hp])) (by simpa using hlen) k2
    exact ⟨by dsimp only at h1 h2; rw [h1, h2, h3], k3⟩
def Fit63 (x : ItT) : Prop := x.2.2.2.2.1.length < 2 ^ 63 ∧ x.2.2.2.2.2.1.length < 2 ^ 63 ∧ ∀ p ∈ x.2.2.2.2.2.1, p.1.length < 2 ^ 63 ∧ p.2.length < 2 ^ 63
theorem itB_inj {x y : ItT} (hx : Fit63 x) (hy : Fit63 y) (h : itB x = itB y) : normI x = normI y := by
  obtain ⟨g, o, seq, time, rule, labels, state, prio, v, own, go, ga, gb⟩ := x
  obtain ⟨g', o', seq', time', rule', labels', state', prio', v', own', go', ga', gb'⟩ := y
  obtain ⟨a1, a2, a3⟩ := hx
  obtain ⟨b1, b2, b3⟩ := hy
  dsimp only at a1 a2 a3 b1 b2 b3
  unfold itB at h
  cases g <;> cases g'
  · simp only [evB, evOf, tailB, List.cons_append, List.nil_append, List.cons.injEq, true_and, Bool.false_eq_true, if_false] at h
    obtain ⟨e0, k0⟩ := h
    obtain ⟨e1, k1⟩ := enc_inj k0
    obtain ⟨e2, k2⟩ := enc_inj k1
    obtain ⟨e3, k3⟩ := encT_inj a1 b1 k2
    obtain ⟨e4, k4⟩ := enc_inj k3
    have e5 := congrArg UInt64.toNat e4
    rw [u64_ofNat (by omega), u64_ofNat (by omega)] at e5
    obtain ⟨e6, k6⟩ := labsB_inj labels labels' _ _ a3 b3 e5 k4
    simp only [List.cons.injEq] at k6
    obtain ⟨e7, e8, k8⟩ := k6
    obtain ⟨e9, k9⟩ := enc_inj k8
    simp only [List.cons.injEq, and_true] at k9
    have e10 : v = v' := by
      have h1 := zag v
      rw [e9, zag] at h1
      exact h1.symm
    rw [e0, e1, e2, e3, e6, e7, e8, e10, k9]
    rfl
  · simp at h
  · simp at h
  · simp only [gapB, gapOf, List.cons_append, List.nil_append, List.cons.injEq, true_and, if_true] at h
    obtain ⟨e0, h⟩ := h
    obtain ⟨e1, h⟩ := enc_inj h
    have h' : enc gb ++ [] = enc gb' ++ [] := by rw [h]
    obtain ⟨e2, _⟩ := enc_inj h'
    subst e0 e1 e2
    rfl

/-! ### What was taken was put -/
theorem labs_back : ∀ (k : Nat) (vl : List Pair) (b : List UInt8) (l : List Pair) (rest : List UInt8), rLabs k vl (b, 0) = (l, (rest, 0)) → ∃ l', l = vl ++ l' ∧ l'.length = k ∧ b = labsB l' ++ rest ∧ Tiny l'
  | 0, vl, b, l, rest, h => by
    have h : (vl, (b, (0 : Int64))) = (l, (rest, 0)) := h
    simp only [Prod.mk.injEq] at h
    obtain ⟨rfl, rfl, _⟩ := h
    exact ⟨[], by simp, rfl, rfl, by intro p hp; cases hp⟩
  | k + 1, vl, b, l, rest, h => by
    have h : rbind (rText 8) (fun a => rbind (rText 16) fun c => rLabs k (vl ++ [(a, c)])) (b, 0) = (l, (rest, 0)) := h
    obtain ⟨a, r1, h1, h⟩ := bind_ok (fun _ => stick_bind (stick_text _) fun _ => stick_labs _ _) h
    obtain ⟨c, r2, h2, h⟩ := bind_ok (fun _ => stick_labs _ _) h
    obtain ⟨l', e1, e2, e3, e4⟩ := labs_back k _ r2 l rest h
    obtain ⟨g1, g2⟩ := back_text h1
    obtain ⟨g3, g4⟩ := back_text h2
    refine ⟨(a, c) :: l', by rw [e1]; simp, by simp [e2], ?_, fun p hp => ?_⟩
    · rw [g1, g3, e3]; simp [labsB]
    · rcases List.mem_cons.1 hp with rfl | hp
      · exact ⟨g2, g4⟩
      · exact e4 p hp
theorem event_back {b : List UInt8} {e : EvT} {rest : List UInt8} (h : rEvent (b, 0) = (e, (rest, 0))) : b = evB e ++ rest := by
  unfold rEvent at h
  obtain ⟨o, r1, h1, h⟩ := bind_ok (fun _ => stick_bind stick_uint fun _ => stick_bind stick_uint fun _ => stick_bind (stick_text _) fun _ => stick_bind (stick_count _) fun _ => stick_bind (stick_labs _ _) fun _ => stick_end _ _ _ _ _) h
  obtain ⟨seq, r2, h2, h⟩ := bind_ok (fun _ => stick_bind stick_uint fun _ => stick_bind (stick_text _) fun _ => stick_bind (stick_count _) fun _ => stick_bind (stick_labs _ _) fun _ => stick_end _ _ _ _ _) h
  obtain ⟨t, r3, h3, h⟩ := bind_ok (fun _ => stick_bind (stick_text _) fun _ => stick_bind (stick_count _) fun _ => stick_bind (stick_labs _ _) fun _ => stick_end _ _ _ _ _) h
  obtain ⟨rule, r4, h4, h⟩ := bind_ok (fun _ => stick_bind (stick_count _) fun _ => stick_bind (stick_labs _ _) fun _ => stick_end _ _ _ _ _) h
  obtain ⟨c, r5, h5, h⟩ := bind_ok (fun _ => stick_bind (stick_labs _ _) fun _ => stick_end _ _ _ _ _) h
  obtain ⟨vl, r6, h6, h⟩ := bind_ok (fun _ => stick_end _ _ _ _ _) h
  unfold rEnd at h
  obtain ⟨st, r7, h7, h⟩ := bind_ok (fun _ => stick_bind stick_byte fun _ => stick_bind stick_int fun _ => stick_bind stick_byte fun _ => stick_ret _) h
  obtain ⟨p, r8, h8, h⟩ := bind_ok (fun _ => stick_bind stick_int fun _ => stick_bind stick_byte fun _ => stick_ret _) h
  obtain ⟨v, r9, h9, h⟩ := bind_ok (fun _ => stick_bind stick_byte fun _ => stick_ret _) h
  obtain ⟨w, r10, h10, h⟩ := bind_ok (fun _ => stick_ret _) h
  have h : ((o, seq, t, rule, vl, st, p, v, w), (r10, (0 : Int64))) = (e, (rest, 0)) := h
  simp only [Prod.mk.injEq] at h
  obtain ⟨rfl, rfl, _⟩ := h
  obtain ⟨l', e1, e2, e3, _⟩ := labs_back _ _ _ _ _ h6
  rw [List.nil_append] at e1
  subst e1
  have e4 : UInt64.ofNat vl.length = c := by rw [e2, UInt64.ofNat_toNat]
  rw [back_byte h1, back_uint h2, back_uint h3, (back_text h4).1, (back_count h5).1, e3, back_byte h7, back_byte h8, back_int h9, back_byte h10]
  simp [evB, tailB, e4]
theorem gap_back {b : List UInt8} {g : UInt8 × UInt64 × UInt64} {rest : List UInt8} (h : rGap (b, 0) = (g, (rest, 0))) : b = gapB g ++ rest := by
  unfold rGap at h
  obtain ⟨o, r1, h1, h⟩ := bind_ok (fun _ => stick_bind stick_uint fun _ => stick_bind stick_uint fun _ => stick_ret _) h
  obtain ⟨a, r2, h2, h⟩ := bind_ok (fun _ => stick_bind stick_uint fun _ => stick_ret _) h
  obtain ⟨c, r3, h3, h⟩ := bind_ok (fun _ => stick_ret _) h
  have h : ((o, a, c), (r3, (0 : Int64))) = (g, (rest, 0)) := h
  simp only [Prod.mk.injEq] at h
  obtain ⟨rfl, rfl, _⟩ := h
  rw [back_byte h1, back_uint h2, back_uint h3]
  simp [gapB]
theorem item_back {b : List UInt8} {z : ItT} {rest : List UInt8} (h : rItem (b, 0) = (z, (rest, 0))) :
    b = itB z ++ rest ∧ itCheck z = 0 ∧ (z.2.2.2.2.1.length ≤ 12 ∧ z.2.2.2.2.2.1.length ≤ 8 ∧ Tiny z.2.2.2.2.2.1) := by
  have hv := vals_item0 (b, 0)
  unfold rItem at h
  obtain ⟨x, r1, h1, h⟩ := bind_ok stick_check h
  rw [h1] at hv
  have hx : z = x ∧ r1 = rest ∧ itCheck x = 0 := by
    unfold rCheck at h
    rw [if_pos rfl] at h
    by_cases hc : itCheck x = 0
    · rw [if_pos hc] at h
      simp only [Prod.mk.injEq] at h
      exact ⟨h.1.symm, h.2.1, hc⟩
    · rw [if_neg hc] at h
      simp only [Prod.mk.injEq] at h
      exact absurd h.2.2 hc
  obtain ⟨rfl, rfl, hc⟩ := hx
  refine ⟨?_, hc, hv⟩
  unfold rItem0 at h1
  obtain ⟨g, r2, h2, h1⟩ := bind_ok (fun _ => stick_if (stick_bind stick_gap fun _ => stick_ret _) (stick_bind stick_event fun _ => stick_ret _)) h1
  have hb := back_bool h2
  cases g with
  | true =>
    rw [if_pos rfl] at h1
    obtain ⟨g, r3, h3, h1⟩ := bind_ok (fun _ => stick_ret _) h1
    have h1 : (gapI g, (r3, (0 : Int64))) = (z, (r1, 0)) := h1
    simp only [Prod.mk.injEq] at h1
    obtain ⟨rfl, rfl, _⟩ := h1
    rw [hb, gap_back h3]
    simp [itB, gapI, gapOf]
  | false =>
    rw [if_neg (by decide)] at h1
    obtain ⟨e, r3, h3, h1⟩ := bind_ok (fun _ => stick_ret _) h1
    have h1 : (evI e, (r3, (0 : Int64))) = (z, (r1, 0)) := h1
    simp only [Prod.mk.injEq] at h1
    obtain ⟨rfl, rfl, _⟩ := h1
    rw [hb, event_back h3]
    simp [itB, evI, evOf]
theorem done_zero {s : RS} (h : (rDone s).1 = 0) : s = ([], 0) := by
  obtain ⟨b, e⟩ := s
  unfold rDone at h
  by_cases he : e = 0
  · subst he
    rw [if_pos rfl] at h
    by_cases hb : 0 < b.length
    · rw [if_pos hb] at h; exact absurd h (by show ¬ (25 : Int64) = 0; decide)
    · cases b with
      | nil => rfl
      | cons c r => simp at hb
  · rw [if_neg he] at h; exact absurd h he

/-! ### Right ones are short -/
theorem labGo_tiny : ∀ (l : List Pair) (prev : Option (List UInt8)), labGo prev l = 0 → Tiny l
  | [], _, _ => by intro p hp; cases hp
  | p :: r, prev, h => by
    simp only [labGo, labStep] at h
    cases h1 : wordOK 8 false p.1 with
    | false => rw [h1] at h; exact absurd h (by show ¬ (8 : Int64) = 0; decide)
    | true =>
    cases h2 : wordOK 16 true p.2 with
    | false => rw [h1, h2] at h; exact absurd h (by show ¬ (8 : Int64) = 0; decide)
    | true =>
    rw [h1, h2] at h
    simp only [cond_true] at h
    have hr : labGo (some p.1) r = 0 := by
      cases prev with
      | none => exact h
      | some q =>
        dsimp only at h
        cases hq : (q == p.1) with
        | true => rw [hq] at h; exact absurd h (by show ¬ (7 : Int64) = 0; decide)
        | false =>
          rw [hq] at h
          cases hb : bytesLt q p.1 with
          | true => rw [hb] at h; exact h
          | false => rw [hb] at h; exact absurd h (by show ¬ (9 : Int64) = 0; decide)
    intro q hq
    rcases List.mem_cons.1 hq with rfl | hq
    · exact ⟨(word_ne h1).2, (word_ne h2).2⟩
    · exact labGo_tiny r _ hr q hq
theorem right_fair (x : ItT) (h : itCheck x = 0) : Fair x := by
  obtain ⟨g, o, seq, time, rule, labels, state, prio, v, own, go, ga, gb⟩ := x
  cases g with
  | true => exact .inl rfl
  | false =>
    refine .inr ?_
    have h : evCheck o seq time rule labels state prio own = 0 := h
    unfold evCheck at h
    have hn : nameOK rule = true ∧ labCheck labels = 0 := by
      revert h
      generalize decide ((32 : UInt8) ≤ o) = c1
      generalize decide (seq < 1) = c2
      generalize decide (seq ≤ 1099511627776) = c3
      generalize decide (time ≤ 1099511627776) = c4
      generalize decide ((7 : UInt8) < prio) = c5
      generalize nameOK rule = c6
      generalize ((decide (state = 0) || decide (state = 2)) && !decide (2 < own)) = c7
      generalize ((!decide (own = 0)) == ownOK rule) = c8
      intro h
      cases c1 <;> cases c2 <;> cases c3 <;> cases c4 <;> cases c5 <;> cases c6 <;> cases c7 <;> cases c8 <;> first | exact ⟨rfl, h⟩ | exact absurd h (by show ¬ (6 : Int64) = 0; decide) | exact absurd h (by show ¬ (8 : Int64) = 0; decide) | exact absurd h (by show ¬ (12 : Int64) = 0; decide) | exact absurd h (by show ¬ (27 : Int64) = 0; decide)
    obtain ⟨h1, h2⟩ := hn
    unfold nameOK at h1
    rw [Bool.and_eq_true] at h1
    unfold labCheck at h2
    cases h8 : decide (8 < labels.length) with
    | true => rw [h8] at h2; exact absurd h2 (by show ¬ (5 : Int64) = 0; decide)
    | false =>
      rw [h8] at h2
      have h8 := of_decide_eq_false h8
      exact ⟨(word_ne h1.1).2, by dsimp only; omega, labGo_tiny labels none h2⟩

/-! ### Taking what was put -/
def Mid (x : ItT) (n : Nat) : Prop := FitI x n ∧ x.2.2.2.2.2.1.length ≤ 20 ∧ x.2.2.2.2.1.length + (labsB x.2.2.2.2.2.1).length ≤ 1000000000
theorem Mid.fit63 {x : ItT} {n : Nat} (h : Mid x n) : Fit63 x := ⟨h.1.1.1, h.1.2.1, fun p hp => (h.1.2.2 p hp).1⟩
theorem itB_len (x : ItT) (h : x.2.2.2.2.1.length + (labsB x.2.2.2.2.2.1).length ≤ 1000000000) : (itB x).length ≤ 1000000200 := by
  obtain ⟨g, o, seq, time, rule, labels, state, prio, v, own, go, ga, gb⟩ := x
  dsimp only at h
  have a1 := enc_len seq
  have a2 := enc_len time
  have a3 := encT_len rule
  have a4 := enc_len (UInt64.ofNat labels.length)
  have a5 := enc_len (zig v)
  have a6 := enc_len ga
  have a7 := enc_len gb
  unfold itB
  cases g with
  | true => simp [gapB, gapOf]; omega
  | false => simp [evB, evOf, tailB]; omega
theorem same_norm' (n : Nat) (x : ItT) (hl : x.2.2.2.2.2.1.length < 2 ^ 63) (hn : x.2.2.2.2.2.1.length < n) : F27 n (x, normI x) = some (true, ()) := by
  obtain ⟨g, o, seq, time, rule, labels, state, prio, v, own, go, ga, gb⟩ := x
  dsimp only at hl hn
  cases g with
  | true =>
    unfold F27 normI gapI gapOf
    simp
    rfl
  | false =>
    have := same_list n labels hl hn
    unfold F27 normI evI evOf
    simp [this, oite_t, oite_f, obind_s]
theorem zero_same (n : Nat) (hn : 0 < n) : F27 n (zeroI, zeroI) = some (true, ()) := same_norm n zeroI (by simp [zeroI]) (by simp [zeroI]; exact hn)

/-! ### The law -/
theorem bulk_mem : ∀ (l : List Pair), (labsB l).length ≤ ((l.map fun x => CTs.bulk (.cons .str (.cons .str .nil)) x + 1).sum) + 20 * l.length ∧ ∀ p ∈ l, p.1.length + p.2.length ≤ (l.map fun x => CTs.bulk (.cons .str (.cons .str .nil)) x + 1).sum
  | [] => ⟨by simp [labsB], fun p hp => by cases hp⟩
  | p :: r => by
    obtain ⟨h1, h2⟩ := bulk_mem r
    have e : CTs.bulk (.cons .str (.cons .str .nil)) p = p.1.length + (p.2.length + 0) := by simp only [CTs.bulk, CT.bulk]; rfl
    have h3 := encT_len p.1
    have h4 := encT_len p.2
    simp only [List.map_cons, List.sum_cons, labsB, List.length_append, List.length_cons, e]
    refine ⟨by omega, fun q hq => ?_⟩
    rcases List.mem_cons.1 hq with rfl | hq
    · omega
    · have := h2 q hq; omega
end Go.Proofs.YtgknjddbbehboaaGreat
