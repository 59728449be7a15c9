/- What the functions that put and take numbers and texts come to: plain. -/
import Derived.Test.YtehelahnlnfofaaItFns1
import Derived.Test.YtehelahnlnfofaaSxPlain
import Derived.Test.YtehelahnlnfofaaSxCodec
open Go Go.Sx
namespace Go.Proofs.Ytehelahnlnfofaa
theorem or128 (k : Nat) : (UInt8.ofInt (k : Int) ||| 128) = UInt8.ofNat (k % 128 + 128) := by
  apply UInt8.toNat.inj
  have h1 := u8_ofInt (k : Int)
  have h2 : ∀ a : Fin 256, a.val ||| 128 = a.val % 128 + 128 := by decide +kernel
  have h3 := h2 ⟨(UInt8.ofInt (k : Int)).toNat, UInt8.toNat_lt _⟩
  rw [UInt8.toNat_or, u8_small (by omega)]
  show (UInt8.ofInt (k : Int)).toNat ||| 128 = _
  rw [h3]; simp only; omega
theorem ofInt_u8 {k : Nat} (h : k < 256) : UInt8.ofInt (k : Int) = UInt8.ofNat k := by
  apply UInt8.toNat.inj
  have h1 := u8_ofInt (k : Int)
  rw [u8_small h]; omega
theorem shr7 (v : UInt64) : (IK.shr IntKind.u64 v ↑(UInt64.toNat (7 : UInt64))).toNat = v.toNat / 128 := by
  have h := IK.shr_toInt .u64 v ((UInt64.toNat (7 : UInt64) : Nat) : Int)
  have e : IK.toInt .u64 (IK.shr .u64 v ((UInt64.toNat (7 : UInt64) : Nat) : Int)) = ((IK.shr IntKind.u64 v ↑(UInt64.toNat (7 : UInt64))).toNat : Int) := rfl
  rw [e] at h
  have e2 : IK.toInt .u64 v = (v.toNat : Int) := rfl
  have e3 : (2 : Int) ^ (min ((UInt64.toNat (7 : UInt64) : Nat) : Int).toNat IntKind.u64.bits) = 128 := by decide
  rw [e2, e3, Int.fdiv_eq_ediv_of_nonneg _ (by decide)] at h
  omega
theorem uint_loop (f : Nat) : ∀ (m : Nat) (v : UInt64) (w : List UInt8), v.toNat < 128 ^ (f + 1) → f < m → w.length + f + 1 ≤ 4294967296 → F45_R6 m v w = some ((), some (w ++ encF (f + 1) v.toNat)) := by
  induction f with
  | zero =>
    intro m v w hv hm hw
    obtain ⟨m, rfl⟩ : ∃ k, m = k + 1 := ⟨m - 1, by omega⟩
    have hv : v.toNat < 128 := by simpa using hv
    rw [F45_R6_s]
    unfold F45_L6
    have : ¬ (128 : UInt64) ≤ v := fun h => by have := UInt64.le_iff_toNat_le.1 h; have e : (128 : UInt64).toNat = 128 := rfl; omega
    rw [dec_f this, oite_f, ble_t (by simp; omega), oite_t, encF, if_pos hv, ofInt_u8 (by omega)]
  | succ f ih =>
    intro m v w hv hm hw
    obtain ⟨m, rfl⟩ : ∃ k, m = k + 1 := ⟨m - 1, by omega⟩
    have e : (128 : UInt64).toNat = 128 := rfl
    rw [F45_R6_s, encF]
    unfold F45_L6
    by_cases h1 : v.toNat < 128
    · have : ¬ (128 : UInt64) ≤ v := fun h => by have := UInt64.le_iff_toNat_le.1 h; omega
      rw [dec_f this, oite_f, ble_t (by simp; omega), oite_t, if_pos h1, ofInt_u8 (by omega)]
    · have : (128 : UInt64) ≤ v := UInt64.le_iff_toNat_le.2 (by omega)
      rw [dec_t this, oite_t, ble_t (by simp; omega), oite_t, if_neg h1, or128]
      rw [ih m _ _ (by rw [shr7]; rw [pow7] at hv; exact Nat.div_lt_of_lt_mul (by rw [Nat.mul_comm]; exact hv)) (by omega) (by simp; omega), shr7]
      simp
theorem uint_spec (n : Nat) (hn : 10 < n) (w : List UInt8) (v : UInt64) (hw : w.length + 10 ≤ 4294967296) : F45 n (some w, v) = some ((), some (w ++ enc v)) := by
  show oelim (some w) _ _ = _
  rw [oelim_s]
  exact uint_loop 9 n v w (toNat_lt128 v) (by omega) (by omega)
theorem ref_loop (f : Nat) : ∀ (m : Nat) (v : UInt64) (w : List UInt8), v.toNat < 128 ^ (f + 1) → f < m → w.length + f + 1 ≤ 4294967296 → F55_R14 m v w = some (w ++ encF (f + 1) v.toNat, ()) := by
  induction f with
  | zero =>
    intro m v w hv hm hw
    obtain ⟨m, rfl⟩ : ∃ k, m = k + 1 := ⟨m - 1, by omega⟩
    have hv : v.toNat < 128 := by simpa using hv
    rw [F55_R14_s]
    unfold F55_L14
    have : ¬ (128 : UInt64) ≤ v := fun h => by have := UInt64.le_iff_toNat_le.1 h; have e : (128 : UInt64).toNat = 128 := rfl; omega
    rw [dec_f this, oite_f, ble_t (by simp; omega), oite_t, encF, if_pos hv, ofInt_u8 (by omega)]
  | succ f ih =>
    intro m v w hv hm hw
    obtain ⟨m, rfl⟩ : ∃ k, m = k + 1 := ⟨m - 1, by omega⟩
    have e : (128 : UInt64).toNat = 128 := rfl
    rw [F55_R14_s, encF]
    unfold F55_L14
    by_cases h1 : v.toNat < 128
    · have : ¬ (128 : UInt64) ≤ v := fun h => by have := UInt64.le_iff_toNat_le.1 h; omega
      rw [dec_f this, oite_f, ble_t (by simp; omega), oite_t, if_pos h1, ofInt_u8 (by omega)]
    · have : (128 : UInt64) ≤ v := UInt64.le_iff_toNat_le.2 (by omega)
      have hb : (v % 128 + 128).toNat = v.toNat % 128 + 128 := by rw [UInt64.toNat_add, UInt64.toNat_mod, e]; omega
      have hd : (v / 128).toNat = v.toNat / 128 := by rw [UInt64.toNat_div, e]
      rw [dec_t this, oite_t, ble_t (by simp; omega), oite_t, if_neg h1, hb, ofInt_u8 (by omega)]
      rw [ih m _ _ (by rw [hd]; rw [pow7] at hv; exact Nat.div_lt_of_lt_mul (by rw [Nat.mul_comm]; exact hv)) (by omega) (by simp; omega), hd]
      simp
theorem ref_spec (n : Nat) (hn : 10 < n) (v : UInt64) : F55 n v = some (enc v, ()) := ref_loop 9 n v [] (toNat_lt128 v) (by omega) (by simp)

/-! the reader -/
theorem ok_spec (n : Nat) (b : List UInt8) (e : Int64) : F66 n (some (b, e)) = some (decide (e = 0), some (b, e)) := rfl
theorem fail_first (n : Nat) (b : List UInt8) (e : Int64) : F53 n (some (b, 0), e) = some ((), some (b, e)) := rfl
theorem fail_later (n : Nat) (b : List UInt8) (e e' : Int64) (h : e ≠ 0) : F53 n (some (b, e), e') = some ((), some (b, e)) := by
  unfold F53; rw [oelim_s]; simp only; rw [dec_f h, oite_f]
theorem err_spec (n : Nat) (b : List UInt8) (e : Int64) : F52 n (some (b, e)) = some (e, some (b, e)) := rfl
theorem byte_nil (n : Nat) : F49 n (some ([], 0)) = some (0, some ([], 3)) := rfl
theorem byte_cons (n : Nat) (c : UInt8) (r : List UInt8) (h : (c :: r).length < 2 ^ 63) : F49 n (some (c :: r, 0)) = some (c, some (r, 0)) := by
  unfold F49
  rw [ok_spec]
  have e1 : decide (Int64.ofInt ↑(List.length (c :: r)) = (0 : Int64)) = false := dec_f fun q => by have := (i64_eq (a := (c :: r).length) (b := 0) h (by omega)).1 q; simp at this
  have e2 : at? (c :: r) (Int64.toInt 0) = some c := at_i64_lt (k := 0) (by omega) (by simp)
  have e3 : Nat.ble (Int.toNat (Int64.toInt 1)) (List.length (c :: r)) = true := ble_t (by simp)
  have e4 : List.drop (Int.toNat (Int64.toInt 1)) (List.take (List.length (c :: r)) (c :: r)) = r := by rw [List.take_length]; rfl
  simp only [obind_s, decide_true, Bool.not_true, oite_f, e1, e2, e3, oite_t, e4]
theorem byte_err (n : Nat) (b : List UInt8) (e : Int64) (h : e ≠ 0) : F49 n (some (b, e)) = some (0, some (b, e)) := by
  unfold F49; rw [ok_spec, dec_f h]; rfl
theorem acc_or {acc c i : Nat} (ha : acc < 128 ^ i) (hi : i ≤ 9) (hc : c % 128 * 128 ^ i < 2 ^ 64) (ha2 : acc < 2 ^ 64) (hc2 : c < 256) :
    (UInt64.ofNat acc ||| IK.shl IntKind.u64 (UInt64.ofInt ↑(UInt8.toNat (UInt8.ofNat c &&& 127))) (Int64.toInt (I64 (7 * i)))) = UInt64.ofNat (acc + c % 128 * 128 ^ i) := by
  apply UInt64.toNat.inj
  have e1 : (UInt8.ofNat c &&& 127).toNat = c % 128 := by
    have h2 : ∀ a : Fin 256, a.val &&& 127 = a.val % 128 := by decide +kernel
    have h3 := h2 ⟨c, hc2⟩
    rw [UInt8.toNat_and, u8_small hc2]
    exact h3
  have e2 : (UInt64.ofInt ((c % 128 : Nat) : Int)).toNat = c % 128 := by
    have := u64_ofInt ((c % 128 : Nat) : Int); omega
  have e3 : (IK.shl IntKind.u64 (UInt64.ofInt ((c % 128 : Nat) : Int)) (Int64.toInt (I64 (7 * i)))).toNat = c % 128 * 128 ^ i := by
    have h := IK.shl_toInt .u64 (UInt64.ofInt ((c % 128 : Nat) : Int)) (Int64.toInt (I64 (7 * i)))
    have q1 : IK.toInt .u64 (IK.shl .u64 (UInt64.ofInt ((c % 128 : Nat) : Int)) (Int64.toInt (I64 (7 * i)))) = ((IK.shl IntKind.u64 (UInt64.ofInt ((c % 128 : Nat) : Int)) (Int64.toInt (I64 (7 * i)))).toNat : Int) := rfl
    have q2 : IK.toInt .u64 (UInt64.ofInt ((c % 128 : Nat) : Int)) = ((c % 128 : Nat) : Int) := by
      show ((UInt64.ofInt ((c % 128 : Nat) : Int)).toNat : Int) = _; rw [e2]
    have q3 : min (Int64.toInt (I64 (7 * i))).toNat IntKind.u64.bits = 7 * i := by
      rw [i64_toInt (by omega)]
      show min (Int.toNat ((7 * i : Nat) : Int)) 64 = 7 * i
      omega
    have q4 : ((2 : Int) ^ (7 * i)) = ((128 ^ i : Nat) : Int) := by rw [Int.pow_mul]; simp
    rw [q1, q2, q3, q4, wrap_eq] at h
    simp only [IntKind.signed, IntKind.bits, Bool.false_eq_true, if_false] at h
    rw [← Int.natCast_mul] at h
    have : ((c % 128 * 128 ^ i : Nat) : Int) % 2 ^ 64 = ((c % 128 * 128 ^ i : Nat) : Int) := by
      rw [Int.emod_eq_of_lt (by omega)]
      exact_mod_cast hc
    rw [this] at h
    exact_mod_cast h
  rw [UInt64.toNat_or, e1, e3, UInt64.toNat_ofNat', UInt64.toNat_ofNat', Nat.mod_eq_of_lt ha2]
  have e4 : (128 : Nat) ^ i = 2 ^ (7 * i) := by rw [Nat.pow_mul]
  rw [e4] at ha hc ⊢
  have hor := Nat.two_pow_add_eq_or_of_lt (i := 7 * i) ha (c % 128)
  rw [Nat.mul_comm] at hor
  rw [Nat.or_comm, ← hor, Nat.add_comm]
  refine (Nat.mod_eq_of_lt ?_).symm
  -- no number is beyond
  have hd : ∃ q, 2 ^ 64 = q * 2 ^ (7 * i) := ⟨2 ^ (64 - 7 * i), by rw [← Nat.pow_add]; congr 1; omega⟩
  obtain ⟨q, hq⟩ := hd
  rw [hq] at hc ⊢
  have := Nat.lt_of_mul_lt_mul_right hc
  calc acc + c % 128 * 2 ^ (7 * i) < 2 ^ (7 * i) + c % 128 * 2 ^ (7 * i) := Nat.add_lt_add_right ha _
    _ = (c % 128 + 1) * 2 ^ (7 * i) := by rw [Nat.add_mul, Nat.one_mul, Nat.add_comm]
    _ ≤ q * 2 ^ (7 * i) := Nat.mul_le_mul_right _ this
/-- what taking a number comes to -/
def decF (acc p : Nat) (q : Int64 × Nat × List UInt8) : UInt64 × Option (List UInt8 × Int64) :=
  if q.1 = 0 then (UInt64.ofNat (acc + q.2.1 * p), some (q.2.2, 0)) else (0, some (q.2.2, q.1))
def decR (i acc : Nat) (b : List UInt8) : UInt64 × Option (List UInt8 × Int64) := decF acc (128 ^ i) (dec i b)
theorem decF_ok (acc p u : Nat) (r : List UInt8) : decF acc p (0, u, r) = (UInt64.ofNat (acc + u * p), some (r, 0)) := rfl
theorem decF_err (acc p u : Nat) (r : List UInt8) (e : Int64) (h : e ≠ 0) : decF acc p (e, u, r) = (0, some (r, e)) := by unfold decF; rw [if_neg h]
theorem dec_cons (i : Nat) (c : UInt8) (r : List UInt8) : dec i (c :: r) = if i = 9 ∧ 1 < c.toNat then (6, 0, r) else if c.toNat < 128 then (if c.toNat = 0 ∧ 0 < i then (2, 0, r) else (0, c.toNat, r)) else
      if (dec (i + 1) r).1 = 0 then (0, c.toNat % 128 + 128 * (dec (i + 1) r).2.1, (dec (i + 1) r).2.2) else ((dec (i + 1) r).1, 0, (dec (i + 1) r).2.2) := rfl
theorem read_loop (n : Nat) (b : List UInt8) : ∀ (m i acc : Nat), b.length < 2 ^ 63 → i ≤ 9 → acc < 128 ^ i → acc < 2 ^ 64 → 9 < m + i → F50_R15 n m (UInt64.ofNat acc) (I64 (7 * i)) (some (b, 0)) = some (decR i acc b) := by
  induction b with
  | nil =>
    intro m i acc _ hi ha ha2 hm
    obtain ⟨m, rfl⟩ : ∃ k, m = k + 1 := ⟨m - 1, by omega⟩
    rw [F50_R15_s]
    unfold F50_L15
    rw [byte_nil]
    simp only [obind_s, ojoinA_eq, ok_spec]
    rw [dec_f (by decide)]
    rfl
  | cons c r ih =>
    intro m i acc hl hi ha ha2 hm
    obtain ⟨m, rfl⟩ : ∃ k, m = k + 1 := ⟨m - 1, by omega⟩
    have hc := UInt8.toNat_lt c
    have hlr : r.length < 2 ^ 63 := by simp at hl; omega
    rw [F50_R15_s]
    unfold F50_L15
    rw [byte_cons n c r hl]
    simp only [obind_s, ojoinA_eq, ok_spec, decide_true, Bool.not_true, oite_f]
    have cc : UInt8.ofNat c.toNat = c := UInt8.ofNat_toNat
    have e63 : decide (I64 (7 * i) = (63 : Int64)) = decide (i = 9) := by
      rw [decide_eq_decide, show (63 : Int64) = I64 63 from rfl, i64_eq (by omega) (by omega)]; omega
    have e1c : decide ((1 : UInt8) < c) = decide (1 < c.toNat) := by rw [decide_eq_decide, UInt8.lt_iff_toNat_lt]; rfl
    rw [e63, e1c]
    have body : ¬ (i = 9 ∧ 1 < c.toNat) → F50_J121 n (F50_R15 n m) (UInt64.ofNat acc) (I64 (7 * i)) c (some (r, 0)) = some (decR i acc (c :: r)) := by
      intro hno
      have hmul : c.toNat % 128 * 128 ^ i < 2 ^ 64 := by
        rcases Nat.lt_or_ge i 9 with h9 | h9
        · have : c.toNat % 128 * 128 ^ i ≤ 127 * 128 ^ 8 := Nat.mul_le_mul (by omega) (Nat.pow_le_pow_right (by decide) (by omega))
          have e : (127 : Nat) * 128 ^ 8 < 2 ^ 64 := by decide
          omega
        · have : i = 9 := by omega
          subst this
          have : c.toNat % 128 * 128 ^ 9 ≤ 1 * 128 ^ 9 := Nat.mul_le_mul_right _ (by omega)
          rw [p128_9] at *; omega
      have hor := acc_or ha hi hmul ha2 hc
      rw [cc] at hor
      unfold F50_J121
      rw [hor]
      have e0 : decide ((0 : Int) ≤ Int64.toInt (I64 (7 * i))) = true := dec_t (by rw [i64_toInt (by omega)]; omega)
      have e2 : decide (c < (128 : UInt8)) = decide (c.toNat < 128) := by rw [decide_eq_decide, UInt8.lt_iff_toNat_lt]; rfl
      have e3 : decide (c = (0 : UInt8)) = decide (c.toNat = 0) := by
        rw [decide_eq_decide]
        exact ⟨fun h => by rw [h]; rfl, fun h => UInt8.toNat_inj.1 h⟩
      have e4 : decide ((0 : Int64) < I64 (7 * i)) = decide (0 < i) := by
        rw [decide_eq_decide, show (0 : Int64) = I64 0 from rfl, i64_lt (by omega) (by omega)]; omega
      rw [e0, e2, e3, e4, fail_first]
      simp only [oite_t]
      unfold decR
      rw [dec_cons, if_neg hno]
      by_cases h1 : c.toNat < 128
      · rw [dec_t h1, if_pos h1]
        have hm1 : c.toNat % 128 = c.toNat := Nat.mod_eq_of_lt h1
        rw [hm1]
        by_cases h2 : c.toNat = 0
        · by_cases h3 : 0 < i
          · rw [dec_t h2, dec_t h3, if_pos ⟨h2, h3⟩]
            rw [decF_err _ _ _ _ _ (by decide)]; rfl
          · rw [dec_t h2, dec_f h3, if_neg (fun q => h3 q.2), decF_ok]; rfl
        · rw [dec_f h2, if_neg (fun q => h2 q.1), decF_ok]; rfl
      · rw [dec_f h1, if_neg h1]
        simp only [oite_f]
        have hi9 : i ≠ 9 := fun e => hno ⟨e, by omega⟩
        have e7 : I64 (7 * i) + 7 = I64 (7 * (i + 1)) := i64_add (7 * i) 7
        have hacc : acc + c.toNat % 128 * 128 ^ i < 128 ^ (i + 1) := by
          rw [pow7]
          calc acc + c.toNat % 128 * 128 ^ i < 128 ^ i + c.toNat % 128 * 128 ^ i := Nat.add_lt_add_right ha _
            _ = (c.toNat % 128 + 1) * 128 ^ i := by rw [Nat.add_mul, Nat.one_mul, Nat.add_comm]
            _ ≤ 128 * 128 ^ i := Nat.mul_le_mul_right _ (by omega)
            _ = 128 ^ i * 128 := Nat.mul_comm _ _
        have h63 : (128 : Nat) ^ (i + 1) ≤ 128 ^ 9 := Nat.pow_le_pow_right (by decide) (by omega)
        rw [p128_9] at h63
        rw [e7, ih m (i + 1) (acc + c.toNat % 128 * 128 ^ i) hlr (by omega) hacc (by omega) (by omega)]
        unfold decR
        by_cases h4 : (dec (i + 1) r).1 = 0
        · rw [if_pos h4, decF_ok]
          unfold decF
          rw [if_pos h4]
          congr 3
          rw [pow7, Nat.add_mul, Nat.add_assoc]
          congr 2
          rw [Nat.mul_comm (128 ^ i) 128, ← Nat.mul_assoc, Nat.mul_comm 128 (dec (i + 1) r).2.1]
        · rw [if_neg h4, decF_err _ _ _ _ _ h4]
          unfold decF
          rw [if_neg h4]
    by_cases h9 : i = 9
    · rw [dec_t h9]
      simp only [oite_t]
      by_cases h1 : 1 < c.toNat
      · rw [dec_t h1]
        simp only [oite_t, fail_first, obind_s]
        unfold decR
        rw [dec_cons, if_pos ⟨h9, h1⟩, decF_err _ _ _ _ _ (by decide)]
      · rw [dec_f h1]
        simp only [oite_f]
        exact body (fun q => h1 q.2)
    · rw [dec_f h9]
      simp only [oite_f]
      exact body (fun q => h9 q.1)
theorem read_spec (n : Nat) (hn : 10 < n) (b : List UInt8) (hb : b.length < 2 ^ 63) : F50 n (some (b, 0)) = some (decR 0 0 b) :=
  read_loop n b n 0 0 hb (by omega) (by decide) (by decide) (by omega)
theorem read_err (n : Nat) (hn : 10 < n) (b : List UInt8) (e : Int64) (h : e ≠ 0) : F50 n (some (b, e)) = some (0, some (b, e)) := by
  obtain ⟨m, rfl⟩ : ∃ k, n = k + 1 := ⟨n - 1, by omega⟩
  show F50_R15 (m + 1) (m + 1) 0 0 (some (b, e)) = _
  rw [F50_R15_s]
  unfold F50_L15
  rw [byte_err _ b e h]
  simp only [obind_s, ojoinA_eq, ok_spec]
  rw [dec_f h]; rfl
theorem read_enc (n : Nat) (hn : 10 < n) (v : UInt64) (rest : List UInt8) (hr : rest.length < 2 ^ 62) : F50 n (some (enc v ++ rest, 0)) = some (v, some (rest, 0)) := by
  have := enc_len v
  rw [read_spec n hn _ (by simp; omega)]
  unfold decR
  rw [dec_enc64, decF_ok]
  simp
end Go.Proofs.Ytehelahnlnfofaa
