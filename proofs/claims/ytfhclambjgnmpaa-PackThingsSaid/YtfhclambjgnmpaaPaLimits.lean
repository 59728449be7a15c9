/- The law PackLimits: texts and numbers up to a limit. -/
import Derived.Test.YtfhclambjgnmpaaPaText
open Go Go.Sx
namespace Go.Proofs.Ytfhclambjgnmpaa
theorem i64_mod {a b : Nat} (ha : a < 2 ^ 62) (hb : b < 2 ^ 62) : I64 a % I64 b = I64 (a % b) := by
  apply Int64.toInt_inj.1
  have : a % b ≤ a := Nat.mod_le _ _
  rw [Int64.toInt_mod, i64_toInt (by omega), i64_toInt (by omega), i64_toInt (by omega)]
  rw [Int.tmod_eq_emod_of_nonneg (by omega)]
  omega
theorem count_spec (n : Nat) (hn : 10 < n) (v top : UInt64) : F19 n (some (enc v, 0), top) = if top < v then some (0, some ([], 6)) else some (v, some ([], 0)) := by
  have h := read_enc n hn v [] (by simp)
  rw [List.append_nil] at h
  unfold F19
  rw [h]
  simp only [obind_s]
  by_cases c : top < v
  · rw [dec_t c, if_pos c]; rfl
  · rw [dec_f c, if_neg c]; rfl
theorem limits_end (n : Nat) (hn : 10 < n) (s : List UInt8) (hs : s.length ≤ 200) (v top : UInt64) (cut : UInt8) : F4_J1023 n s v top cut (enc (UInt64.ofNat s.length) ++ s) = some (true, ()) := by
  have hel := enc_len (UInt64.ofNat s.length)
  have hep := enc_pos (UInt64.ofNat s.length)
  have hcut := UInt8.toNat_lt cut
  unfold F4_J1023
  have hL : (enc (UInt64.ofNat s.length) ++ s).length = (enc (UInt64.ofNat s.length)).length + s.length := by simp
  generalize hb : enc (UInt64.ofNat s.length) ++ s = b at hL
  generalize hl : b.length = L at hL
  have hmod : cut.toNat % L < L := Nat.mod_lt _ (by omega)
  have e1 : decide (Int64.ofInt ↑L = (0 : Int64)) = false := dec_f fun h => by have := (i64_eq (a := L) (b := 0) (by omega) (by omega)).1 h; omega
  have e2 : Int64.ofInt ↑L - (1 : Int64) - Int64.ofInt ↑(UInt8.toNat cut) % Int64.ofInt ↑L = I64 (L - 1 - cut.toNat % L) := by
    rw [show Int64.ofInt ↑(UInt8.toNat cut) = I64 cut.toNat from rfl, show Int64.ofInt ↑L = I64 L from rfl, i64_mod (by omega) (by omega), show (1 : Int64) = I64 1 from rfl, i64_sub (by omega), i64_sub (by omega)]
  rw [e1, e2, i64_toInt (by omega)]
  have e3 : Int.toNat ((L - 1 - cut.toNat % L : Nat) : Int) = L - 1 - cut.toNat % L := by omega
  rw [e3, ble_t (by omega), dec_t (by omega)]
  simp only [oite_f, Bool.and_true, oite_t, List.drop_zero]
  have f9 : ∀ c, F9 n c = some (some (c, 0), ()) := fun _ => rfl
  rw [f9]
  simp only [obind_s]
  obtain ⟨r, hr⟩ := text_cut n hn s (by omega) (L - 1 - cut.toNat % L) (by rw [hb, hl]; omega)
  rw [hb] at hr
  rw [show Int64.ofInt ↑(List.length s) = I64 s.length from rfl, hr]
  have hel2 := enc_len v
  simp only [obind_s, err_spec]
  have e4 : (!([] : List UInt8) == []) = false := rfl
  rw [e4, uint_spec n hn [] v (by simp)]
  simp only [oite_f, decide_true, Bool.not_true, obind_s, List.nil_append]
  rw [bytes_spec n (enc v) (by omega)]
  simp only [obind_s, f9]
  rw [count_spec n hn v top]
  by_cases c : top < v
  · have c2 : ¬ v ≤ top := fun h => by have := UInt64.lt_iff_toNat_lt.1 c; have := UInt64.le_iff_toNat_le.1 h; omega
    rw [if_pos c, dec_f c2, dec_t c]
    rfl
  · have c2 : v ≤ top := UInt64.le_iff_toNat_le.2 (by have := mt UInt64.lt_iff_toNat_lt.2 c; omega)
    rw [if_neg c, dec_t c2]
    simp only [obind_s, oite_t, decide_true, done_ok]
theorem F4_eq (n : Nat) (s : List UInt8) (most : Int64) (v top : UInt64) (cut : UInt8) (h8 : F8 n () = some (true, ())) : F4 n (s, most, v, top, cut) = oite (decide ((200 : Int64) < I64 s.length)) (some (true, ()))
    (obind (F14 n (some [], s)) fun x_2 => obind (F15 n x_2.2) fun x_3 => obind (F16 n (some (x_3.1, 0), most)) fun x_5 =>
      oite (decide (IK.maxI IntKind.i64 most 0 < I64 s.length))
        (oite (!x_5.1 == []) (some (false, ())) (obind (F11 n x_5.2) fun x_6 => oite (!decide (x_6.1 = (4 : Int64))) (some (false, ()))
          (oite (!decide (IK.maxI IntKind.i64 most 0 < I64 s.length)) (oite (!x_5.1 == s) (some (false, ())) (obind (F17 n x_6.2) fun x_7 => oite (!decide (x_7.1 = (0 : Int64))) (some (false, ())) (F4_J1023 n s v top cut x_3.1))) (F4_J1023 n s v top cut x_3.1))))
        (oite (!decide (IK.maxI IntKind.i64 most 0 < I64 s.length)) (oite (!x_5.1 == s) (some (false, ())) (obind (F17 n x_5.2) fun x_6 => oite (!decide (x_6.1 = (0 : Int64))) (some (false, ())) (F4_J1023 n s v top cut x_3.1))) (F4_J1023 n s v top cut x_3.1))) := by
  unfold F4
  rw [h8]
  rfl
theorem limits_true : ∀ x : sig4.In, PTys.fits sig4.ps x → ∃ y, F4 200 x = some y ∧ PTys.hd (.one (.c .bool)) .nil y.1 = true := by
  rintro ⟨s, most, v, top, cut⟩ hfit
  have hs : s.length < 2 ^ 63 := by have := hfit.1; simp only [PTy.fits, CT.fits] at this; exact this
  refine ⟨(true, ()), ?_, rfl⟩
  refine (F4_eq _ _ _ _ _ _ awakeP).trans ?_
  by_cases h : (200 : Int64) < I64 s.length
  · rw [dec_t h, oite_t]
  · have hl : s.length ≤ 200 := by have := mt (i64_lt (a := 200) (b := s.length) (by omega) hs).2 h; omega
    have hel := enc_len (UInt64.ofNat s.length)
    have fin := limits_end 200 (by omega) s hl v top cut
    rw [dec_f h, oite_f, text_put 200 (by omega) [] s (by simp; omega)]
    simp only [obind_s, List.nil_append]
    rw [bytes_spec 200 _ (by simp; omega)]
    simp only [obind_s]
    have hmax := maxI_le most s.length (by omega)
    by_cases c : IK.maxI IntKind.i64 most 0 < I64 s.length
    · have := text_long 200 (by omega) s [] most (by simp; omega) (hmax.2 c)
      rw [List.append_nil, List.append_nil] at this
      rw [this, dec_t c]
      simp only [obind_s, oite_t, err_spec, decide_true, Bool.not_true, oite_f]
      exact fin
    · have := text_back 200 (by omega) s [] most (by simp; omega) (fun q => c (hmax.1 q))
      rw [List.append_nil] at this
      have e4 : (!s == s) = false := by simp
      rw [this, dec_f c]
      simp only [obind_s, oite_f, done_ok, e4, Bool.not_false, oite_t, decide_true, Bool.not_true]
      exact fin
end Go.Proofs.Ytfhclambjgnmpaa
