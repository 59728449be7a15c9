/- The laws PackLimits and PackThings: texts and numbers up to a limit; things of any kind, put and taken. -/
import Derived.Test.YtehelahnlnfofaaItLib
open Go Go.Sx
namespace Go.Proofs.Ytehelahnlnfofaa
theorem lenU {k : Nat} (h : k < 2 ^ 63) : UInt64.ofInt (Int64.toInt (I64 k)) = UInt64.ofNat k := by
  apply UInt64.toNat.inj
  rw [i64_toInt h]
  have := u64_ofInt (k : Int)
  rw [UInt64.toNat_ofNat']; omega
theorem bytes_spec (n : Nat) (w : List UInt8) (h : w.length ≤ 4294967296) : F26 n (some w) = some (w, some w) := by
  unfold F26; rw [oelim_s, ble_t (by omega), oite_t]; rfl
theorem text_put (n : Nat) (hn : 10 < n) (w s : List UInt8) (h : w.length + s.length ≤ 4000000000) : F46 n (some w, s) = some ((), some (w ++ (enc (UInt64.ofNat s.length) ++ s))) := by
  unfold F46
  have := enc_len (UInt64.ofNat s.length)
  rw [oelim_s, show (Int64.ofInt ↑(List.length (w, s).2)) = I64 s.length from rfl, lenU (by omega), uint_spec n hn w _ (by omega)]
  simp only [obind_s]
  rw [ble_t (by simp; omega), oite_t, List.append_assoc]
/-- what taking a text comes to -/
def maxU (most : Int64) : UInt64 := UInt64.ofInt (Int64.toInt (IK.maxI IntKind.i64 most 0))
theorem text_take (n : Nat) (hn : 10 < n) (b : List UInt8) (most : Int64) (hb : b.length < 2 ^ 62) : F67 n (some (b, 0), most) =
    if (dec 0 b).1 = 0 then
      (if maxU most < UInt64.ofNat (dec 0 b).2.1 then some ([], some ((dec 0 b).2.2, 4))
       else if (dec 0 b).2.2.length < (dec 0 b).2.1 then some ([], some ((dec 0 b).2.2, 3))
       else some ((dec 0 b).2.2.take (dec 0 b).2.1, some ((dec 0 b).2.2.drop (dec 0 b).2.1, 0)))
    else some ([], some ((dec 0 b).2.2, (dec 0 b).1)) := by
  unfold F67
  rw [read_spec n hn b (by omega)]
  simp only [obind_s]
  unfold decR decF
  by_cases h : (dec 0 b).1 = 0
  · obtain ⟨b1, b2⟩ := dec_enc_back b h
    rw [if_pos h, if_pos h]
    have hlen : (dec 0 b).2.2.length ≤ b.length := by have := congrArg List.length b2; simp only [List.length_append] at this; omega
    generalize (dec 0 b).2.1 = u at *
    generalize (dec 0 b).2.2 = r at *
    have e0 : UInt64.ofNat (0 + u * 128 ^ 0) = UInt64.ofNat u := by simp
    have hu : (UInt64.ofNat u).toNat = u := by rw [UInt64.toNat_ofNat']; omega
    rw [e0]
    simp only [ok_spec, obind_s, decide_true, Bool.not_true, oite_f]
    rw [show UInt64.ofInt (Int64.toInt (IK.maxI IntKind.i64 most 0)) = maxU most from rfl]
    by_cases h1 : maxU most < UInt64.ofNat u
    · rw [dec_t h1, if_pos h1]; simp only [oite_t, fail_first, obind_s]
    · rw [dec_f h1, if_neg h1]
      simp only [oite_f]
      rw [show (Int64.ofInt ↑(List.length r)) = I64 r.length from rfl, lenU (by omega)]
      have e1 : decide (UInt64.ofNat r.length < UInt64.ofNat u) = decide (r.length < u) := by
        rw [decide_eq_decide, UInt64.lt_iff_toNat_lt, hu, UInt64.toNat_ofNat']; omega
      rw [e1, hu]
      by_cases h2 : r.length < u
      · rw [dec_t h2, if_pos h2]; simp only [oite_t, fail_first, obind_s]
      · rw [dec_f h2, if_neg h2]
        have e2 : Int.toNat ((u : Nat) : Int) = u := by omega
        rw [e2, ble_t (by omega), dec_t (by omega)]
        simp only [oite_f, Bool.and_true, oite_t, List.take_length, List.drop_zero]
  · rw [if_neg h, if_neg h]
    simp only [ok_spec, obind_s]
    rw [dec_f h]; rfl
theorem maxU_len {k : Nat} (h : k < 2 ^ 63) : maxU (I64 k) = UInt64.ofNat k := by
  unfold maxU
  have e : IK.maxI IntKind.i64 (I64 k) 0 = I64 k := by
    unfold IK.maxI
    have : IK.ltb .i64 (I64 k) 0 = false := by
      show decide (I64 k < (0 : Int64)) = false
      exact dec_f fun q => by have := (i64_lt (a := k) (b := 0) h (by omega)).1 q; omega
    rw [this]
  rw [e, lenU h]
theorem u64_ofNat {k : Nat} (h : k < 2 ^ 64) : (UInt64.ofNat k).toNat = k := by rw [UInt64.toNat_ofNat']; omega
theorem dec_text (s rest : List UInt8) (hs : s.length < 2 ^ 62) : dec 0 (enc (UInt64.ofNat s.length) ++ s ++ rest) = (0, s.length, s ++ rest) := by
  rw [List.append_assoc, dec_enc64, u64_ofNat (by omega)]
/-- a text that was put is taken, if it may be so long -/
theorem text_back (n : Nat) (hn : 10 < n) (s rest : List UInt8) (most : Int64) (hs : s.length + rest.length < 2 ^ 61) (hm : ¬ maxU most < UInt64.ofNat s.length) :
    F67 n (some (enc (UInt64.ofNat s.length) ++ s ++ rest, 0), most) = some (s, some (rest, 0)) := by
  have := enc_len (UInt64.ofNat s.length)
  rw [text_take n hn _ most (by simp; omega), dec_text s rest (by omega)]
  simp only [if_true]
  rw [if_neg hm, if_neg (by simp)]
  simp
theorem text_long (n : Nat) (hn : 10 < n) (s rest : List UInt8) (most : Int64) (hs : s.length + rest.length < 2 ^ 61) (hm : maxU most < UInt64.ofNat s.length) :
    F67 n (some (enc (UInt64.ofNat s.length) ++ s ++ rest, 0), most) = some ([], some (s ++ rest, 4)) := by
  have := enc_len (UInt64.ofNat s.length)
  rw [text_take n hn _ most (by simp; omega), dec_text s rest (by omega)]
  simp only [if_true]
  rw [if_pos hm]
theorem done_ok (n : Nat) : F54 n (some ([], 0)) = some (0, some ([], 0)) := rfl
/-- cut, a text is too short -/
theorem text_cut (n : Nat) (hn : 10 < n) (s : List UInt8) (hs : s.length ≤ 1000) (k : Nat) (hk : k < (enc (UInt64.ofNat s.length) ++ s).length) :
    ∃ r, F67 n (some ((enc (UInt64.ofNat s.length) ++ s).take k, 0), I64 s.length) = some ([], some (r, 3)) := by
  have hel := enc_len (UInt64.ofNat s.length)
  rw [text_take n hn _ _ (by simp; omega)]
  by_cases h : k < (enc (UInt64.ofNat s.length)).length
  · have : dec 0 ((enc (UInt64.ofNat s.length) ++ s).take k) = (3, 0, []) := by
      rw [List.take_append_of_le_length (by omega)]
      exact dec_cut 9 _ 0 k (toNat_lt128 _) (by have := UInt64.toNat_lt (UInt64.ofNat s.length); simpa using this) h
    rw [this]; exact ⟨_, rfl⟩
  · have e : (enc (UInt64.ofNat s.length) ++ s).take k = enc (UInt64.ofNat s.length) ++ s.take (k - (enc (UInt64.ofNat s.length)).length) := by
      rw [List.take_append]
      congr 1
      exact List.take_of_length_le (by omega)
    rw [e, dec_enc64, u64_ofNat (by omega)]
    simp only [if_true]
    have hm : ¬ maxU (I64 s.length) < UInt64.ofNat s.length := by
      rw [maxU_len (by omega)]
      exact fun q => by have := UInt64.lt_iff_toNat_lt.1 q; omega
    have hl : (s.take (k - (enc (UInt64.ofNat s.length)).length)).length < s.length := by simp at hk ⊢; omega
    rw [if_neg hm, if_pos hl]
    exact ⟨_, rfl⟩
theorem maxI_le (most : Int64) (k : Nat) (hk : k < 2 ^ 62) : maxU most < UInt64.ofNat k ↔ IK.maxI IntKind.i64 most 0 < I64 k := by
  have h0 : 0 ≤ (IK.maxI IntKind.i64 most 0).toInt := by
    unfold IK.maxI
    cases h : IK.ltb .i64 most 0 with
    | true => exact Int.le_refl 0
    | false =>
      have : ¬ most < (0 : Int64) := of_decide_eq_false h
      have := mt Int64.lt_iff_toInt_lt.2 this
      have z : (0 : Int64).toInt = 0 := by decide
      show 0 ≤ Int64.toInt most; omega
  unfold maxU
  generalize IK.maxI IntKind.i64 most 0 = x at h0
  have := Int64.toInt_lt (x : Int64)
  have h0 : 0 ≤ Int64.toInt x := h0
  have e := u64_ofInt (Int64.toInt x)
  rw [UInt64.lt_iff_toNat_lt, u64_ofNat (by omega), Int64.lt_iff_toInt_lt, i64_toInt (by omega)]
  omega
end Go.Proofs.Ytehelahnlnfofaa
