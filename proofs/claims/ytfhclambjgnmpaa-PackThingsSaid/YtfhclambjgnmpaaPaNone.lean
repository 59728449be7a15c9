/- The laws PackNone and PackFails: a nil writer, a nil reader; behind an error everything is nought. -/
import Derived.Test.YtfhclambjgnmpaaPaLib
open Go Go.Sx
namespace Go.Proofs.Ytfhclambjgnmpaa
theorem awakeP : F8 200 () = some (true, ()) := by kernel_rfl
theorem lenU {k : Nat} (h : k < 2 ^ 63) : UInt64.ofInt (Int64.toInt (I64 k)) = UInt64.ofNat k := by
  apply UInt64.toNat.inj
  rw [i64_toInt h]
  have := u64_ofInt (k : Int)
  rw [UInt64.toNat_ofNat']; omega
theorem w_none (n : Nat) (v : UInt64) : F18 n (none, v) = some ((), none) := rfl
theorem wb_none (n : Nat) (c : UInt8) : F28 n (none, c) = some ((), none) := rfl
theorem r_none (n : Nat) : F10 (n + 1) none = some (0, none) := by
  show F10_R15 (n + 1) (n + 1) 0 0 none = _
  rw [F10_R15_s]; rfl
theorem long_spec (n : Nat) (hn : 10 < n) (s : List UInt8) (hs : s.length ≤ 4000000000) : F31 n s = some (enc (UInt64.ofNat s.length) ++ s, ()) := by
  unfold F31
  rw [show (Int64.ofInt ↑(List.length s)) = I64 s.length from rfl, lenU (by omega), ref_spec n hn, obind_s]
  have := enc_len (UInt64.ofNat s.length)
  simp only
  rw [ble_t (by omega), oite_t]
theorem put_none (n : Nat) (hn : 10 < n) (k : UInt8) (v : UInt64) (s : List UInt8) (hs : s.length ≤ 4000000000) : ∃ y, F24 n ((k, v, s), none) = some (y, none) := by
  unfold F24
  simp only [wb_none, w_none, ref_spec n hn, long_spec n hn s hs, obind_s]
  generalize decide (k % 5 = 0) = b0
  generalize decide (k % 5 = 1) = b1
  generalize decide (k % 5 = 2) = b2
  generalize decide (k % 5 = 3) = b3
  have h26 : ∀ z, F26 n (none, z) = some ((), none) := fun z => rfl
  have h29 : ∀ z, ∃ y, F29 n z = some (y, ()) := fun z => by
    unfold F29
    simp only [ref_spec n hn, obind_s]
    generalize decide (z < 0) = q
    cases q <;> exact ⟨_, rfl⟩
  have h30 : ∀ z, F30 n (none, z) = some ((), none) := fun z => by cases z <;> rfl
  have h14 : F14 n (none, s) = some ((), none) := rfl
  obtain ⟨y, hy⟩ := h29 (Int64.ofInt ↑(UInt64.toNat v))
  rw [h26, h30, h14, hy]
  simp only [obind_s]
  cases b0 <;> cases b1 <;> cases b2 <;> cases b3 <;> exact ⟨_, rfl⟩
theorem F6_eq (n : Nat) (k : UInt8) (v : UInt64) (s : List UInt8) (most : Int64) (h8 : F8 (n + 1) () = some (true, ())) (hlen : decide ((100 : Int64) < I64 s.length) = false)
    (y : List UInt8) (hy : F24 (n + 1) ((k, v, s), none) = some (y, none)) : F6 (n + 1) ((k, v, s), most) = some (true, ()) := by
  unfold F6
  rw [h8]
  simp only [obind_s, Bool.not_true, oite_f]
  rw [show (Int64.ofInt ↑(List.length s)) = I64 s.length from rfl, hlen, hy]
  have a1 : F20 (n + 1) (none, (2 : Int64)) = some ((), none) := rfl
  have a2 : F15 (n + 1) none = some ([], none) := rfl
  have a3 : F11 (n + 1) none = some (1, none) := rfl
  have a4 : F21 (n + 1) none = some (0, none) := rfl
  have a6 : F23 (n + 1) none = some (false, none) := rfl
  have a7 : F16 (n + 1) (none, most) = some ([], none) := by unfold F16; rw [r_none]; rfl
  have a8 : F12 (n + 1) none = some (0, none) := rfl
  have a9 : F17 (n + 1) none = some (1, none) := rfl
  simp only [oite_f, obind_s, a1, a2, a3, a4, r_none, a6, a7, a8, a9]
  rfl
theorem none_true : ∀ x : sig6.In, PTys.fits sig6.ps x → ∃ y, F6 200 x = some y ∧ PTys.hd (.one (.c .bool)) .nil y.1 = true := by
  rintro ⟨⟨k, v, s⟩, most⟩ hfit
  have hs : s.length < 2 ^ 63 := by have := hfit.1; simp only [PTy.fits, CTs.fits, CT.fits] at this; exact this.2.2.1
  refine ⟨(true, ()), ?_, rfl⟩
  by_cases h : (100 : Int64) < I64 s.length
  · show obind (F8 200 ()) _ = _
    rw [awakeP]
    simp only [obind_s, Bool.not_true, oite_f]
    rw [show (Int64.ofInt ↑(List.length s)) = I64 s.length from rfl, dec_t h]; rfl
  · have hl : s.length ≤ 100 := by have := mt (i64_lt (a := 100) (b := s.length) (by omega) hs).2 h; omega
    obtain ⟨y, hy⟩ := put_none 200 (by omega) k v s (by omega)
    exact F6_eq 199 k v s most awakeP (dec_f h) y hy

/-! behind an error -/
theorem text_err (n : Nat) (hn : 10 < n) (b : List UInt8) (e most : Int64) (h : e ≠ 0) : F16 n (some (b, e), most) = some ([], some (b, e)) := by
  unfold F16
  rw [read_err n hn b e h]
  simp only [obind_s, ok_spec]
  rw [dec_f h]; rfl
theorem fails_loop (n : Nat) (hn : 10 < n) (b : List UInt8) (code : Int64) (h : code ≠ 0) (len : Nat) (hlen : len ≤ 20) (m : Nat) : ∀ k, k ≤ len → len - k < m → F5_R1021 n m code (I64 len) (I64 k) (some (b, code)) = some (true, ()) := by
  induction m with
  | zero => intros; omega
  | succ m ih =>
    intro k hk hm
    rw [F5_R1021_s]
    unfold F5_L1021
    by_cases hlt : k < len
    · rw [dec_t ((i64_lt (by omega) (by omega)).2 hlt)]
      have f22 : F22 n (some (b, code)) = some (0, some (b, code)) := by
        have z : (Int64.ofInt ↑(UInt64.toNat (IK.shr IntKind.u64 0 ↑(UInt64.toNat (1 : UInt64)))) ^^^ (0 : Int64) - Int64.ofInt ↑(UInt64.toNat ((0 : UInt64) &&& 1))) = 0 := by decide +kernel
        unfold F22; rw [read_err n hn b code h, obind_s]; simp only; rw [z]
      have f23 : F23 n (some (b, code)) = some (false, some (b, code)) := by unfold F23; rw [byte_err n b code h]; rfl
      have f19 : F19 n (some (b, code), 9) = some (0, some (b, code)) := by unfold F19; rw [read_err n hn b code h]; rfl
      simp only [oite_t, byte_err n b code h, read_err n hn b code h, f22, f23, f19, text_err n hn b code 9 h, fail_later n b code (code + 1) h, obind_s, i64_succ]
      exact ih (k + 1) (by omega) (by omega)
    · rw [dec_f (fun q => hlt ((i64_lt (by omega) (by omega)).1 q))]
      have f17 : F17 n (some (b, code)) = some (code, some (b, code)) := by unfold F17; rw [left_err n b code h]; rfl
      simp only [oite_f, left_err n b code h, err_spec, f17, obind_s, decide_true, oite_t]
theorem F5_eq (n : Nat) (b : List UInt8) (l : List (UInt8 × UInt64 × List UInt8)) (e : Int64) (h8 : F8 n () = some (true, ())) : F5 n (b, l, e) = oite (decide ((100 : Int64) < I64 b.length)) (some (true, ()))
    (oite (decide ((20 : Int64) < I64 l.length)) (some (true, ())) (oite (decide (e = 0)) (some (true, ())) (F5_R1021 n n e (I64 l.length) 0 (some (b, e))))) := by
  unfold F5
  rw [h8]
  have f9 : F9 n b = some (some (b, 0), ()) := rfl
  simp only [obind_s, Bool.not_true, oite_f, f9, fail_first, err_spec]
  by_cases he : e = 0
  · subst he
    simp only [left_ok, obind_s, decide_true, oite_t]
  · rw [dec_f he]; rfl
theorem fails_true : ∀ x : sig5.In, PTys.fits sig5.ps x → ∃ y, F5 200 x = some y ∧ PTys.hd (.one (.c .bool)) .nil y.1 = true := by
  rintro ⟨b, l, e⟩ hfit
  have hl : l.length < 2 ^ 63 := by have := hfit.2.1; simp only [PTy.fits, CT.fits] at this; exact this.1
  refine ⟨(true, ()), ?_, rfl⟩
  refine (F5_eq _ _ _ _ awakeP).trans ?_
  by_cases h1 : (100 : Int64) < I64 b.length
  · rw [dec_t h1, oite_t]
  · rw [dec_f h1, oite_f]
    by_cases h2 : (20 : Int64) < I64 l.length
    · rw [dec_t h2, oite_t]
    · have hl2 : l.length ≤ 20 := by have := mt (i64_lt (a := 20) (b := l.length) (by omega) hl).2 h2; omega
      rw [dec_f h2, oite_f]
      by_cases he : e = 0
      · rw [dec_t he, oite_t]
      · rw [dec_f he, oite_f]
        exact fails_loop 200 (by omega) b e he l.length hl2 200 0 (by omega) (by omega)
end Go.Proofs.Ytfhclambjgnmpaa
