/- The law CondNumbers: any text as a number, without a sign, and with one. -/
import Derived.Test.YtbogfhocjpicjaaCoOrder
open Go Go.Sx
namespace Go.Proofs.Ytbogfhocjpicjaa
theorem digit (v : UInt64) (x : UInt8) (h : ¬ x < 48) : v * 10 + UInt64.ofInt ↑(UInt8.toNat (x - 48)) = v * 10 + UInt64.ofInt ↑(UInt8.toNat x) - 48 := by
  have h' : (48 : UInt8) ≤ x := by simpa using h
  have h2 : 48 ≤ x.toNat := UInt8.le_iff_toNat_le.1 h'
  have e : (x - 48).toNat = x.toNat - 48 := by rw [UInt8.toNat_sub_of_le _ _ h']; rfl
  have hx := UInt8.toNat_lt x
  rw [e]
  have e2 : UInt64.ofInt ((x.toNat - 48 : Nat) : Int) = UInt64.ofInt (x.toNat : Int) - 48 := by
    apply UInt64.toNat.inj
    have hle : (48 : UInt64) ≤ UInt64.ofInt (x.toNat : Int) := by
      rw [UInt64.le_iff_toNat_le, UInt64.ofInt, UInt64.toNat_ofNat']; simp; omega
    rw [UInt64.toNat_sub_of_le _ _ hle]
    simp [UInt64.ofInt]; omega
  rw [e2]; grind
theorem num_loop (m : Nat) : ∀ (k : Nat) (s : List UInt8) (most v : UInt64), s.length < 2 ^ 63 → k ≤ s.length → s.length - k < m →
    ∃ r, F16_R61 m s most v (I64 s.length) (I64 k) = some (r, ()) ∧ F17_R61 m s most v (I64 k) = some (r, ()) := by
  induction m with
  | zero => intros; omega
  | succ m ih =>
    intro k s most v hs hk hm
    rw [F16_R61_s, F17_R61_s]
    unfold F16_L61 F17_L61
    by_cases hlt : k < s.length
    · rw [dec_t ((i64_lt (by omega) hs).2 hlt)]
      simp only [oite_t]
      rw [at_i64_lt (by omega) hlt]
      simp only [obind_s]
      by_cases h1 : s[k] < 48
      · rw [dec_t h1]; exact ⟨_, rfl, rfl⟩
      · rw [dec_f h1]; simp only [oite_f]
        by_cases h2 : 57 < s[k]
        · rw [dec_t h2]; exact ⟨_, rfl, rfl⟩
        · rw [dec_f h2]; simp only [oite_f]
          rw [digit _ _ h1, i64_succ]
          exact ih (k + 1) s most _ hs (by omega) (by omega)
    · rw [dec_f (fun h => hlt ((i64_lt (by omega) hs).1 h))]
      exact ⟨_, rfl, rfl⟩
theorem num_same (n : Nat) (hn : 20 < n) (s : List UInt8) (most : UInt64) (hs : s.length < 2 ^ 63) : ∃ r, F16 n (s, most) = some (r, ()) ∧ F17 n (s, most) = some (r, ()) := by
  have key : s.length ≤ 19 → ∃ r, F16_J3 n s most = some (r, ()) ∧ F17_J3 n s most = some (r, ()) := fun h => num_loop n 0 s most 0 hs (by omega) (by omega)
  unfold F16 F17
  simp only [ojoinA_eq]
  by_cases h0 : s.length = 0
  · have : s = [] := List.length_eq_zero_iff.1 h0
    subst this
    exact ⟨_, rfl, rfl⟩
  · have e1 : decide (Int64.ofInt ↑(List.length s) < (1 : Int64)) = false := dec_f fun h => by have := (i64_lt (a := s.length) (b := 1) hs (by omega)).1 h; omega
    have e2 : decide (Int64.ofInt ↑(List.length s) = (0 : Int64)) = false := dec_f fun h => h0 ((i64_eq (a := s.length) (b := 0) hs (by omega)).1 h)
    rw [e1, e2]
    simp only [oite_f]
    by_cases h19 : 19 < s.length
    · have : decide ((19 : Int64) < Int64.ofInt ↑(List.length s)) = true := dec_t ((i64_lt (a := 19) (by omega) hs).2 h19)
      rw [this]; exact ⟨_, rfl, rfl⟩
    · have : decide ((19 : Int64) < Int64.ofInt ↑(List.length s)) = false := dec_f fun h => h19 ((i64_lt (a := 19) (by omega) hs).1 h)
      rw [this]
      simp only [oite_f]
      by_cases h1 : 1 < s.length
      · have : decide ((1 : Int64) < Int64.ofInt ↑(List.length s)) = true := dec_t ((i64_lt (a := 1) (by omega) hs).2 h1)
        rw [this]
        simp only [oite_t]
        have hat : at? s (Int64.toInt 0) = some s[0] := at_i64_lt (k := 0) (by omega) (by omega)
        rw [hat]
        simp only [obind_s]
        by_cases hz : s[0] = 48
        · rw [dec_t hz]; exact ⟨_, rfl, rfl⟩
        · rw [dec_f hz]; simp only [oite_f]; exact key (by omega)
      · have : decide ((1 : Int64) < Int64.ofInt ↑(List.length s)) = false := dec_f fun h => h1 ((i64_lt (a := 1) (by omega) hs).1 h)
        rw [this]
        simp only [oite_f]
        exact key (by omega)
/-- a text begins with another one -/
theorem prefix_spec (n : Nat) (s p : List UInt8) (hs : s.length < 2 ^ 63) (hp : p.length < 2 ^ 63) : F33 n (s, p) = some (decide (p.length ≤ s.length) && (s.take p.length == p), ()) := by
  unfold F33
  simp only
  by_cases h : p.length ≤ s.length
  · rw [dec_t ((i64_le hp hs).2 h), oite_t, i64_toInt hp, dec_t h]
    have : (decide ((0 : Int) ≤ (p.length : Int)) && Nat.ble (Int.toNat (p.length : Int)) s.length && true) = true := by rw [ble_t (by omega)]; simp
    rw [this, oite_t]
    simp
  · rw [dec_f (fun c => h ((i64_le hp hs).1 c)), oite_f, dec_f h]; rfl
theorem cut_spec (n : Nat) (s p : List UInt8) (hs : s.length < 2 ^ 63) (hp : p.length < 2 ^ 63) : F27 n (s, p) = some (if p.length ≤ s.length ∧ s.take p.length = p then (s.drop p.length, true) else (s, false), ()) := by
  unfold F27 F32
  simp only [prefix_spec n s p hs hp, obind_s]
  by_cases h : p.length ≤ s.length
  · by_cases h2 : s.take p.length = p
    · have e1 : (decide (p.length ≤ s.length) && (s.take p.length == p)) = true := by simp [h, h2]
      have e2 : (decide ((0 : Int) ≤ Int64.toInt (I64 p.length)) && Nat.ble (Int.toNat (Int64.toInt (I64 p.length))) s.length) = true := by
        rw [i64_toInt hp, ble_t (by omega)]; simp
      rw [e1, if_pos ⟨h, h2⟩, e2]
      simp only [Bool.not_true, oite_f, oite_t, obind_s]
      rw [i64_toInt hp, List.take_length]; rfl
    · have e1 : (decide (p.length ≤ s.length) && (s.take p.length == p)) = false := by simp [h2]
      rw [e1, if_neg (fun c => h2 c.2)]; rfl
  · have e1 : (decide (p.length ≤ s.length) && (s.take p.length == p)) = false := by simp [h]
    rw [e1, if_neg (fun c => h c.1)]; rfl
theorem signed_same (n : Nat) (hn : 20 < n) (s : List UInt8) (hs : s.length < 2 ^ 63) : ∃ r, F18 n s = some (r, ()) ∧ F19 n s = some (r, ()) := by
  have neg : ∀ t : List UInt8, t.length < 2 ^ 63 → ∃ r, (obind (F16 n (t, (9223372036854775808 : UInt64))) fun (x_2 : (UInt64 × Bool) × Unit) =>
        oite (decide (Prod.fst (Prod.fst x_2) < (1 : UInt64))) (some (((0 : Int64), false), ()))
          (oite (!Prod.snd (Prod.fst x_2)) (some (((0 : Int64), false), ()))
            (some (((0 : Int64) - Int64.ofInt ↑(UInt64.toNat (Prod.fst (Prod.fst x_2) - (1 : UInt64))) - (1 : Int64), true), ())))) = some (r, ()) ∧
      (obind (F17 n (t, (9223372036854775808 : UInt64))) fun (x_2 : (UInt64 × Bool) × Unit) =>
                oite (!Prod.snd (Prod.fst x_2)) (some (((0 : Int64), false), ()))
                  (oite (decide (Prod.fst (Prod.fst x_2) = (0 : UInt64))) (some (((0 : Int64), false), ()))
                    (some (((0 : Int64) - Int64.ofInt ↑(UInt64.toNat (Prod.fst (Prod.fst x_2) - (1 : UInt64))) - (1 : Int64), true), ())))) = some (r, ()) := by
    intro t ht
    obtain ⟨⟨v, ok⟩, h1, h2⟩ := num_same n hn t 9223372036854775808 ht
    rw [h1, h2]
    simp only [obind_s]
    cases ok with
    | false => by_cases h : v < 1 <;> simp [oite, h]
    | true =>
      by_cases h : v = 0
      · subst h; exact ⟨_, rfl, rfl⟩
      · have : ¬ v < 1 := by grind
        rw [dec_f h, dec_f this]; exact ⟨_, rfl, rfl⟩
  have pos : ∃ r, (obind (F16 n (s, (9223372036854775807 : UInt64))) fun (x_2 : (UInt64 × Bool) × Unit) =>
        some ((Int64.ofInt ↑(UInt64.toNat (Prod.fst (Prod.fst x_2))), Prod.snd (Prod.fst x_2)), ())) = some (r, ()) ∧ F19_J3 n s = some (r, ()) := by
    obtain ⟨⟨v, ok⟩, h1, h2⟩ := num_same n hn s 9223372036854775807 hs
    unfold F19_J3
    rw [h1, h2]; exact ⟨_, rfl, rfl⟩
  unfold F18 F19
  rw [cut_spec n s [45] hs (by simp)]
  simp only [obind_s, ojoinA_eq]
  cases s with
  | nil => exact pos
  | cons a t =>
    have e1 : decide ((0 : Int64) < Int64.ofInt ↑(List.length (a :: t))) = true := dec_t ((i64_lt (a := 0) (b := (a :: t).length) (by omega) hs).2 (by simp))
    have hat : at? (a :: t) (Int64.toInt 0) = some a := at_i64_lt (k := 0) (by omega) (by simp)
    rw [e1]
    simp only [oite_t]
    rw [hat]
    simp only [obind_s]
    by_cases ha : a = 45
    · subst ha
      have e2 : Nat.ble (Int.toNat (Int64.toInt 1)) (List.length (45 :: t)) = true := ble_t (by simp)
      have e3 : List.drop (Int.toNat (Int64.toInt 1)) (List.take (List.length (45 :: t)) (45 :: t)) = t := by
        rw [List.take_length]; rfl
      rw [e2, e3, if_pos (by simp)]
      simp only [decide_true, oite_t]
      exact neg t (by simp at hs; omega)
    · rw [if_neg (by simp [ha])]
      rw [dec_f ha]
      simp only [oite_f]
      exact pos
theorem F5_eq (n : Nat) (s : List UInt8) (most : UInt64) (h7 : F7 n () = some (true, ())) (a b : UInt64 × Bool) (c d : Int64 × Bool) (ha : F16 n (s, most) = some (a, ())) (hb : F17 n (s, most) = some (b, ()))
    (hc : F18 n s = some (c, ())) (hd : F19 n s = some (d, ())) (hab : a = b) (hcd : c = d) : F5 n (s, most) = some (true, ()) := by
  subst hab; subst hcd
  unfold F5
  rw [h7]
  simp only [obind_s, Bool.not_true, oite_f, ha, hb, hc, hd]
  obtain ⟨a1, a2⟩ := a
  obtain ⟨c1, c2⟩ := c
  generalize decide ((40 : Int64) < Int64.ofInt ↑(List.length s)) = q
  cases q <;> cases a2 <;> cases c2 <;> simp [oite]
theorem numbers_true : ∀ x : sig5.In, PTys.fits sig5.ps x → ∃ y, F5 200 x = some y ∧ PTys.hd (.one (.c .bool)) .nil y.1 = true := by
  rintro ⟨s, most⟩ hfit
  have hs : s.length < 2 ^ 63 := by have := hfit.1; simp only [PTy.fits, CT.fits] at this; exact this
  refine ⟨(true, ()), ?_, rfl⟩
  obtain ⟨a, h1, h2⟩ := num_same 200 (by omega) s most hs
  obtain ⟨c, h3, h4⟩ := signed_same 200 (by omega) s hs
  exact F5_eq 200 s most awakeC a a c c h1 h2 h3 h4 rfl rfl
end Go.Proofs.Ytbogfhocjpicjaa
