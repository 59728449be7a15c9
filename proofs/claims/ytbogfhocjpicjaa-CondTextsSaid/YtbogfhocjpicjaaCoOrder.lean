/- The law CondOrder: points ahead of the last one, and times beyond, are errors, and change nothing. -/
import Derived.Test.YtbogfhocjpicjaaCoFns1
import Derived.Test.YtbogfhocjpicjaaSxPlain
open Go Go.Sx
namespace Go.Proofs.Ytbogfhocjpicjaa
def add32 (l : List (UInt64 × Int64)) (now : UInt64) (v : Int64) : List (UInt64 × Int64) := if l.length < 32 then l ++ [(now, v)] else (l ++ [(now, v)]).drop 1
theorem add32_len (l : List (UInt64 × Int64)) (now : UInt64) (v : Int64) (h : l.length ≤ 32) : (add32 l now v).length = min (l.length + 1) 32 := by
  unfold add32; split <;> simp <;> omega
theorem add32_last (l : List (UInt64 × Int64)) (now : UInt64) (v : Int64) : (add32 l now v).getLast? = some (now, v) := by
  unfold add32; split
  · simp
  · cases l with
    | nil => simp at *
    | cons a r => simp
theorem J3_spec (l : List (UInt64 × Int64)) (now : UInt64) (v : Int64) (hl : l.length ≤ 32) : F8_J3 now v l = some (0, some (add32 l now v)) := by
  unfold F8_J3 add32
  have e1 : List.length (l ++ [(now, v)]) = l.length + 1 := by simp
  have e2 : Int64.ofInt ((l ++ [(now, v)]).length : Int) = I64 (l.length + 1) := by rw [e1]
  rw [ble_t (by simp; omega), oite_t, e2]
  by_cases h : l.length < 32
  · have : ¬ ((0 : Int64) < I64 (l.length + 1) - 32) := by
      rw [Int64.lt_iff_toInt_lt, Int64.toInt_sub, i64_toInt (by omega)]
      have : ((l.length + 1 : Nat) : Int) - (32 : Int64).toInt = l.length + 1 - 32 := by simp
      rw [this, Int.bmod_eq_of_le (by omega) (by omega)]
      simp; omega
    rw [dec_f this, oite_f, if_pos h]
  · have h32 : l.length = 32 := by omega
    have e3 : I64 (l.length + 1) - 32 = I64 1 := by rw [h32]; rfl
    have t1 : (I64 1).toInt = 1 := by decide
    rw [e3, t1, e1, if_neg h, dec_t (by decide), oite_t]
    have e4 : (decide ((0 : Int) ≤ 1) && Nat.ble (Int.toNat 1) (l.length + 1)) = true := by rw [ble_t (by simp)]; rfl
    have e5 : List.take (l.length + 1 - Int.toNat 1) (List.drop (Int.toNat 1) (l ++ [(now, v)])) = List.drop 1 (l ++ [(now, v)]) := List.take_of_length_le (by simp)
    rw [e4, oite_t, e5, ble_t (by simp; omega), oite_t]
    simp
theorem lastI {l : List (UInt64 × Int64)} (h : 0 < l.length) (hl : l.length ≤ 32) :
    (decide ((0 : Int) ≤ Int64.toInt (Int64.ofInt ↑(List.length l) - (1 : Int64))) && Nat.blt (Int.toNat (Int64.toInt (Int64.ofInt ↑(List.length l) - (1 : Int64)))) (List.length l)) = true ∧
    l[Int.toNat (Int64.toInt (Int64.ofInt ↑(List.length l) - (1 : Int64)))]? = l.getLast? := by
  have e : Int64.ofInt (l.length : Int) - 1 = I64 (l.length - 1) := i64_sub (b := 1) h
  rw [e, i64_toInt (by omega), blt_iff]
  refine ⟨?_, by rw [List.getLast?_eq_getElem?]; simp⟩
  simp; omega
theorem add_spec (n : Nat) (l : List (UInt64 × Int64)) (now : UInt64) (v : Int64) (hl : l.length ≤ 32) :
    F8 n (some l, now, v) = if (1099511627776 : UInt64) < now then some ((6 : Int64), some l) else match l.getLast? with
      | some p => if now < p.1 then some (9, some l) else some (0, some (add32 l now v))
      | none => some (0, some (add32 l now v)) := by
  unfold F8
  simp only [ojoinA_eq, oelim_s]
  by_cases h1 : (1099511627776 : UInt64) < now
  · rw [dec_t h1, oite_t, if_pos h1]
  · rw [dec_f h1, oite_f, if_neg h1]
    by_cases h2 : l.length = 0
    · have : l = [] := List.length_eq_zero_iff.1 h2
      subst this
      have : decide ((0 : Int64) < Int64.ofInt ↑(List.length ([] : List (UInt64 × Int64)))) = false := by decide
      rw [this, oite_f, J3_spec _ _ _ hl]; rfl
    · have : decide ((0 : Int64) < Int64.ofInt ↑(List.length l)) = true := by
        have := (i64_lt (a := 0) (b := l.length) (by omega) (by omega)).2 (by omega)
        exact dec_t this
      obtain ⟨q1, q2⟩ := lastI (by omega) hl
      rw [this, oite_t, q1, oite_t, q2]
      obtain ⟨p, hp⟩ : ∃ p, l.getLast? = some p := by
        cases hh : l.getLast? with
        | none => rw [List.getLast?_eq_none_iff] at hh; subst hh; simp at h2
        | some p => exact ⟨p, rfl⟩
      rw [hp, obind_s]
      by_cases h3 : now < p.1
      · simp [oite, h3]
      · simp [oite, h3, J3_spec _ _ _ hl]
theorem points_spec (n : Nat) (l : List (UInt64 × Int64)) (hl : l.length ≤ 32) : F9 n (some l) = some (l, some l) := by
  unfold F9
  rw [oelim_s, ble_t (by omega), oite_t]; rfl
theorem last_spec (n : Nat) (l : List (UInt64 × Int64)) (hl : l.length ≤ 32) :
    F10 n (some l) = match l.getLast? with | some p => some ((p, true), some l) | none => some (((0, 0), false), some l) := by
  unfold F10
  rw [oelim_s]
  by_cases h2 : l.length = 0
  · have : l = [] := List.length_eq_zero_iff.1 h2
    subst this
    rfl
  · have : decide (Int64.ofInt ↑(List.length l) = (0 : Int64)) = false := dec_f fun h => h2 ((i64_eq (a := l.length) (b := 0) (by omega) (by omega)).1 h)
    obtain ⟨q1, q2⟩ := lastI (by omega) hl
    rw [this, oite_f, q1, oite_t, q2]
    cases hh : l.getLast? with
    | none => rw [List.getLast?_eq_none_iff] at hh; subst hh; simp at h2
    | some p => rfl

/-- what holds at the loop's head: so many points came, the last one so -/
def InvO (c : Nat) (last : UInt64) (v : Int64) (l : List (UInt64 × Int64)) : Prop :=
  l.length = min c 32 ∧ (0 < c → l.getLast? = some (last, v))
theorem minI_i64 {c : Nat} (h : c ≤ 100) : IK.minI IntKind.i64 (I64 c) (32 : Int64) = I64 (min c 32) := by
  unfold IK.minI
  have e : IK.ltb .i64 (32 : Int64) (I64 c) = decide (32 < c) := by
    show decide ((32 : Int64) < I64 c) = _
    rw [decide_eq_decide]; exact i64_lt (a := 32) (b := c) (by omega) (by omega)
  rw [e]
  by_cases h : 32 < c
  · rw [dec_t h, Nat.min_eq_right (by omega)]; rfl
  · rw [dec_f h, Nat.min_eq_left (by omega)]
theorem order_loop (n m : Nat) : ∀ (k c : Nat) (v : Int64) (last : UInt64) (t : List UInt64) (l : List (UInt64 × Int64)), t.length ≤ 60 → k ≤ t.length → c ≤ k → t.length - k < m → InvO c last v l →
    F4_R253 n m v last (I64 c) t (I64 t.length) (I64 k) (some l) = some (true, ()) := by
  induction m with
  | zero => intros; omega
  | succ m ih =>
    intro k c v last t l ht hk hck hm ⟨hl1, hl2⟩
    have hl : l.length ≤ 32 := by omega
    rw [F4_R253_s]
    unfold F4_L253
    by_cases hlt : k < t.length
    · rw [dec_t ((i64_lt (by omega) (by omega)).2 hlt), oite_t, at_i64_lt (by omega) hlt, obind_s, add_spec n l _ v hl]
      have hc0 : ∀ h : 0 < c, decide ((0 : Int64) < I64 c) = true := fun h => dec_t ((i64_lt (a := 0) (b := c) (by omega) (by omega)).2 h)
      have fin : ∀ (last' : UInt64) (c' : Nat) (l' : List (UInt64 × Int64)) (e : Int64), c' ≤ k + 1 → InvO c' last' v l' →
          F4_J32439 n (F4_R253 n m) v last' (I64 c') e e t (I64 t.length) (I64 k) (some l') = some (true, ()) := by
        intro last' c' l' e hc' hi
        unfold F4_J32439
        have hl' : l'.length ≤ 32 := by have := hi.1; omega
        rw [dec_t rfl]
        simp only [Bool.not_true, oite_f]
        rw [points_spec n l' hl', obind_s]
        simp only
        rw [minI_i64 (by omega), hi.1, dec_t rfl]
        simp only [Bool.not_true, oite_f]
        rw [i64_succ]
        exact ih (k + 1) c' v last' t l' ht (by omega) hc' (by omega) hi
      by_cases h1 : (1099511627776 : UInt64) < t[k]
      · rw [if_pos h1, obind_s]
        simp only [ojoinA_eq, dec_t h1, oite_t]
        exact fin last c l 6 (by omega) ⟨hl1, hl2⟩
      · rw [if_neg h1]
        by_cases h0 : 0 < c
        · rw [hl2 h0]
          by_cases h3 : t[k] < last
          · simp only [h3, if_true, obind_s, ojoinA_eq, dec_f h1, oite_f, hc0 h0, oite_t]
            exact fin last c l 9 (by omega) ⟨hl1, hl2⟩
          · simp only [h3, if_false, obind_s, ojoinA_eq, dec_f h1, oite_f, hc0 h0, oite_t, i64_succ]
            exact fin t[k] (c + 1) (add32 l t[k] v) 0 (by omega) ⟨by rw [add32_len _ _ _ hl]; omega, fun _ => add32_last _ _ _⟩
        · have hc : c = 0 := by omega
          subst hc
          have hn : l = [] := List.length_eq_zero_iff.1 (by omega)
          subst hn
          have : decide ((0 : Int64) < I64 0) = false := by decide
          simp only [List.getLast?_nil, obind_s, ojoinA_eq, dec_f h1, oite_f, this, i64_succ]
          exact fin t[k] (0 + 1) (add32 [] t[k] v) 0 (by omega) ⟨by rw [add32_len _ _ _ hl]; rfl, fun _ => add32_last _ _ _⟩
    · have hk' : k = t.length := by omega
      subst hk'
      rw [dec_f (fun h => by have := (i64_lt (by omega) (by omega)).1 h; omega), oite_f, last_spec n l hl]
      by_cases h0 : 0 < c
      · rw [hl2 h0, obind_s]
        have e1 : decide ((0 : Int64) < I64 c) = true := dec_t ((i64_lt (a := 0) (b := c) (by omega) (by omega)).2 h0)
        have e2 : decide (I64 c = (0 : Int64)) = false := dec_f fun h => by have := (i64_eq (a := c) (b := 0) (by omega) (by omega)).1 h; omega
        simp [e1, oite, e2]
      · have hc : c = 0 := by omega
        subst hc
        have hn : l = [] := List.length_eq_zero_iff.1 (by omega)
        subst hn
        rfl
theorem awakeC : F7 200 () = some (true, ()) := by kernel_rfl
theorem F4_eq (n : Nat) (t : List UInt64) (v : Int64) : F4 n (t, v) = obind (F7 n ()) fun x => oite (!x.1) (some (false, ()))
    (oite (decide ((60 : Int64) < I64 t.length)) (some (true, ())) (F4_R253 n n v 0 0 t (I64 t.length) 0 (some []))) := rfl
theorem order_true : ∀ x : sig4.In, PTys.fits sig4.ps x → ∃ y, F4 200 x = some y ∧ PTys.hd (.one (.c .bool)) .nil y.1 = true := by
  rintro ⟨t, v⟩ hfit
  have hlen : t.length < 2 ^ 63 := by have := hfit.1; simp only [PTy.fits, CT.fits] at this; exact this.1
  refine ⟨(true, ()), ?_, rfl⟩
  refine (F4_eq _ _ _).trans ?_
  rw [awakeC, obind_s]
  simp only [Bool.not_true, oite_f]
  by_cases h : (60 : Int64) < I64 t.length
  · rw [dec_t h, oite_t]
  · rw [dec_f h, oite_f]
    have hl : t.length ≤ 60 := by
      have := mt (i64_lt (a := 60) (b := t.length) (by omega) hlen).2 h; omega
    exact order_loop 200 200 0 0 v 0 t [] hl (by omega) (by omega) (by omega) ⟨rfl, fun h => by omega⟩
end Go.Proofs.Ytbogfhocjpicjaa
