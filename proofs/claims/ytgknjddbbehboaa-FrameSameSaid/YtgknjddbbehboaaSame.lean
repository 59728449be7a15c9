/- Lemmas moved here from another seat of this repo (tools/port.py). -/
import Derived.Test.YtgknjddbbehboaaCrc
open Go Go.Sx
namespace Go.Proofs.Ytgknjddbbehboaa
theorem eq_loop (l l' : List Pair) (hl : l.length < 2 ^ 63) (he : l.length = l'.length) : ∀ (m k : Nat), k ≤ l.length → l.length - k < m → ∃ r, F50_R29 m l l' (I64 l.length) (I64 k) = some (r, ()) ∧ (r = true ↔ l.drop k = l'.drop k) := by
  intro m
  induction m with
  | zero => intro k _ h; omega
  | succ m ih =>
    intro k hk hm
    rw [F50_R29_s]
    unfold F50_L29
    by_cases hlt : k < l.length
    · rw [dec_t ((i64_lt (by omega) hl).2 hlt), oite_t, at_i64_lt (by omega) hlt, obind_s, at_i64_lt (by omega) (by omega), obind_s]
      have hlt' : k < l'.length := by omega
      have e1 : l.drop k = l[k] :: l.drop (k + 1) := List.drop_eq_getElem_cons hlt
      have e2 : l'.drop k = l'[k] :: l'.drop (k + 1) := List.drop_eq_getElem_cons hlt'
      rw [e1, e2]
      cases hb : (l[k].1 == l'[k].1 && (l[k].2 == l'[k].2 && true)) with
      | true =>
        simp only [Bool.not_true, oite_f]
        obtain ⟨r, h1, h2⟩ := ih (k + 1) (by omega) (by omega)
        rw [i64_succ]
        refine ⟨r, h1, ?_⟩
        rw [h2, List.cons.injEq]
        simp only [Bool.and_true, Bool.and_eq_true, beq_iff_eq] at hb
        exact ⟨fun h => ⟨Prod.ext hb.1 hb.2, h⟩, fun h => h.2⟩
      | false =>
        simp only [Bool.not_false, oite_t]
        refine ⟨false, rfl, ?_⟩
        simp only [Bool.false_eq_true, false_iff, List.cons.injEq, not_and]
        intro h
        rw [h] at hb
        simp at hb
    · rw [dec_f (fun q => hlt ((i64_lt (by omega) hl).1 q)), oite_f]
      refine ⟨true, rfl, ?_⟩
      rw [List.drop_eq_nil_of_le (by omega), List.drop_eq_nil_of_le (by omega)]
      simp
theorem labs_same (n : Nat) (l l' : List Pair) (hl : l.length < 2 ^ 63) (hl' : l'.length < 2 ^ 63) (hn : l.length < n) : ∃ r, F33 n (l, l') = some (r, ()) ∧ (r = true ↔ l = l') := by
  unfold F33 F50
  by_cases he : l.length = l'.length
  · have : (I64 l.length = I64 l'.length) := by rw [he]
    obtain ⟨r, h1, h2⟩ := eq_loop l l' hl he n 0 (by omega) (by omega)
    refine ⟨r, ?_, by simpa using h2⟩
    dsimp only
    rw [dec_t this]
    simp only [Bool.not_true, oite_f]
    rw [show (0 : Int64) = I64 0 from rfl, h1]; rfl
  · refine ⟨false, ?_, by simp; intro h; exact he (by rw [h])⟩
    dsimp only
    rw [dec_f (fun h => he ((i64_eq hl hl').1 h))]
    rfl

theorem same12 (n : Nat) (x y : ItT) (hx : x.2.2.2.2.2.1.length < 2 ^ 63) (hy : y.2.2.2.2.2.1.length < 2 ^ 63) (hn : x.2.2.2.2.2.1.length < n) :
    ∃ r, F14 n (x, y) = some (r, ()) ∧ (r = true ↔ normI x = normI y) := by
  obtain ⟨a0, a1, a2, a3, a4, a5, a6, a7, a8, a9, a10, a11, a12⟩ := x
  obtain ⟨b0, b1, b2, b3, b4, b5, b6, b7, b8, b9, b10, b11, b12⟩ := y
  dsimp only at hx hy hn
  have gap : (a0 = true ∨ b0 = true) → ∃ r, F14_J14 n true a0 a1 a2 a3 a4 a5 a6 a7 a8 a9 a10 a11 a12 b0 b1 b2 b3 b4 b5 b6 b7 b8 b9 b10 b11 b12 a1 a2 a3 a4 a5 a6 a7 a8 a9 b1 b2 b3 b4 b5 b6 b7 b8 b9 = some (r, ()) ∧
      (r = true ↔ normI (a0, a1, a2, a3, a4, a5, a6, a7, a8, a9, a10, a11, a12) = normI (b0, b1, b2, b3, b4, b5, b6, b7, b8, b9, b10, b11, b12)) := by
    intro h
    unfold F14_J14
    rw [oite_t]
    by_cases he : a0 = b0
    · subst he
      have ht : a0 = true := by rcases h with h | h <;> exact h
      subst ht
      simp only [beq_self_eq_true, oite_t]
      refine ⟨_, rfl, ?_⟩
      simp only [normI, gapI, gapOf, if_true, Prod.mk.injEq, true_and, Bool.and_true, Bool.and_eq_true, decide_eq_true_eq]
    · have : (a0 == b0) = false := by simpa using he
      rw [this, oite_f]
      refine ⟨false, rfl, ?_⟩
      simp only [Bool.false_eq_true, false_iff]
      intro hc
      have := congrArg Prod.fst hc
      revert this
      cases a0 <;> cases b0 <;> simp_all [normI, gapI, evI]
  unfold F14
  dsimp only
  rw [ojoinA_eq]
  cases ha : a0 with
  | true => rw [oite_t]; rw [ha] at gap; exact gap (.inl rfl)
  | false =>
    rw [oite_f]
    cases hb : b0 with
    | true => rw [ha, hb] at gap; exact gap (.inr rfl)
    | false =>
      unfold F14_J14
      rw [oite_f]
      have no : ¬ (normI (false, a1, a2, a3, a4, a5, a6, a7, a8, a9, a10, a11, a12) = normI (false, b1, b2, b3, b4, b5, b6, b7, b8, b9, b10, b11, b12)) → ∃ r, some (false, ()) = some (r, ()) ∧ (r = true ↔ normI (false, a1, a2, a3, a4, a5, a6, a7, a8, a9, a10, a11, a12) = normI (false, b1, b2, b3, b4, b5, b6, b7, b8, b9, b10, b11, b12)) :=
        fun h => ⟨false, rfl, by simp [h]⟩
      have key : normI (false, a1, a2, a3, a4, a5, a6, a7, a8, a9, a10, a11, a12) = normI (false, b1, b2, b3, b4, b5, b6, b7, b8, b9, b10, b11, b12) ↔
          a1 = b1 ∧ a2 = b2 ∧ a3 = b3 ∧ a4 = b4 ∧ a6 = b6 ∧ a7 = b7 ∧ a8 = b8 ∧ a9 = b9 ∧ a5 = b5 := by
        simp only [normI, evI, evOf, Bool.false_eq_true, if_false, Prod.mk.injEq, true_and, and_true]
        constructor
        · rintro ⟨h1, h2, h3, h4, h5, h6, h7, h8, h9⟩; exact ⟨h1, h2, h3, h4, h6, h7, h8, h9, h5⟩
        · rintro ⟨h1, h2, h3, h4, h6, h7, h8, h9, h5⟩; exact ⟨h1, h2, h3, h4, h5, h6, h7, h8, h9⟩
      rw [key] at no ⊢
      by_cases h1 : a1 = b1
      case neg => rw [dec_f h1, oite_f]; exact no (fun h => h1 h.1)
      by_cases h2 : a2 = b2
      case neg => rw [dec_t h1, oite_t, dec_f h2, oite_f]; exact no (fun h => h2 h.2.1)
      by_cases h3 : a3 = b3
      case neg => rw [dec_t h1, oite_t, dec_t h2, oite_t, dec_f h3, oite_f]; exact no (fun h => h3 h.2.2.1)
      by_cases h4 : a4 = b4
      case neg => rw [dec_t h1, oite_t, dec_t h2, oite_t, dec_t h3, oite_t, show (a4 == b4) = false by simpa using h4, oite_f]; exact no (fun h => h4 h.2.2.2.1)
      rw [dec_t h1, oite_t, dec_t h2, oite_t, dec_t h3, oite_t, show (a4 == b4) = true by simpa using h4, oite_t]
      by_cases h6 : a6 = b6
      case neg => rw [dec_f h6, oite_f]; exact no (fun h => h6 h.2.2.2.2.1)
      by_cases h7 : a7 = b7
      case neg => rw [dec_t h6, oite_t, dec_f h7, oite_f]; exact no (fun h => h7 h.2.2.2.2.2.1)
      by_cases h8 : a8 = b8
      case neg => rw [dec_t h6, oite_t, dec_t h7, oite_t, dec_f h8, oite_f]; exact no (fun h => h8 h.2.2.2.2.2.2.1)
      by_cases h9 : a9 = b9
      case neg => rw [dec_t h6, oite_t, dec_t h7, oite_t, dec_t h8, oite_t, dec_f h9, oite_f]; exact no (fun h => h9 h.2.2.2.2.2.2.2.1)
      rw [dec_t h6, oite_t, dec_t h7, oite_t, dec_t h8, oite_t, dec_t h9, oite_t]
      obtain ⟨r, q1, q2⟩ := labs_same n a5 b5 hx hy hn
      rw [q1, obind_s]
      refine ⟨r, rfl, ?_⟩
      rw [q2]
      exact ⟨fun h => ⟨h1, h2, h3, h4, h6, h7, h8, h9, h⟩, fun h => h.2.2.2.2.2.2.2.2⟩

theorem itB_norm (x : ItT) : itB (normI x) = itB x := by
  obtain ⟨a0, a1, a2, a3, a4, a5, a6, a7, a8, a9, a10, a11, a12⟩ := x
  cases a0 <;> rfl
end Go.Proofs.Ytgknjddbbehboaa
