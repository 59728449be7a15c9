/- The law MatchBack in plain Lean: right questions' text, read again, is these questions. -/
import Derived.Test.YtimmkhgbnfihgaaDoorText
open Go Go.Sx
namespace Go.Proofs.YtimmkhgbnfihgaaDoor
theorem small_right (n : Nat) (z : UInt8 × UInt8 × UInt8) : ∃ a : AskP, F31 n z = some (a, ()) ∧ FitA 8 a ∧ Right a := by
  obtain ⟨z0, z1, z2⟩ := z
  unfold F31
  simp only
  obtain ⟨f1, y, f2, f3⟩ := const_idxC [[(97 : UInt8)], [98], [114, 117, 108, 101], [111, 114, 105, 103, 105, 110], [110, 111, 100, 101]] z0 5 (by decide) rfl
  obtain ⟨g1, w, g2, g3⟩ := const_idxC [[(120 : UInt8)], [121], [48], [104, 111, 116], [49]] z2 5 (by decide) rfl
  rw [f1, f3]
  simp only [oite_t, obind_s]
  rw [g1, g3]
  simp only [oite_t, obind_s]
  have hy : y.length < 8 := by simp at f2; rcases f2 with rfl | rfl | rfl | rfl | rfl <;> simp
  have hw : w.length < 8 := by simp at g2; rcases g2 with rfl | rfl | rfl | rfl | rfl <;> simp
  have hy2 : wordOK 8 false y = true := by simp at f2; rcases f2 with rfl | rfl | rfl | rfl | rfl <;> decide
  have hw2 : wordOK 16 true w = true := by simp at g2; rcases g2 with rfl | rfl | rfl | rfl | rfl <;> decide
  have hop : ∀ t : UInt8, t.toNat < 5 → (4 ≤ 1 + t → 1 + t = 4 ∨ 1 + t = 5) ∧ (¬ 4 ≤ 1 + t → 1 + t = 1 ∨ 1 + t = 2 ∨ 1 + t = 3) := by
    intro t ht
    have h : t = 0 ∨ t = 1 ∨ t = 2 ∨ t = 3 ∨ t = 4 := by
      have e : t = UInt8.ofNat t.toNat := (UInt8.ofNat_toNat).symm
      generalize t.toNat = j at e ht
      match j, ht with
      | 0, _ => exact Or.inl e
      | 1, _ => exact Or.inr (Or.inl e)
      | 2, _ => exact Or.inr (Or.inr (Or.inl e))
      | 3, _ => exact Or.inr (Or.inr (Or.inr (Or.inl e)))
      | 4, _ => exact Or.inr (Or.inr (Or.inr (Or.inr e)))
    rcases h with rfl | rfl | rfl | rfl | rfl <;> decide
  obtain ⟨o1, o2⟩ := hop (z1 % 5) (mod_ltC z1 5 (by decide))
  by_cases h4 : 4 ≤ 1 + z1 % 5
  · rw [dec_t h4, oite_t]
    exact ⟨_, rfl, ⟨⟨hy, by simp only; omega⟩, by simp, by simp⟩, hy2, Or.inr ⟨o1 h4, rfl⟩⟩
  · rw [dec_f h4, oite_f]
    exact ⟨_, rfl, ⟨⟨hy, by simp only; omega⟩, hw, by simp only; omega⟩, hy2, Or.inl ⟨o2 h4, hw2⟩⟩
theorem right_loop (n : Nat) (l : List (UInt8 × UInt8 × UInt8)) (hl : l.length < 2 ^ 63) : ∀ (m k : Nat) (out : List AskP), k ≤ l.length → l.length - k < m → out.length ≤ k → out.length ≤ 8 → (∀ a ∈ out, FitA 8 a ∧ Right a) →
    ∃ out' : List AskP, F14_R29 n m (I64 8) l (I64 l.length) (I64 k) out = some (out', ()) ∧ out'.length ≤ 8 ∧ ∀ a ∈ out', FitA 8 a ∧ Right a := by
  intro m
  induction m with
  | zero => intros; omega
  | succ m ih =>
    intro k out hk hm h1 h2 h3
    rw [F14_R29_s]
    unfold F14_L29
    by_cases hlt : k < l.length
    · rw [dec_t ((i64_lt (by omega) (by omega)).2 hlt), oite_t, at_i64_lt (by omega) hlt]
      simp only [obind_s]
      by_cases hmo : k < 8
      · obtain ⟨a, g1, g2⟩ := small_right n l[k]
        have g1' : F31 n (Prod.fst l[k], Prod.fst (Prod.snd l[k]), Prod.snd (Prod.snd l[k])) = some (a, ()) := g1
        rw [dec_t ((i64_lt (a := k) (b := 8) (by omega) (by omega)).2 hmo), oite_t, g1']
        simp only [obind_s]
        rw [ble_t (by simp; omega), oite_t, i64_succ]
        refine ih (k + 1) _ (by omega) (by omega) (by simp; omega) (by simp; omega) fun p hp => ?_
        rcases List.mem_append.1 hp with h | h
        · exact h3 p h
        · simp at h; subst h; exact g2
      · rw [dec_f (fun q => hmo ((i64_lt (a := k) (b := 8) (by omega) (by omega)).1 q)), oite_f, i64_succ]
        exact ih (k + 1) out (by omega) (by omega) (by omega) h2 h3
    · rw [dec_f (fun q => hlt ((i64_lt (by omega) (by omega)).1 q)), oite_f]
      exact ⟨out, rfl, h2, h3⟩
theorem tot_small : ∀ l : List AskP, (∀ a ∈ l, FitA 8 a) → tot l ≤ 17 * l.length
  | [], _ => by simp [tot]
  | a :: r, h => by
    have h1 := tot_small r fun b hb => h b (List.mem_cons_of_mem _ hb)
    have h2 : a.1.length < 8 := (h a (by simp)).1.1
    have h3 : a.2.2.length < 8 := (h a (by simp)).2.1
    simp only [tot, szA, List.length_cons]
    omega
theorem firstNZ_zero : ∀ l : List AskP, (∀ a ∈ l, askC a = 0) → firstNZ (l.map askC) = 0
  | [], _ => rfl
  | a :: r, h => by
    have h1 := firstNZ_zero r fun b hb => h b (List.mem_cons_of_mem _ hb)
    rw [List.map_cons, h a (by simp)]
    exact h1
theorem awakeN (n : Nat) (h : 30 ≤ n) : F7 n () = some (true, ()) := by
  obtain ⟨m, rfl⟩ : ∃ m, n = m + 30 := ⟨n - 30, by omega⟩
  exact awakeM m
theorem matchBack_true : ∀ x : sig6.In, PTys.fits sig6.ps x → ∃ n y, F6 n x = some y ∧ PTys.hd (.one (.c .bool)) .nil y.1 = true := by
  intro x hfit
  have h1 := hfit.1
  simp only [PTy.fits, CTs.fits, CT.fits] at h1
  have hl : List.length (α := UInt8 × UInt8 × UInt8) x < 2 ^ 63 := h1.1
  obtain ⟨n, hn⟩ : ∃ n, n = List.length (α := UInt8 × UInt8 × UInt8) x + 80000 := ⟨_, rfl⟩
  obtain ⟨out, o1, o2, o3⟩ := right_loop n x hl n 0 [] (by omega) (by omega) (by simp) (by simp) (by simp)
  have o1 : F14 n (x, 8) = some (out, ()) := o1
  have ht := tot_small out fun a ha => (o3 a ha).1
  have hr := fun a ha => (o3 a ha).2
  obtain ⟨e1, e2⟩ := asks_refl n (by omega) out (by omega)
  have e3 := asks_eq n (by omega) out ⟨by omega, fun a ha => (o3 a ha).1.up (by omega)⟩
  have e4 : asksC out = 0 := by
    unfold asksC
    rw [dec_f (by omega), firstNZ_zero out fun a ha => right_ok (hr a ha)]; rfl
  have e5 := textL_len out
  refine ⟨n, (true, ()), ?_, rfl⟩
  unfold F6
  rw [awakeN n (by omega)]
  simp only [obind_s, Bool.not_true, oite_f]
  rw [o1]
  simp only [obind_s]
  rw [text_eq n (by omega) out (by omega) (by omega)]
  simp only [obind_s]
  rw [parseA n (by omega) _ (by omega), back_all out hr o2 (by omega)]
  simp only [obind_s, decide_true, oite_t]
  rw [e1, refs_eq n (by omega) out (by omega)]
  simp only [obind_s, oite_t]
  rw [e2, e3, e4]
  rfl
end Go.Proofs.YtimmkhgbnfihgaaDoor
