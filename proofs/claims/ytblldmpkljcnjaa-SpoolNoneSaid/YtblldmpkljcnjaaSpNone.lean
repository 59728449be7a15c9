/- The law SpoolNone. -/
import Derived.Test.YtblldmpkljcnjaaSpFinds
import Derived.Test.YtblldmpkljcnjaaSpNoneFns1
open Go Go.Sx
namespace Go.Proofs.Ytblldmpkljcnjaa
theorem copy_new (n : Nat) (q : Int64) : F22 n (some ((q, 0, 1, 0, []), List.replicate 32 0, 0)) = some (some ((q, 0, 1, 0, []), List.replicate 32 0, 0), some ((q, 0, 1, 0, []), List.replicate 32 0, 0)) := by
  unfold F22
  simp only [oelim_s]
  rw [show F1033 n [] = some ([], []) from rfl]
  rfl
theorem none_end (n : Nat) (hn : 1001 < n) (m : UInt64) (z : SmT) : F6_J255 n m 1 false 0 0 0 0 0 z.1 z.2.1 z.2.2.1 z.2.2.2.1 z.2.2.2.2.1 z.2.2.2.2.2.1 z.2.2.2.2.2.2.1 z.2.2.2.2.2.2.2.1 z.2.2.2.2.2.2.2.2.1 z.2.2.2.2.2.2.2.2.2.1 z.2.2.2.2.2.2.2.2.2.2 = some (true, ()) := by
  unfold F6_J255
  simp only [Prod.eta]
  rw [new_eq n 100 (by decide) (by decide)]
  simp only [obind_s]
  rw [copy_new]
  simp only [obind_s]
  obtain ⟨x, y, high, hx, e1, e2, e3, hy⟩ := step_spec n hn ((100, 0, 1, 0, []), List.replicate 32 0, 0) 0 (new_ok 100) (by omega) z
  rw [e2]
  simp only [obind_s]
  rw [e3]
  simp only [obind_s]
  rfl
theorem none_j (n : Nat) (e : Int64) (m : UInt64) (right : Bool) (z : SmT) (S : Option SpT) (hn : 1001 < n) (h : (right = true ∧ e = 0) ∨ (right = false ∧ e = 26 ∧ S = none)) :
    F6_J510 (F6_J255 n) m e 1 false 0 0 0 0 0 right z.1 z.2.1 z.2.2.1 z.2.2.2.1 z.2.2.2.2.1 z.2.2.2.2.2.1 z.2.2.2.2.2.2.1 z.2.2.2.2.2.2.2.1 z.2.2.2.2.2.2.2.2.1 z.2.2.2.2.2.2.2.2.2.1 z.2.2.2.2.2.2.2.2.2.2 S = some (true, ()) := by
  unfold F6_J510
  rcases h with ⟨rfl, rfl⟩ | ⟨rfl, rfl, rfl⟩
  · exact none_end n hn m z
  · exact none_end n hn m z
theorem none_law (n : Nat) (hn : 1101 < n) (q : Int64) (z : SmT) (m : UInt64) : F6 n (q, z, m) = some (true, ()) := by
  unfold F6
  rw [show F7 n () = some (true, ()) from by have := awake (n - 100); rwa [show n - 100 + 100 = n from by omega] at this]
  simp only [obind_s, Bool.not_true, oite_f, Prod.eta, ojoinA_eq]
  obtain ⟨x, e, hx⟩ := item_small n (by omega) z
  have e9 : F9 n (none, x) = some ((0, 0, 1), none) := rfl
  have e13 : F13 n (none, m) = some (((0, zeroI), false), none) := rfl
  have e20 : F20 n none = some ((0, 0, 0, 0, 0), none) := rfl
  by_cases h1 : q < 64
  · have e8 : F8 n q = some ((none, 26), ()) := by unfold F8; rw [dec_t h1, oite_t]
    rw [e8]
    simp only [obind_s]
    rw [e]
    simp only [obind_s]
    rw [e9]
    simp only [obind_s]
    rw [e13]
    simp only [obind_s]
    rw [e20]
    simp only [obind_s]
    rw [dec_f (by rw [Int64.not_le]; exact h1), oite_f]
    exact none_j n 26 m false z none (by omega) (.inr ⟨rfl, rfl, rfl⟩)
  · by_cases h2 : 65536 < q
    · have e8 : F8 n q = some ((none, 26), ()) := by unfold F8; rw [dec_f h1, oite_f, dec_t h2, oite_t]
      rw [e8]
      simp only [obind_s]
      rw [e]
      simp only [obind_s]
      rw [e9]
      simp only [obind_s]
      rw [e13]
      simp only [obind_s]
      rw [e20]
      simp only [obind_s]
      rw [dec_t (by rw [← Int64.not_lt]; exact h1), oite_t, dec_f (by rw [Int64.not_le]; exact h2)]
      exact none_j n 26 m false z none (by omega) (.inr ⟨rfl, rfl, rfl⟩)
    · rw [new_eq n q h1 h2]
      simp only [obind_s]
      rw [e]
      simp only [obind_s]
      rw [e9]
      simp only [obind_s]
      rw [e13]
      simp only [obind_s]
      rw [e20]
      simp only [obind_s]
      rw [dec_t (by rw [← Int64.not_lt]; exact h1), oite_t, dec_t (by rw [← Int64.not_lt]; exact h2)]
      exact none_j n 0 m true z _ (by omega) (.inl ⟨rfl, rfl⟩)
theorem none_true : ∀ x : sig6.In, PTys.fits sig6.ps x → ∃ n y, F6 n x = some y ∧ PTys.hd (.one (.c .bool)) .nil y.1 = true := by
  rintro ⟨q, z, m⟩ _
  exact ⟨2000, (true, ()), none_law 2000 (by omega) q z m, rfl⟩
end Go.Proofs.Ytblldmpkljcnjaa
