/- The law ItemParts: any items: their counts, what lies above one; two as one; whether they last. -/
import Derived.Test.YtehelahnlnfofaaItParts2
open Go Go.Sx
namespace Go.Proofs.Ytehelahnlnfofaa
theorem oite_same {R : Type} (c : Bool) {x y r : Option R} (h1 : x = r) (h2 : y = r) : oite c x y = r := by cases c <;> assumption
theorem parts_j (n : Nat) (hn : 21 < n) (above : UInt64) (a b x y : ItT) (ha : a.2.2.2.2.2.1.length ≤ 20) (hx : x.2.2.2.2.2.1.length ≤ 20) :
    F4_J31 n above a.1 a.2.1 a.2.2.1 a.2.2.2.1 a.2.2.2.2.1 a.2.2.2.2.2.1 a.2.2.2.2.2.2.1 a.2.2.2.2.2.2.2.1 a.2.2.2.2.2.2.2.2.1 a.2.2.2.2.2.2.2.2.2.1 a.2.2.2.2.2.2.2.2.2.2.1 a.2.2.2.2.2.2.2.2.2.2.2.1 a.2.2.2.2.2.2.2.2.2.2.2.2 b.1 b.2.1 b.2.2.1 b.2.2.2.1 b.2.2.2.2.1 b.2.2.2.2.2.1 b.2.2.2.2.2.2.1 b.2.2.2.2.2.2.2.1 b.2.2.2.2.2.2.2.2.1 b.2.2.2.2.2.2.2.2.2.1 b.2.2.2.2.2.2.2.2.2.2.1 b.2.2.2.2.2.2.2.2.2.2.2.1 b.2.2.2.2.2.2.2.2.2.2.2.2 x.1 x.2.1 x.2.2.1 x.2.2.2.1 x.2.2.2.2.1 x.2.2.2.2.2.1 x.2.2.2.2.2.2.1 x.2.2.2.2.2.2.2.1 x.2.2.2.2.2.2.2.2.1 x.2.2.2.2.2.2.2.2.2.1 x.2.2.2.2.2.2.2.2.2.2.1 x.2.2.2.2.2.2.2.2.2.2.2.1 x.2.2.2.2.2.2.2.2.2.2.2.2 y.1 y.2.1 y.2.2.1 y.2.2.2.1 y.2.2.2.2.1 y.2.2.2.2.2.1 y.2.2.2.2.2.2.1 y.2.2.2.2.2.2.2.1 y.2.2.2.2.2.2.2.2.1 y.2.2.2.2.2.2.2.2.2.1 y.2.2.2.2.2.2.2.2.2.2.1 y.2.2.2.2.2.2.2.2.2.2.2.1 y.2.2.2.2.2.2.2.2.2.2.2.2 = some (true, ()) := by
  unfold F4_J31
  refine outer n hn above [_, _] (by simp) (fun z hz => ?_) n 0 (by simp) (by simp; omega)
  simp only [List.mem_cons, List.not_mem_nil, or_false] at hz
  rcases hz with rfl | rfl
  · exact ha
  · exact hx
theorem parts (n : Nat) (hn : 51 < n) (a b : ItT) (s t : SmT) (above : UInt64) (fo : Bool) (ha : a.2.2.2.2.2.1.length < 2 ^ 63) (hb : b.2.2.2.2.2.1.length < 2 ^ 63) : F4 n (a, b, s, t, above, fo) = some (true, ()) := by
  obtain ⟨k, rfl⟩ : ∃ k, n = k + 30 := ⟨n - 30, by omega⟩
  have hw := awakeI k
  generalize k + 30 = N at *
  obtain ⟨x, hx, sx⟩ := item_small N (by omega) s
  obtain ⟨y, hy, sy⟩ := item_small N (by omega) t
  have lx := sx.labs
  have ea : decide ((20 : Int64) < Int64.ofInt ↑a.2.2.2.2.2.1.length) = decide (20 < a.2.2.2.2.2.1.length) := decide_eq_decide.2 (i64_lt (a := 20) (by omega) ha)
  have eb : decide ((20 : Int64) < Int64.ofInt ↑b.2.2.2.2.2.1.length) = decide (20 < b.2.2.2.2.2.1.length) := decide_eq_decide.2 (i64_lt (a := 20) (by omega) hb)
  unfold F4
  dsimp only
  rw [hw]
  simp only [obind_s, Bool.not_true, oite_f]
  rw [ea, eb]
  by_cases h1 : 20 < a.2.2.2.2.2.1.length
  · rw [dec_t h1, oite_t]
  · rw [dec_f h1, oite_f]
    by_cases h2 : 20 < b.2.2.2.2.2.1.length
    · rw [dec_t h2, oite_t]
    · rw [dec_f h2, oite_f, show (s.1, s.2.1, s.2.2.1, s.2.2.2.1, s.2.2.2.2.1, s.2.2.2.2.2.1, s.2.2.2.2.2.2.1, s.2.2.2.2.2.2.2.1, s.2.2.2.2.2.2.2.2.1, s.2.2.2.2.2.2.2.2.2.1, s.2.2.2.2.2.2.2.2.2.2) = s from rfl, hx]
      simp only [obind_s]
      rw [show (t.1, t.2.1, t.2.2.1, t.2.2.2.1, t.2.2.2.2.1, t.2.2.2.2.2.1, t.2.2.2.2.2.2.1, t.2.2.2.2.2.2.2.1, t.2.2.2.2.2.2.2.2.1, t.2.2.2.2.2.2.2.2.2.1, t.2.2.2.2.2.2.2.2.2.2) = t from rfl, hy]
      simp only [obind_s, ojoinA_eq]
      have key := fun z => parts_j N (by omega) above a b x z (by omega) (by omega)
      refine oite_same _ (oite_same _ (oite_same _ ?_ (key y)) (key y)) (key y)
      exact key (y.1, y.2.1, y.2.2.1, y.2.2.2.1, y.2.2.2.2.1, y.2.2.2.2.2.1, y.2.2.2.2.2.2.1, y.2.2.2.2.2.2.2.1, y.2.2.2.2.2.2.2.2.1, y.2.2.2.2.2.2.2.2.2.1, x.2.2.2.2.2.2.2.2.2.2.1, x.2.2.2.2.2.2.2.2.2.2.2.2 + 1, x.2.2.2.2.2.2.2.2.2.2.2.2 + 1 + y.2.2.2.2.2.2.2.2.2.2.2.2 - y.2.2.2.2.2.2.2.2.2.2.2.1)
theorem parts_true : ∀ x : sig4.In, PTys.fits sig4.ps x → ∃ y, F4 200 x = some y ∧ PTys.hd (.one (.c .bool)) .nil y.1 = true := by
  rintro ⟨a, b, s, t, above, fo⟩ hfit
  have ha := fit_in a 0 hfit.1
  have hb := fit_in b 0 hfit.2.1
  exact ⟨(true, ()), parts 200 (by omega) a b s t above fo ha.2.1 hb.2.1, rfl⟩
end Go.Proofs.Ytehelahnlnfofaa
