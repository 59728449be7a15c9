/- The law ItemChecks: may it be an item? -/
import Derived.Test.YtehelahnlnfofaaItItem
open Go Go.Sx
namespace Go.Proofs.Ytehelahnlnfofaa
theorem awakeI (m : Nat) : F8 (m + 30) () = some (true, ()) := by kernel_rfl
def sumL (l : List Pair) : Nat := match l with | [] => 0 | p :: r => p.1.length + p.2.length + sumL r
theorem sumL_mem : ∀ (l : List Pair) (p : Pair), p ∈ l → p.1.length + p.2.length ≤ sumL l
  | q :: r, p, h => by
    simp only [sumL]
    rcases List.mem_cons.1 h with rfl | h
    · omega
    · have := sumL_mem r p h; omega
theorem fit_of (x : ItT) (h1 : x.2.2.2.2.1.length < 2 ^ 63) (h2 : x.2.2.2.2.2.1.length < 2 ^ 63) (h3 : ∀ i (h : i < x.2.2.2.2.2.1.length), (x.2.2.2.2.2.1[i]).1.length < 2 ^ 63 ∧ (x.2.2.2.2.2.1[i]).2.length < 2 ^ 63) (k : Nat) :
    FitI x (x.2.2.2.2.1.length + sumL x.2.2.2.2.2.1 + k + 30) := by
  refine ⟨⟨h1, by omega⟩, h2, fun p hp => ?_⟩
  have := sumL_mem _ p hp
  obtain ⟨i, hi, rfl⟩ := List.getElem_of_mem hp
  exact ⟨h3 i hi, by omega, by omega⟩
theorem checks (x : ItT) (z : SmT) (n : Nat) (hn : 29 < n) (hf : FitI x n) : ∃ y, F5 n (x, z) = some (true, y) := by
  obtain ⟨m, rfl⟩ : ∃ m, n = m + 30 := ⟨n - 30, by omega⟩
  obtain ⟨g, o, seq, time, rule, labels, state, prio, v, own, go, ga, gb⟩ := x
  obtain ⟨y, hy, hs⟩ := item_small (m + 30) (by omega) z
  obtain ⟨s0, s1, s2, s3, s4, s5, s6, s7, s8, s9, s10⟩ := z
  obtain ⟨a0, a1, a2, a3, a4, a5, a6, a7, a8, a9, a10, a11, a12⟩ := y
  have h1 := it_eq (m + 30) (m + 30) (by omega) _ hf
  have h2 := rit_eq (m + 30) (by omega) _ hf
  have h3 := it_eq (m + 30) (m + 30) (by omega) _ (hs.fit (m + 30) (by omega))
  have h4 := own_eq (m + 30) rule hf.1.1
  have h5 := rown_eq (m + 30) rule hf.1.1
  rw [hs.ok] at h3
  unfold F5
  dsimp only
  rw [awakeI, obind_s]
  simp only [Bool.not_true, oite_f]
  cases decide ((20 : Int64) < Int64.ofInt ↑labels.length) with
  | true => exact ⟨_, rfl⟩
  | false =>
    rw [oite_f, h1, obind_s, h2, obind_s, hy, obind_s]
    dsimp only
    simp only [h3, h4, h5, obind_s, decide_true, oite_t, beq_self_eq_true]
    exact ⟨(), trivial⟩
theorem fit_in (x : ItT) (k : Nat) (hx : CTs.fits (.cons .bool (.cons (.int .u8) (.cons (.int .u64) (.cons (.int .u64) (.cons .str (.cons (.ro (.cons .str (.cons .str .nil))) (.cons (.int .u8) (.cons (.int .u8) (.cons (.int .i64) (.cons (.int .u8) (.cons (.int .u8) (.cons (.int .u64) (.cons (.int .u64) .nil))))))))))))) x) :
    FitI x (x.2.2.2.2.1.length + sumL x.2.2.2.2.2.1 + k + 30) := by
  simp only [CTs.fits, CT.fits] at hx
  obtain ⟨_, _, _, _, h1, ⟨h2, h3⟩, _⟩ := hx
  exact fit_of x h1 h2 (fun i hi => ⟨(h3 i hi).1, (h3 i hi).2.1⟩) k
theorem checks_true : ∀ x : sig5.In, PTys.fits sig5.ps x → ∃ n y, F5 n x = some y ∧ PTys.hd (.one (.c .bool)) .nil y.1 = true := by
  rintro ⟨x, z⟩ hx
  obtain ⟨y, hy⟩ := checks x z _ (by omega) (fit_in x 0 hx.1)
  exact ⟨_, _, hy, rfl⟩
end Go.Proofs.Ytehelahnlnfofaa
