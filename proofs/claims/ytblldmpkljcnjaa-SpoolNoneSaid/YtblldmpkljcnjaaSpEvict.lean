/- A spool: what is evicted, which is evicted next. -/
import Derived.Test.YtblldmpkljcnjaaSpWalk
open Go Go.Sx
namespace Go.Proofs.Ytblldmpkljcnjaa
theorem span_gap (g : UInt8 × UInt64 × UInt64) : spanI (gapI g) = g := rfl
theorem follow_gap {x y : ItT} (h : follow x y = true) : x.1 = true ∧ y.1 = true := by
  unfold follow at h
  simp only [Bool.and_eq_true] at h
  exact ⟨h.1, h.2.1⟩
theorem join_org {x y : ItT} (h : follow x y = true) : (spanI (joinI x y).1).1 = (spanI x).1 := by
  have := (follow_gap h).1
  unfold joinI
  rw [if_pos h]
  show x.2.2.2.2.2.2.2.2.2.2.1 = _
  unfold spanI
  rw [if_pos this]
theorem joinL_cases (l : List EnT) (a b : Nat) : joinL l a b = l ∨ ∃ (ha : a < l.length) (hb : b < l.length), follow l[a].2 l[b].2 = true ∧ joinL l a b = (l.set a (l[a].1, (joinI l[a].2 l[b].2).1)).eraseIdx b := by
  unfold joinL
  by_cases ha : a < l.length
  · by_cases hb : b < l.length
    · rw [List.getElem?_eq_getElem ha, List.getElem?_eq_getElem hb]
      simp only
      by_cases hf : follow l[a].2 l[b].2 = true
      · rw [if_pos hf]; exact .inr ⟨ha, hb, hf, rfl⟩
      · rw [if_neg hf]; exact .inl rfl
    · rw [List.getElem?_eq_none (l := l) (i := b) (by omega)]
      left; split <;> simp_all
  · rw [List.getElem?_eq_none (l := l) (i := a) (by omega)]
    exact .inl rfl
theorem joinL_at (l : List EnT) (a b : Nat) (hab : a < b) (ha : a < l.length) : ∃ h : a < (joinL l a b).length, orgE (joinL l a b)[a] = orgE l[a] := by
  obtain ⟨m, hm⟩ : ∃ m, m = joinL l a b := ⟨_, rfl⟩
  have hc := joinL_cases l a b
  rw [← hm] at hc ⊢
  rcases hc with hc | ⟨_, hb, hf, hc⟩
  · subst hc; exact ⟨ha, rfl⟩
  · subst hc
    have hlen : ((l.set a (l[a].1, (joinI l[a].2 l[b].2).1)).eraseIdx b).length = l.length - 1 := by
      rw [List.length_eraseIdx]; simp only [List.length_set]; rw [if_pos hb]
    refine ⟨by omega, ?_⟩
    rw [List.getElem_eraseIdx_of_lt (h' := hab), List.getElem_set_self]
    exact join_org hf
def evOne (l : List EnT) (k : Nat) (e : EnT) : List EnT := l.set k (e.1, gapI (spanI e.2))
def joinR (l : List EnT) (k : Nat) : Option Nat → List EnT
  | none => l
  | some b => joinL l k b
def joinD (l : List EnT) (k : Nat) : Option Nat → List EnT
  | none => l
  | some a => joinL l a k
structure EvTo (l : List EnT) (k : Nat) (l' : List EnT) (rU rD : Option Nat) : Prop where
  lt : k < l.length
  up : UpSpec (evOne l k l[k]) (orgE l[k]) (k + 1) rU
  down : DownSpec (joinR (evOne l k l[k]) k rU) (orgE l[k]) k rD
  eq : l' = joinD (joinR (evOne l k l[k]) k rU) k rD
theorem idx_neg : decide ((0 : Int64) ≤ idxV none) = false := rfl
theorem idx_pos {k : Nat} (h : k < 2 ^ 63) : decide ((0 : Int64) ≤ idxV (some k)) = true := dec_t ((i64_le (a := 0) (by omega) h).2 (by omega))
theorem evOne_good {l : List EnT} (hg : ∀ e ∈ l, Good e.2) (k : Nat) (e : EnT) : ∀ x ∈ evOne l k e, Good x.2 := by
  intro x hx
  rcases List.mem_or_eq_of_mem_set hx with h | h
  · exact hg x h
  · rw [h]; exact gapI_good _
theorem j255 (s : SpT) (k : Nat) (hk : k < s.1.2.2.2.2.length) (hl : s.1.2.2.2.2.length ≤ 1000) : F28_J255 (I64 k) (some s) = some (s.1.2.2.2.2[k].1, some s) := by
  obtain ⟨⟨s0, s1, s2, s3, l⟩, sa, s5⟩ := s
  dsimp only at hl hk ⊢
  obtain ⟨b1, b2⟩ := idx_i64 (l := l) hk (by omega)
  unfold F28_J255
  simp only [obind_s]
  rw [b1, oite_t, b2]
  rfl
theorem j127_spec (n : Nat) (hn : 1001 < n) (s : SpT) (k : Nat) (hk : k < s.1.2.2.2.2.length) (hl : s.1.2.2.2.2.length ≤ 1000) (hg : ∀ e ∈ s.1.2.2.2.2, Good e.2) :
    ∃ ix u rD, F28_J127 n (I64 k) (some s) = some (ix, some ((s.1.1, u, s.1.2.2.1, s.1.2.2.2.1, joinD s.1.2.2.2.2 k rD), s.2)) ∧ DownSpec s.1.2.2.2.2 (orgE s.1.2.2.2.2[k]) k rD := by
  obtain ⟨r, e, hr⟩ := beside_down n hn s hl k hk
  unfold F28_J127
  simp only [ojoinA_eq]
  rw [e]
  simp only [obind_s]
  cases r with
  | none =>
    rw [idx_neg, oite_f, j255 s k hk hl]
    exact ⟨_, s.1.2.1, none, rfl, hr⟩
  | some a =>
    obtain ⟨h1, h2, h3, h4⟩ := hr
    obtain ⟨u, e2⟩ := join_spec n (by omega) s hl hg a k h2 hk
    rw [idx_pos (by omega), oite_t]
    rw [show idxV (some a) = I64 a from rfl, e2]
    simp only [obind_s]
    have hlen := joinL_len s.1.2.2.2.2 a k
    obtain ⟨g1, _⟩ := joinL_at s.1.2.2.2.2 a k h1 h2
    cases hf : follow s.1.2.2.2.2[a].2 s.1.2.2.2.2[k].2 with
    | true =>
      rw [oite_t, j255 _ a g1 (by dsimp only; omega)]
      exact ⟨_, u, some a, rfl, h1, h2, h3, h4⟩
    | false =>
      have hj : joinL s.1.2.2.2.2 a k = s.1.2.2.2.2 := by
        unfold joinL
        rw [List.getElem?_eq_getElem h2, List.getElem?_eq_getElem hk]
        simp only [hf]
        rfl
      rw [oite_f, j255 _ k (by dsimp only; rw [hj]; exact hk) (by dsimp only; omega)]
      exact ⟨_, u, some a, rfl, h1, h2, h3, h4⟩
theorem evict_spec (n : Nat) (hn : 1001 < n) (s : SpT) (k : Nat) (hk : k < s.1.2.2.2.2.length) (hl : s.1.2.2.2.2.length ≤ 1000) (hg : ∀ e ∈ s.1.2.2.2.2, Good e.2) :
    ∃ ix u ev l' rU rD, F28 n (some s, I64 k) = some (ix, some ((s.1.1, u, s.1.2.2.1, s.1.2.2.2.1, l'), s.2.1, ev)) ∧ EvTo s.1.2.2.2.2 k l' rU rD := by
  obtain ⟨⟨s0, s1, s2, s3, l⟩, sa, s5⟩ := s
  dsimp only at hl hk hg ⊢
  obtain ⟨b1, b2⟩ := idx_i64 (l := l) hk (by omega)
  have gk := hg _ (List.getElem_mem hk)
  have hek := i64_toInt (k := k) (by omega)
  unfold F28
  simp only [obind_s, Prod.eta]
  rw [b1, oite_t, b2]
  simp only [obind_s]
  rw [span_eq]
  simp only [obind_s]
  rw [oite_t, size_eq n (by omega) _ gk]
  simp only [obind_s]
  have e36 : ∀ g, F36 n g = some (gapI g, ()) := fun g => rfl
  rw [e36]
  simp only [obind_s]
  rw [oite_t]
  have l1 : List.set l (Int.toNat (I64 k).toInt) (l[k].1, gapI (spanI l[k].2)) = evOne l k l[k] := by rw [hek]; rfl
  rw [l1]
  have hk1 : k < (evOne l k l[k]).length := by unfold evOne; rw [List.length_set]; exact hk
  have hl1 : (evOne l k l[k]).length ≤ 1000 := by unfold evOne; rw [List.length_set]; exact hl
  obtain ⟨c1, c2⟩ := idx_i64 (l := evOne l k l[k]) hk1 (by omega)
  have hg1 := evOne_good hg k l[k]
  have g1 := hg1 _ (List.getElem_mem hk1)
  have ho1 : orgE (evOne l k l[k])[k] = orgE l[k] := by
    have : (evOne l k l[k])[k] = (l[k].1, gapI (spanI l[k].2)) := List.getElem_set_self ..
    rw [this]; rfl
  rw [c1, oite_t, c2]
  simp only [obind_s]
  rw [size_eq n (by omega) _ g1]
  simp only [obind_s, ojoinA_eq]
  obtain ⟨rU, e1, hr⟩ := beside_up n (by omega) ((s0, s1 - I64 (itB l[k].2).length + I64 (itB (evOne l k l[k])[k].2).length, s2, s3, evOne l k l[k]), sa, s5 + 1) hl1 k hk1
  dsimp only at hr
  rw [ho1] at hr
  rw [e1]
  simp only [obind_s]
  cases rU with
  | none =>
    rw [idx_neg, oite_f]
    obtain ⟨ix, u, rD, e2, hD⟩ := j127_spec n hn ((s0, s1 - I64 (itB l[k].2).length + I64 (itB (evOne l k l[k])[k].2).length, s2, s3, evOne l k l[k]), sa, s5 + 1) k hk1 hl1 hg1
    rw [e2]
    dsimp only at hD
    rw [ho1] at hD
    exact ⟨ix, u, _, _, none, rD, rfl, hk, hr, hD, rfl⟩
  | some b =>
    obtain ⟨h1, h2, h3, h4⟩ := hr
    have h2 : b < (evOne l k l[k]).length := h2
    obtain ⟨u, e2⟩ := join_spec n (by omega) ((s0, s1 - I64 (itB l[k].2).length + I64 (itB (evOne l k l[k])[k].2).length, s2, s3, evOne l k l[k]), sa, s5 + 1) hl1 hg1 k b hk1 h2
    rw [idx_pos (by omega), oite_t, show idxV (some b) = I64 b from rfl, e2]
    simp only [obind_s]
    obtain ⟨q1, q2⟩ := joinL_at (evOne l k l[k]) k b (by omega) hk1
    have hlen := joinL_len (evOne l k l[k]) k b
    obtain ⟨ix, u', rD, e3, hD⟩ := j127_spec n hn ((s0, u, s2, s3, joinL (evOne l k l[k]) k b), sa, s5 + 1) k q1 (by dsimp only; omega) (joinL_good hg1 k b)
    rw [e3]
    dsimp only at hD
    rw [q2, ho1] at hD
    exact ⟨ix, u', _, _, some b, rD, rfl, hk, ⟨h1, h2, h3, h4⟩, hD, rfl⟩
end Go.Proofs.Ytblldmpkljcnjaa
