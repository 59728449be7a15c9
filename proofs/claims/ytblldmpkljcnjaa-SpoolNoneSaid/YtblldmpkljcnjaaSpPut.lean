/- A spool: which item is evicted next, the last one, Put. -/
import Derived.Test.YtblldmpkljcnjaaSpEvict
open Go Go.Sx
namespace Go.Proofs.Ytblldmpkljcnjaa
abbrev lasts (x : ItT) : Bool := x.1 || !decide (x.2.2.2.2.2.2.2.2.2.1 = 0)
abbrev prio (x : ItT) : UInt8 := x.2.2.2.2.2.2.2.1
theorem lasts_eq (n : Nat) (x : ItT) : F34 n x = some (lasts x, ()) := by
  obtain ⟨g, o, seq, time, rule, labels, state, pr, v, own, go, ga, gb⟩ := x
  cases g <;> rfl
def VSpec (l : List EnT) (i : Nat) : Option Nat → Prop
  | none => ∀ j (h : j < l.length), j < i → lasts l[j].2 = true
  | some k => k < i ∧ ∃ h : k < l.length, lasts l[k].2 = false ∧ ∀ j (h : j < l.length), j < i → lasts l[j].2 = false → prio l[k].2 ≤ prio l[j].2
theorem idx_lt0 (r : Option Nat) (h : ∀ k, r = some k → k < 2 ^ 63) : decide (idxV r < 0) = r.isNone := by
  cases r with
  | none => rfl
  | some k => exact dec_f fun q => by have := (i64_lt (a := k) (b := 0) (h k rfl) (by omega)).1 q; omega
theorem victim_loop (n : Nat) (sa : List UInt64) (s0 s1 : Int64) (s2 s3 s5 : UInt64) (l : List EnT) (hl : l.length ≤ 1000) : ∀ m i r, i ≤ l.length → l.length - i < m → VSpec l i r →
    ∃ r', F29_R29 n m (idxV r) (I64 l.length) (I64 i) sa s0 s1 s2 s3 s5 l = some (idxV r', some ((s0, s1, s2, s3, l), sa, s5)) ∧ VSpec l l.length r' := by
  intro m
  induction m with
  | zero => intros; omega
  | succ m ih =>
    intro i r hi hm hr
    rw [F29_R29_s]
    unfold F29_L29
    by_cases hlt : i < l.length
    · obtain ⟨b1, b2⟩ := idx_i64 (l := l) hlt (by omega)
      rw [dec_t ((i64_lt (by omega) (by omega)).2 hlt), oite_t, b1, oite_t, b2]
      simp only [obind_s, Prod.eta]
      rw [lasts_eq]
      simp only [obind_s, i64_succ]
      have hkeep : lasts l[i].2 = true → VSpec l (i + 1) r := fun hla => by
        cases r with
        | none =>
          intro j hj hji
          by_cases e : j = i
          · subst e; exact hla
          · exact hr j hj (by omega)
        | some k =>
          obtain ⟨h1, h2, h3, h4⟩ := hr
          refine ⟨by omega, h2, h3, fun j hj hji hlj => ?_⟩
          by_cases e : j = i
          · subst e; rw [hla] at hlj; cases hlj
          · exact h4 j hj (by omega) hlj
      cases hla : lasts l[i].2 with
      | true =>
        rw [oite_t]
        exact ih (i + 1) r (by omega) (by omega) (hkeep hla)
      | false =>
        rw [oite_f, idx_lt0 r fun k hk => by subst hk; have := hr.1; omega]
        cases r with
        | none =>
          rw [show (none : Option Nat).isNone = true from rfl, oite_t]
          refine ih (i + 1) (some i) (by omega) (by omega) ⟨by omega, hlt, hla, fun j hj hji hlj => ?_⟩
          by_cases e : j = i
          · subst e; exact UInt8.le_refl _
          · rw [hr j hj (by omega)] at hlj; cases hlj
        | some k =>
          obtain ⟨h1, h2, h3, h4⟩ := hr
          obtain ⟨c1, c2⟩ := idx_i64 (l := l) h2 (by omega)
          rw [show (some k).isNone = false from rfl, oite_f, show idxV (some k) = I64 k from rfl, c1, oite_t, c2]
          simp only [obind_s]
          by_cases hp : prio l[i].2 < prio l[k].2
          · rw [dec_t hp, oite_t]
            refine ih (i + 1) (some i) (by omega) (by omega) ⟨by omega, hlt, hla, fun j hj hji hlj => ?_⟩
            by_cases e : j = i
            · subst e; exact UInt8.le_refl _
            · exact UInt8.le_trans (UInt8.le_of_lt hp) (h4 j hj (by omega) hlj)
          · rw [dec_f hp, oite_f]
            refine ih (i + 1) (some k) (by omega) (by omega) ⟨by omega, h2, h3, fun j hj hji hlj => ?_⟩
            by_cases e : j = i
            · subst e; exact UInt8.not_lt.1 hp
            · exact h4 j hj (by omega) hlj
    · rw [dec_f (fun q => hlt ((i64_lt (by omega) (by omega)).1 q)), oite_f]
      have : i = l.length := by omega
      subst this
      exact ⟨r, rfl, hr⟩
theorem victim_spec (n : Nat) (hn : 1001 < n) (s : SpT) (hl : s.1.2.2.2.2.length ≤ 1000) :
    ∃ r, F29 n (some s) = some (idxV r, some s) ∧ VSpec s.1.2.2.2.2 s.1.2.2.2.2.length r := by
  obtain ⟨⟨s0, s1, s2, s3, l⟩, sa, s5⟩ := s
  dsimp only at hl ⊢
  exact victim_loop n sa s0 s1 s2 s3 s5 l hl n 0 none (by omega) (by omega) fun j _ h => by omega
/-! ### The last one -/
theorem last_spec (n : Nat) (hn : 1001 < n) (s : SpT) (hl : s.1.2.2.2.2.length ≤ 1000) (hg : ∀ e ∈ s.1.2.2.2.2, Good e.2) (k : Nat) (hk : s.1.2.2.2.2.length = k + 1) :
    ∃ ix u rD, F31 n (some s) = some (ix, some ((s.1.1, u, s.1.2.2.1, s.1.2.2.2.1, joinD s.1.2.2.2.2 k rD), s.2)) ∧ DownSpec s.1.2.2.2.2 (orgE (s.1.2.2.2.2[k]'(by omega))) k rD := by
  obtain ⟨r, e, hr⟩ := beside_down n hn s hl k (by omega)
  unfold F31
  simp only [obind_s]
  rw [show Int64.ofInt ↑(List.length s.1.2.2.2.2) - 1 = I64 k from by rw [hk]; exact i64_sub (a := k + 1) (b := 1) (by omega)]
  simp only [Prod.eta]
  rw [e]
  simp only [obind_s]
  cases r with
  | none => exact ⟨0, s.1.2.1, none, rfl, hr⟩
  | some a =>
    obtain ⟨h1, h2, h3, h4⟩ := hr
    obtain ⟨u, e2⟩ := join_spec n (by omega) s hl hg a k h2 (by omega)
    rw [idx_lt0 _ (fun k hk => by cases hk; omega), show (some a).isNone = false from rfl, oite_f, show idxV (some a) = I64 a from rfl, e2]
    simp only [obind_s]
    by_cases hlen : Int64.ofInt ↑(joinL s.1.2.2.2.2 a k).length = Int64.ofInt ↑s.1.2.2.2.2.length
    · rw [dec_t hlen, oite_t]
      exact ⟨0, u, some a, rfl, h1, h2, h3, h4⟩
    · rw [dec_f hlen, oite_f]
      obtain ⟨g1, _⟩ := joinL_at s.1.2.2.2.2 a k h1 h2
      have := joinL_len s.1.2.2.2.2 a k
      obtain ⟨c1, c2⟩ := idx_i64 (l := joinL s.1.2.2.2.2 a k) g1 (by omega)
      rw [c1, oite_t, c2]
      exact ⟨_, u, some a, rfl, h1, h2, h3, h4⟩
end Go.Proofs.Ytblldmpkljcnjaa
