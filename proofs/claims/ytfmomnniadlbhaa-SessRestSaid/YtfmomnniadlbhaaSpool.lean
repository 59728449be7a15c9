/- Lemmas moved here from another seat of this repo (tools/port.py). -/
import Derived.Test.YtfmomnniadlbhaaItem
open Go Go.Sx
namespace Go.Proofs.Ytfmomnniadlbhaa
theorem span_gap (g : UInt8 × UInt64 × UInt64) : spanI (gapI g) = g := rfl
theorem follow_gap {x y : ItT} (h : follow x y = true) : x.1 = true ∧ y.1 = true := by
 unfold follow at h
 simp only [Bool.and_eq_true] at h
 exact ⟨h.1, h.2.1⟩
theorem join_org {x y : ItT} (h : follow x y = true) : (spanI (joinI x y).1).1 = (spanI x).1 := by
 have := (follow_gap h).1
 unfold joinI
 rw [if_pos h]
 show x.2.2.2.2.2.2.2.2.2.2.1 = _
 unfold spanI
 rw [if_pos this]
theorem joinL_cases (l : List EnT) (a b : Nat) : joinL l a b = l ∨ ∃ (ha : a < l.length) (hb : b < l.length), follow l[a].2 l[b].2 = true ∧ joinL l a b = (l.set a (l[a].1, (joinI l[a].2 l[b].2).1)).eraseIdx b := by
 unfold joinL
 by_cases ha : a < l.length
 ·by_cases hb : b < l.length
  ·rw [List.getElem?_eq_getElem ha, List.getElem?_eq_getElem hb]
   simp only
   by_cases hf : follow l[a].2 l[b].2 = true
   ·rw [if_pos hf]; exact .inr ⟨ha, hb, hf, rfl⟩
   ·rw [if_neg hf]; exact .inl rfl
  ·rw [List.getElem?_eq_none (l := l) (i := b) (by omega)]
   left; split <;> simp_all
 ·rw [List.getElem?_eq_none (l := l) (i := a) (by omega)]
  exact .inl rfl
theorem joinL_at (l : List EnT) (a b : Nat) (hab : a < b) (ha : a < l.length) : ∃ h : a < (joinL l a b).length, orgE (joinL l a b)[a] = orgE l[a] := by
 obtain ⟨m, hm⟩ : ∃ m, m = joinL l a b := ⟨_, rfl⟩
 have hc := joinL_cases l a b
 rw [← hm] at hc ⊢
 rcases hc with hc | ⟨_, hb, hf, hc⟩
 ·subst hc; exact ⟨ha, rfl⟩
 ·subst hc
  have hlen : ((l.set a (l[a].1, (joinI l[a].2 l[b].2).1)).eraseIdx b).length = l.length - 1 := by
   rw [List.length_eraseIdx]; simp only [List.length_set]; rw [if_pos hb]
  refine ⟨by omega, ?_⟩
  rw [List.getElem_eraseIdx_of_lt (h' := hab), List.getElem_set_self]
  exact join_org hf
def evOne (l : List EnT) (k : Nat) (e : EnT) : List EnT := l.set k (e.1, gapI (spanI e.2))
def joinR (l : List EnT) (k : Nat) : Option Nat → List EnT
 | none => l
 | some b => joinL l k b
def joinD (l : List EnT) (k : Nat) : Option Nat → List EnT
 | none => l
 | some a => joinL l a k
structure EvTo (l : List EnT) (k : Nat) (l' : List EnT) (rU rD : Option Nat) : Prop where
 lt : k < l.length
 up : UpSpec (evOne l k l[k]) (orgE l[k]) (k + 1) rU
 down : DownSpec (joinR (evOne l k l[k]) k rU) (orgE l[k]) k rD
 eq : l' = joinD (joinR (evOne l k l[k]) k rU) k rD
theorem idx_neg : decide ((0 : Int64) ≤ idxV none) = false := rfl
theorem idx_pos {k : Nat} (h : k < 2 ^ 63) : decide ((0 : Int64) ≤ idxV (some k)) = true := dec_t ((i64_le (a := 0) (by omega) h).2 (by omega))
theorem evOne_good {l : List EnT} (hg : ∀ e ∈ l, Good e.2) (k : Nat) (e : EnT) : ∀ x ∈ evOne l k e, Good x.2 := by
 intro x hx
 rcases List.mem_or_eq_of_mem_set hx with h | h
 ·exact hg x h
 ·rw [h]; exact gapI_good _
theorem j255 (s : SpT) (k : Nat) (hk : k < s.1.2.2.2.2.length) (hl : s.1.2.2.2.2.length ≤ 1000) : F60_J255 (I64 k) (some s) = some (s.1.2.2.2.2[k].1, some s) := by
 obtain ⟨⟨s0, s1, s2, s3, l⟩, sa, s5⟩ := s
 dsimp only at hl hk ⊢
 obtain ⟨b1, b2⟩ := idx_i64 (l := l) hk (by omega)
 unfold F60_J255
 simp only [obind_s]
 rw [b1, oite_t, b2]
 rfl
def FromAt (l l' : List EnT) (k : Nat) (ix : UInt64) : Prop := ∃ p, p ≤ k ∧ ∃ h : p < l.length, ix = (l[p]'h).1 ∧ l'.take p = l.take p
theorem take_set_ge {α : Type} (l : List α) (k : Nat) (x : α) (p : Nat) (h : p ≤ k) : (l.set k x).take p = l.take p := by
 rw [List.take_set]
 apply List.set_eq_of_length_le
 rw [List.length_take]; omega
theorem take_erase_ge {α : Type} (l : List α) (k : Nat) (p : Nat) (h : p ≤ k) : (l.eraseIdx k).take p = l.take p := by
 rw [List.eraseIdx_eq_take_drop_succ]
 by_cases hk : k ≤ l.length
 ·rw [List.take_append_of_le_length (by rw [List.length_take]; omega), List.take_take, Nat.min_eq_left h]
 ·rw [List.drop_eq_nil_of_le (by omega), List.append_nil, List.take_of_length_le (i := k) (by omega)]
theorem joinL_take (l : List EnT) (a b : Nat) (hab : a < b) (p : Nat) (h : p ≤ a) : (joinL l a b).take p = l.take p := by
 rcases joinL_cases l a b with hc | ⟨ha, hb, hf, hc⟩
 ·rw [hc]
 ·rw [hc, take_erase_ge _ _ _ (by omega), take_set_ge _ _ _ _ h]
theorem joinL_fst (l : List EnT) (a b : Nat) (hab : a < b) (ha : a < l.length) (h : a < (joinL l a b).length) : ((joinL l a b)[a]).1 = l[a].1 := by
 have e : ((joinL l a b)[a]?).map (·.1) = some l[a].1 := by
  rcases joinL_cases l a b with hc | ⟨_, hb, hf, hc⟩
  ·rw [hc, List.getElem?_eq_getElem ha]; rfl
  ·rw [hc, List.getElem?_eraseIdx_of_lt hab, List.getElem?_set_self ha]; rfl
 rw [List.getElem?_eq_getElem h] at e
 exact Option.some.inj e
theorem j127_spec (n : Nat) (hn : 1001 < n) (s : SpT) (k : Nat) (hk : k < s.1.2.2.2.2.length) (hl : s.1.2.2.2.2.length ≤ 1000) (hg : ∀ e ∈ s.1.2.2.2.2, Good e.2) :
  ∃ ix u rD, F60_J127 n (I64 k) (some s) = some (ix, some ((s.1.1, u, s.1.2.2.1, s.1.2.2.2.1, joinD s.1.2.2.2.2 k rD), s.2)) ∧ DownSpec s.1.2.2.2.2 (orgE s.1.2.2.2.2[k]) k rD ∧ FromAt s.1.2.2.2.2 (joinD s.1.2.2.2.2 k rD) k ix := by
 obtain ⟨r, e, hr⟩ := beside_down n hn s hl k hk
 unfold F60_J127
 simp only [ojoinA_eq]
 rw [e]
 simp only [obind_s]
 cases r with
 | none =>
  rw [idx_neg, oite_f, j255 s k hk hl]
  exact ⟨_, s.1.2.1, none, rfl, hr, k, Nat.le_refl _, hk, rfl, rfl⟩
 | some a =>
  obtain ⟨h1, h2, h3, h4⟩ := hr
  obtain ⟨u, e2⟩ := join_spec n (by omega) s hl hg a k h2 hk
  rw [idx_pos (by omega), oite_t]
  rw [show idxV (some a) = I64 a from rfl, e2]
  simp only [obind_s]
  have hlen := joinL_len s.1.2.2.2.2 a k
  obtain ⟨g1, _⟩ := joinL_at s.1.2.2.2.2 a k h1 h2
  cases hf : follow s.1.2.2.2.2[a].2 s.1.2.2.2.2[k].2 with
  | true =>
   rw [oite_t, j255 _ a g1 (by dsimp only; omega)]
   exact ⟨_, u, some a, rfl, ⟨h1, h2, h3, h4⟩, a, by omega, h2, (joinL_fst _ a k h1 h2 g1), joinL_take _ a k h1 a (Nat.le_refl _)⟩
  | false =>
   have hj : joinL s.1.2.2.2.2 a k = s.1.2.2.2.2 := by
    unfold joinL
    rw [List.getElem?_eq_getElem h2, List.getElem?_eq_getElem hk]
    simp only [hf]
    rfl
   rw [oite_f, j255 _ k (by dsimp only; rw [hj]; exact hk) (by dsimp only; omega)]
   exact ⟨_, u, some a, rfl, ⟨h1, h2, h3, h4⟩, k, Nat.le_refl _, hk, by dsimp only; simp only [hj], by rw [show joinD s.1.2.2.2.2 k (some a) = joinL s.1.2.2.2.2 a k from rfl, hj]⟩
theorem FromAt.one {l l' : List EnT} {k : Nat} {ix : UInt64} {x : EnT} (h : FromAt (evOne l k x) l' k ix) (hx : ∀ h : k < l.length, x = l[k] := by intros; rfl) : FromAt l l' k ix := by
 obtain ⟨p, h1, h2, h3, h4⟩ := h
 have h2' : p < l.length := by unfold evOne at h2; rwa [List.length_set] at h2
 refine ⟨p, h1, h2', ?_, by rw [h4]; exact take_set_ge _ _ _ _ h1⟩
 rw [h3]
 have e : ((evOne l k x)[p]?).map (·.1) = some l[p].1 := by
  unfold evOne
  by_cases e : p = k
  ·subst e; rw [List.getElem?_set_self h2', hx h2']; rfl
  ·rw [List.getElem?_set_ne (fun q => e q.symm), List.getElem?_eq_getElem h2']; rfl
 rw [List.getElem?_eq_getElem h2] at e
 exact Option.some.inj e
theorem FromAt.join {l l' : List EnT} {k b : Nat} {ix : UInt64} (h : FromAt (joinL l k b) l' k ix) (hb : k < b) (hk : k < l.length) : FromAt l l' k ix := by
 obtain ⟨p, h1, h2, h3, h4⟩ := h
 refine ⟨p, h1, by omega, ?_, by rw [h4]; exact joinL_take _ _ _ hb _ h1⟩
 rw [h3]
 by_cases e : p = k
 ·subst e; exact joinL_fst _ _ _ hb hk h2
 ·have e2 : (joinL l k b).take k = l.take k := joinL_take _ _ _ hb _ (Nat.le_refl _)
  have e3 : ((joinL l k b).take k)[p]? = (l.take k)[p]? := by rw [e2]
  rw [List.getElem?_take_of_lt (by omega), List.getElem?_take_of_lt (by omega), List.getElem?_eq_getElem h2, List.getElem?_eq_getElem (by omega)] at e3
  rw [Option.some.inj e3]
theorem evict_spec (n : Nat) (hn : 1001 < n) (s : SpT) (k : Nat) (hk : k < s.1.2.2.2.2.length) (hl : s.1.2.2.2.2.length ≤ 1000) (hg : ∀ e ∈ s.1.2.2.2.2, Good e.2) :
  ∃ ix u ev l' rU rD, F60 n (some s, I64 k) = some (ix, some ((s.1.1, u, s.1.2.2.1, s.1.2.2.2.1, l'), s.2.1, ev)) ∧ EvTo s.1.2.2.2.2 k l' rU rD ∧ FromAt s.1.2.2.2.2 l' k ix := by
 obtain ⟨⟨s0, s1, s2, s3, l⟩, sa, s5⟩ := s
 dsimp only at hl hk hg ⊢
 obtain ⟨b1, b2⟩ := idx_i64 (l := l) hk (by omega)
 have gk := hg _ (List.getElem_mem hk)
 have hek := i64_toInt (k := k) (by omega)
 unfold F60
 simp only [obind_s, Prod.eta]
 rw [b1, oite_t, b2]
 simp only [obind_s]
 rw [span_eq]
 simp only [obind_s]
 rw [oite_t, size_eq n (by omega) _ gk]
 simp only [obind_s]
 have e36 : ∀ g, F68 n g = some (gapI g, ()) := fun g => rfl
 rw [e36]
 simp only [obind_s]
 rw [oite_t]
 have l1 : List.set l (Int.toNat (I64 k).toInt) (l[k].1, gapI (spanI l[k].2)) = evOne l k l[k] := by rw [hek]; rfl
 rw [l1]
 have hk1 : k < (evOne l k l[k]).length := by unfold evOne; rw [List.length_set]; exact hk
 have hl1 : (evOne l k l[k]).length ≤ 1000 := by unfold evOne; rw [List.length_set]; exact hl
 obtain ⟨c1, c2⟩ := idx_i64 (l := evOne l k l[k]) hk1 (by omega)
 have hg1 := evOne_good hg k l[k]
 have g1 := hg1 _ (List.getElem_mem hk1)
 have ho1 : orgE (evOne l k l[k])[k] = orgE l[k] := by
  have : (evOne l k l[k])[k] = (l[k].1, gapI (spanI l[k].2)) := List.getElem_set_self ..
  rw [this]; rfl
 rw [c1, oite_t, c2]
 simp only [obind_s]
 rw [size_eq n (by omega) _ g1]
 simp only [obind_s, ojoinA_eq]
 obtain ⟨rU, e1, hr⟩ := beside_up n (by omega) ((s0, s1 - I64 (itB l[k].2).length + I64 (itB (evOne l k l[k])[k].2).length, s2, s3, evOne l k l[k]), sa, s5 + 1) hl1 k hk1
 dsimp only at hr
 rw [ho1] at hr
 rw [e1]
 simp only [obind_s]
 cases rU with
 | none =>
  rw [idx_neg, oite_f]
  obtain ⟨ix, u, rD, e2, hD, hF⟩ := j127_spec n hn ((s0, s1 - I64 (itB l[k].2).length + I64 (itB (evOne l k l[k])[k].2).length, s2, s3, evOne l k l[k]), sa, s5 + 1) k hk1 hl1 hg1
  rw [e2]
  dsimp only at hD
  rw [ho1] at hD
  exact ⟨ix, u, _, _, none, rD, rfl, ⟨hk, hr, hD, rfl⟩, hF.one⟩
 | some b =>
  obtain ⟨h1, h2, h3, h4⟩ := hr
  have h2 : b < (evOne l k l[k]).length := h2
  obtain ⟨u, e2⟩ := join_spec n (by omega) ((s0, s1 - I64 (itB l[k].2).length + I64 (itB (evOne l k l[k])[k].2).length, s2, s3, evOne l k l[k]), sa, s5 + 1) hl1 hg1 k b hk1 h2
  rw [idx_pos (by omega), oite_t, show idxV (some b) = I64 b from rfl, e2]
  simp only [obind_s]
  obtain ⟨q1, q2⟩ := joinL_at (evOne l k l[k]) k b (by omega) hk1
  have hlen := joinL_len (evOne l k l[k]) k b
  obtain ⟨ix, u', rD, e3, hD, hF⟩ := j127_spec n hn ((s0, u, s2, s3, joinL (evOne l k l[k]) k b), sa, s5 + 1) k q1 (by dsimp only; omega) (joinL_good hg1 k b)
  rw [e3]
  dsimp only at hD
  rw [q2, ho1] at hD
  exact ⟨ix, u', _, _, some b, rD, rfl, ⟨hk, ⟨h1, h2, h3, h4⟩, hD, rfl⟩, (hF.join (by omega) hk1).one⟩
abbrev lasts (x : ItT) : Bool := x.1 || !decide (x.2.2.2.2.2.2.2.2.2.1 = 0)
abbrev prio (x : ItT) : UInt8 := x.2.2.2.2.2.2.2.1
theorem lasts_eq (n : Nat) (x : ItT) : F73 n x = some (lasts x, ()) := by
 obtain ⟨g, o, seq, time, rule, labels, state, pr, v, own, go, ga, gb⟩ := x
 cases g <;> rfl
def VSpec (l : List EnT) (i : Nat) : Option Nat → Prop
 | none => ∀ j (h : j < l.length), j < i → lasts l[j].2 = true
 | some k => k < i ∧ ∃ h : k < l.length, lasts l[k].2 = false ∧ ∀ j (h : j < l.length), j < i → lasts l[j].2 = false → prio l[k].2 ≤ prio l[j].2
theorem idx_lt0 (r : Option Nat) (h : ∀ k, r = some k → k < 2 ^ 63) : decide (idxV r < 0) = r.isNone := by
 cases r with
 | none => rfl
 | some k => exact dec_f fun q => by have := (i64_lt (a := k) (b := 0) (h k rfl) (by omega)).1 q; omega
theorem victim_loop (n : Nat) (sa : List UInt64) (s0 s1 : Int64) (s2 s3 s5 : UInt64) (l : List EnT) (hl : l.length ≤ 1000) : ∀ m i r, i ≤ l.length → l.length - i < m → VSpec l i r →
  ∃ r', F61_R29 n m (idxV r) (I64 l.length) (I64 i) sa s0 s1 s2 s3 s5 l = some (idxV r', some ((s0, s1, s2, s3, l), sa, s5)) ∧ VSpec l l.length r' := by
 intro m
 induction m with
 | zero => intros; omega
 | succ m ih =>
  intro i r hi hm hr
  rw [F61_R29_s]
  unfold F61_L29
  by_cases hlt : i < l.length
  ·obtain ⟨b1, b2⟩ := idx_i64 (l := l) hlt (by omega)
   rw [dec_t ((i64_lt (by omega) (by omega)).2 hlt), oite_t, b1, oite_t, b2]
   simp only [obind_s, Prod.eta]
   rw [lasts_eq]
   simp only [obind_s, i64_succ]
   have hkeep : lasts l[i].2 = true → VSpec l (i + 1) r := fun hla => by
    cases r with
    | none =>
     intro j hj hji
     by_cases e : j = i
     ·subst e; exact hla
     ·exact hr j hj (by omega)
    | some k =>
     obtain ⟨h1, h2, h3, h4⟩ := hr
     refine ⟨by omega, h2, h3, fun j hj hji hlj => ?_⟩
     by_cases e : j = i
     ·subst e; rw [hla] at hlj; cases hlj
     ·exact h4 j hj (by omega) hlj
   cases hla : lasts l[i].2 with
   | true =>
    rw [oite_t]
    exact ih (i + 1) r (by omega) (by omega) (hkeep hla)
   | false =>
    rw [oite_f, idx_lt0 r fun k hk => by subst hk; have := hr.1; omega]
    cases r with
    | none =>
     rw [show (none : Option Nat).isNone = true from rfl, oite_t]
     refine ih (i + 1) (some i) (by omega) (by omega) ⟨by omega, hlt, hla, fun j hj hji hlj => ?_⟩
     by_cases e : j = i
     ·subst e; exact UInt8.le_refl _
     ·rw [hr j hj (by omega)] at hlj; cases hlj
    | some k =>
     obtain ⟨h1, h2, h3, h4⟩ := hr
     obtain ⟨c1, c2⟩ := idx_i64 (l := l) h2 (by omega)
     rw [show (some k).isNone = false from rfl, oite_f, show idxV (some k) = I64 k from rfl, c1, oite_t, c2]
     simp only [obind_s]
     by_cases hp : prio l[i].2 < prio l[k].2
     ·rw [dec_t hp, oite_t]
      refine ih (i + 1) (some i) (by omega) (by omega) ⟨by omega, hlt, hla, fun j hj hji hlj => ?_⟩
      by_cases e : j = i
      ·subst e; exact UInt8.le_refl _
      ·exact UInt8.le_trans (UInt8.le_of_lt hp) (h4 j hj (by omega) hlj)
     ·rw [dec_f hp, oite_f]
      refine ih (i + 1) (some k) (by omega) (by omega) ⟨by omega, h2, h3, fun j hj hji hlj => ?_⟩
      by_cases e : j = i
      ·subst e; exact UInt8.not_lt.1 hp
      ·exact h4 j hj (by omega) hlj
  ·rw [dec_f (fun q => hlt ((i64_lt (by omega) (by omega)).1 q)), oite_f]
   have : i = l.length := by omega
   subst this
   exact ⟨r, rfl, hr⟩
theorem victim_spec (n : Nat) (hn : 1001 < n) (s : SpT) (hl : s.1.2.2.2.2.length ≤ 1000) :
  ∃ r, F61 n (some s) = some (idxV r, some s) ∧ VSpec s.1.2.2.2.2 s.1.2.2.2.2.length r := by
 obtain ⟨⟨s0, s1, s2, s3, l⟩, sa, s5⟩ := s
 dsimp only at hl ⊢
 exact victim_loop n sa s0 s1 s2 s3 s5 l hl n 0 none (by omega) (by omega) fun j _ h => by omega
theorem last_spec (n : Nat) (hn : 1001 < n) (s : SpT) (hl : s.1.2.2.2.2.length ≤ 1000) (hg : ∀ e ∈ s.1.2.2.2.2, Good e.2) (k : Nat) (hk : s.1.2.2.2.2.length = k + 1) :
  ∃ ix u rD, F62 n (some s) = some (ix, some ((s.1.1, u, s.1.2.2.1, s.1.2.2.2.1, joinD s.1.2.2.2.2 k rD), s.2)) ∧ DownSpec s.1.2.2.2.2 (orgE (s.1.2.2.2.2[k]'(by omega))) k rD ∧ ((ix = 0 ∧ joinD s.1.2.2.2.2 k rD = s.1.2.2.2.2) ∨ ∃ p, p < k ∧ ∃ h : p < s.1.2.2.2.2.length, ix = (s.1.2.2.2.2[p]'h).1 ∧ (joinD s.1.2.2.2.2 k rD).take p = s.1.2.2.2.2.take p) := by
 obtain ⟨r, e, hr⟩ := beside_down n hn s hl k (by omega)
 unfold F62
 simp only [obind_s]
 rw [show Int64.ofInt ↑(List.length s.1.2.2.2.2) - 1 = I64 k from by rw [hk]; exact i64_sub (a := k + 1) (b := 1) (by omega)]
 simp only [Prod.eta]
 rw [e]
 simp only [obind_s]
 cases r with
 | none => exact ⟨0, s.1.2.1, none, rfl, hr, .inl ⟨rfl, rfl⟩⟩
 | some a =>
  obtain ⟨h1, h2, h3, h4⟩ := hr
  obtain ⟨u, e2⟩ := join_spec n (by omega) s hl hg a k h2 (by omega)
  rw [idx_lt0 _ (fun k hk => by cases hk; omega), show (some a).isNone = false from rfl, oite_f, show idxV (some a) = I64 a from rfl, e2]
  simp only [obind_s]
  by_cases hlen : Int64.ofInt ↑(joinL s.1.2.2.2.2 a k).length = Int64.ofInt ↑s.1.2.2.2.2.length
  ·rw [dec_t hlen, oite_t]
   refine ⟨0, u, some a, rfl, ⟨h1, h2, h3, h4⟩, .inl ⟨rfl, ?_⟩⟩
   rcases joinL_cases s.1.2.2.2.2 a k with hc | ⟨_, hb, hf, hc⟩
   ·exact hc
   ·rw [hc] at hlen
    have e := (i64_eq (by rw [List.length_eraseIdx]; simp only [List.length_set]; split <;> omega) (by omega)).1 hlen
    rw [List.length_eraseIdx] at e; simp only [List.length_set] at e; rw [if_pos hb] at e; omega
  ·rw [dec_f hlen, oite_f]
   obtain ⟨g1, _⟩ := joinL_at s.1.2.2.2.2 a k h1 h2
   have := joinL_len s.1.2.2.2.2 a k
   obtain ⟨c1, c2⟩ := idx_i64 (l := joinL s.1.2.2.2.2 a k) g1 (by omega)
   rw [c1, oite_t, c2]
   exact ⟨_, u, some a, rfl, ⟨h1, h2, h3, h4⟩, .inr ⟨a, h1, h2, joinL_fst _ a k h1 h2 g1, joinL_take _ a k h1 a (Nat.le_refl _)⟩⟩
inductive Evs : List EnT → List EnT → Prop where
 | refl (l : List EnT) : Evs l l
 | step {l l' l'' : List EnT} {k : Nat} {rU rD : Option Nat} (hv : VSpec l l.length (some k)) (he : EvTo l k l' rU rD) (hr : Evs l' l'') : Evs l l''
def nl (l : List EnT) : Nat := (l.filter fun e => !lasts e.2).length
theorem nl_cons (e : EnT) (l : List EnT) : nl (e :: l) = (if lasts e.2 = true then 0 else 1) + nl l := by
 unfold nl
 rw [List.filter_cons]
 by_cases h : lasts e.2 = true
 ·rw [if_neg (by rw [h]; decide), if_pos h, Nat.zero_add]
 ·rw [if_pos (by rw [Bool.not_eq_true] at h; rw [h]; rfl), if_neg h, List.length_cons, Nat.add_comm]
theorem nl_set : ∀ (l : List EnT) (k : Nat) (e : EnT) (hk : k < l.length), nl (l.set k e) + (if lasts l[k].2 = true then 0 else 1) = nl l + (if lasts e.2 = true then 0 else 1)
 | [], _, _, h => by simp at h
 | x :: l, 0, e, _ => by simp only [List.set_cons_zero, nl_cons, List.getElem_cons_zero]; omega
 | x :: l, k + 1, e, h => by
  have := nl_set l k e (by simpa using h)
  simp only [List.set_cons_succ, nl_cons, List.getElem_cons_succ]; omega
theorem nl_erase : ∀ (l : List EnT) (k : Nat), nl (l.eraseIdx k) ≤ nl l
 | [], _ => by simp
 | x :: l, 0 => by simp only [List.eraseIdx_cons_zero, nl_cons]; omega
 | x :: l, k + 1 => by
  have := nl_erase l k
  simp only [List.eraseIdx_cons_succ, nl_cons]; omega
theorem joinL_nl (l : List EnT) (a b : Nat) : nl (joinL l a b) ≤ nl l := by
 obtain ⟨m, hm⟩ : ∃ m, m = joinL l a b := ⟨_, rfl⟩
 have hc := joinL_cases l a b
 rw [← hm] at hc ⊢
 rcases hc with hc | ⟨ha, hb, hf, hc⟩
 ·rw [hc]; exact Nat.le_refl _
 ·rw [hc]
  refine Nat.le_trans (nl_erase _ _) ?_
  have h := nl_set l a (l[a].1, (joinI l[a].2 l[b].2).1) ha
  have h1 : lasts (joinI l[a].2 l[b].2).1 = true := by unfold joinI; rw [if_pos hf]; rfl
  rw [show lasts (l[a].1, (joinI l[a].2 l[b].2).1).2 = true from h1] at h
  simp only [if_true] at h
  omega
theorem joinR_len (l : List EnT) (k : Nat) (r : Option Nat) : (joinR l k r).length ≤ l.length := by cases r; exact Nat.le_refl _; exact joinL_len l k _
theorem joinD_len (l : List EnT) (k : Nat) (r : Option Nat) : (joinD l k r).length ≤ l.length := by cases r; exact Nat.le_refl _; exact joinL_len l _ k
theorem joinR_nl (l : List EnT) (k : Nat) (r : Option Nat) : nl (joinR l k r) ≤ nl l := by cases r; exact Nat.le_refl _; exact joinL_nl l k _
theorem joinD_nl (l : List EnT) (k : Nat) (r : Option Nat) : nl (joinD l k r) ≤ nl l := by cases r; exact Nat.le_refl _; exact joinL_nl l _ k
theorem joinR_good {l : List EnT} (hg : ∀ e ∈ l, Good e.2) (k : Nat) (r : Option Nat) : ∀ e ∈ joinR l k r, Good e.2 := by cases r; exact hg; exact joinL_good hg k _
theorem joinD_good {l : List EnT} (hg : ∀ e ∈ l, Good e.2) (k : Nat) (r : Option Nat) : ∀ e ∈ joinD l k r, Good e.2 := by cases r; exact hg; exact joinL_good hg _ k
theorem EvTo.len {l l' : List EnT} {k : Nat} {rU rD : Option Nat} (h : EvTo l k l' rU rD) : l'.length ≤ l.length := by
 rw [h.eq]
 refine Nat.le_trans (joinD_len _ _ _) (Nat.le_trans (joinR_len _ _ _) ?_)
 unfold evOne; rw [List.length_set]; exact Nat.le_refl _
theorem EvTo.good {l l' : List EnT} {k : Nat} {rU rD : Option Nat} (h : EvTo l k l' rU rD) (hg : ∀ e ∈ l, Good e.2) : ∀ e ∈ l', Good e.2 := by
 rw [h.eq]; exact joinD_good (joinR_good (evOne_good hg k _) _ _) _ _
theorem EvTo.fewer {l l' : List EnT} {k : Nat} {rU rD : Option Nat} (h : EvTo l k l' rU rD) (hv : lasts (l[k]'h.lt).2 = false) : nl l' < nl l := by
 have h1 := nl_set l k (l[k]'h.lt |>.1, gapI (spanI (l[k]'h.lt).2)) h.lt
 rw [hv, show lasts ((l[k]'h.lt).1, gapI (spanI (l[k]'h.lt).2)).2 = true from rfl] at h1
 simp only [if_true] at h1
 have h2 := joinR_nl (evOne l k (l[k]'h.lt)) k rU
 have h3 := joinD_nl (joinR (evOne l k (l[k]'h.lt)) k rU) k rD
 rw [← h.eq] at h3
 unfold evOne at h2 h3
 have h1 : nl (l.set k ((l[k]'h.lt).1, gapI (spanI (l[k]'h.lt).2))) + 1 = nl l := by simpa using h1
 omega
theorem Evs.len {l l' : List EnT} (h : Evs l l') : l'.length ≤ l.length := by
 induction h with
 | refl => exact Nat.le_refl _
 | step _ he _ ih => exact Nat.le_trans ih he.len
theorem Evs.good {l l' : List EnT} (h : Evs l l') (hg : ∀ e ∈ l, Good e.2) : ∀ e ∈ l', Good e.2 := by
 induction h with
 | refl => exact hg
 | step _ he _ ih => exact ih (he.good hg)
theorem nl_le (l : List EnT) : nl l ≤ l.length := List.length_filter_le _ _
theorem check_org {x : ItT} (h : itCheck x = 0) : (spanI x).1.toNat < 32 := by
 obtain ⟨g, o, seq, time, rule, labels, state, pr, v, own, go, ga, gb⟩ := x
 have key : ∀ (u : UInt8) (b : Int64), (bif decide ((32 : UInt8) ≤ u) then (6 : Int64) else b) = 0 → u.toNat < 32 := fun u b hb => by
  by_cases hu : (32 : UInt8) ≤ u
  ·rw [dec_t hu] at hb; have hb : (6 : Int64) = 0 := hb; exact absurd hb (by decide)
  ·have := UInt8.lt_iff_toNat_lt.1 (UInt8.not_le.1 hu); exact this
 cases g with
 | true => exact key go _ h
 | false => exact key o _ h
def putY (x : ItT) (high : UInt64) : ItT := if (spanI x).2.1 ≤ high then (trimI x high).1 else x
theorem trim_good {x : ItT} (h : Good x) (a : UInt64) : Good (trimI x a).1 := by
 unfold trimI
 split
 ·exact ⟨by simp [zeroI], by simp [zeroI], by simp [zeroI]⟩
 ·split
  ·exact h
  ·exact ⟨h.rule, h.labs, h.each⟩
theorem putY_good {x : ItT} (h : Good x) (a : UInt64) : Good (putY x a) := by
 unfold putY; split
 ·exact trim_good h a
 ·exact h
structure Put1 (s : SpT) (x : ItT) (high : UInt64) (s' : SpT) (l1 : List EnT) (rD : Option Nat) : Prop where
 ok : itCheck x = 0
 hi : s.2.1[(spanI x).1.toNat]? = some high
 old : ¬ (spanI x).2.2 ≤ high
 jump : ¬ high + 1 < (spanI x).2.1
 ev : Evs s.1.2.2.2.2 l1
 down : DownSpec (l1 ++ [(s.1.2.2.1, putY x high)]) (spanI (putY x high)).1 l1.length rD
 list : s'.1.2.2.2.2 = joinD (l1 ++ [(s.1.2.2.1, putY x high)]) l1.length rD
 quota : s'.1.1 = s.1.1
 next : s'.1.2.2.1 = s.1.2.2.1 + 1
 most : ¬ (1099511627776 : UInt64) < s.1.2.2.1 + 1
 acked : s'.1.2.2.2.1 = s.1.2.2.2.1
 highs : s'.2.1 = s.2.1.set (spanI x).1.toNat (spanI x).2.2
theorem evTo_idx {l l' : List EnT} {k : Nat} {rU rD : Option Nat} (h : EvTo l k l' rU rD) : ∀ e ∈ l', ∃ e' ∈ l, e.1 = e'.1 := by
 have hj : ∀ (m : List EnT) (a b : Nat), ∀ e ∈ joinL m a b, ∃ e' ∈ m, e.1 = e'.1 := by
  intro m a b e he
  rcases joinL_cases m a b with hc | ⟨ha, hb, hf, hc⟩
  ·rw [hc] at he; exact ⟨e, he, rfl⟩
  ·rw [hc] at he
   rcases List.mem_or_eq_of_mem_set (List.mem_of_mem_eraseIdx he) with h | h
   ·exact ⟨e, h, rfl⟩
   ·exact ⟨m[a], List.getElem_mem ha, by rw [h]⟩
 intro e he
 have hk := h.lt
 rw [h.eq] at he
 have h1 : ∃ e' ∈ joinR (evOne l k (l[k]'h.lt)) k rU, e.1 = e'.1 := by
  cases rD with
  | none => exact ⟨e, he, rfl⟩
  | some a => exact hj _ _ _ e he
 obtain ⟨e1, h1, q1⟩ := h1
 have h2 : ∃ e' ∈ evOne l k (l[k]'h.lt), e1.1 = e'.1 := by
  cases rU with
  | none => exact ⟨e1, h1, rfl⟩
  | some a => exact hj _ _ _ e1 h1
 obtain ⟨e2, h2, q2⟩ := h2
 rcases List.mem_or_eq_of_mem_set h2 with h | h
 ·exact ⟨e2, h, by rw [q1, q2]⟩
 ·exact ⟨l[k]'hk, List.getElem_mem _, by rw [q1, q2, h]⟩
theorem evs_idx {l l' : List EnT} (h : Evs l l') : ∀ e ∈ l', ∃ e' ∈ l, e.1 = e'.1 := by
 induction h with
 | refl => exact fun e he => ⟨e, he, rfl⟩
 | step _ he _ ih =>
  intro e h
  obtain ⟨e1, h1, q1⟩ := ih e h
  obtain ⟨e2, h2, q2⟩ := evTo_idx he e1 h1
  exact ⟨e2, h2, by rw [q1, q2]⟩
theorem joinD_idx (l : List EnT) (k : Nat) (r : Option Nat) : ∀ e ∈ joinD l k r, ∃ e' ∈ l, e.1 = e'.1 := by
 intro e he
 cases r with
 | none => exact ⟨e, he, rfl⟩
 | some a =>
  rcases joinL_cases l a k with hc | ⟨ha, hb, hf, hc⟩
  ·rw [show joinD l k (some a) = joinL l a k from rfl, hc] at he; exact ⟨e, he, rfl⟩
  ·rw [show joinD l k (some a) = joinL l a k from rfl, hc] at he
   rcases List.mem_or_eq_of_mem_set (List.mem_of_mem_eraseIdx he) with h | h
   ·exact ⟨e, h, rfl⟩
   ·exact ⟨l[a], List.getElem_mem ha, by rw [h]⟩
def Kept (l l' : List EnT) (f : UInt64) : Prop := l.Pairwise (fun a b => a.1 < b.1) → (∀ e ∈ l, 0 < e.1) → ∃ p, p ≤ l.length ∧ l'.take p = l.take p ∧ (f = 0 → p = l.length) ∧ ∀ e ∈ l.drop p, f ≤ e.1
theorem Kept.refl (l : List EnT) : Kept l l 0 := fun _ _ => ⟨l.length, Nat.le_refl _, rfl, fun _ => rfl, fun e he => by simp at he⟩
theorem Kept.step {l t t' : List EnT} {f ix : UInt64} {q : Nat} (h : Kept l t f) (hq : q < t.length) (he : ix = t[q].1) (ht : t'.take q = t.take q) (hsrc : (∀ e ∈ l, 0 < e.1) → 0 < ix) :
  Kept l t' (bif decide (f = 0) then ix else bif decide (ix < f) then ix else f) := by
 intro hs hp
 obtain ⟨p, p1, p2, p3, p4⟩ := h hs hp
 have h0 : ix ≠ 0 := fun q => by have := hsrc hp; rw [q] at this; exact absurd this (by decide)
 by_cases hqp : q < p
 ·have htq : t[q] = l[q]'(by omega) := by
   have e : (t.take p)[q]? = (l.take p)[q]? := by rw [p2]
   rw [List.getElem?_take_of_lt hqp, List.getElem?_take_of_lt hqp, List.getElem?_eq_getElem hq, List.getElem?_eq_getElem (by omega)] at e
   exact Option.some.inj e
  have hge : ∀ e ∈ l.drop q, ix ≤ e.1 := by
   intro e hm
   obtain ⟨j, hj, rfl⟩ := List.getElem_of_mem hm
   rw [List.getElem_drop]
   rw [List.length_drop] at hj
   rw [he, htq]
   by_cases e0 : j = 0
   ·subst e0; exact UInt64.le_refl _
   ·exact UInt64.le_of_lt (List.pairwise_iff_getElem.1 hs q (q + j) (by omega) (by omega) (by omega))
  have htk : t'.take q = l.take q := by
   rw [ht]
   have e : (t.take p).take q = (l.take p).take q := by rw [p2]
   rwa [List.take_take, List.take_take, Nat.min_eq_left (by omega)] at e
  refine ⟨q, by omega, htk, fun hf => ?_, fun e hm => ?_⟩
  ·exfalso
   by_cases f0 : f = 0
   ·rw [dec_t f0] at hf; exact h0 hf
   ·rw [dec_f f0] at hf
    by_cases h1 : ix < f
    ·rw [dec_t h1] at hf; exact h0 hf
    ·rw [dec_f h1] at hf; exact f0 hf
  ·by_cases f0 : f = 0
   ·rw [dec_t f0]; exact hge e hm
   ·rw [dec_f f0]
    by_cases h1 : ix < f
    ·rw [dec_t h1]; exact hge e hm
    ·rw [dec_f h1]; exact UInt64.le_trans (UInt64.not_lt.1 h1) (hge e hm)
 ·have htk : t'.take p = l.take p := by
   rw [← p2]
   have e : (t'.take q).take p = (t.take q).take p := by rw [ht]
   rwa [List.take_take, List.take_take, Nat.min_eq_left (by omega)] at e
  refine ⟨p, p1, htk, fun hf => ?_, fun e hm => ?_⟩
  ·by_cases f0 : f = 0
   ·exact p3 f0
   ·rw [dec_f f0] at hf
    by_cases h1 : ix < f
    ·rw [dec_t h1] at hf; exact absurd hf h0
    ·rw [dec_f h1] at hf; exact absurd hf f0
  ·by_cases f0 : f = 0
   ·rw [p3 f0] at hm; simp at hm
   ·rw [dec_f f0]
    by_cases h1 : ix < f
    ·rw [dec_t h1]; exact UInt64.le_of_lt (UInt64.lt_of_lt_of_le h1 (p4 e hm))
    ·rw [dec_f h1]; exact p4 e hm
theorem Kept.snoc {l t : List EnT} {f : UInt64} {x : EnT} (h : Kept l t f) : Kept l (t ++ [x]) f := by
 intro hs hp
 obtain ⟨p, p1, p2, p3, p4⟩ := h hs hp
 have hpt : p ≤ t.length := by
  have := congrArg List.length p2
  rw [List.length_take, List.length_take] at this; omega
 exact ⟨p, p1, by rw [List.take_append_of_le_length hpt]; exact p2, p3, p4⟩
abbrev PutR (s : SpT) (y : (UInt64 × UInt64 × Int64) × Option SpT) (x : ItT) (high : UInt64) : Prop :=
 ∃ i f e s', y = ((i, f, e), some s') ∧ ((e ≠ 0 ∧ f = 0 ∧ s' = s) ∨ (e = 0 ∧ Kept s.1.2.2.2.2 s'.1.2.2.2.2 f ∧ ∃ l1 rD, Put1 s x high s' l1 rD))
theorem u8_idx (o : UInt8) (ho : o.toNat < 32) : decide ((0 : Int) ≤ ↑(UInt8.toNat o)) = true ∧ Nat.blt (Int.toNat ↑(UInt8.toNat o)) 32 = true := by
 refine ⟨dec_t (by omega), ?_⟩
 rw [Int.toNat_natCast]; exact Nat.ble_eq_true_of_le ho
theorem j2047 (s : SpT) (hh : s.2.1.length = 32) (x : ItT) (high : UInt64) (f : UInt64) (t : SpT) (l1 : List EnT) (rD : Option Nat) (hok : itCheck x = 0) (hi : s.2.1[(spanI x).1.toNat]? = some high)
  (hold : ¬ (spanI x).2.2 ≤ high) (hjump : ¬ high + 1 < (spanI x).2.1) (hev : Evs s.1.2.2.2.2 l1)
  (hdown : DownSpec (l1 ++ [(s.1.2.2.1, putY x high)]) (spanI (putY x high)).1 l1.length rD)
  (hlist : t.1.2.2.2.2 = joinD (l1 ++ [(s.1.2.2.1, putY x high)]) l1.length rD) (hq : t.1.1 = s.1.1) (hn : t.1.2.2.1 = s.1.2.2.1) (ha : t.1.2.2.2.1 = s.1.2.2.2.1) (hhi : t.2.1 = s.2.1) (hkp : Kept s.1.2.2.2.2 t.1.2.2.2.2 f) :
  ∃ y, F46_J2047 f (spanI x).1 (spanI x).2.2 (some s) (some t) = some y ∧ PutR s y x high := by
 have ho := check_org hok
 obtain ⟨o1, o2⟩ := u8_idx _ ho
 unfold F46_J2047
 simp only [obind_s]
 rw [o1, oite_t, o2, oite_t, hhi, show Nat.blt (Int.toNat ↑(UInt8.toNat (spanI x).1) * 1) s.2.1.length = true from by rw [Nat.mul_one, hh]; exact o2, oite_t, hn]
 by_cases hm : (1099511627776 : UInt64) < s.1.2.2.1 + 1
 ·rw [dec_t hm, oite_t]
  exact ⟨_, rfl, _, _, _, _, rfl, .inl ⟨by decide, rfl, rfl⟩⟩
 ·rw [dec_f hm, oite_f]
  refine ⟨_, rfl, _, _, _, _, rfl, .inr ⟨rfl, hkp, l1, rD, ⟨hok, hi, hold, hjump, hev, hdown, hlist, hq, rfl, hm, ha, ?_⟩⟩⟩
  show List.set s.2.1 _ _ = _
  rw [Nat.mul_one, Int.toNat_natCast]
theorem put_loop (n : Nat) (hn : 1001 < n) (s : SpT) (hh : s.2.1.length = 32) (x : ItT) (high : UInt64) (hok : itCheck x = 0) (hi : s.2.1[(spanI x).1.toNat]? = some high)
  (hold : ¬ (spanI x).2.2 ≤ high) (hjump : ¬ high + 1 < (spanI x).2.1) (hy : Good (putY x high)) (size : Int64) : ∀ (m : Nat) (t : SpT) (f : UInt64), nl t.1.2.2.2.2 < m →
   (t.1.2.2.2.2.length ≤ 900) → (∀ e ∈ t.1.2.2.2.2, Good e.2) → t.1.1 = s.1.1 → t.1.2.2.1 = s.1.2.2.1 → t.1.2.2.2.1 = s.1.2.2.2.1 → t.2.1 = s.2.1 → (∀ l1, Evs t.1.2.2.2.2 l1 → Evs s.1.2.2.2.2 l1) → Kept s.1.2.2.2.2 t.1.2.2.2.2 f →
  ∃ y, F46_R510 n m f (spanI x).1 (spanI x).2.2 size (some s) (putY x high).1 (putY x high).2.1 (putY x high).2.2.1 (putY x high).2.2.2.1 (putY x high).2.2.2.2.1 (putY x high).2.2.2.2.2.1 (putY x high).2.2.2.2.2.2.1
   (putY x high).2.2.2.2.2.2.2.1 (putY x high).2.2.2.2.2.2.2.2.1 (putY x high).2.2.2.2.2.2.2.2.2.1 (putY x high).2.2.2.2.2.2.2.2.2.2.1 (putY x high).2.2.2.2.2.2.2.2.2.2.2.1 (putY x high).2.2.2.2.2.2.2.2.2.2.2.2 (some t) = some y ∧ PutR s y x high := by
 intro m
 induction m with
 | zero => intros; omega
 | succ m ih =>
  intro t f hm hl hg hq hnx hac hhi hev hkp
  have hps : (∀ e ∈ s.1.2.2.2.2, 0 < e.1) → ∀ e ∈ t.1.2.2.2.2, 0 < e.1 := fun hp e he => by
   obtain ⟨e', h1, h2⟩ := evs_idx (hev _ (.refl _)) e he
   rw [h2]; exact hp e' h1
  rw [F46_R510_s]
  unfold F46_L510
  simp only [obind_s, Prod.eta]
  by_cases hroom : t.1.1 < t.1.2.1 + size
  ·rw [dec_t hroom, oite_t]
   obtain ⟨r, e1, hr⟩ := victim_spec n hn t (by omega)
   rw [e1]
   simp only [obind_s]
   rw [idx_lt0 r fun k hk => by subst hk; have := hr.1; omega]
   cases r with
   | none => exact ⟨_, rfl, _, _, _, _, rfl, .inl ⟨by decide, rfl, rfl⟩⟩
   | some k =>
    obtain ⟨h1, h2, h3, h4⟩ := hr
    rw [show (some k).isNone = false from rfl, oite_f, show idxV (some k) = I64 k from rfl]
    obtain ⟨ix, u, ev, l', rU, rD, e2, he, q, q1, q2, q3, q4⟩ := evict_spec n hn t k h2 (by omega) hg
    have hK := hkp.step q2 q3 q4 fun hp => by rw [q3]; exact hps hp _ (List.getElem_mem _)
    rw [e2]
    simp only [obind_s]
    have hlen := he.len
    have go : ∀ f', Kept s.1.2.2.2.2 l' f' → ∃ y, F46_R510 n m f' (spanI x).1 (spanI x).2.2 size (some s) (putY x high).1 (putY x high).2.1 (putY x high).2.2.1 (putY x high).2.2.2.1 (putY x high).2.2.2.2.1 (putY x high).2.2.2.2.2.1 (putY x high).2.2.2.2.2.2.1
      (putY x high).2.2.2.2.2.2.2.1 (putY x high).2.2.2.2.2.2.2.2.1 (putY x high).2.2.2.2.2.2.2.2.2.1 (putY x high).2.2.2.2.2.2.2.2.2.2.1 (putY x high).2.2.2.2.2.2.2.2.2.2.2.1 (putY x high).2.2.2.2.2.2.2.2.2.2.2.2
      (some ((t.1.1, u, t.1.2.2.1, t.1.2.2.2.1, l'), t.2.1, ev)) = some y ∧ PutR s y x high := fun f' hf' =>
     ih ((t.1.1, u, t.1.2.2.1, t.1.2.2.2.1, l'), t.2.1, ev) f' (by have := he.fewer h3; dsimp only; omega) (by dsimp only; omega) (he.good hg) hq hnx hac hhi (fun l1 h => hev l1 (.step ⟨h1, h2, h3, h4⟩ he h)) hf'
    cases hb : decide (f = 0) with
    | true => rw [hb] at hK; rw [oite_t]; exact go _ hK
    | false =>
     rw [hb] at hK
     rw [oite_f]
     cases hc : decide (ix < f) with
     | true => rw [hc] at hK; rw [oite_t]; exact go _ hK
     | false => rw [hc] at hK; rw [oite_f]; exact go _ hK
  ·rw [dec_f hroom, oite_f]
   have e30 : F50 n (putY x high) = some (putY x high, ()) := clone_eq n _ (by have := hy.labs; omega)
   rw [e30]
   simp only [obind_s, ojoinA_eq]
   rw [ble_t (by simp; omega), oite_t]
   have hg' : ∀ e ∈ t.1.2.2.2.2 ++ [(t.1.2.2.1, putY x high)], Good e.2 := by
    intro e he
    rcases List.mem_append.1 he with h | h
    ·exact hg e h
    ·simp only [List.mem_singleton] at h; rw [h]; exact hy
   obtain ⟨ix, u, rD, e3, hD, hX⟩ := last_spec n hn ((t.1.1, t.1.2.1 + size, t.1.2.2.1, t.1.2.2.2.1, t.1.2.2.2.2 ++ [(t.1.2.2.1, putY x high)]), t.2) (by simp; omega) hg' t.1.2.2.2.2.length (by simp)
   rw [e3]
   simp only [obind_s]
   have hD : DownSpec (t.1.2.2.2.2 ++ [(s.1.2.2.1, putY x high)]) (spanI (putY x high)).1 t.1.2.2.2.2.length rD := by
    rw [← hnx]
    have e : orgE ((t.1.2.2.2.2 ++ [(t.1.2.2.1, putY x high)])[t.1.2.2.2.2.length]'(by simp)) = (spanI (putY x high)).1 := by
     rw [List.getElem_append_right (Nat.le_refl _)]
     simp only [Nat.sub_self, List.getElem_cons_zero]
     rfl
    rw [← e]; exact hD
   have hkp2 := hkp.snoc (x := (t.1.2.2.1, putY x high))
   have go : ∀ f', Kept s.1.2.2.2.2 (joinD (t.1.2.2.2.2 ++ [(t.1.2.2.1, putY x high)]) t.1.2.2.2.2.length rD) f' → ∃ y, F46_J2047 f' (spanI x).1 (spanI x).2.2 (some s) (some ((t.1.1, u, t.1.2.2.1, t.1.2.2.2.1, joinD (t.1.2.2.2.2 ++ [(t.1.2.2.1, putY x high)]) t.1.2.2.2.2.length rD), t.2)) = some y ∧ PutR s y x high := fun f' hf' =>
    j2047 s hh x high f' _ t.1.2.2.2.2 rD hok hi hold hjump (hev _ (.refl _)) hD (by dsimp only; rw [hnx]) hq hnx hac hhi hf'
   rcases hX with ⟨h0, hX⟩ | ⟨q, q1, q2, q3, q4⟩
   ·rw [h0, show decide ((0 : UInt64) < 0) = false from rfl, oite_f]
    exact go _ (by rw [hX]; exact hkp2)
   ·have hqt : q < t.1.2.2.2.2.length := q1
    have hsrc : (∀ e ∈ s.1.2.2.2.2, 0 < e.1) → 0 < ix := fun hp => by
     rw [q3]
     have : (t.1.2.2.2.2 ++ [(t.1.2.2.1, putY x high)])[q]'q2 = t.1.2.2.2.2[q] := List.getElem_append_left hqt
     rw [this]
     exact hps hp _ (List.getElem_mem _)
    have hK := hkp2.step q2 q3 q4 hsrc
    cases h1 : decide (0 < ix) with
    | false =>
     rw [oite_f]
     refine go _ fun hs hp => absurd (hsrc hp) (of_decide_eq_false h1)
    | true =>
     rw [oite_t]
     cases hb : decide (f = 0) with
     | true => rw [hb] at hK; rw [oite_t]; exact go _ hK
     | false =>
      rw [hb] at hK
      rw [oite_f]
      cases hc : decide (ix < f) with
      | true => rw [hc] at hK; rw [oite_t]; exact go _ hK
      | false => rw [hc] at hK; rw [oite_f]; exact go _ hK
theorem put_spec (n : Nat) (hn : 1001 < n) (s : SpT) (hl : s.1.2.2.2.2.length ≤ 900) (hg : ∀ e ∈ s.1.2.2.2.2, Good e.2) (hh : s.2.1.length = 32) (x : ItT) (hx : Good x) :
  ∃ y high, F46 n (some s, x) = some y ∧ PutR s y x high := by
 unfold F46
 simp only [oelim_s, Prod.eta]
 rw [it_eq n 50 (by omega) x (hx.fit 50 (by omega))]
 simp only [obind_s]
 by_cases hok : itCheck x = 0
 ·have ho := check_org hok
  obtain ⟨o1, o2⟩ := u8_idx _ ho
  rw [dec_t hok, Bool.not_true, oite_f, span_eq]
  simp only [obind_s, ojoinA_eq]
  rw [o1, oite_t, o2, oite_t]
  have hlt : (spanI x).1.toNat < s.2.1.length := by rw [hh]; exact ho
  have hi : s.2.1[(spanI x).1.toNat]? = some s.2.1[(spanI x).1.toNat] := List.getElem?_eq_getElem hlt
  generalize s.2.1[(spanI x).1.toNat] = high at hi
  rw [show s.2.1[Int.toNat ↑(UInt8.toNat (spanI x).1) * 1]? = some high from by rw [Nat.mul_one, Int.toNat_natCast]; exact hi]
  simp only [obind_s]
  have hY := putY_good hx high
  have j31 : ¬ (spanI x).2.2 ≤ high → ¬ high + 1 < (spanI x).2.1 → ∃ y, F46_J31 n 0 (spanI x).1 (spanI x).2.2 s.2.1 s.1.1 s.1.2.1 s.1.2.2.1 s.1.2.2.2.1 s.2.2 (putY x high).1 (putY x high).2.1 (putY x high).2.2.1 (putY x high).2.2.2.1 (putY x high).2.2.2.2.1 (putY x high).2.2.2.2.2.1 (putY x high).2.2.2.2.2.2.1
   (putY x high).2.2.2.2.2.2.2.1 (putY x high).2.2.2.2.2.2.2.2.1 (putY x high).2.2.2.2.2.2.2.2.2.1 (putY x high).2.2.2.2.2.2.2.2.2.2.1 (putY x high).2.2.2.2.2.2.2.2.2.2.2.1 (putY x high).2.2.2.2.2.2.2.2.2.2.2.2 s.1.2.2.2.2 = some y ∧ PutR s y x high := by
   intro hold hjump
   unfold F46_J31
   simp only [Prod.eta]
   have e22 : F58 n (some s) = some (some s, some s) := by
    unfold F58
    simp only [oelim_s]
    have e : F1067 n s.1.2.2.2.2 = some (s.1.2.2.2.2, s.1.2.2.2.2) := by
     unfold F1067 cloneFR
     rw [ble_t (by unfold maxCells; omega), oite_t]
    rw [e]
    rfl
   rw [e22]
   simp only [obind_s]
   rw [size_eq n (by omega) _ hY]
   simp only [obind_s]
   exact put_loop n hn s hh x high hok hi hold hjump hY _ n s 0 (by have := nl_le s.1.2.2.2.2; omega) hl hg rfl rfl rfl rfl (fun _ h => h) (Kept.refl _)
  by_cases hold : (spanI x).2.2 ≤ high
  ·rw [dec_t hold, oite_t]
   exact ⟨_, high, rfl, _, _, _, _, rfl, .inl ⟨by decide, rfl, rfl⟩⟩
  ·rw [dec_f hold, oite_f]
   by_cases hlow : (spanI x).2.1 ≤ high
   ·have hjump : ¬ high + 1 < (spanI x).2.1 := by
     rw [UInt64.not_lt, UInt64.le_iff_toNat_le]
     rw [UInt64.le_iff_toNat_le] at hlow hold
     have := (spanI x).2.2.toNat_lt
     rw [UInt64.toNat_add]
     have : (1 : UInt64).toNat = 1 := rfl
     omega
    rw [dec_t hlow, oite_t, trim_eq]
    simp only [obind_s]
    obtain ⟨y, e, hy⟩ := j31 hold hjump
    have ep : putY x high = (trimI x high).1 := by unfold putY; rw [if_pos hlow]
    rw [ep] at e
    exact ⟨y, high, e, hy⟩
   ·rw [dec_f hlow, oite_f]
    by_cases hjump : high + 1 < (spanI x).2.1
    ·rw [dec_t hjump, oite_t]
     exact ⟨_, high, rfl, _, _, _, _, rfl, .inl ⟨by decide, rfl, rfl⟩⟩
    ·rw [dec_f hjump, oite_f]
     obtain ⟨y, e, hy⟩ := j31 hold hjump
     have ep : putY x high = x := by unfold putY; rw [if_neg hlow]
     rw [ep] at e
     exact ⟨y, high, e, hy⟩
 ·rw [dec_f hok, Bool.not_false, oite_t]
  exact ⟨_, 0, rfl, _, _, _, _, rfl, .inl ⟨hok, rfl, rfl⟩⟩
def listGo (behind : UInt64) (many : Int64) : List EnT → List EnT → List EnT
 | [], out => out
 | x :: r, out => if many ≤ I64 out.length then out else if behind < x.1 then listGo behind many r (out ++ [x]) else listGo behind many r out
theorem list_loop (n : Nat) (behind : UInt64) (many : Int64) (sa : List UInt64) (s0 s1 : Int64) (s2 s3 s5 : UInt64) (l : List EnT) (hl : l.length ≤ 1000) (hg : ∀ e ∈ l, Good e.2) : ∀ m i out, i ≤ l.length → l.length - i < m → out.length ≤ i →
  F34_R61 n m behind many (I64 l.length) (I64 i) sa s0 s1 s2 s3 s5 out l = some (listGo behind many (l.drop i) out, some ((s0, s1, s2, s3, l), sa, s5)) := by
 intro m
 induction m with
 | zero => intros; omega
 | succ m ih =>
  intro i out hi hm ho
  rw [F34_R61_s]
  unfold F34_L61
  by_cases hlt : i < l.length
  ·obtain ⟨b1, b2⟩ := idx_i64 (l := l) hlt (by omega)
   have gi := hg _ (List.getElem_mem hlt)
   rw [dec_t ((i64_lt (by omega) (by omega)).2 hlt), oite_t, b1, oite_t, b2]
   simp only [obind_s, Prod.eta, i64_succ]
   rw [List.drop_eq_getElem_cons hlt]
   unfold listGo
   by_cases hm' : many ≤ I64 out.length
   ·rw [show decide (many ≤ Int64.ofInt ↑out.length) = true from dec_t hm', oite_t, if_pos hm']
   ·rw [show decide (many ≤ Int64.ofInt ↑out.length) = false from dec_f hm', oite_f, if_neg hm']
    by_cases hb : behind < l[i].1
    ·rw [dec_t hb, oite_t, if_pos hb]
     have e30 : F50 n l[i].2 = some (l[i].2, ()) := clone_eq n _ (by have := gi.labs; omega)
     rw [e30]
     simp only [obind_s, Prod.eta]
     rw [ble_t (by simp; omega), oite_t]
     exact ih (i + 1) _ (by omega) (by omega) (by simp; omega)
    ·rw [dec_f hb, oite_f, if_neg hb]
     exact ih (i + 1) _ (by omega) (by omega) (by omega)
  ·rw [dec_f (fun q => hlt ((i64_lt (by omega) (by omega)).1 q)), oite_f, List.drop_eq_nil_of_le (by omega)]
   rfl
theorem list_spec (n : Nat) (hn : 1001 < n) (s : SpT) (hl : s.1.2.2.2.2.length ≤ 1000) (hg : ∀ e ∈ s.1.2.2.2.2, Good e.2) (behind : UInt64) (many : Int64) :
  F34 n (some s, behind, many) = some (listGo behind many s.1.2.2.2.2 [], some s) := by
 obtain ⟨⟨s0, s1, s2, s3, l⟩, sa, s5⟩ := s
 dsimp only at hl hg ⊢
 have := list_loop n behind many sa s0 s1 s2 s3 s5 l hl hg n 0 [] (by omega) (by omega) (by simp)
 unfold F34
 exact this
theorem high_spec (n : Nat) (s : SpT) (hh : s.2.1.length = 32) (o : UInt8) (ho : o.toNat < 32) : F28 n (some s, o) = some (s.2.1[o.toNat]'(by omega), some s) := by
 obtain ⟨o1, o2⟩ := u8_idx _ ho
 unfold F28
 simp only [oelim_s, Prod.eta]
 have : ¬ (32 : UInt8) ≤ o := by rw [UInt8.not_le, UInt8.lt_iff_toNat_lt]; exact ho
 rw [dec_f this, oite_f, o1, oite_t, o2, oite_t, show s.2.1[Int.toNat ↑(UInt8.toNat o) * 1]? = some (s.2.1[o.toNat]'(by omega)) from by rw [Nat.mul_one, Int.toNat_natCast]; exact List.getElem?_eq_getElem _]
 rfl
def LastLe (l : List EnT) (n : UInt64) (i : Nat) : Option Nat → Prop
 | none => ∀ j (h : j < l.length), j < i → ¬ l[j].1 ≤ n
 | some k => k < i ∧ ∃ h : k < l.length, l[k].1 ≤ n ∧ ∀ j (h : j < l.length), k < j → j < i → ¬ l[j].1 ≤ n
theorem lastLe_step {l : List EnT} {n : UInt64} {i : Nat} {r : Option Nat} (hi : i < l.length) (h : LastLe l n i r) : LastLe l n (i + 1) (if l[i].1 ≤ n then some i else r) := by
 by_cases hc : l[i].1 ≤ n
 ·rw [if_pos hc]
  exact ⟨by omega, hi, hc, fun j _ _ _ => by omega⟩
 ·rw [if_neg hc]
  cases r with
  | none =>
   intro j hj hji
   by_cases e : j = i
   ·subst e; exact hc
   ·exact h j hj (by omega)
  | some k =>
   obtain ⟨h1, h2, h3, h4⟩ := h
   refine ⟨by omega, h2, h3, fun j hj hkj hji => ?_⟩
   by_cases e : j = i
   ·subst e; exact hc
   ·exact h4 j hj hkj (by omega)
theorem find_loop (n : Nat) (index : UInt64) (sa : List UInt64) (s0 s1 : Int64) (s2 s3 s5 : UInt64) (l : List EnT) (hl : l.length ≤ 1000) (hg : ∀ e ∈ l, Good e.2)
  (t0 : UInt64) (t1 : Bool) (t2 : UInt8) (t3 t4 : UInt64) (t5 : List UInt8) (t7 t8 : UInt8) (t9 : Int64) (t10 t11 : UInt8) (t12 t13 : UInt64) : ∀ m i r (out : EnT), i ≤ l.length → l.length - i < m → LastLe l index i r →
   (∀ k (hk : k < l.length), r = some k → out = l[k]) →
  ∃ (r' : Option Nat) (out' : EnT), F42_R61 n m index r.isSome (I64 l.length) (I64 i) sa s0 s1 s2 s3 s5 t0 t1 t2 t3 t4 t5 t7 t8 t9 t10 t11 t12 t13
   out.1 out.2.1 out.2.2.1 out.2.2.2.1 out.2.2.2.2.1 out.2.2.2.2.2.1 out.2.2.2.2.2.2.2.1 out.2.2.2.2.2.2.2.2.1 out.2.2.2.2.2.2.2.2.2.1 out.2.2.2.2.2.2.2.2.2.2.1 out.2.2.2.2.2.2.2.2.2.2.2.1 out.2.2.2.2.2.2.2.2.2.2.2.2.1 out.2.2.2.2.2.2.2.2.2.2.2.2.2 l out.2.2.2.2.2.2.1
   = some ((out', r'.isSome), some ((s0, s1, s2, s3, l), sa, s5)) ∧ LastLe l index l.length r' ∧ ∀ k (hk : k < l.length), r' = some k → out' = l[k] := by
 intro m
 induction m with
 | zero => intros; omega
 | succ m ih =>
  intro i r out hi hm hr ho
  rw [F42_R61_s]
  unfold F42_L61
  by_cases hlt : i < l.length
  ·obtain ⟨b1, b2⟩ := idx_i64 (l := l) hlt (by omega)
   have gi := hg _ (List.getElem_mem hlt)
   have hs := lastLe_step hlt hr
   rw [dec_t ((i64_lt (by omega) (by omega)).2 hlt), oite_t, b1, oite_t, b2]
   simp only [obind_s, Prod.eta, i64_succ]
   by_cases hc : l[i].1 ≤ index
   ·rw [dec_t hc, oite_t]
    have e30 : F50 n l[i].2 = some (l[i].2, ()) := clone_eq n _ (by have := gi.labs; omega)
    rw [e30]
    simp only [obind_s]
    rw [if_pos hc] at hs
    exact ih (i + 1) (some i) l[i] (by omega) (by omega) hs fun k hk e => by cases e; rfl
   ·rw [dec_f hc, oite_f]
    rw [if_neg hc] at hs
    exact ih (i + 1) r out (by omega) (by omega) hs ho
  ·rw [dec_f (fun q => hlt ((i64_lt (by omega) (by omega)).1 q)), oite_f]
   have : i = l.length := by omega
   subst this
   exact ⟨r, out, rfl, hr, ho⟩
theorem find_spec (n : Nat) (hn : 1001 < n) (s : SpT) (hl : s.1.2.2.2.2.length ≤ 1000) (hg : ∀ e ∈ s.1.2.2.2.2, Good e.2) (index : UInt64) :
  ∃ (r : Option Nat) (out : EnT), F42 n (some s, index) = some ((out, r.isSome), some s) ∧ LastLe s.1.2.2.2.2 index s.1.2.2.2.2.length r ∧ ∀ k (hk : k < s.1.2.2.2.2.length), r = some k → out = s.1.2.2.2.2[k] := by
 obtain ⟨⟨s0, s1, s2, s3, l⟩, sa, s5⟩ := s
 dsimp only at hl hg ⊢
 have := find_loop n index sa s0 s1 s2 s3 s5 l hl hg 0 false 0 0 0 [] 0 0 0 0 0 0 0 n 0 none (0, zeroI) (by omega) (by omega) (fun _ _ h => by omega) (fun _ _ h => by cases h)
 unfold F42
 exact this
abbrev Sp := UInt8 × UInt64 × UInt64
def spans (l : List EnT) : List Sp := l.map fun e => spanI e.2
def updH (h : UInt8 → UInt64) (o : UInt8) (v : UInt64) : UInt8 → UInt64 := fun p => if p = o then v else h p
def finH (h : UInt8 → UInt64) : List Sp → (UInt8 → UInt64)
 | [] => h
 | s :: r => finH (updH h s.1 s.2.2) r
def okH (h : UInt8 → UInt64) : List Sp → Prop
 | [] => True
 | s :: r => s.2.1 = h s.1 + 1 ∧ okH (updH h s.1 s.2.2) r
theorem upd_same (h : UInt8 → UInt64) (o : UInt8) (v w : UInt64) : updH (updH h o v) o w = updH h o w := by
 funext p; unfold updH; split <;> rfl
theorem upd_comm (h : UInt8 → UInt64) {o p : UInt8} (hne : o ≠ p) (v w : UInt64) : updH (updH h o v) p w = updH (updH h p w) o v := by
 funext q; unfold updH
 by_cases h1 : q = p
 ·rw [if_pos h1, if_neg (fun e => hne (by rw [← e, h1])), if_pos h1]
 ·rw [if_neg h1]
  by_cases h2 : q = o
  ·rw [if_pos h2, if_pos h2]
  ·rw [if_neg h2, if_neg h2, if_neg h1]
theorem finH_append (h : UInt8 → UInt64) : ∀ (a b : List Sp), finH h (a ++ b) = finH (finH h a) b
 | a, b => by
  induction a generalizing h with
  | nil => rfl
  | cons s r ih => exact ih _
theorem okH_append (h : UInt8 → UInt64) : ∀ (a b : List Sp), okH h (a ++ b) ↔ okH h a ∧ okH (finH h a) b
 | a, b => by
  induction a generalizing h with
  | nil => simp [okH, finH]
  | cons s r ih =>
   simp only [List.cons_append, okH, finH]
   rw [ih]
   exact and_assoc.symm
theorem ok_skip : ∀ (r : List Sp) (b : Nat) (h : UInt8 → UInt64) (o : UInt8) (b1 a2 b2 : UInt64), r[b]? = some (o, a2, b2) → (∀ j s, j < b → r[j]? = some s → s.1 ≠ o) → okH (updH h o b1) r →
  okH (updH h o b2) (r.eraseIdx b) ∧ finH (updH h o b2) (r.eraseIdx b) = finH (updH h o b1) r
 | [], b, h, o, b1, a2, b2, hb, _, _ => by simp at hb
 | s :: r, 0, h, o, b1, a2, b2, hb, _, hok => by
  simp only [List.getElem?_cons_zero, Option.some.injEq] at hb
  subst hb
  simp only [okH] at hok
  simp only [List.eraseIdx_cons_zero, finH]
  rw [upd_same] at hok
  rw [upd_same]
  exact ⟨hok.2, rfl⟩
 | s :: r, b + 1, h, o, b1, a2, b2, hb, hno, hok => by
  have hs := hno 0 s (by omega) rfl
  simp only [okH] at hok
  obtain ⟨h1, h2⟩ := hok
  rw [upd_comm h (fun e => hs e.symm)] at h2
  obtain ⟨k1, k2⟩ := ok_skip r b (updH h s.1 s.2.2) o b1 a2 b2 (by simpa using hb) (fun j t hj ht => hno (j + 1) t (by omega) (by simpa using ht)) h2
  simp only [List.eraseIdx_cons_succ, okH, finH]
  rw [upd_comm h (fun e => hs e.symm), upd_comm h (fun e => hs e.symm)]
  refine ⟨⟨?_, k1⟩, k2⟩
  rw [h1]; unfold updH; rw [if_neg hs, if_neg hs]
theorem ok_join : ∀ (r : List Sp) (a b : Nat) (h : UInt8 → UInt64) (o : UInt8) (a1 b1 a2 b2 : UInt64), a < b → r[a]? = some (o, a1, b1) → r[b]? = some (o, a2, b2) → (∀ j s, a < j → j < b → r[j]? = some s → s.1 ≠ o) → okH h r →
  okH h ((r.set a (o, a1, b2)).eraseIdx b) ∧ finH h ((r.set a (o, a1, b2)).eraseIdx b) = finH h r
 | [], _, _, _, _, _, _, _, _, _, h, _, _, _ => by simp at h
 | s :: r, 0, b, h, o, a1, b1, a2, b2, hab, ha, hb, hno, hok => by
  obtain ⟨b', rfl⟩ : ∃ b', b = b' + 1 := ⟨b - 1, by omega⟩
  simp only [List.getElem?_cons_zero, Option.some.injEq] at ha
  subst ha
  simp only [okH] at hok
  obtain ⟨k1, k2⟩ := ok_skip r b' h o b1 a2 b2 (by simpa using hb) (fun j t hj ht => hno (j + 1) t (by omega) (by omega) (by simpa using ht)) hok.2
  simp only [List.set_cons_zero, List.eraseIdx_cons_succ, okH, finH]
  exact ⟨⟨hok.1, k1⟩, k2⟩
 | s :: r, a + 1, b, h, o, a1, b1, a2, b2, hab, ha, hb, hno, hok => by
  obtain ⟨b', rfl⟩ : ∃ b', b = b' + 1 := ⟨b - 1, by omega⟩
  simp only [okH] at hok
  obtain ⟨k1, k2⟩ := ok_join r a b' (updH h s.1 s.2.2) o a1 b1 a2 b2 (by omega) (by simpa using ha) (by simpa using hb) (fun j t hj hj2 ht => hno (j + 1) t (by omega) (by omega) (by simpa using ht)) hok.2
  simp only [List.set_cons_succ, List.eraseIdx_cons_succ, okH, finH]
  exact ⟨⟨hok.1, k1⟩, k2⟩
theorem spans_get {l : List EnT} {j : Nat} (h : j < l.length) : (spans l)[j]? = some (spanI l[j].2) := by
 unfold spans; rw [List.getElem?_map, List.getElem?_eq_getElem h]; rfl
theorem spans_set (l : List EnT) (k : Nat) (e : EnT) : spans (l.set k e) = (spans l).set k (spanI e.2) := by unfold spans; rw [List.map_set]
theorem spans_erase (l : List EnT) (k : Nat) : spans (l.eraseIdx k) = (spans l).eraseIdx k := by
 unfold spans
 induction l generalizing k with
 | nil => simp
 | cons a r ih => cases k with
  | zero => rfl
  | succ k => simp only [List.eraseIdx_cons_succ, List.map_cons, ih]
theorem follow_span {x y : ItT} (h : follow x y = true) : (spanI (joinI x y).1) = ((spanI x).1, (spanI x).2.1, (spanI y).2.2) := by
 obtain ⟨h1, h2⟩ := follow_gap h
 unfold joinI
 rw [if_pos h]
 show spanI (gapI _) = _
 rw [span_gap]
 unfold spanI
 rw [if_pos h1, if_pos h2]
theorem joinL_chain (l : List EnT) (a b : Nat) (hab : a < b) (h : UInt8 → UInt64) (ha : a < l.length) (hb : b < l.length) (ho : orgE l[a] = orgE l[b]) (hno : ∀ j (hj : j < l.length), a < j → j < b → orgE l[j] ≠ orgE l[b]) (hok : okH h (spans l)) :
  okH h (spans (joinL l a b)) ∧ finH h (spans (joinL l a b)) = finH h (spans l) := by
 rcases joinL_cases l a b with hc | ⟨ha', hb', hf, hc⟩
 ·rw [hc]; exact ⟨hok, rfl⟩
 ·rw [hc, spans_erase, spans_set]
  simp only
  rw [follow_span hf]
  have e : (spanI l[a].2).1 = (spanI l[b].2).1 := ho
  rw [e]
  exact ok_join (spans l) a b h (spanI l[b].2).1 (spanI l[a].2).2.1 (spanI l[a].2).2.2 (spanI l[b].2).2.1 (spanI l[b].2).2.2 hab (by rw [spans_get ha, ← e]) (by rw [spans_get hb]) (fun j s h1 h2 hs => by
   have hj : j < l.length := by omega
   rw [spans_get hj] at hs
   cases hs
   exact hno j hj h1 h2) hok
theorem evOne_spans (l : List EnT) (k : Nat) (hk : k < l.length) : spans (evOne l k l[k]) = spans l := by
 unfold evOne
 rw [spans_set]
 show (spans l).set k (spanI (gapI (spanI l[k].2))) = _
 rw [span_gap]
 apply List.ext_getElem?
 intro j
 rw [List.getElem?_set]
 split
 ·rename_i e; subst e
  rw [if_pos (by unfold spans; simpa using hk), spans_get hk]
 ·rfl
theorem org_spans {l m : List EnT} (h : spans l = spans m) {j : Nat} (hj : j < l.length) : ∃ hm : j < m.length, orgE l[j] = orgE m[j] := by
 have hlen : l.length = m.length := by have := congrArg List.length h; simpa [spans] using this
 refine ⟨by omega, ?_⟩
 have h1 := spans_get hj
 rw [h, spans_get (l := m) (by omega)] at h1
 unfold orgE
 rw [Option.some.inj h1]
theorem joinR_chain (l : List EnT) (k : Nat) (r : Option Nat) (h : UInt8 → UInt64) (hk : k < l.length) (hr : UpSpec l (orgE l[k]) (k + 1) r) (hok : okH h (spans l)) :
  okH h (spans (joinR l k r)) ∧ finH h (spans (joinR l k r)) = finH h (spans l) := by
 cases r with
 | none => exact ⟨hok, rfl⟩
 | some b =>
  obtain ⟨h1, h2, h3, h4⟩ := hr
  exact joinL_chain l k b (by omega) h hk h2 h3.symm (fun j hj q1 q2 => by rw [h3]; exact h4 j hj (by omega) q2) hok
theorem joinD_chain (l : List EnT) (k : Nat) (r : Option Nat) (h : UInt8 → UInt64) (hk : k < l.length) (hr : DownSpec l (orgE l[k]) k r) (hok : okH h (spans l)) :
  okH h (spans (joinD l k r)) ∧ finH h (spans (joinD l k r)) = finH h (spans l) := by
 cases r with
 | none => exact ⟨hok, rfl⟩
 | some a =>
  obtain ⟨h1, h2, h3, h4⟩ := hr
  exact joinL_chain l a k h1 h h2 hk h3 (fun j hj q1 q2 => h4 j hj q1 q2) hok
theorem joinR_at (l : List EnT) (k : Nat) (r : Option Nat) (hk : k < l.length) (hr : UpSpec l (orgE l[k]) (k + 1) r) : ∃ h : k < (joinR l k r).length, orgE (joinR l k r)[k] = orgE l[k] := by
 cases r with
 | none => exact ⟨hk, rfl⟩
 | some b => exact joinL_at l k b (by have := hr.1; omega) hk
theorem evTo_chain {l l' : List EnT} {k : Nat} {rU rD : Option Nat} (he : EvTo l k l' rU rD) (h : UInt8 → UInt64) (hok : okH h (spans l)) : okH h (spans l') ∧ finH h (spans l') = finH h (spans l) := by
 have hk := he.lt
 have hk1 : k < (evOne l k l[k]).length := by unfold evOne; rw [List.length_set]; exact hk
 have hs := evOne_spans l k hk
 have ho : orgE (evOne l k l[k])[k] = orgE l[k] := (org_spans hs hk1).2
 have hup : UpSpec (evOne l k l[k]) (orgE (evOne l k l[k])[k]) (k + 1) rU := by rw [ho]; exact he.up
 obtain ⟨a1, a2⟩ := joinR_chain _ k rU h hk1 hup (by rw [hs]; exact hok)
 obtain ⟨g1, g2⟩ := joinR_at _ k rU hk1 hup
 obtain ⟨b1, b2⟩ := joinD_chain _ k rD h g1 (by rw [g2, ho]; exact he.down) a1
 rw [he.eq]
 exact ⟨b1, by rw [b2, a2, hs]⟩
theorem evs_chain {l l' : List EnT} (he : Evs l l') (h : UInt8 → UInt64) (hok : okH h (spans l)) : okH h (spans l') ∧ finH h (spans l') = finH h (spans l) := by
 induction he with
 | refl => exact ⟨hok, rfl⟩
 | step _ he _ ih =>
  obtain ⟨a1, a2⟩ := evTo_chain he h hok
  obtain ⟨b1, b2⟩ := ih a1
  exact ⟨b1, by rw [b2, a2]⟩
theorem joinL_events (l : List EnT) (a b : Nat) (e : EnT) (he : e.2.1 = false) : e ∈ joinL l a b ↔ e ∈ l := by
 rcases joinL_cases l a b with hc | ⟨ha, hb, hf, hc⟩
 ·rw [hc]
 ·rw [hc]
  obtain ⟨f1, f2⟩ := follow_gap hf
  have hg : (joinI l[a].2 l[b].2).1.1 = true := by unfold joinI; rw [if_pos hf]; rfl
  constructor
  ·intro h
   rcases List.mem_or_eq_of_mem_set (List.mem_of_mem_eraseIdx h) with h | h
   ·exact h
   ·rw [h] at he; rw [show (l[a].1, (joinI l[a].2 l[b].2).1).2.1 = true from hg] at he; cases he
  ·intro h
   obtain ⟨j, hj, rfl⟩ := List.getElem_of_mem h
   have hja : a ≠ j := fun q => by subst q; rw [f1] at he; cases he
   have hjb : j ≠ b := fun q => by subst q; rw [f2] at he; cases he
   rw [List.mem_eraseIdx_iff_getElem?]
   exact ⟨j, hjb, by rw [List.getElem?_set_ne hja, List.getElem?_eq_getElem hj]⟩
theorem joinR_events (l : List EnT) (k : Nat) (r : Option Nat) (e : EnT) (he : e.2.1 = false) : e ∈ joinR l k r ↔ e ∈ l := by
 cases r; exact Iff.rfl; exact joinL_events l k _ e he
theorem joinD_events (l : List EnT) (k : Nat) (r : Option Nat) (e : EnT) (he : e.2.1 = false) : e ∈ joinD l k r ↔ e ∈ l := by
 cases r; exact Iff.rfl; exact joinL_events l _ k e he
theorem evTo_events {l l' : List EnT} {k : Nat} {rU rD : Option Nat} (h : EvTo l k l' rU rD) (e : EnT) (he : e.2.1 = false) : (e ∈ l' → e ∈ l) ∧ (e ∈ l → e ∈ l' ∨ e = l[k]'h.lt) := by
 have hk := h.lt
 have key : e ∈ l' ↔ e ∈ evOne l k l[k] := by rw [h.eq, joinD_events _ _ _ e he, joinR_events _ _ _ e he]
 rw [key]
 constructor
 ·intro hm
  rcases List.mem_or_eq_of_mem_set hm with q | q
  ·exact q
  ·rw [q] at he; exact absurd he (by simp [gapI])
 ·intro hm
  obtain ⟨j, hj, rfl⟩ := List.getElem_of_mem hm
  by_cases hjk : j = k
  ·right; subst hjk; rfl
  ·left
   unfold evOne
   rw [List.mem_iff_getElem?]
   exact ⟨j, by rw [List.getElem?_set_ne (fun q => hjk q.symm), List.getElem?_eq_getElem hj]⟩
theorem event_of {x : ItT} (h : lasts x = false) : x.1 = false := by
 cases hx : x.1 with
 | false => rfl
 | true => unfold lasts at h; rw [hx] at h; cases h
theorem evs_events {l l1 : List EnT} (h : Evs l l1) : (∀ e ∈ l1, e.2.1 = false → e ∈ l) ∧ ∀ e ∈ l, e.2.1 = false → e ∈ l1 ∨ (lasts e.2 = false ∧ ∀ z ∈ l1, lasts z.2 = false → prio e.2 ≤ prio z.2) := by
 induction h with
 | refl => exact ⟨fun e h _ => h, fun e h _ => .inl h⟩
 | @step l l' l'' k rU rD hv he hr ih =>
  obtain ⟨h1, h2, h3, h4⟩ := hv
  refine ⟨fun e hm hg => (evTo_events he e hg).1 (ih.1 e hm hg), fun e hm hg => ?_⟩
  rcases (evTo_events he e hg).2 hm with q | q
  ·exact ih.2 e q hg
  ·right
   subst q
   refine ⟨h3, fun z hz hzl => ?_⟩
   have hzg := event_of hzl
   obtain ⟨j, hj, e⟩ := List.getElem_of_mem ((evTo_events he z hzg).1 (ih.1 z hz hzg))
   rw [← e]
   rw [← e] at hzl
   exact h4 j hj hj hzl
structure SpOK (N : Nat) (s : SpT) : Prop where
 len : s.1.2.2.2.2.length ≤ N
 good : ∀ e ∈ s.1.2.2.2.2, Good e.2
 highs : s.2.1.length = 32
 next : 1 ≤ s.1.2.2.1.toNat ∧ s.1.2.2.1.toNat ≤ 1099511627776
 pos : ∀ e ∈ s.1.2.2.2.2, 0 < e.1
theorem put1_ok {N : Nat} {s s' : SpT} {x : ItT} {high : UInt64} {l1 : List EnT} {rD : Option Nat} (hs : SpOK N s) (hx : Good x) (h : Put1 s x high s' l1 rD) : SpOK (N + 1) s' := by
 have hpos : 0 < s.1.2.2.1 := by rw [UInt64.lt_iff_toNat_lt]; have := hs.next.1; show 0 < _; omega
 have h1 := h.ev.len
 have h2 := hs.len
 refine ⟨?_, ?_, ?_, ?_, ?_⟩
 ·rw [h.list]
  have := joinD_len (l1 ++ [(s.1.2.2.1, putY x high)]) l1.length rD
  simp only [List.length_append, List.length_cons, List.length_nil] at this
  omega
 ·rw [h.list]
  refine joinD_good ?_ _ _
  intro e he
  rcases List.mem_append.1 he with q | q
  ·exact h.ev.good hs.good e q
  ·simp only [List.mem_singleton] at q; rw [q]; exact putY_good hx high
 ·rw [h.highs, List.length_set]; exact hs.highs
 ·rw [h.next]
  have hm := h.most
  rw [UInt64.not_lt, UInt64.le_iff_toNat_le] at hm
  have hm : (s.1.2.2.1 + 1).toNat ≤ 1099511627776 := hm
  refine ⟨?_, hm⟩
  rw [UInt64.toNat_add]
  have := hs.next
  have : (1 : UInt64).toNat = 1 := rfl
  omega
 ·rw [h.list]
  intro e he
  obtain ⟨e1, q1, q2⟩ := joinD_idx _ _ _ e he
  rcases List.mem_append.1 q1 with q | q
  ·obtain ⟨e2, q3, q4⟩ := evs_idx h.ev e1 q
   rw [q2, q4]; exact hs.pos e2 q3
  ·simp only [List.mem_singleton] at q
   rw [q2, q]; exact hpos
theorem SpOK.up {N M : Nat} {s : SpT} (h : SpOK N s) (hm : N ≤ M) : SpOK M s := ⟨Nat.le_trans h.len hm, h.good, h.highs, h.next, h.pos⟩
def nextY (x : ItT) (high k : UInt64) : ItT := if x.1 then
  (x.1, x.2.1, x.2.2.1, x.2.2.2.1, x.2.2.2.2.1, x.2.2.2.2.2.1, x.2.2.2.2.2.2.1, x.2.2.2.2.2.2.2.1, x.2.2.2.2.2.2.2.2.1, x.2.2.2.2.2.2.2.2.2.1, x.2.2.2.2.2.2.2.2.2.2.1, high + 1, high + 1 + k)
 else (x.1, x.2.1, high + 1, x.2.2.2)
def smN (z : SmT) : SmT := (z.1, z.2.1 % 4, z.2.2.1, z.2.2.2.1, z.2.2.2.2.1, z.2.2.2.2.2.1 % 3, z.2.2.2.2.2.2)
theorem mod4_lt (o : UInt8) : (o % 4).toNat < 32 := by rw [UInt8.toNat_mod]; have : (4 : UInt8).toNat = 4 := rfl; rw [this]; omega
theorem next_spec (n : Nat) (hn : 20 < n) (s : SpT) (hh : s.2.1.length = 32) (z : SmT) :
  ∃ x, F57 n (smN z) = some (x, ()) ∧ Small x ∧ F45 n ([], (), (), z, some s) = some (nextY x (s.2.1[(z.2.1 % 4).toNat]'(by have := mod4_lt z.2.1; omega)) (UInt64.ofInt ↑(UInt16.toNat (z.2.2.2.2.2.1 % 3))), some s) := by
 obtain ⟨x, e, hx⟩ := item_small n hn (smN z)
 refine ⟨x, e, hx, ?_⟩
 unfold F45
 simp only [Prod.eta]
 rw [show F57 n (z.1, z.2.1 % 4, z.2.2.1, z.2.2.2.1, z.2.2.2.2.1, z.2.2.2.2.2.1 % 3, z.2.2.2.2.2.2) = some (x, ()) from e]
 simp only [obind_s]
 rw [high_spec n s hh _ (mod4_lt z.2.1)]
 simp only [obind_s]
 unfold nextY
 cases hx1 : x.1 with
 | true => rw [oite_t, if_pos rfl]
 | false => rw [oite_f, if_neg (by decide)]
theorem nextY_good {x : ItT} (h : Good x) (a k : UInt64) : Good (nextY x a k) := by
 unfold nextY
 split
 ·exact ⟨h.rule, h.labs, h.each⟩
 ·exact ⟨h.rule, h.labs, h.each⟩
theorem step_spec (n : Nat) (hn : 1001 < n) (s : SpT) (N : Nat) (hs : SpOK N s) (hN : N ≤ 900) (z : SmT) :
  ∃ x y high, Small x ∧ F57 n (smN z) = some (x, ()) ∧ F45 n ([], (), (), z, some s) = some (nextY x (s.2.1[(z.2.1 % 4).toNat]'(by have := mod4_lt z.2.1; have := hs.highs; omega)) (UInt64.ofInt ↑(UInt16.toNat (z.2.2.2.2.2.1 % 3))), some s) ∧
   F46 n (some s, nextY x (s.2.1[(z.2.1 % 4).toNat]'(by have := mod4_lt z.2.1; have := hs.highs; omega)) (UInt64.ofInt ↑(UInt16.toNat (z.2.2.2.2.2.1 % 3)))) = some y ∧
   PutR s y (nextY x (s.2.1[(z.2.1 % 4).toNat]'(by have := mod4_lt z.2.1; have := hs.highs; omega)) (UInt64.ofInt ↑(UInt16.toNat (z.2.2.2.2.2.1 % 3)))) high := by
 obtain ⟨x, e, hx, e2⟩ := next_spec n (by omega) s hs.highs z
 obtain ⟨y, high, e3, hy⟩ := put_spec n hn s (by have := hs.len; omega) hs.good hs.highs _ (nextY_good hx.good _ _)
 exact ⟨x, y, high, hx, e, e2, e3, hy⟩
theorem listGo_len (n : UInt64) (many : Int64) : ∀ (l out : List EnT), (listGo n many l out).length ≤ out.length + l.length
 | [], out => by simp [listGo]
 | x :: r, out => by
  unfold listGo
  split
  ·simp
  ·split
   ·have := listGo_len n many r (out ++ [x]); simp only [List.length_append, List.length_cons, List.length_nil] at this ⊢; omega
   ·have := listGo_len n many r out; simp only [List.length_cons]; omega
theorem new_ok (q : Int64) : SpOK 0 ((q, 0, 1, 0, []), List.replicate 32 0, 0) := ⟨by simp, by simp, by simp, ⟨by show 1 ≤ (1 : UInt64).toNat; decide, by show (1 : UInt64).toNat ≤ _; decide⟩, by simp⟩
theorem new_eq (n : Nat) (q : Int64) (h1 : ¬ q < 64) (h2 : ¬ (65536 : Int64) < q) : F43 n q = some ((some ((q, 0, 1, 0, []), List.replicate 32 0, 0), 0), ()) := by
 unfold F43
 rw [dec_f h1, oite_f, dec_f h2, oite_f]
abbrev K8 : VT := VT.one (CT.int IntKind.u8)
abbrev V64 : VT := VT.one (CT.int IntKind.u64)
abbrev MapT := List (UInt8 × UInt64)
theorem labs_loop (a b : List Pair) (hl : a.length < 1000) (he : a.length = b.length) : ∀ m i, i ≤ a.length → a.length - i < m → ∃ r, F63_R29 m a b (I64 i) = some (r, ()) := by
 intro m
 induction m with
 | zero => intros; omega
 | succ m ih =>
  intro i hi hm
  rw [F63_R29_s]
  unfold F63_L29
  by_cases hlt : i < a.length
  ·rw [dec_t ((i64_lt (by omega) (by omega)).2 hlt), oite_t, at_i64_lt (by omega) hlt]
   simp only [obind_s]
   rw [at_i64_lt (by omega) (show i < b.length by omega)]
   simp only [obind_s, i64_succ]
   cases (!(a[i].1 == b[i].1 && (a[i].2 == b[i].2 && true))) with
   | true => exact ⟨false, rfl⟩
   | false => rw [oite_f]; exact ih (i + 1) (by omega) (by omega)
  ·rw [dec_f (fun q => hlt ((i64_lt (by omega) (by omega)).1 q)), oite_f]
   exact ⟨true, rfl⟩
theorem labs_same (n : Nat) (hn : 1000 < n) (a b : List Pair) (ha : a.length < 1000) (hb : b.length < 1000) : ∃ r, F63 n (a, b) = some (r, ()) := by
 unfold F63
 simp only
 by_cases he : a.length = b.length
 ·rw [dec_t (by rw [he] : Int64.ofInt ↑a.length = Int64.ofInt ↑b.length), Bool.not_true, oite_f]
  exact labs_loop a b ha he n 0 (by omega) (by omega)
 ·rw [dec_f (fun q => he ((i64_eq (by omega) (by omega)).1 q) : ¬ Int64.ofInt ↑a.length = Int64.ofInt ↑b.length), Bool.not_false, oite_t]
  exact ⟨false, rfl⟩
theorem same_spec (n : Nat) (hn : 1000 < n) (x y : ItT) (hx : Good x) (hy : Good y) :
  ∃ r, F47 n (x, y) = some (r, ()) ∧ (r = true → x.1 = y.1 ∧ (x.1 = false → prio x = prio y ∧ lasts x = lasts y ∧ spanI x = spanI y)) := by
 obtain ⟨g, o, seq, time, rule, labels, state, pr, v, own, go, ga, gb⟩ := x
 obtain ⟨g', o', seq', time', rule', labels', state', pr', v', own', go', ga', gb'⟩ := y
 have h1 := hx.labs
 have h2 := hy.labs
 dsimp only at h1 h2
 obtain ⟨r, hr⟩ := labs_same n hn labels labels' (by omega) (by omega)
 unfold F47
 dsimp only
 cases g with
 | true =>
  cases g' with
  | false => exact ⟨false, rfl, fun h => by cases h⟩
  | true =>
   rw [show (!true == true) = false from rfl, oite_f, oite_t]
   exact ⟨_, rfl, fun _ => ⟨rfl, fun h => by cases h⟩⟩
 | false =>
  cases g' with
  | true => exact ⟨false, rfl, fun h => by cases h⟩
  | false =>
   rw [show (!false == false) = false from rfl, oite_f, oite_f]
   have no : ∀ {P : Prop}, ∃ r : Bool, (some (false, ()) : Option (Bool × Unit)) = some (r, ()) ∧ (r = true → P) := ⟨false, rfl, fun h => by cases h⟩
   by_cases c1 : o = o'
   ·rw [dec_t c1, oite_t]
    by_cases c2 : seq = seq'
    ·rw [dec_t c2, oite_t]
     cases decide (time = time') with
     | false => exact no
     | true =>
     rw [oite_t]
     cases (rule == rule') with
     | false => exact no
     | true =>
     rw [oite_t]
     cases decide (state = state') with
     | false => exact no
     | true =>
     rw [oite_t]
     by_cases c3 : pr = pr'
     ·rw [dec_t c3, oite_t]
      cases decide (v = v') with
      | false => exact no
      | true =>
      rw [oite_t]
      by_cases c4 : own = own'
      ·rw [dec_t c4, oite_t, hr]
       simp only [obind_s]
       refine ⟨r, rfl, fun _ => ⟨trivial, fun _ => ⟨c3, ?_, ?_⟩⟩⟩
       ·show (false || !decide (own = 0)) = (false || !decide (own' = 0)); rw [c4]
       ·show (o, seq, seq) = (o', seq', seq'); rw [c1, c2]
      ·rw [dec_f c4]; exact no
     ·rw [dec_f c3]; exact no
    ·rw [dec_f c2]; exact no
   ·rw [dec_f c1]; exact no
theorem ack_loop (n : Nat) (hn : 50 < n) (J : _) (idx : UInt64) (sa : List UInt64) (s0 : Int64) (s2 s3 s5 : UInt64) (l : List EnT) (hl : l.length ≤ 1000) (hg : ∀ e ∈ l, Good e.2) (k : Nat) (hk : k ≤ l.length) (h1 : ∀ j (h : j < l.length), j < k → l[j].1 ≤ idx)
  (h2 : ∀ (h : k < l.length), ¬ l[k].1 ≤ idx) : ∀ m i s1, i ≤ k → l.length - i < m → ∃ u, F53_R62 n J m idx (I64 i) sa s0 s1 s2 s3 s5 l = J (I64 k) sa s0 u s2 s3 s5 l := by
 intro m
 induction m with
 | zero => intros; omega
 | succ m ih =>
  intro i s1 hi hm
  rw [F53_R62_s]
  unfold F53_L62
  by_cases hlt : i < l.length
  ·obtain ⟨b1, b2⟩ := idx_i64 (l := l) hlt (by omega)
   have gi := hg _ (List.getElem_mem hlt)
   rw [dec_t ((i64_lt (by omega) (by omega)).2 hlt), oite_t, b1, oite_t, b2]
   simp only [obind_s, Prod.eta, i64_succ]
   by_cases hik : i = k
   ·subst hik
    rw [dec_f (h2 hlt), oite_f]
    exact ⟨s1, rfl⟩
   ·rw [dec_t (h1 i hlt (by omega)), oite_t, oite_t, size_eq n hn _ gi]
    simp only [obind_s]
    exact ih (i + 1) _ (by omega) (by omega)
  ·rw [dec_f (fun q => hlt ((i64_lt (by omega) (by omega)).1 q)), oite_f]
   have : i = k := by omega
   subst this
   exact ⟨s1, rfl⟩
theorem ack_spec (n : Nat) (hn : 1000 < n) (s : SpT) (hl : s.1.2.2.2.2.length ≤ 1000) (hln : s.1.2.2.2.2.length < n) (hg : ∀ e ∈ s.1.2.2.2.2, Good e.2) (idx : UInt64) (hi1 : idx < s.1.2.2.1) (hi2 : s.1.2.2.2.1 < idx) (k : Nat) (hk : k ≤ s.1.2.2.2.2.length)
  (h1 : ∀ j (h : j < s.1.2.2.2.2.length), j < k → s.1.2.2.2.2[j].1 ≤ idx) (h2 : ∀ (h : k < s.1.2.2.2.2.length), ¬ s.1.2.2.2.2[k].1 ≤ idx) :
  ∃ c u, F53 n (some s, idx) = some (c, some ((s.1.1, u, s.1.2.2.1, idx, s.1.2.2.2.2.drop k), s.2)) := by
 obtain ⟨⟨s0, s1, s2, s3, l⟩, sa, s5⟩ := s
 dsimp only at hl hln hg hi1 hi2 hk h1 h2 ⊢
 unfold F53
 simp only [oelim_s, ojoinA_eq]
 rw [dec_f (by rw [UInt64.not_le]; exact hi1), oite_f, dec_f (by rw [UInt64.not_le]; exact hi2), oite_f]
 obtain ⟨u, e⟩ := ack_loop n (by omega) (F53_J31 n) idx sa s0 s2 idx s5 l hl hg k hk h1 h2 n 0 s1 (by omega) (by omega)
 refine ⟨0, u, ?_⟩
 rw [show (0 : Int64) = I64 0 from rfl, e]
 unfold F53_J31
 have ek := i64_toInt (k := k) (by omega)
 rw [ek]
 simp only [Int.toNat_natCast]
 rw [dec_t (by omega), ble_t hk]
 simp only [Bool.and_self, oite_t]
 have et : List.take (l.length - k) (List.drop k l) = List.drop k l := List.take_of_length_le (by simp)
 rw [et]
 have e33 : F67 n (List.drop k l) = some (List.drop k l, ()) := by
  unfold F67 cloneF
  rw [ble_t (by unfold maxCells; rw [List.length_drop]; omega), oite_t]
 rw [e33]
 rfl
def hh (hs : List UInt64) (o : UInt8) : UInt64 := (hs[o.toNat]?).getD 0
theorem hh_set {hs : List UInt64} {o : UInt8} (h : o.toNat < hs.length) (v : UInt64) : hh (hs.set o.toNat v) = updH (hh hs) o v := by
 funext p
 unfold hh updH
 by_cases hp : p = o
 ·subst hp; rw [if_pos rfl, List.getElem?_set_self h]; rfl
 ·rw [if_neg hp, List.getElem?_set_ne (fun e => hp (UInt8.toNat_inj.1 e.symm))]
theorem u64_next {a high : UInt64} (h1 : ¬ a ≤ high) (h2 : ¬ high + 1 < a) : a = high + 1 := by
 rw [UInt64.not_le, UInt64.lt_iff_toNat_lt] at h1
 rw [UInt64.not_lt, UInt64.le_iff_toNat_le] at h2
 apply UInt64.toNat_inj.1
 have e1 : (1 : UInt64).toNat = 1 := rfl
 have := a.toNat_lt
 rw [UInt64.toNat_add] at h2 ⊢
 rw [e1] at h2 ⊢
 rw [Nat.mod_eq_of_lt (by omega)] at h2 ⊢
 omega
theorem putY_facts {x : ItT} {high : UInt64} (hold : ¬ (spanI x).2.2 ≤ high) (hjump : ¬ high + 1 < (spanI x).2.1) :
  spanI (putY x high) = ((spanI x).1, high + 1, (spanI x).2.2) ∧ (putY x high).1 = x.1 ∧ prio (putY x high) = prio x ∧ (x.1 = false → putY x high = x) := by
 by_cases hlow : (spanI x).2.1 ≤ high
 ·have hx : x.1 = true := by
   cases hx : x.1 with
   | true => rfl
   | false =>
    unfold spanI at hold hlow
    rw [hx] at hold hlow
    exact absurd hlow hold
  have e : putY x high = (x.1, x.2.1, x.2.2.1, x.2.2.2.1, x.2.2.2.2.1, x.2.2.2.2.2.1, x.2.2.2.2.2.2.1, x.2.2.2.2.2.2.2.1, x.2.2.2.2.2.2.2.2.1, x.2.2.2.2.2.2.2.2.2.1, x.2.2.2.2.2.2.2.2.2.2.1, high + 1, x.2.2.2.2.2.2.2.2.2.2.2.2) := by
   unfold putY trimI
   rw [if_pos hlow, if_neg hold, if_neg (by rw [UInt64.not_lt]; exact hlow)]
  rw [e]
  refine ⟨?_, rfl, rfl, fun h => by rw [hx] at h; cases h⟩
  unfold spanI
  dsimp only
  rw [hx]; rfl
 ·have e : putY x high = x := by unfold putY; rw [if_neg hlow]
  rw [e]
  refine ⟨?_, rfl, rfl, fun _ => rfl⟩
  rw [← u64_next hlow hjump]
theorem check_prio {x : ItT} (h : itCheck x = 0) (hx : x.1 = false) : (prio x).toNat ≤ 7 := by
 obtain ⟨g, o, seq, time, rule, labels, state, pr, v, own, go, ga, gb⟩ := x
 dsimp only at hx
 subst hx
 show pr.toNat ≤ 7
 have h : evCheck o seq time rule labels state pr own = 0 := h
 unfold evCheck at h
 cases h1 : decide ((32 : UInt8) ≤ o) with
 | true => rw [h1] at h; exact absurd (show (6 : Int64) = 0 from h) (by decide)
 | false =>
  rw [h1] at h
  cases h2 : decide (seq < 1) with
  | true => rw [h2] at h; exact absurd (show (6 : Int64) = 0 from h) (by decide)
  | false =>
   rw [h2] at h
   cases h3 : decide (seq ≤ 1099511627776) with
   | false => rw [h3] at h; exact absurd (show (6 : Int64) = 0 from h) (by decide)
   | true =>
    rw [h3] at h
    cases h4 : decide (time ≤ 1099511627776) with
    | false => rw [h4] at h; exact absurd (show (6 : Int64) = 0 from h) (by decide)
    | true =>
     rw [h4] at h
     by_cases h5 : (7 : UInt8) < pr
     ·rw [dec_t h5] at h; exact absurd (show (6 : Int64) = 0 from h) (by decide)
     ·have := UInt8.le_iff_toNat_le.1 (UInt8.not_lt.1 h5); exact this
def idxs (l : List EnT) : List Nat := l.map fun e => e.1.toNat
theorem idxs_set (l : List EnT) (k : Nat) (x : ItT) (hk : k < l.length) : idxs (l.set k (l[k].1, x)) = idxs l := by
 unfold idxs
 rw [List.map_set]
 apply List.ext_getElem?
 intro j
 rw [List.getElem?_set]
 split
 ·rename_i e; subst e
  rw [if_pos (by simpa using hk), List.getElem?_map, List.getElem?_eq_getElem hk]; rfl
 ·rfl
theorem joinL_idxs (l : List EnT) (a b : Nat) : (idxs (joinL l a b)).Sublist (idxs l) := by
 rcases joinL_cases l a b with hc | ⟨ha, hb, hf, hc⟩
 ·rw [hc]; exact List.Sublist.refl _
 ·rw [hc, ← idxs_set l a (joinI l[a].2 l[b].2).1 ha]
  exact (List.eraseIdx_sublist _ _).map _
theorem joinR_idxs (l : List EnT) (k : Nat) (r : Option Nat) : (idxs (joinR l k r)).Sublist (idxs l) := by cases r; exact List.Sublist.refl _; exact joinL_idxs _ _ _
theorem joinD_idxs (l : List EnT) (k : Nat) (r : Option Nat) : (idxs (joinD l k r)).Sublist (idxs l) := by cases r; exact List.Sublist.refl _; exact joinL_idxs _ _ _
theorem evTo_idxs {l l' : List EnT} {k : Nat} {rU rD : Option Nat} (h : EvTo l k l' rU rD) : (idxs l').Sublist (idxs l) := by
 rw [h.eq]
 refine (joinD_idxs _ _ _).trans ((joinR_idxs _ _ _).trans ?_)
 unfold evOne
 rw [idxs_set l k _ h.lt]
 exact List.Sublist.refl _
theorem evs_idxs {l l' : List EnT} (h : Evs l l') : (idxs l').Sublist (idxs l) := by
 induction h with
 | refl => exact List.Sublist.refl _
 | step _ he _ ih => exact ih.trans (evTo_idxs he)
def TopH (H : UInt8 → UInt64) (l : List EnT) : Prop := ∀ e ∈ l, (spanI e.2).2.2 ≤ H (orgE e)
theorem follow_org {x y : ItT} (h : follow x y = true) : (spanI x).1 = (spanI y).1 := by
 obtain ⟨h1, h2⟩ := follow_gap h
 unfold follow at h
 simp only [Bool.and_eq_true, decide_eq_true_eq] at h
 unfold spanI
 rw [if_pos h1, if_pos h2]
 exact h.2.2.1
theorem joinL_top {H : UInt8 → UInt64} {l : List EnT} (h : TopH H l) (a b : Nat) : TopH H (joinL l a b) := by
 rcases joinL_cases l a b with hc | ⟨ha, hb, hf, hc⟩
 ·rw [hc]; exact h
 ·rw [hc]
  intro e he
  rcases List.mem_or_eq_of_mem_set (List.mem_of_mem_eraseIdx he) with q | q
  ·exact h e q
  ·rw [q]
   unfold orgE
   simp only
   rw [follow_span hf]
   simp only
   rw [follow_org hf]
   exact h _ (List.getElem_mem hb)
theorem joinR_top {H : UInt8 → UInt64} {l : List EnT} (h : TopH H l) (k : Nat) (r : Option Nat) : TopH H (joinR l k r) := by cases r; exact h; exact joinL_top h _ _
theorem joinD_top {H : UInt8 → UInt64} {l : List EnT} (h : TopH H l) (k : Nat) (r : Option Nat) : TopH H (joinD l k r) := by cases r; exact h; exact joinL_top h _ _
theorem evTo_top {H : UInt8 → UInt64} {l l' : List EnT} {k : Nat} {rU rD : Option Nat} (h : EvTo l k l' rU rD) (ht : TopH H l) : TopH H l' := by
 have hk := h.lt
 rw [h.eq]
 refine joinD_top (joinR_top ?_ _ _) _ _
 intro e he
 rcases List.mem_or_eq_of_mem_set he with q | q
 ·exact ht e q
 ·rw [q]; exact ht l[k] (List.getElem_mem hk)
theorem evs_top {H : UInt8 → UInt64} {l l' : List EnT} (h : Evs l l') (ht : TopH H l) : TopH H l' := by
 induction h with
 | refl => exact ht
 | step _ he _ ih => exact ih (evTo_top he ht)
structure CovOK (N : Nat) (s : SpT) (A : UInt8 → UInt64) : Prop where
 ok : SpOK N s
 sorted : (idxs s.1.2.2.2.2).Pairwise (· < ·)
 low : ∀ e ∈ s.1.2.2.2.2, s.1.2.2.2.1 < e.1
 upp : ∀ e ∈ s.1.2.2.2.2, e.1 < s.1.2.2.1
 ack : s.1.2.2.2.1 < s.1.2.2.1
 chain : okH (A) (spans s.1.2.2.2.2)
 fin : finH (A) (spans s.1.2.2.2.2) = hh s.2.1
 top : TopH (hh s.2.1) s.1.2.2.2.2
 prio : ∀ e ∈ s.1.2.2.2.2, e.2.1 = false → (prio e.2).toNat ≤ 7
theorem spans_snoc (l : List EnT) (e : EnT) : spans (l ++ [e]) = spans l ++ [spanI e.2] := by unfold spans; simp
theorem next_lt {a : UInt64} (h : a.toNat ≤ 1099511627776) : a < a + 1 ∧ (a + 1).toNat = a.toNat + 1 := by
 have e1 : (1 : UInt64).toNat = 1 := rfl
 have : (a + 1).toNat = a.toNat + 1 := by rw [UInt64.toNat_add, e1, Nat.mod_eq_of_lt (by omega)]
 exact ⟨by rw [UInt64.lt_iff_toNat_lt]; omega, this⟩
theorem put1_cov {N : Nat} {s s' : SpT} {A : UInt8 → UInt64} {x : ItT} {high : UInt64} {l1 : List EnT} {rD : Option Nat} (hs : CovOK N s A) (hx : Good x) (h : Put1 s x high s' l1 rD) : CovOK (N + 1) s' A := by
 obtain ⟨f1, f2, f3, f4⟩ := putY_facts h.old h.jump
 have ho := check_org h.ok
 have hlen : (spanI x).1.toNat < s.2.1.length := by rw [hs.ok.highs]; exact ho
 have hhigh : hh s.2.1 (spanI x).1 = high := by unfold hh; rw [h.hi]; rfl
 have hh' : hh s'.2.1 = updH (hh s.2.1) (spanI x).1 (spanI x).2.2 := by rw [h.highs]; exact hh_set hlen _
 obtain ⟨n1, n2⟩ := next_lt hs.ok.next.2
 obtain ⟨c1, c2⟩ := evs_chain h.ev (A) hs.chain
 have hk : l1.length < (l1 ++ [(s.1.2.2.1, putY x high)]).length := by simp
 have hat : orgE ((l1 ++ [(s.1.2.2.1, putY x high)])[l1.length]'hk) = (spanI (putY x high)).1 := by
  rw [List.getElem_append_right (Nat.le_refl _)]
  simp only [Nat.sub_self, List.getElem_cons_zero]
  rfl
 have d1 : okH (A) (spans (l1 ++ [(s.1.2.2.1, putY x high)])) := by
  rw [spans_snoc, okH_append]
  refine ⟨c1, ?_, trivial⟩
  rw [c2, hs.fin]
  show (spanI (putY x high)).2.1 = hh s.2.1 (spanI (putY x high)).1 + 1
  rw [f1]
  simp only
  rw [hhigh]
 have d2 : finH (A) (spans (l1 ++ [(s.1.2.2.1, putY x high)])) = updH (hh s.2.1) (spanI x).1 (spanI x).2.2 := by
  rw [spans_snoc, finH_append, c2, hs.fin]
  show updH (hh s.2.1) (spanI (putY x high)).1 (spanI (putY x high)).2.2 = _
  rw [f1]
 obtain ⟨e1, e2⟩ := joinD_chain _ l1.length rD (A) hk (by rw [hat]; exact h.down) d1
 have hmono : ∀ o, hh s.2.1 o ≤ hh s'.2.1 o := fun o => by
  rw [hh']
  unfold updH
  split
  ·rename_i q; rw [q, hhigh]; exact UInt64.le_of_lt (UInt64.not_le.1 h.old)
  ·exact UInt64.le_refl _
 have hsrc : ∀ e ∈ s'.1.2.2.2.2, (∃ e' ∈ s.1.2.2.2.2, e.1 = e'.1) ∨ e.1 = s.1.2.2.1 := fun e he => by
  rw [h.list] at he
  obtain ⟨e1, q1, q2⟩ := joinD_idx _ _ _ e he
  rcases List.mem_append.1 q1 with q | q
  ·obtain ⟨e2, q3, q4⟩ := evs_idx h.ev e1 q
   exact .inl ⟨e2, q3, by rw [q2, q4]⟩
  ·simp only [List.mem_singleton] at q
   right; rw [q2, q]
 refine ⟨put1_ok hs.ok hx h, ?_, ?_, ?_, ?_, ?_, ?_, ?_, ?_⟩
 ·rw [h.list]
  refine List.Pairwise.sublist (joinD_idxs _ _ _) ?_
  unfold idxs
  rw [List.map_append, List.pairwise_append]
  refine ⟨hs.sorted.sublist (evs_idxs h.ev), by simp, fun a ha b hb => ?_⟩
  simp only [List.map_cons, List.map_nil, List.mem_singleton] at hb
  subst hb
  obtain ⟨e, he, rfl⟩ := List.mem_map.1 ha
  obtain ⟨e', q1, q2⟩ := evs_idx h.ev e he
  rw [q2]
  exact UInt64.lt_iff_toNat_lt.1 (hs.upp e' q1)
 ·intro e he
  rw [h.acked]
  rcases hsrc e he with ⟨e', q1, q2⟩ | q
  ·rw [q2]; exact hs.low e' q1
  ·rw [q]; exact hs.ack
 ·intro e he
  rw [h.next]
  rcases hsrc e he with ⟨e', q1, q2⟩ | q
  ·rw [q2]; exact UInt64.lt_trans (hs.upp e' q1) n1
  ·rw [q]; exact n1
 ·rw [h.acked, h.next]; exact UInt64.lt_trans hs.ack n1
 ·rw [h.list]; exact e1
 ·rw [h.list, e2, d2, hh']
 ·rw [h.list]
  refine joinD_top ?_ _ _
  intro e he
  rcases List.mem_append.1 he with q | q
  ·exact UInt64.le_trans (evs_top h.ev hs.top e q) (hmono _)
  ·simp only [List.mem_singleton] at q
   rw [q]
   unfold orgE
   simp only
   rw [f1, hh']
   unfold updH
   simp only [if_true]
   exact UInt64.le_refl _
 ·intro e he hg
  rw [h.list, joinD_events _ _ _ e hg] at he
  rcases List.mem_append.1 he with q | q
  ·exact hs.prio e ((evs_events h.ev).1 e q hg) hg
  ·simp only [List.mem_singleton] at q
   rw [q] at hg ⊢
   simp only at hg ⊢
   rw [f2] at hg
   rw [f3]
   exact check_prio h.ok hg
end Go.Proofs.Ytfmomnniadlbhaa
