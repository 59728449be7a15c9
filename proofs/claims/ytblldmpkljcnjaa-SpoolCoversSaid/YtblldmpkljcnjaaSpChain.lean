/- A spool: each origin's counts follow one another; which events stay. -/
import Derived.Test.YtblldmpkljcnjaaSpFinds
open Go Go.Sx
namespace Go.Proofs.Ytblldmpkljcnjaa
abbrev Sp := UInt8 × UInt64 × UInt64
def spans (l : List EnT) : List Sp := l.map fun e => spanI e.2
def updH (h : UInt8 → UInt64) (o : UInt8) (v : UInt64) : UInt8 → UInt64 := fun p => if p = o then v else h p
def finH (h : UInt8 → UInt64) : List Sp → (UInt8 → UInt64)
  | [] => h
  | s :: r => finH (updH h s.1 s.2.2) r
def okH (h : UInt8 → UInt64) : List Sp → Prop
  | [] => True
  | s :: r => s.2.1 = h s.1 + 1 ∧ okH (updH h s.1 s.2.2) r
theorem upd_same (h : UInt8 → UInt64) (o : UInt8) (v w : UInt64) : updH (updH h o v) o w = updH h o w := by
  funext p; unfold updH; split <;> rfl
theorem upd_comm (h : UInt8 → UInt64) {o p : UInt8} (hne : o ≠ p) (v w : UInt64) : updH (updH h o v) p w = updH (updH h p w) o v := by
  funext q; unfold updH
  by_cases h1 : q = p
  · rw [if_pos h1, if_neg (fun e => hne (by rw [← e, h1])), if_pos h1]
  · rw [if_neg h1]
    by_cases h2 : q = o
    · rw [if_pos h2, if_pos h2]
    · rw [if_neg h2, if_neg h2, if_neg h1]
theorem finH_append (h : UInt8 → UInt64) : ∀ (a b : List Sp), finH h (a ++ b) = finH (finH h a) b
  | a, b => by
    induction a generalizing h with
    | nil => rfl
    | cons s r ih => exact ih _
theorem okH_append (h : UInt8 → UInt64) : ∀ (a b : List Sp), okH h (a ++ b) ↔ okH h a ∧ okH (finH h a) b
  | a, b => by
    induction a generalizing h with
    | nil => simp [okH, finH]
    | cons s r ih =>
      simp only [List.cons_append, okH, finH]
      rw [ih]
      exact and_assoc.symm
theorem ok_skip : ∀ (r : List Sp) (b : Nat) (h : UInt8 → UInt64) (o : UInt8) (b1 a2 b2 : UInt64), r[b]? = some (o, a2, b2) → (∀ j s, j < b → r[j]? = some s → s.1 ≠ o) → okH (updH h o b1) r →
    okH (updH h o b2) (r.eraseIdx b) ∧ finH (updH h o b2) (r.eraseIdx b) = finH (updH h o b1) r
  | [], b, h, o, b1, a2, b2, hb, _, _ => by simp at hb
  | s :: r, 0, h, o, b1, a2, b2, hb, _, hok => by
    simp only [List.getElem?_cons_zero, Option.some.injEq] at hb
    subst hb
    simp only [okH] at hok
    simp only [List.eraseIdx_cons_zero, finH]
    rw [upd_same] at hok
    rw [upd_same]
    exact ⟨hok.2, rfl⟩
  | s :: r, b + 1, h, o, b1, a2, b2, hb, hno, hok => by
    have hs := hno 0 s (by omega) rfl
    simp only [okH] at hok
    obtain ⟨h1, h2⟩ := hok
    rw [upd_comm h (fun e => hs e.symm)] at h2
    obtain ⟨k1, k2⟩ := ok_skip r b (updH h s.1 s.2.2) o b1 a2 b2 (by simpa using hb) (fun j t hj ht => hno (j + 1) t (by omega) (by simpa using ht)) h2
    simp only [List.eraseIdx_cons_succ, okH, finH]
    rw [upd_comm h (fun e => hs e.symm), upd_comm h (fun e => hs e.symm)]
    refine ⟨⟨?_, k1⟩, k2⟩
    rw [h1]; unfold updH; rw [if_neg hs, if_neg hs]
theorem ok_join : ∀ (r : List Sp) (a b : Nat) (h : UInt8 → UInt64) (o : UInt8) (a1 b1 a2 b2 : UInt64), a < b → r[a]? = some (o, a1, b1) → r[b]? = some (o, a2, b2) → (∀ j s, a < j → j < b → r[j]? = some s → s.1 ≠ o) → okH h r →
    okH h ((r.set a (o, a1, b2)).eraseIdx b) ∧ finH h ((r.set a (o, a1, b2)).eraseIdx b) = finH h r
  | [], _, _, _, _, _, _, _, _, _, h, _, _, _ => by simp at h
  | s :: r, 0, b, h, o, a1, b1, a2, b2, hab, ha, hb, hno, hok => by
    obtain ⟨b', rfl⟩ : ∃ b', b = b' + 1 := ⟨b - 1, by omega⟩
    simp only [List.getElem?_cons_zero, Option.some.injEq] at ha
    subst ha
    simp only [okH] at hok
    obtain ⟨k1, k2⟩ := ok_skip r b' h o b1 a2 b2 (by simpa using hb) (fun j t hj ht => hno (j + 1) t (by omega) (by omega) (by simpa using ht)) hok.2
    simp only [List.set_cons_zero, List.eraseIdx_cons_succ, okH, finH]
    exact ⟨⟨hok.1, k1⟩, k2⟩
  | s :: r, a + 1, b, h, o, a1, b1, a2, b2, hab, ha, hb, hno, hok => by
    obtain ⟨b', rfl⟩ : ∃ b', b = b' + 1 := ⟨b - 1, by omega⟩
    simp only [okH] at hok
    obtain ⟨k1, k2⟩ := ok_join r a b' (updH h s.1 s.2.2) o a1 b1 a2 b2 (by omega) (by simpa using ha) (by simpa using hb) (fun j t hj hj2 ht => hno (j + 1) t (by omega) (by omega) (by simpa using ht)) hok.2
    simp only [List.set_cons_succ, List.eraseIdx_cons_succ, okH, finH]
    exact ⟨⟨hok.1, k1⟩, k2⟩
theorem spans_get {l : List EnT} {j : Nat} (h : j < l.length) : (spans l)[j]? = some (spanI l[j].2) := by
  unfold spans; rw [List.getElem?_map, List.getElem?_eq_getElem h]; rfl
theorem spans_set (l : List EnT) (k : Nat) (e : EnT) : spans (l.set k e) = (spans l).set k (spanI e.2) := by unfold spans; rw [List.map_set]
theorem spans_erase (l : List EnT) (k : Nat) : spans (l.eraseIdx k) = (spans l).eraseIdx k := by
  unfold spans
  induction l generalizing k with
  | nil => simp
  | cons a r ih => cases k with
    | zero => rfl
    | succ k => simp only [List.eraseIdx_cons_succ, List.map_cons, ih]
theorem follow_span {x y : ItT} (h : follow x y = true) : (spanI (joinI x y).1) = ((spanI x).1, (spanI x).2.1, (spanI y).2.2) := by
  obtain ⟨h1, h2⟩ := follow_gap h
  unfold joinI
  rw [if_pos h]
  show spanI (gapI _) = _
  rw [span_gap]
  unfold spanI
  rw [if_pos h1, if_pos h2]
/-- A join of two of one origin with none of it between. -/
theorem joinL_chain (l : List EnT) (a b : Nat) (hab : a < b) (h : UInt8 → UInt64) (ha : a < l.length) (hb : b < l.length) (ho : orgE l[a] = orgE l[b]) (hno : ∀ j (hj : j < l.length), a < j → j < b → orgE l[j] ≠ orgE l[b]) (hok : okH h (spans l)) :
    okH h (spans (joinL l a b)) ∧ finH h (spans (joinL l a b)) = finH h (spans l) := by
  rcases joinL_cases l a b with hc | ⟨ha', hb', hf, hc⟩
  · rw [hc]; exact ⟨hok, rfl⟩
  · rw [hc, spans_erase, spans_set]
    simp only
    rw [follow_span hf]
    have e : (spanI l[a].2).1 = (spanI l[b].2).1 := ho
    rw [e]
    exact ok_join (spans l) a b h (spanI l[b].2).1 (spanI l[a].2).2.1 (spanI l[a].2).2.2 (spanI l[b].2).2.1 (spanI l[b].2).2.2 hab (by rw [spans_get ha, ← e]) (by rw [spans_get hb]) (fun j s h1 h2 hs => by
      have hj : j < l.length := by omega
      rw [spans_get hj] at hs
      cases hs
      exact hno j hj h1 h2) hok
theorem evOne_spans (l : List EnT) (k : Nat) (hk : k < l.length) : spans (evOne l k l[k]) = spans l := by
  unfold evOne
  rw [spans_set]
  show (spans l).set k (spanI (gapI (spanI l[k].2))) = _
  rw [span_gap]
  apply List.ext_getElem?
  intro j
  rw [List.getElem?_set]
  split
  · rename_i e; subst e
    rw [if_pos (by unfold spans; simpa using hk), spans_get hk]
  · rfl
theorem org_spans {l m : List EnT} (h : spans l = spans m) {j : Nat} (hj : j < l.length) : ∃ hm : j < m.length, orgE l[j] = orgE m[j] := by
  have hlen : l.length = m.length := by have := congrArg List.length h; simpa [spans] using this
  refine ⟨by omega, ?_⟩
  have h1 := spans_get hj
  rw [h, spans_get (l := m) (by omega)] at h1
  unfold orgE
  rw [Option.some.inj h1]
theorem joinR_chain (l : List EnT) (k : Nat) (r : Option Nat) (h : UInt8 → UInt64) (hk : k < l.length) (hr : UpSpec l (orgE l[k]) (k + 1) r) (hok : okH h (spans l)) :
    okH h (spans (joinR l k r)) ∧ finH h (spans (joinR l k r)) = finH h (spans l) := by
  cases r with
  | none => exact ⟨hok, rfl⟩
  | some b =>
    obtain ⟨h1, h2, h3, h4⟩ := hr
    exact joinL_chain l k b (by omega) h hk h2 h3.symm (fun j hj q1 q2 => by rw [h3]; exact h4 j hj (by omega) q2) hok
theorem joinD_chain (l : List EnT) (k : Nat) (r : Option Nat) (h : UInt8 → UInt64) (hk : k < l.length) (hr : DownSpec l (orgE l[k]) k r) (hok : okH h (spans l)) :
    okH h (spans (joinD l k r)) ∧ finH h (spans (joinD l k r)) = finH h (spans l) := by
  cases r with
  | none => exact ⟨hok, rfl⟩
  | some a =>
    obtain ⟨h1, h2, h3, h4⟩ := hr
    exact joinL_chain l a k h1 h h2 hk h3 (fun j hj q1 q2 => h4 j hj q1 q2) hok
theorem joinR_at (l : List EnT) (k : Nat) (r : Option Nat) (hk : k < l.length) (hr : UpSpec l (orgE l[k]) (k + 1) r) : ∃ h : k < (joinR l k r).length, orgE (joinR l k r)[k] = orgE l[k] := by
  cases r with
  | none => exact ⟨hk, rfl⟩
  | some b => exact joinL_at l k b (by have := hr.1; omega) hk
theorem evTo_chain {l l' : List EnT} {k : Nat} {rU rD : Option Nat} (he : EvTo l k l' rU rD) (h : UInt8 → UInt64) (hok : okH h (spans l)) : okH h (spans l') ∧ finH h (spans l') = finH h (spans l) := by
  have hk := he.lt
  have hk1 : k < (evOne l k l[k]).length := by unfold evOne; rw [List.length_set]; exact hk
  have hs := evOne_spans l k hk
  have ho : orgE (evOne l k l[k])[k] = orgE l[k] := (org_spans hs hk1).2
  have hup : UpSpec (evOne l k l[k]) (orgE (evOne l k l[k])[k]) (k + 1) rU := by rw [ho]; exact he.up
  obtain ⟨a1, a2⟩ := joinR_chain _ k rU h hk1 hup (by rw [hs]; exact hok)
  obtain ⟨g1, g2⟩ := joinR_at _ k rU hk1 hup
  obtain ⟨b1, b2⟩ := joinD_chain _ k rD h g1 (by rw [g2, ho]; exact he.down) a1
  rw [he.eq]
  exact ⟨b1, by rw [b2, a2, hs]⟩
theorem evs_chain {l l' : List EnT} (he : Evs l l') (h : UInt8 → UInt64) (hok : okH h (spans l)) : okH h (spans l') ∧ finH h (spans l') = finH h (spans l) := by
  induction he with
  | refl => exact ⟨hok, rfl⟩
  | step _ he _ ih =>
    obtain ⟨a1, a2⟩ := evTo_chain he h hok
    obtain ⟨b1, b2⟩ := ih a1
    exact ⟨b1, by rw [b2, a2]⟩
theorem joinL_events (l : List EnT) (a b : Nat) (e : EnT) (he : e.2.1 = false) : e ∈ joinL l a b ↔ e ∈ l := by
  rcases joinL_cases l a b with hc | ⟨ha, hb, hf, hc⟩
  · rw [hc]
  · rw [hc]
    obtain ⟨f1, f2⟩ := follow_gap hf
    have hg : (joinI l[a].2 l[b].2).1.1 = true := by unfold joinI; rw [if_pos hf]; rfl
    constructor
    · intro h
      rcases List.mem_or_eq_of_mem_set (List.mem_of_mem_eraseIdx h) with h | h
      · exact h
      · rw [h] at he; rw [show (l[a].1, (joinI l[a].2 l[b].2).1).2.1 = true from hg] at he; cases he
    · intro h
      obtain ⟨j, hj, rfl⟩ := List.getElem_of_mem h
      have hja : a ≠ j := fun q => by subst q; rw [f1] at he; cases he
      have hjb : j ≠ b := fun q => by subst q; rw [f2] at he; cases he
      rw [List.mem_eraseIdx_iff_getElem?]
      exact ⟨j, hjb, by rw [List.getElem?_set_ne hja, List.getElem?_eq_getElem hj]⟩
theorem joinR_events (l : List EnT) (k : Nat) (r : Option Nat) (e : EnT) (he : e.2.1 = false) : e ∈ joinR l k r ↔ e ∈ l := by
  cases r; exact Iff.rfl; exact joinL_events l k _ e he
theorem joinD_events (l : List EnT) (k : Nat) (r : Option Nat) (e : EnT) (he : e.2.1 = false) : e ∈ joinD l k r ↔ e ∈ l := by
  cases r; exact Iff.rfl; exact joinL_events l _ k e he
theorem evTo_events {l l' : List EnT} {k : Nat} {rU rD : Option Nat} (h : EvTo l k l' rU rD) (e : EnT) (he : e.2.1 = false) : (e ∈ l' → e ∈ l) ∧ (e ∈ l → e ∈ l' ∨ e = l[k]'h.lt) := by
  have hk := h.lt
  have key : e ∈ l' ↔ e ∈ evOne l k l[k] := by rw [h.eq, joinD_events _ _ _ e he, joinR_events _ _ _ e he]
  rw [key]
  constructor
  · intro hm
    rcases List.mem_or_eq_of_mem_set hm with q | q
    · exact q
    · rw [q] at he; exact absurd he (by simp [gapI])
  · intro hm
    obtain ⟨j, hj, rfl⟩ := List.getElem_of_mem hm
    by_cases hjk : j = k
    · right; subst hjk; rfl
    · left
      unfold evOne
      rw [List.mem_iff_getElem?]
      exact ⟨j, by rw [List.getElem?_set_ne (fun q => hjk q.symm), List.getElem?_eq_getElem hj]⟩
theorem event_of {x : ItT} (h : lasts x = false) : x.1 = false := by
  cases hx : x.1 with
  | false => rfl
  | true => unfold lasts at h; rw [hx] at h; cases h
theorem evs_events {l l1 : List EnT} (h : Evs l l1) : (∀ e ∈ l1, e.2.1 = false → e ∈ l) ∧ ∀ e ∈ l, e.2.1 = false → e ∈ l1 ∨ (lasts e.2 = false ∧ ∀ z ∈ l1, lasts z.2 = false → prio e.2 ≤ prio z.2) := by
  induction h with
  | refl => exact ⟨fun e h _ => h, fun e h _ => .inl h⟩
  | @step l l' l'' k rU rD hv he hr ih =>
    obtain ⟨h1, h2, h3, h4⟩ := hv
    refine ⟨fun e hm hg => (evTo_events he e hg).1 (ih.1 e hm hg), fun e hm hg => ?_⟩
    rcases (evTo_events he e hg).2 hm with q | q
    · exact ih.2 e q hg
    · right
      subst q
      refine ⟨h3, fun z hz hzl => ?_⟩
      have hzg := event_of hzl
      obtain ⟨j, hj, e⟩ := List.getElem_of_mem ((evTo_events he z hzg).1 (ih.1 z hz hzg))
      rw [← e]
      rw [← e] at hzl
      exact h4 j hj hj hzl
end Go.Proofs.Ytblldmpkljcnjaa
