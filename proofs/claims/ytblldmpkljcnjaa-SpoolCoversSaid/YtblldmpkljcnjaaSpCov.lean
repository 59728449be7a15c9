/- A spool: what Put and Ack keep of each origin's counts. -/
import Derived.Test.YtblldmpkljcnjaaSpKept
open Go Go.Sx
namespace Go.Proofs.Ytblldmpkljcnjaa
def hh (hs : List UInt64) (o : UInt8) : UInt64 := (hs[o.toNat]?).getD 0
theorem hh_set {hs : List UInt64} {o : UInt8} (h : o.toNat < hs.length) (v : UInt64) : hh (hs.set o.toNat v) = updH (hh hs) o v := by
  funext p
  unfold hh updH
  by_cases hp : p = o
  · subst hp; rw [if_pos rfl, List.getElem?_set_self h]; rfl
  · rw [if_neg hp, List.getElem?_set_ne (fun e => hp (UInt8.toNat_inj.1 e.symm))]
theorem u64_next {a high : UInt64} (h1 : ¬ a ≤ high) (h2 : ¬ high + 1 < a) : a = high + 1 := by
  rw [UInt64.not_le, UInt64.lt_iff_toNat_lt] at h1
  rw [UInt64.not_lt, UInt64.le_iff_toNat_le] at h2
  apply UInt64.toNat_inj.1
  have e1 : (1 : UInt64).toNat = 1 := rfl
  have := a.toNat_lt
  rw [UInt64.toNat_add] at h2 ⊢
  rw [e1] at h2 ⊢
  rw [Nat.mod_eq_of_lt (by omega)] at h2 ⊢
  omega
theorem putY_facts {x : ItT} {high : UInt64} (hold : ¬ (spanI x).2.2 ≤ high) (hjump : ¬ high + 1 < (spanI x).2.1) :
    spanI (putY x high) = ((spanI x).1, high + 1, (spanI x).2.2) ∧ (putY x high).1 = x.1 ∧ prio (putY x high) = prio x ∧ (x.1 = false → putY x high = x) := by
  by_cases hlow : (spanI x).2.1 ≤ high
  · have hx : x.1 = true := by
      cases hx : x.1 with
      | true => rfl
      | false =>
        unfold spanI at hold hlow
        rw [hx] at hold hlow
        exact absurd hlow hold
    have e : putY x high = (x.1, x.2.1, x.2.2.1, x.2.2.2.1, x.2.2.2.2.1, x.2.2.2.2.2.1, x.2.2.2.2.2.2.1, x.2.2.2.2.2.2.2.1, x.2.2.2.2.2.2.2.2.1, x.2.2.2.2.2.2.2.2.2.1, x.2.2.2.2.2.2.2.2.2.2.1, high + 1, x.2.2.2.2.2.2.2.2.2.2.2.2) := by
      unfold putY trimI
      rw [if_pos hlow, if_neg hold, if_neg (by rw [UInt64.not_lt]; exact hlow)]
    rw [e]
    refine ⟨?_, rfl, rfl, fun h => by rw [hx] at h; cases h⟩
    unfold spanI
    dsimp only
    rw [hx]; rfl
  · have e : putY x high = x := by unfold putY; rw [if_neg hlow]
    rw [e]
    refine ⟨?_, rfl, rfl, fun _ => rfl⟩
    rw [← u64_next hlow hjump]
theorem check_prio {x : ItT} (h : itCheck x = 0) (hx : x.1 = false) : (prio x).toNat ≤ 7 := by
  obtain ⟨g, o, seq, time, rule, labels, state, pr, v, own, go, ga, gb⟩ := x
  dsimp only at hx
  subst hx
  show pr.toNat ≤ 7
  have h : evCheck o seq time rule labels state pr own = 0 := h
  unfold evCheck at h
  cases h1 : decide ((32 : UInt8) ≤ o) with
  | true => rw [h1] at h; exact absurd (show (6 : Int64) = 0 from h) (by decide)
  | false =>
    rw [h1] at h
    cases h2 : decide (seq < 1) with
    | true => rw [h2] at h; exact absurd (show (6 : Int64) = 0 from h) (by decide)
    | false =>
      rw [h2] at h
      cases h3 : decide (seq ≤ 1099511627776) with
      | false => rw [h3] at h; exact absurd (show (6 : Int64) = 0 from h) (by decide)
      | true =>
        rw [h3] at h
        cases h4 : decide (time ≤ 1099511627776) with
        | false => rw [h4] at h; exact absurd (show (6 : Int64) = 0 from h) (by decide)
        | true =>
          rw [h4] at h
          by_cases h5 : (7 : UInt8) < pr
          · rw [dec_t h5] at h; exact absurd (show (6 : Int64) = 0 from h) (by decide)
          · have := UInt8.le_iff_toNat_le.1 (UInt8.not_lt.1 h5); exact this
def idxs (l : List EnT) : List Nat := l.map fun e => e.1.toNat
theorem idxs_set (l : List EnT) (k : Nat) (x : ItT) (hk : k < l.length) : idxs (l.set k (l[k].1, x)) = idxs l := by
  unfold idxs
  rw [List.map_set]
  apply List.ext_getElem?
  intro j
  rw [List.getElem?_set]
  split
  · rename_i e; subst e
    rw [if_pos (by simpa using hk), List.getElem?_map, List.getElem?_eq_getElem hk]; rfl
  · rfl
theorem joinL_idxs (l : List EnT) (a b : Nat) : (idxs (joinL l a b)).Sublist (idxs l) := by
  rcases joinL_cases l a b with hc | ⟨ha, hb, hf, hc⟩
  · rw [hc]; exact List.Sublist.refl _
  · rw [hc, ← idxs_set l a (joinI l[a].2 l[b].2).1 ha]
    exact (List.eraseIdx_sublist _ _).map _
theorem joinR_idxs (l : List EnT) (k : Nat) (r : Option Nat) : (idxs (joinR l k r)).Sublist (idxs l) := by cases r; exact List.Sublist.refl _; exact joinL_idxs _ _ _
theorem joinD_idxs (l : List EnT) (k : Nat) (r : Option Nat) : (idxs (joinD l k r)).Sublist (idxs l) := by cases r; exact List.Sublist.refl _; exact joinL_idxs _ _ _
theorem evTo_idxs {l l' : List EnT} {k : Nat} {rU rD : Option Nat} (h : EvTo l k l' rU rD) : (idxs l').Sublist (idxs l) := by
  rw [h.eq]
  refine (joinD_idxs _ _ _).trans ((joinR_idxs _ _ _).trans ?_)
  unfold evOne
  rw [idxs_set l k _ h.lt]
  exact List.Sublist.refl _
theorem evs_idxs {l l' : List EnT} (h : Evs l l') : (idxs l').Sublist (idxs l) := by
  induction h with
  | refl => exact List.Sublist.refl _
  | step _ he _ ih => exact ih.trans (evTo_idxs he)
def TopH (H : UInt8 → UInt64) (l : List EnT) : Prop := ∀ e ∈ l, (spanI e.2).2.2 ≤ H (orgE e)
theorem follow_org {x y : ItT} (h : follow x y = true) : (spanI x).1 = (spanI y).1 := by
  obtain ⟨h1, h2⟩ := follow_gap h
  unfold follow at h
  simp only [Bool.and_eq_true, decide_eq_true_eq] at h
  unfold spanI
  rw [if_pos h1, if_pos h2]
  exact h.2.2.1
theorem joinL_top {H : UInt8 → UInt64} {l : List EnT} (h : TopH H l) (a b : Nat) : TopH H (joinL l a b) := by
  rcases joinL_cases l a b with hc | ⟨ha, hb, hf, hc⟩
  · rw [hc]; exact h
  · rw [hc]
    intro e he
    rcases List.mem_or_eq_of_mem_set (List.mem_of_mem_eraseIdx he) with q | q
    · exact h e q
    · rw [q]
      unfold orgE
      simp only
      rw [follow_span hf]
      simp only
      rw [follow_org hf]
      exact h _ (List.getElem_mem hb)
theorem joinR_top {H : UInt8 → UInt64} {l : List EnT} (h : TopH H l) (k : Nat) (r : Option Nat) : TopH H (joinR l k r) := by cases r; exact h; exact joinL_top h _ _
theorem joinD_top {H : UInt8 → UInt64} {l : List EnT} (h : TopH H l) (k : Nat) (r : Option Nat) : TopH H (joinD l k r) := by cases r; exact h; exact joinL_top h _ _
theorem evTo_top {H : UInt8 → UInt64} {l l' : List EnT} {k : Nat} {rU rD : Option Nat} (h : EvTo l k l' rU rD) (ht : TopH H l) : TopH H l' := by
  have hk := h.lt
  rw [h.eq]
  refine joinD_top (joinR_top ?_ _ _) _ _
  intro e he
  rcases List.mem_or_eq_of_mem_set he with q | q
  · exact ht e q
  · rw [q]; exact ht l[k] (List.getElem_mem hk)
theorem evs_top {H : UInt8 → UInt64} {l l' : List EnT} (h : Evs l l') (ht : TopH H l) : TopH H l' := by
  induction h with
  | refl => exact ht
  | step _ he _ ih => exact ih (evTo_top he ht)
structure CovOK (N : Nat) (s : SpT) (first : MapT) : Prop where
  ok : SpOK N s
  keys : (first.map (·.1)).Nodup
  sorted : (idxs s.1.2.2.2.2).Pairwise (· < ·)
  low : ∀ e ∈ s.1.2.2.2.2, s.1.2.2.2.1 < e.1
  upp : ∀ e ∈ s.1.2.2.2.2, e.1 < s.1.2.2.1
  ack : s.1.2.2.2.1 < s.1.2.2.1
  chain : okH (mg first) (spans s.1.2.2.2.2)
  fin : finH (mg first) (spans s.1.2.2.2.2) = hh s.2.1
  top : TopH (hh s.2.1) s.1.2.2.2.2
  prio : ∀ e ∈ s.1.2.2.2.2, e.2.1 = false → (prio e.2).toNat ≤ 7
theorem spans_snoc (l : List EnT) (e : EnT) : spans (l ++ [e]) = spans l ++ [spanI e.2] := by unfold spans; simp
theorem next_lt {a : UInt64} (h : a.toNat ≤ 1099511627776) : a < a + 1 ∧ (a + 1).toNat = a.toNat + 1 := by
  have e1 : (1 : UInt64).toNat = 1 := rfl
  have : (a + 1).toNat = a.toNat + 1 := by rw [UInt64.toNat_add, e1, Nat.mod_eq_of_lt (by omega)]
  exact ⟨by rw [UInt64.lt_iff_toNat_lt]; omega, this⟩
theorem put1_cov {N : Nat} {s s' : SpT} {first : MapT} {x : ItT} {high : UInt64} {l1 : List EnT} {rD : Option Nat} (hs : CovOK N s first) (hx : Good x) (h : Put1 s x high s' l1 rD) : CovOK (N + 1) s' first := by
  obtain ⟨f1, f2, f3, f4⟩ := putY_facts h.old h.jump
  have ho := check_org h.ok
  have hlen : (spanI x).1.toNat < s.2.1.length := by rw [hs.ok.highs]; exact ho
  have hhigh : hh s.2.1 (spanI x).1 = high := by unfold hh; rw [h.hi]; rfl
  have hh' : hh s'.2.1 = updH (hh s.2.1) (spanI x).1 (spanI x).2.2 := by rw [h.highs]; exact hh_set hlen _
  obtain ⟨n1, n2⟩ := next_lt hs.ok.next.2
  obtain ⟨c1, c2⟩ := evs_chain h.ev (mg first) hs.chain
  have hk : l1.length < (l1 ++ [(s.1.2.2.1, putY x high)]).length := by simp
  have hat : orgE ((l1 ++ [(s.1.2.2.1, putY x high)])[l1.length]'hk) = (spanI (putY x high)).1 := by
    rw [List.getElem_append_right (Nat.le_refl _)]
    simp only [Nat.sub_self, List.getElem_cons_zero]
    rfl
  have d1 : okH (mg first) (spans (l1 ++ [(s.1.2.2.1, putY x high)])) := by
    rw [spans_snoc, okH_append]
    refine ⟨c1, ?_, trivial⟩
    rw [c2, hs.fin]
    show (spanI (putY x high)).2.1 = hh s.2.1 (spanI (putY x high)).1 + 1
    rw [f1]
    simp only
    rw [hhigh]
  have d2 : finH (mg first) (spans (l1 ++ [(s.1.2.2.1, putY x high)])) = updH (hh s.2.1) (spanI x).1 (spanI x).2.2 := by
    rw [spans_snoc, finH_append, c2, hs.fin]
    show updH (hh s.2.1) (spanI (putY x high)).1 (spanI (putY x high)).2.2 = _
    rw [f1]
  obtain ⟨e1, e2⟩ := joinD_chain _ l1.length rD (mg first) hk (by rw [hat]; exact h.down) d1
  have hmono : ∀ o, hh s.2.1 o ≤ hh s'.2.1 o := fun o => by
    rw [hh']
    unfold updH
    split
    · rename_i q; rw [q, hhigh]; exact UInt64.le_of_lt (UInt64.not_le.1 h.old)
    · exact UInt64.le_refl _
  have hsrc : ∀ e ∈ s'.1.2.2.2.2, (∃ e' ∈ s.1.2.2.2.2, e.1 = e'.1) ∨ e.1 = s.1.2.2.1 := fun e he => by
    rw [h.list] at he
    obtain ⟨e1, q1, q2⟩ := joinD_idx _ _ _ e he
    rcases List.mem_append.1 q1 with q | q
    · obtain ⟨e2, q3, q4⟩ := evs_idx h.ev e1 q
      exact .inl ⟨e2, q3, by rw [q2, q4]⟩
    · simp only [List.mem_singleton] at q
      right; rw [q2, q]
  refine ⟨put1_ok hs.ok hx h, hs.keys, ?_, ?_, ?_, ?_, ?_, ?_, ?_, ?_⟩
  · rw [h.list]
    refine List.Pairwise.sublist (joinD_idxs _ _ _) ?_
    unfold idxs
    rw [List.map_append, List.pairwise_append]
    refine ⟨hs.sorted.sublist (evs_idxs h.ev), by simp, fun a ha b hb => ?_⟩
    simp only [List.map_cons, List.map_nil, List.mem_singleton] at hb
    subst hb
    obtain ⟨e, he, rfl⟩ := List.mem_map.1 ha
    obtain ⟨e', q1, q2⟩ := evs_idx h.ev e he
    rw [q2]
    exact UInt64.lt_iff_toNat_lt.1 (hs.upp e' q1)
  · intro e he
    rw [h.acked]
    rcases hsrc e he with ⟨e', q1, q2⟩ | q
    · rw [q2]; exact hs.low e' q1
    · rw [q]; exact hs.ack
  · intro e he
    rw [h.next]
    rcases hsrc e he with ⟨e', q1, q2⟩ | q
    · rw [q2]; exact UInt64.lt_trans (hs.upp e' q1) n1
    · rw [q]; exact n1
  · rw [h.acked, h.next]; exact UInt64.lt_trans hs.ack n1
  · rw [h.list]; exact e1
  · rw [h.list, e2, d2, hh']
  · rw [h.list]
    refine joinD_top ?_ _ _
    intro e he
    rcases List.mem_append.1 he with q | q
    · exact UInt64.le_trans (evs_top h.ev hs.top e q) (hmono _)
    · simp only [List.mem_singleton] at q
      rw [q]
      unfold orgE
      simp only
      rw [f1, hh']
      unfold updH
      simp only [if_true]
      exact UInt64.le_refl _
  · intro e he hg
    rw [h.list, joinD_events _ _ _ e hg] at he
    rcases List.mem_append.1 he with q | q
    · exact hs.prio e ((evs_events h.ev).1 e q hg) hg
    · simp only [List.mem_singleton] at q
      rw [q] at hg ⊢
      simp only at hg ⊢
      rw [f2] at hg
      rw [f3]
      exact check_prio h.ok hg
/-- What is kept. -/
theorem put1_kept {N : Nat} {s s' : SpT} {first : MapT} {x : ItT} {high : UInt64} {l1 : List EnT} {rD : Option Nat} (hs : CovOK N s first) (hN : N ≤ 900) (hx : Good x) (h : Put1 s x high s' l1 rD) (n : Nat) (hn : 1001 < n) :
    F17 n (s.1.2.2.2.2, s'.1.2.2.2.2, x) = some (true, ()) := by
  obtain ⟨f1, f2, f3, f4⟩ := putY_facts h.old h.jump
  have hs' := put1_cov hs hx h
  have hl := hs.ok.len
  have hl' := hs'.ok.len
  obtain ⟨v1, v2⟩ := evs_events h.ev
  have hhigh : hh s.2.1 (spanI x).1 = high := by unfold hh; rw [h.hi]; rfl
  have hin : ∀ e, e.2.1 = false → (e ∈ s'.1.2.2.2.2 ↔ e ∈ l1 ∨ e = (s.1.2.2.1, putY x high)) := fun e he => by
    rw [h.list, joinD_events _ _ _ e he, List.mem_append, List.mem_singleton]
  have has := fun (y : ItT) (hy : Good y) => has_spec n (by omega) s'.1.2.2.2.2 (by omega) (by omega) hs'.ok.good y hy
  have yes : ∀ (y : ItT), Good y → ∀ z ∈ s'.1.2.2.2.2, z.2 = y → F35 n (s'.1.2.2.2.2, y) = some (true, ()) := fun y hy z hz e => by
    obtain ⟨r, e1, _, e3⟩ := has y hy
    cases r with
    | true => exact e1
    | false => exact absurd e (e3 rfl z hz)
  refine kept_spec n _ _ (by omega) (by omega) x ?_ ?_ hs.prio ?_ ?_
  · intro e he hla hg
    rcases v2 e he hg with q | q
    · exact yes _ (hs.ok.good e he) e ((hin e hg).2 (.inl q)) rfl
    · rw [hla] at q; cases q.1
  · intro e he w hw hle hlw hhe hhw
    have hge := event_of hle
    have hgw := event_of hlw
    -- the one that isn't there was evicted
    have hwl : ∀ z ∈ l1, lasts z.2 = false → prio w.2 ≤ prio z.2 := by
      rcases v2 w hw hgw with q | q
      · rw [yes _ (hs.ok.good w hw) w ((hin w hgw).2 (.inl q)) rfl] at hhw; cases hhw
      · exact q.2
    obtain ⟨r, e1, e2, _⟩ := has e.2 (hs.ok.good e he)
    rw [hhe] at e1
    obtain ⟨z, hz, hs14⟩ := e2 (by cases e1; rfl)
    obtain ⟨r', g1, g2⟩ := same_spec n (by omega) e.2 z.2 (hs.ok.good e he) (hs'.ok.good z hz)
    rw [hs14] at g1
    obtain ⟨g3, g4⟩ := g2 (by cases g1; rfl)
    obtain ⟨g5, g6, g7⟩ := g4 hge
    have hgz : z.2.1 = false := by rw [← g3]; exact hge
    rcases (hin z hgz).1 hz with q | q
    · rw [g5]; exact hwl z q (by rw [← g6]; exact hle)
    · -- an equal one that was put: its count is higher than all
      exfalso
      rw [q] at g7
      simp only at g7
      rw [f1] at g7
      have ht := hs.top e he
      have o1 : orgE e = (spanI x).1 := by unfold orgE; rw [g7]
      rw [o1, hhigh, g7] at ht
      exact h.old ht
  · cases hg : x.1 with
    | true => exact .inl rfl
    | false =>
      right
      have e := f4 hg
      refine yes x hx (s.1.2.2.1, putY x high) ((hin _ (by rw [e]; exact hg)).2 (.inr rfl)) ?_
      exact e
  · intro e he
    obtain ⟨r, e1, _⟩ := has e.2 (hs.ok.good e he)
    exact ⟨r, e1⟩
end Go.Proofs.Ytblldmpkljcnjaa
