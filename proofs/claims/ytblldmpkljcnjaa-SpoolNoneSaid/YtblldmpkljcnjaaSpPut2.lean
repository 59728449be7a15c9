/- A spool: Put. -/
import Derived.Test.YtblldmpkljcnjaaSpPut
open Go Go.Sx
namespace Go.Proofs.Ytblldmpkljcnjaa
inductive Evs : List EnT → List EnT → Prop where
  | refl (l : List EnT) : Evs l l
  | step {l l' l'' : List EnT} {k : Nat} {rU rD : Option Nat} (hv : VSpec l l.length (some k)) (he : EvTo l k l' rU rD) (hr : Evs l' l'') : Evs l l''
def nl (l : List EnT) : Nat := (l.filter fun e => !lasts e.2).length
theorem nl_cons (e : EnT) (l : List EnT) : nl (e :: l) = (if lasts e.2 = true then 0 else 1) + nl l := by
  unfold nl
  rw [List.filter_cons]
  by_cases h : lasts e.2 = true
  · rw [if_neg (by rw [h]; decide), if_pos h, Nat.zero_add]
  · rw [if_pos (by rw [Bool.not_eq_true] at h; rw [h]; rfl), if_neg h, List.length_cons, Nat.add_comm]
theorem nl_set : ∀ (l : List EnT) (k : Nat) (e : EnT) (hk : k < l.length), nl (l.set k e) + (if lasts l[k].2 = true then 0 else 1) = nl l + (if lasts e.2 = true then 0 else 1)
  | [], _, _, h => by simp at h
  | x :: l, 0, e, _ => by simp only [List.set_cons_zero, nl_cons, List.getElem_cons_zero]; omega
  | x :: l, k + 1, e, h => by
    have := nl_set l k e (by simpa using h)
    simp only [List.set_cons_succ, nl_cons, List.getElem_cons_succ]; omega
theorem nl_erase : ∀ (l : List EnT) (k : Nat), nl (l.eraseIdx k) ≤ nl l
  | [], _ => by simp
  | x :: l, 0 => by simp only [List.eraseIdx_cons_zero, nl_cons]; omega
  | x :: l, k + 1 => by
    have := nl_erase l k
    simp only [List.eraseIdx_cons_succ, nl_cons]; omega
theorem joinL_nl (l : List EnT) (a b : Nat) : nl (joinL l a b) ≤ nl l := by
  obtain ⟨m, hm⟩ : ∃ m, m = joinL l a b := ⟨_, rfl⟩
  have hc := joinL_cases l a b
  rw [← hm] at hc ⊢
  rcases hc with hc | ⟨ha, hb, hf, hc⟩
  · rw [hc]; exact Nat.le_refl _
  · rw [hc]
    refine Nat.le_trans (nl_erase _ _) ?_
    have h := nl_set l a (l[a].1, (joinI l[a].2 l[b].2).1) ha
    have h1 : lasts (joinI l[a].2 l[b].2).1 = true := by unfold joinI; rw [if_pos hf]; rfl
    rw [show lasts (l[a].1, (joinI l[a].2 l[b].2).1).2 = true from h1] at h
    simp only [if_true] at h
    omega
theorem joinR_len (l : List EnT) (k : Nat) (r : Option Nat) : (joinR l k r).length ≤ l.length := by cases r; exact Nat.le_refl _; exact joinL_len l k _
theorem joinD_len (l : List EnT) (k : Nat) (r : Option Nat) : (joinD l k r).length ≤ l.length := by cases r; exact Nat.le_refl _; exact joinL_len l _ k
theorem joinR_nl (l : List EnT) (k : Nat) (r : Option Nat) : nl (joinR l k r) ≤ nl l := by cases r; exact Nat.le_refl _; exact joinL_nl l k _
theorem joinD_nl (l : List EnT) (k : Nat) (r : Option Nat) : nl (joinD l k r) ≤ nl l := by cases r; exact Nat.le_refl _; exact joinL_nl l _ k
theorem joinR_good {l : List EnT} (hg : ∀ e ∈ l, Good e.2) (k : Nat) (r : Option Nat) : ∀ e ∈ joinR l k r, Good e.2 := by cases r; exact hg; exact joinL_good hg k _
theorem joinD_good {l : List EnT} (hg : ∀ e ∈ l, Good e.2) (k : Nat) (r : Option Nat) : ∀ e ∈ joinD l k r, Good e.2 := by cases r; exact hg; exact joinL_good hg _ k
theorem EvTo.len {l l' : List EnT} {k : Nat} {rU rD : Option Nat} (h : EvTo l k l' rU rD) : l'.length ≤ l.length := by
  rw [h.eq]
  refine Nat.le_trans (joinD_len _ _ _) (Nat.le_trans (joinR_len _ _ _) ?_)
  unfold evOne; rw [List.length_set]; exact Nat.le_refl _
theorem EvTo.good {l l' : List EnT} {k : Nat} {rU rD : Option Nat} (h : EvTo l k l' rU rD) (hg : ∀ e ∈ l, Good e.2) : ∀ e ∈ l', Good e.2 := by
  rw [h.eq]; exact joinD_good (joinR_good (evOne_good hg k _) _ _) _ _
theorem EvTo.fewer {l l' : List EnT} {k : Nat} {rU rD : Option Nat} (h : EvTo l k l' rU rD) (hv : lasts (l[k]'h.lt).2 = false) : nl l' < nl l := by
  have h1 := nl_set l k (l[k]'h.lt |>.1, gapI (spanI (l[k]'h.lt).2)) h.lt
  rw [hv, show lasts ((l[k]'h.lt).1, gapI (spanI (l[k]'h.lt).2)).2 = true from rfl] at h1
  simp only [if_true] at h1
  have h2 := joinR_nl (evOne l k (l[k]'h.lt)) k rU
  have h3 := joinD_nl (joinR (evOne l k (l[k]'h.lt)) k rU) k rD
  rw [← h.eq] at h3
  unfold evOne at h2 h3
  have h1 : nl (l.set k ((l[k]'h.lt).1, gapI (spanI (l[k]'h.lt).2))) + 1 = nl l := by simpa using h1
  omega
theorem Evs.len {l l' : List EnT} (h : Evs l l') : l'.length ≤ l.length := by
  induction h with
  | refl => exact Nat.le_refl _
  | step _ he _ ih => exact Nat.le_trans ih he.len
theorem Evs.good {l l' : List EnT} (h : Evs l l') (hg : ∀ e ∈ l, Good e.2) : ∀ e ∈ l', Good e.2 := by
  induction h with
  | refl => exact hg
  | step _ he _ ih => exact ih (he.good hg)
theorem nl_le (l : List EnT) : nl l ≤ l.length := List.length_filter_le _ _
/-! ### The item that is put -/
theorem check_org {x : ItT} (h : itCheck x = 0) : (spanI x).1.toNat < 32 := by
  obtain ⟨g, o, seq, time, rule, labels, state, pr, v, own, go, ga, gb⟩ := x
  have key : ∀ (u : UInt8) (b : Int64), (bif decide ((32 : UInt8) ≤ u) then (6 : Int64) else b) = 0 → u.toNat < 32 := fun u b hb => by
    by_cases hu : (32 : UInt8) ≤ u
    · rw [dec_t hu] at hb; have hb : (6 : Int64) = 0 := hb; exact absurd hb (by decide)
    · have := UInt8.lt_iff_toNat_lt.1 (UInt8.not_le.1 hu); exact this
  cases g with
  | true => exact key go _ h
  | false => exact key o _ h
def putY (x : ItT) (high : UInt64) : ItT := if (spanI x).2.1 ≤ high then (trimI x high).1 else x
theorem trim_good {x : ItT} (h : Good x) (a : UInt64) : Good (trimI x a).1 := by
  unfold trimI
  split
  · exact ⟨by simp [zeroI], by simp [zeroI], by simp [zeroI]⟩
  · split
    · exact h
    · exact ⟨h.rule, h.labs, h.each⟩
theorem putY_good {x : ItT} (h : Good x) (a : UInt64) : Good (putY x a) := by
  unfold putY; split
  · exact trim_good h a
  · exact h
structure Put1 (s : SpT) (x : ItT) (high : UInt64) (s' : SpT) (l1 : List EnT) (rD : Option Nat) : Prop where
  ok : itCheck x = 0
  hi : s.2.1[(spanI x).1.toNat]? = some high
  old : ¬ (spanI x).2.2 ≤ high
  jump : ¬ high + 1 < (spanI x).2.1
  ev : Evs s.1.2.2.2.2 l1
  down : DownSpec (l1 ++ [(s.1.2.2.1, putY x high)]) (spanI (putY x high)).1 l1.length rD
  list : s'.1.2.2.2.2 = joinD (l1 ++ [(s.1.2.2.1, putY x high)]) l1.length rD
  quota : s'.1.1 = s.1.1
  next : s'.1.2.2.1 = s.1.2.2.1 + 1
  most : ¬ (1099511627776 : UInt64) < s.1.2.2.1 + 1
  acked : s'.1.2.2.2.1 = s.1.2.2.2.1
  highs : s'.2.1 = s.2.1.set (spanI x).1.toNat (spanI x).2.2
abbrev PutR (s : SpT) (y : (UInt64 × UInt64 × Int64) × Option SpT) (x : ItT) (high : UInt64) : Prop :=
  ∃ i f e s', y = ((i, f, e), some s') ∧ ((e ≠ 0 ∧ f = 0 ∧ s' = s) ∨ (e = 0 ∧ ∃ l1 rD, Put1 s x high s' l1 rD))
theorem u8_idx (o : UInt8) (ho : o.toNat < 32) : decide ((0 : Int) ≤ ↑(UInt8.toNat o)) = true ∧ Nat.blt (Int.toNat ↑(UInt8.toNat o)) 32 = true := by
  refine ⟨dec_t (by omega), ?_⟩
  rw [Int.toNat_natCast]; exact Nat.ble_eq_true_of_le ho
theorem j2047 (s : SpT) (hh : s.2.1.length = 32) (x : ItT) (high : UInt64) (f : UInt64) (t : SpT) (l1 : List EnT) (rD : Option Nat) (hok : itCheck x = 0) (hi : s.2.1[(spanI x).1.toNat]? = some high)
    (hold : ¬ (spanI x).2.2 ≤ high) (hjump : ¬ high + 1 < (spanI x).2.1) (hev : Evs s.1.2.2.2.2 l1)
    (hdown : DownSpec (l1 ++ [(s.1.2.2.1, putY x high)]) (spanI (putY x high)).1 l1.length rD)
    (hlist : t.1.2.2.2.2 = joinD (l1 ++ [(s.1.2.2.1, putY x high)]) l1.length rD) (hq : t.1.1 = s.1.1) (hn : t.1.2.2.1 = s.1.2.2.1) (ha : t.1.2.2.2.1 = s.1.2.2.2.1) (hhi : t.2.1 = s.2.1) :
    ∃ y, F9_J2047 f (spanI x).1 (spanI x).2.2 (some s) (some t) = some y ∧ PutR s y x high := by
  have ho := check_org hok
  obtain ⟨o1, o2⟩ := u8_idx _ ho
  unfold F9_J2047
  simp only [obind_s]
  rw [o1, oite_t, o2, oite_t, hhi, show Nat.blt (Int.toNat ↑(UInt8.toNat (spanI x).1) * 1) s.2.1.length = true from by rw [Nat.mul_one, hh]; exact o2, oite_t, hn]
  by_cases hm : (1099511627776 : UInt64) < s.1.2.2.1 + 1
  · rw [dec_t hm, oite_t]
    exact ⟨_, rfl, _, _, _, _, rfl, .inl ⟨by decide, rfl, rfl⟩⟩
  · rw [dec_f hm, oite_f]
    refine ⟨_, rfl, _, _, _, _, rfl, .inr ⟨rfl, l1, rD, ⟨hok, hi, hold, hjump, hev, hdown, hlist, hq, rfl, hm, ha, ?_⟩⟩⟩
    show List.set s.2.1 _ _ = _
    rw [Nat.mul_one, Int.toNat_natCast]
theorem put_loop (n : Nat) (hn : 1001 < n) (s : SpT) (hh : s.2.1.length = 32) (x : ItT) (high : UInt64) (hok : itCheck x = 0) (hi : s.2.1[(spanI x).1.toNat]? = some high)
    (hold : ¬ (spanI x).2.2 ≤ high) (hjump : ¬ high + 1 < (spanI x).2.1) (hy : Good (putY x high)) (size : Int64) : ∀ (m : Nat) (t : SpT) (f : UInt64), nl t.1.2.2.2.2 < m →
      (t.1.2.2.2.2.length ≤ 900) → (∀ e ∈ t.1.2.2.2.2, Good e.2) → t.1.1 = s.1.1 → t.1.2.2.1 = s.1.2.2.1 → t.1.2.2.2.1 = s.1.2.2.2.1 → t.2.1 = s.2.1 → (∀ l1, Evs t.1.2.2.2.2 l1 → Evs s.1.2.2.2.2 l1) →
    ∃ y, F9_R510 n m f (spanI x).1 (spanI x).2.2 size (some s) (putY x high).1 (putY x high).2.1 (putY x high).2.2.1 (putY x high).2.2.2.1 (putY x high).2.2.2.2.1 (putY x high).2.2.2.2.2.1 (putY x high).2.2.2.2.2.2.1
      (putY x high).2.2.2.2.2.2.2.1 (putY x high).2.2.2.2.2.2.2.2.1 (putY x high).2.2.2.2.2.2.2.2.2.1 (putY x high).2.2.2.2.2.2.2.2.2.2.1 (putY x high).2.2.2.2.2.2.2.2.2.2.2.1 (putY x high).2.2.2.2.2.2.2.2.2.2.2.2 (some t) = some y ∧ PutR s y x high := by
  intro m
  induction m with
  | zero => intros; omega
  | succ m ih =>
    intro t f hm hl hg hq hnx hac hhi hev
    rw [F9_R510_s]
    unfold F9_L510
    simp only [obind_s, Prod.eta]
    by_cases hroom : t.1.1 < t.1.2.1 + size
    · rw [dec_t hroom, oite_t]
      obtain ⟨r, e1, hr⟩ := victim_spec n hn t (by omega)
      rw [e1]
      simp only [obind_s]
      rw [idx_lt0 r fun k hk => by subst hk; have := hr.1; omega]
      cases r with
      | none => exact ⟨_, rfl, _, _, _, _, rfl, .inl ⟨by decide, rfl, rfl⟩⟩
      | some k =>
        obtain ⟨h1, h2, h3, h4⟩ := hr
        rw [show (some k).isNone = false from rfl, oite_f, show idxV (some k) = I64 k from rfl]
        obtain ⟨ix, u, ev, l', rU, rD, e2, he⟩ := evict_spec n hn t k h2 (by omega) hg
        rw [e2]
        simp only [obind_s]
        have hlen := he.len
        have go : ∀ f', ∃ y, F9_R510 n m f' (spanI x).1 (spanI x).2.2 size (some s) (putY x high).1 (putY x high).2.1 (putY x high).2.2.1 (putY x high).2.2.2.1 (putY x high).2.2.2.2.1 (putY x high).2.2.2.2.2.1 (putY x high).2.2.2.2.2.2.1
            (putY x high).2.2.2.2.2.2.2.1 (putY x high).2.2.2.2.2.2.2.2.1 (putY x high).2.2.2.2.2.2.2.2.2.1 (putY x high).2.2.2.2.2.2.2.2.2.2.1 (putY x high).2.2.2.2.2.2.2.2.2.2.2.1 (putY x high).2.2.2.2.2.2.2.2.2.2.2.2
            (some ((t.1.1, u, t.1.2.2.1, t.1.2.2.2.1, l'), t.2.1, ev)) = some y ∧ PutR s y x high := fun f' =>
          ih ((t.1.1, u, t.1.2.2.1, t.1.2.2.2.1, l'), t.2.1, ev) f' (by have := he.fewer h3; dsimp only; omega) (by dsimp only; omega) (he.good hg) hq hnx hac hhi fun l1 h => hev l1 (.step ⟨h1, h2, h3, h4⟩ he h)
        cases decide (f = 0) with
        | true => rw [oite_t]; exact go _
        | false =>
          rw [oite_f]
          cases decide (ix < f) with
          | true => rw [oite_t]; exact go _
          | false => rw [oite_f]; exact go _
    · rw [dec_f hroom, oite_f]
      have e30 : F30 n (putY x high) = some (putY x high, ()) := clone_eq n _ (by have := hy.labs; omega)
      rw [e30]
      simp only [obind_s, ojoinA_eq]
      rw [ble_t (by simp; omega), oite_t]
      have hg' : ∀ e ∈ t.1.2.2.2.2 ++ [(t.1.2.2.1, putY x high)], Good e.2 := by
        intro e he
        rcases List.mem_append.1 he with h | h
        · exact hg e h
        · simp only [List.mem_singleton] at h; rw [h]; exact hy
      obtain ⟨ix, u, rD, e3, hD⟩ := last_spec n hn ((t.1.1, t.1.2.1 + size, t.1.2.2.1, t.1.2.2.2.1, t.1.2.2.2.2 ++ [(t.1.2.2.1, putY x high)]), t.2) (by simp; omega) hg' t.1.2.2.2.2.length (by simp)
      rw [e3]
      simp only [obind_s]
      have hD : DownSpec (t.1.2.2.2.2 ++ [(s.1.2.2.1, putY x high)]) (spanI (putY x high)).1 t.1.2.2.2.2.length rD := by
        rw [← hnx]
        have e : orgE ((t.1.2.2.2.2 ++ [(t.1.2.2.1, putY x high)])[t.1.2.2.2.2.length]'(by simp)) = (spanI (putY x high)).1 := by
          rw [List.getElem_append_right (Nat.le_refl _)]
          simp only [Nat.sub_self, List.getElem_cons_zero]
          rfl
        rw [← e]; exact hD
      have go : ∀ f', ∃ y, F9_J2047 f' (spanI x).1 (spanI x).2.2 (some s) (some ((t.1.1, u, t.1.2.2.1, t.1.2.2.2.1, joinD (t.1.2.2.2.2 ++ [(t.1.2.2.1, putY x high)]) t.1.2.2.2.2.length rD), t.2)) = some y ∧ PutR s y x high := fun f' =>
        j2047 s hh x high f' _ t.1.2.2.2.2 rD hok hi hold hjump (hev _ (.refl _)) hD (by dsimp only; rw [hnx]) hq hnx hac hhi
      cases decide (0 < ix) with
      | false => rw [oite_f]; exact go _
      | true =>
        rw [oite_t]
        cases decide (f = 0) with
        | true => rw [oite_t]; exact go _
        | false =>
          rw [oite_f]
          cases decide (ix < f) with
          | true => rw [oite_t]; exact go _
          | false => rw [oite_f]; exact go _
end Go.Proofs.Ytblldmpkljcnjaa
