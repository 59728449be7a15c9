/- A part of the proof: a walk of Go code by plain functions, and that it is sound. -/
import Derived.Test.YtehelahnlnfofaaSxSound19
namespace Go.Sx
section
variable {Pg : Program}

theorem giveR_cons (t : PTy) (ts : PTys) (x : (PTys.cons t ts).T) (n : Nat) :
    (∃ s, giveR (.cons t ts) x n = (s :: (giveR ts (PTys.tl t ts x) (n + 1)).1, (giveR ts (PTys.tl t ts x) (n + 1)).2) ∧ ∀ e, t ≠ .one (.ptr e)) ∨
    ∃ y, giveR (.cons t ts) x n = (.inl (.own n) :: (giveR ts (PTys.tl t ts x) (n + 1)).1, (n, y) :: (giveR ts (PTys.tl t ts x) (n + 1)).2) := by
  cases t with
  | agg e => exact .inl ⟨_, rfl, fun _ h => by cases h⟩
  | one t =>
    cases t with
    | c t => exact .inl ⟨_, rfl, fun _ h => by cases h⟩
    | row e => exact .inr ⟨_, rfl⟩
    | ptr e => exact .inr ⟨_, rfl⟩

theorem giveR_ge : ∀ (ps : PTys) (x : ps.T) (n : Nat), ∀ p ∈ (giveR ps x n).2, n ≤ p.1
  | .nil, _, _, p, h => by simp [giveR] at h
  | .cons t ts, x, n, p, h => by
    have ih := giveR_ge ts (PTys.tl t ts x) (n + 1)
    rcases giveR_cons t ts x n with ⟨s, e, _⟩ | ⟨y, e⟩
    · rw [e] at h; have := ih p h; omega
    · rw [e] at h
      rcases List.mem_cons.1 h with h | h
      · subst h; exact Nat.le_refl _
      · have := ih p h; omega
theorem giveR_nodup : ∀ (ps : PTys) (x : ps.T) (n : Nat), ((giveR ps x n).2.map (·.1)).Nodup
  | .nil, _, _ => by simp [giveR]
  | .cons t ts, x, n => by
    have ih := giveR_nodup ts (PTys.tl t ts x) (n + 1)
    rcases giveR_cons t ts x n with ⟨s, e, _⟩ | ⟨y, e⟩
    · rw [e]; exact ih
    · rw [e, List.map_cons, List.nodup_cons]
      refine ⟨fun h => ?_, ih⟩
      obtain ⟨p, hp, h⟩ := List.mem_map.1 h
      have := giveR_ge ts (PTys.tl t ts x) (n + 1) p hp
      have h : p.1 = n := h
      omega
theorem ptrPins_ge : ∀ (ps : PTys) (n : Nat), ∀ i ∈ ptrPins ps n, n ≤ i
  | .nil, _, _, h => by simp [ptrPins] at h
  | .cons t ts, n, i, h => by
    have ih := ptrPins_ge ts (n + 1) i
    cases t with
    | agg e => simp only [ptrPins] at h; have := ih h; omega
    | one t =>
      cases t with
      | c t => simp only [ptrPins] at h; have := ih h; omega
      | row e => simp only [ptrPins] at h; have := ih h; omega
      | ptr e =>
        simp only [ptrPins] at h
        rcases List.mem_cons.1 h with h | h
        · omega
        · have := ih h; omega
theorem giveR_pin {P : PHeap} {η : HMap} : ∀ (ps : PTys) (x : ps.T) (n : Nat) (vs : List Value), DenPs P η (giveR ps x n).1 vs → ∀ i ∈ ptrPins ps n, ∀ u, i = n + u → ∀ v, vs[u]? = some v → η i = some v
  | .nil, _, _, _, _, i, h, _, _, _, _ => by simp [ptrPins] at h
  | .cons t ts, x, n, vs, hd, i, hi, u, hu, v, hv => by
    have hcase : (∃ e, t = .one (.ptr e) ∧ i = n) ∨ i ∈ ptrPins ts (n + 1) := by
      cases t with
      | agg e => simp only [ptrPins] at hi; exact .inr hi
      | one t =>
        cases t with
        | c t => simp only [ptrPins] at hi; exact .inr hi
        | row e => simp only [ptrPins] at hi; exact .inr hi
        | ptr e =>
          simp only [ptrPins] at hi
          rcases List.mem_cons.1 hi with h | h
          · exact .inl ⟨e, rfl, h⟩
          · exact .inr h
    rcases hcase with ⟨e, rfl, rfl⟩ | hi'
    · have hu0 : u = 0 := by omega
      subst hu0
      rcases giveR_cons (.one (.ptr e)) ts x i with ⟨s, _, h2⟩ | ⟨y, h1⟩
      · exact absurd rfl (h2 e)
      · rw [h1] at hd
        obtain ⟨w, vs', rfl, h3, _⟩ := hd
        simp at hv; subst hv
        exact h3
    · have hge := ptrPins_ge ts (n + 1) i hi'
      have hd' : ∃ w vs', vs = w :: vs' ∧ DenPs P η (giveR ts (PTys.tl t ts x) (n + 1)).1 vs' := by
        rcases giveR_cons t ts x n with ⟨s, h1, _⟩ | ⟨y, h1⟩
        · rw [h1] at hd
          cases s with
          | inl s => obtain ⟨w, vs', a, b, c⟩ := hd; exact ⟨w, vs', a, c⟩
          | inr s => obtain ⟨w, vs', a, b, c⟩ := hd; exact ⟨w, vs', a, c⟩
        · rw [h1] at hd; obtain ⟨w, vs', a, b, c⟩ := hd; exact ⟨w, vs', a, c⟩
      obtain ⟨w, vs', rfl, hd'⟩ := hd'
      obtain ⟨u', rfl⟩ : ∃ u', u = u' + 1 := ⟨u - 1, by omega⟩
      exact giveR_pin ts _ (n + 1) vs' hd' i hi' u' (by omega) v (by simpa using hv)

theorem ptrPins_lt : ∀ (ps : PTys) (n c : Nat), c ∈ ptrPins ps n → c < n + psize ps
  | .nil, n, c, h => by simp [ptrPins] at h
  | .cons (.one (.ptr e)) ts, n, c, h => by
    simp only [ptrPins] at h
    rcases List.mem_cons.1 h with rfl | h
    · simp [psize]
    · have := ptrPins_lt ts (n + 1) c h; simp only [psize]; omega
  | .cons (.one (.c t)) ts, n, c, h => by simp only [ptrPins] at h; have := ptrPins_lt ts (n + 1) c h; simp only [psize]; omega
  | .cons (.one (.row t)) ts, n, c, h => by simp only [ptrPins] at h; have := ptrPins_lt ts (n + 1) c h; simp only [psize]; omega
  | .cons (.agg t) ts, n, c, h => by simp only [ptrPins] at h; have := ptrPins_lt ts (n + 1) c h; simp only [psize]; omega

/-- A function does what the walk has found. -/
theorem fun_sound {E : Env} (hE : EnvOK Pg E) {f : Nat} {fn : Func} {c : Code} {sig : Sig} (hf : Pg.funcs[f]? = some fn) (hb : fn.body = some c) (hn : fn.ntmps = E.ntmps)
    (hsz : Nat.ble (psize sig.ps) E.ntmps = true) (hpins : E.pins = ptrPins sig.ps 0) : Contract Pg ⟨f, sig, sxFun E sig c fn.results.toList⟩ := by
  intro P W args x fp hps hrep hnd hfps r hr
  simp only [sxFun, stF_eq] at hr
  have hsz := Nat.le_of_ble_eq_true hsz
  have hlen : args.length = psize sig.ps := PTys.Rep.length hrep
  obtain ⟨L, l1, l2, l3, l4⟩ := giveR_sound sig.ps x 0 args fp hrep
  let pins : HMap := fun c => if c ∈ ptrPins sig.ps 0 then args[c]? else none
  let cx : Cx := ⟨W, P, fp, pins⟩
  have I0 : Inv cx P (fun _ => none) (fun _ => []) [] W :=
    ⟨fun c x h => by simp [Map.get] at h, fun c x h => by simp [Map.get] at h, fun c d x y _ h => by simp [Map.get] at h, fun c x h => by simp [Map.get] at h, hps, Ext.refl _ _, PHeap.le_refl _, fun b h => .inl h, fun c w h => by cases h⟩
  have hkeys := giveR_nodup sig.ps x 0
  obtain ⟨g1, g2⟩ := l1.get hkeys
  have hLk : (L.map (·.1)).Nodup := by rw [l1.keys]; exact hkeys
  have I1 := I0.install (P' := P) (W' := W) (tab' := (giveR sig.ps x 0).2) fp L (fun b hb => ⟨(hfps b hb).2, .inl hb⟩) (fun c x h => by simp [Map.get] at h) (Ext.refl _ _) (PHeap.le_refl _) hps (fun b h => .inl h)
    (fun d v f hd => by
      obtain ⟨y, hy⟩ := (g1 d).1 ⟨_, hd⟩
      exact ⟨.inl rfl, (g2 d v f y hd hy).1⟩)
    (fun d y hd => .inl ((g1 d).2 ⟨y, Map.get_mem hd⟩))
    (fun d v f y hd hy => (g2 d v f y hd (Map.get_mem hy)).2 _)
    (by rw [l2]; exact hnd) (fun b hb => by rw [l2] at hb; exact ⟨.inl hb, (hfps b hb).1, (hfps b hb).2⟩)
  have hden := l4 (addE L fun _ => none) fun d v f hm => addE_mem hLk hm
  have hfree : FreeFrom (addE L fun _ => none) (psize sig.ps) := by
    intro c hc
    unfold addE
    cases hg : Map.get L c with
    | none => rfl
    | some p =>
      obtain ⟨y, hy⟩ := (g1 c).1 ⟨_, hg⟩
      have := l3 _ hy
      simp at this
      omega
  refine calls_of_wp hf hb ?_
  refine sx_sound hE (cx := cx) (fun c v h => ?_) (fun c hc => ?_) c 1 _ _ r hr P _ _ _ W ⟨I1, ?_, ?_, rfl, ?_⟩ hfree _ ?_
  · rw [hpins]
    have h : (if c ∈ ptrPins sig.ps 0 then args[c]? else none) = some v := h
    by_cases hm : c ∈ ptrPins sig.ps 0
    · exact hm
    · rw [if_neg hm] at h; cases h
  · rw [hpins] at hc
    have hlt : c < args.length := by rw [hlen]; have := ptrPins_lt sig.ps 0 c hc; omega
    exact ⟨args[c], by show (if c ∈ ptrPins sig.ps 0 then args[c]? else none) = _; rw [if_pos hc]; simp [hlt]⟩
  · intro t
    have h1 := (enterS_den (giveR sig.ps x 0).1 args 0 hden t).2 t (by omega) undef
    have h2 : (args.toArray ++ Array.replicate (fn.ntmps - args.toArray.size) undef).getD t undef = (args[t]?).getD undef := by
      rw [Array.getD_eq_getD_getElem?]
      by_cases ht : t < args.length
      · rw [Array.getElem?_append_left (by simpa using ht)]; simp
      · rw [Array.getElem?_append_right (by simpa using ht), List.getElem?_eq_none (by omega)]
        rw [Array.getElem?_replicate]
        split <;> rfl
    rw [h2]; exact h1
  · simp only [Array.size_append, List.size_toArray, Array.size_replicate]; omega
  · intro c v h
    have h : (if c ∈ ptrPins sig.ps 0 then args[c]? else none) = some v := h
    by_cases hm : c ∈ ptrPins sig.ps 0
    · rw [if_pos hm] at h
      exact giveR_pin sig.ps x 0 args hden c hm c (by omega) v h
    · rw [if_neg hm] at h; cases h
  · intro e st a W' P' ε' φ' hk M hf'
    have key : leaveK E sig fn.results.toList st = some r → a.defers = [] ∧ ∃ v, (results fn a.tmps).run Pg W' = .ok v W' ∧ (fun (e : Ending) W' => ∃ v P' vs fr fo, e = .returned v ∧ Done W P fp ⟨f, sig, sxFun E sig c fn.results.toList⟩ args r v W' P' vs fr fo) (.returned v) W' := by
      intro hk
      refine ⟨M.dfs, ?_⟩
      unfold leaveK at hk
      rw [Prog.runK_eq] at hk
      cases hrun : (leaveP E sig fn.results.toList st.slots).run st.tab with
      | none => rw [hrun] at hk; cases hk
      | some p =>
        obtain ⟨r', tab'⟩ := p
        rw [hrun] at hk
        simp only [Option.bind_some, Option.some.injEq] at hk
        subst hk
        unfold leaveP at hrun
        obtain ⟨l, t1, k1, hrun⟩ := run_bind_inv hrun
        obtain ⟨rr, t2, k2, hrun⟩ := run_bind_inv hrun
        obtain ⟨y, t3, k3, hrun⟩ := run_bind_inv hrun
        obtain ⟨rfl, rfl⟩ := run_pure_inv hrun
        obtain ⟨rfl, vs, q1, q2⟩ := resultsP_sound hE.tt M.slots M.inv fn.results.toList l t1 k1
        obtain ⟨P1, φ1, fr, p1, p2, p3, p4, p5⟩ := takePs_sound sig.rs l vs rr _ t2 P' φ' [] M.inv Held.nil q2 k2
        rw [List.append_nil] at p3
        have hpo : PinsOK ε' sig.ps args 0 := pins_of hrep fun i hi u hu v hv => M.pin i v (by
          show (if i ∈ ptrPins sig.ps 0 then args[i]? else none) = some v
          rw [if_pos hi]
          have : i = u := by omega
          rw [this]; exact hv)
        obtain ⟨P2, φ2, fo, o1, o2, o3, o4⟩ := takeOuts_sound sig.ps args 0 y t2 _ P1 φ1 fr p2 p3 hpo k3
        refine ⟨retV vs, results_run q1, retV vs, P2, vs, fr, fo, rfl, rfl, o2.pmono, o2.psub, PTys.Rep.mono' o1 p4, o4, o3.nd, fun b hb => o3.ok b hb, o2.ext, o2.pnew⟩
    cases e with
    | normal => exact key hk
    | ret => exact key hk
    | exit i => cases hk
end
end Go.Sx
