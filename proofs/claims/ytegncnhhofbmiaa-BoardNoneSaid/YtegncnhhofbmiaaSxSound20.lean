/- A walk of Go code by plain functions is sound. -/
import Derived.Test.YtegncnhhofbmiaaSxSound19
namespace Go.Sx
section
variable {Pg : Program}

theorem giveR_cons (t : PTy) (ts : PTys) (x : (PTys.cons t ts).T) (n : Nat) :
    ∃ s l, giveR (.cons t ts) x n = (s :: (giveR ts (PTys.tl t ts x) (n + t.w)).1, l ++ (giveR ts (PTys.tl t ts x) (n + t.w)).2) ∧ (∀ p ∈ l, n ≤ p.1 ∧ p.1 < n + t.w) ∧ (l.map (·.1)).Nodup ∧
      (∀ e, t = .one (.ptr e) → s = .inl (.own n)) ∧ (∀ e, t = .oagg e → ∃ z : e.T, s = .inr (unfoldCells e z n).1) ∧ (∀ e, t = .one (.row e) → s = .inl (.own n)) ∧ (∀ p c m q, t = .one (.ptrA p c m q) → s = .inl (.own n)) := by
  have one : ∀ y : Chunk, (∀ p ∈ [(n, y)], n ≤ p.1 ∧ p.1 < n + 1) ∧ (([(n, y)] : List (Nat × Chunk)).map (·.1)).Nodup := fun y => ⟨by simp, by simp⟩
  cases t with
  | agg e => exact ⟨_, [], rfl, by simp, by simp, fun e h => by (cases h), fun e h => by (cases h), fun e h => by (cases h), fun _ _ _ _ h => by (cases h)⟩
  | oagg e =>
    refine ⟨_, _, rfl, fun p hp => ?_, ?_, fun e h => by (cases h), fun e h => by (cases h; exact ⟨_, rfl⟩), fun e h => by (cases h), fun _ _ _ _ h => by (cases h)⟩
    · have := unfoldCells_ids e _ n p hp; simp only [PTy.w]; omega
    · exact unfold_nodup e _ n
  | mvr e => exact ⟨_, [(n, _)], rfl, (one _).1, (one _).2, fun e h => by (cases h), fun e h => by (cases h), fun e h => by (cases h), fun _ _ _ _ h => by (cases h)⟩
  | rs off e => exact ⟨_, [(n, _)], rfl, (one _).1, (one _).2, fun e h => by (cases h), fun e h => by (cases h), fun e h => by (cases h), fun _ _ _ _ h => by (cases h)⟩
  | mv e =>
    refine ⟨_, _, rfl, fun p hp => ?_, ?_, fun e h => by (cases h), fun e h => by (cases h), fun e h => by (cases h), fun _ _ _ _ h => by (cases h)⟩
    · have := unfoldCells_ids e _ n p hp; simp only [PTy.w]; omega
    · exact unfold_nodup e _ n
  | one t =>
    cases t with
    | c t => exact ⟨_, [], rfl, by simp, by simp, fun e h => by (cases h), fun e h => by (cases h), fun e h => by (cases h), fun _ _ _ _ h => by (cases h)⟩
    | row e => exact ⟨_, [(n, _)], rfl, (one _).1, (one _).2, fun e h => rfl, fun e h => by (cases h), fun e h => rfl, fun _ _ _ _ h => rfl⟩
    | ptr e => exact ⟨_, [(n, _)], rfl, (one _).1, (one _).2, fun e h => rfl, fun e h => by (cases h), fun e h => rfl, fun _ _ _ _ h => rfl⟩
    | ptrA p c m q => exact ⟨_, [(n, _)], rfl, (one _).1, (one _).2, fun e h => rfl, fun e h => by (cases h), fun e h => rfl, fun _ _ _ _ h => rfl⟩
    | map k u => exact ⟨_, [(n, _)], rfl, (one _).1, (one _).2, fun e h => rfl, fun e h => by (cases h), fun e h => rfl, fun _ _ _ _ h => rfl⟩
where
  unfold_nodup : ∀ (e : OTs) (x : e.T) (n : Nat), ((unfoldCells e x n).2.map (·.1)).Nodup
    | .nil, _, _ => by simp [unfoldCells]
    | .cons t ts, x, n => by
      have ih := unfold_nodup ts (OTs.tl t ts x) (n + 1)
      have key : ∀ y : Chunk, (((n, y) :: (unfoldCells ts (OTs.tl t ts x) (n + 1)).2).map (·.1)).Nodup := fun y => by
        rw [List.map_cons, List.nodup_cons]
        refine ⟨fun h => ?_, ih⟩
        obtain ⟨p, hp, h⟩ := List.mem_map.1 h
        have := unfoldCells_ids ts (OTs.tl t ts x) (n + 1) p hp
        have h : p.1 = n := h
        omega
      cases t with
      | c t => exact ih
      | row e => exact key _
      | ptr e => exact key _
      | map k u => exact key _
      | ptrA a b c d => exact key _

theorem giveR_ge : ∀ (ps : PTys) (x : ps.T) (n : Nat), ∀ p ∈ (giveR ps x n).2, n ≤ p.1
  | .nil, _, _, p, h => by simp [giveR] at h
  | .cons t ts, x, n, p, h => by
    have ih := giveR_ge ts (PTys.tl t ts x) (n + t.w)
    obtain ⟨s, l, e, h1, _⟩ := giveR_cons t ts x n
    rw [e] at h
    rcases List.mem_append.1 h with h | h
    · exact (h1 p h).1
    · have := ih p h; omega
theorem giveR_nodup : ∀ (ps : PTys) (x : ps.T) (n : Nat), ((giveR ps x n).2.map (·.1)).Nodup
  | .nil, _, _ => by simp [giveR]
  | .cons t ts, x, n => by
    have ih := giveR_nodup ts (PTys.tl t ts x) (n + t.w)
    obtain ⟨s, l, e, h1, h2, _⟩ := giveR_cons t ts x n
    rw [e, List.map_append]
    refine List.nodup_append.2 ⟨h2, ih, fun a ha b hb hab => ?_⟩
    obtain ⟨p, hp, rfl⟩ := List.mem_map.1 ha
    obtain ⟨q, hq, rfl⟩ := List.mem_map.1 hb
    have := h1 p hp
    have := giveR_ge ts (PTys.tl t ts x) (n + t.w) q hq
    omega
theorem denPs_cons {P : PHeap} {η : HMap} {s : S1 ⊕ List S1} {l : List (S1 ⊕ List S1)} {vs : List Value} (h : DenPs P η (s :: l) vs) : ∃ v vs', vs = v :: vs' ∧ DenP P η s v ∧ DenPs P η l vs' := h
theorem lend_den {P : PHeap} {η ε : HMap} : ∀ (e : OTs) (x : e.T) (n : Nat) (vs : List Value), DenL P η (unfoldCells e x n).1 vs → (∀ i ∈ lendPins e n, ∀ v, η i = some v → ε i = some v) → LendPins ε e vs n
  | .nil, _, _, _, h, _ => h
  | .cons t ts, x, n, vs, hd, h => by
    cases t with
    | c t =>
      obtain ⟨v, vs', rfl, h2, h3⟩ := hd
      simp only [LendPins]
      exact lend_den ts _ (n + 1) vs' h3 fun i hi => h i (by simpa only [lendPins] using hi)
    | ptr t =>
      obtain ⟨v, vs', rfl, h2, h3⟩ := hd
      simp only [LendPins]
      exact lend_den ts _ (n + 1) vs' h3 fun i hi => h i (by simpa only [lendPins] using hi)
    | map a b =>
      obtain ⟨v, vs', rfl, h2, h3⟩ := hd
      simp only [LendPins]
      exact lend_den ts _ (n + 1) vs' h3 fun i hi => h i (by simpa only [lendPins] using hi)
    | ptrA a b c d =>
      obtain ⟨v, vs', rfl, h2, h3⟩ := hd
      simp only [LendPins]
      exact lend_den ts _ (n + 1) vs' h3 fun i hi => h i (by simpa only [lendPins] using hi)
    | row t =>
      obtain ⟨v, vs', rfl, h2, h3⟩ := hd
      simp only [LendPins]
      exact ⟨h n (by simp [lendPins]) v h2, lend_den ts _ (n + 1) vs' h3 fun i hi => h i (by simp only [lendPins]; exact List.mem_cons_of_mem _ hi)⟩
theorem lend_some {P : PHeap} {η : HMap} : ∀ (e : OTs) (x : e.T) (n : Nat) (vs : List Value), DenL P η (unfoldCells e x n).1 vs → ∀ i ∈ lendPins e n, ∃ v, η i = some v
  | .nil, _, _, _, _, i, h => by simp [lendPins] at h
  | .cons t ts, x, n, vs, hd, i, hi => by
    cases t with
    | c t => obtain ⟨v, vs', rfl, h2, h3⟩ := hd; exact lend_some ts _ (n + 1) vs' h3 i (by simpa only [lendPins] using hi)
    | ptr t => obtain ⟨v, vs', rfl, h2, h3⟩ := hd; exact lend_some ts _ (n + 1) vs' h3 i (by simpa only [lendPins] using hi)
    | map a b => obtain ⟨v, vs', rfl, h2, h3⟩ := hd; exact lend_some ts _ (n + 1) vs' h3 i (by simpa only [lendPins] using hi)
    | ptrA a b c d => obtain ⟨v, vs', rfl, h2, h3⟩ := hd; exact lend_some ts _ (n + 1) vs' h3 i (by simpa only [lendPins] using hi)
    | row t =>
      obtain ⟨v, vs', rfl, h2, h3⟩ := hd
      simp only [lendPins] at hi
      rcases List.mem_cons.1 hi with rfl | hi
      · exact ⟨v, h2⟩
      · exact lend_some ts _ (n + 1) vs' h3 i hi
theorem pins_den {P : PHeap} {η ε : HMap} : ∀ (ps : PTys) (x : ps.T) (n : Nat) (vs : List Value), DenPs P η (giveR ps x n).1 vs → (∀ i ∈ ptrPins ps n, ∀ v, η i = some v → ε i = some v) → PinsOK ε ps vs n
  | .nil, _, _, _, _, _ => by simp only [PinsOK]
  | .cons t ts, x, n, vs, hd, h => by
    obtain ⟨s, l, eq, _, _, h3⟩ := giveR_cons t ts x n
    rw [eq] at hd
    obtain ⟨v, vs', rfl, h4, h5⟩ := denPs_cons hd
    cases t with
    | agg e => simp only [PinsOK]; exact pins_den ts _ (n + 1) vs' h5 fun i hi => h i (by simpa only [ptrPins] using hi)
    | mv e => simp only [PinsOK]; exact pins_den ts _ (n + (e.size + 1)) vs' h5 fun i hi => h i (by simpa only [ptrPins] using hi)
    | mvr e => simp only [PinsOK]; exact pins_den ts _ (n + 1) vs' h5 fun i hi => h i (by simpa only [ptrPins] using hi)
    | rs off e => simp only [PinsOK]; exact pins_den ts _ (n + 1) vs' h5 fun i hi => h i (by simpa only [ptrPins] using hi)
    | oagg e =>
      simp only [PinsOK]
      obtain ⟨z, hz⟩ := h3.2.1 e rfl
      rw [hz] at h4
      obtain ⟨cs, rfl, h6⟩ := h4
      exact ⟨⟨cs, rfl, lend_den e z n cs.toList h6 fun i hi => h i (by simp only [ptrPins]; exact List.mem_append_left _ hi)⟩, pins_den ts _ (n + (e.size + 1)) vs' h5 fun i hi => h i (by simp only [ptrPins]; exact List.mem_append_right _ hi)⟩
    | one t =>
      cases t with
      | c t => simp only [PinsOK]; exact pins_den ts _ (n + 1) vs' h5 fun i hi => h i (by simpa only [ptrPins] using hi)
      | map k u => simp only [PinsOK]; exact pins_den ts _ (n + 1) vs' h5 fun i hi => h i (by simpa only [ptrPins] using hi)
      | ptr e =>
        rw [h3.1 e rfl] at h4
        simp only [PinsOK]
        exact ⟨h n (by simp [ptrPins]) v h4, pins_den ts _ (n + 1) vs' h5 fun i hi => h i (by simp only [ptrPins]; exact List.mem_cons_of_mem _ hi)⟩
      | row e =>
        rw [h3.2.2.1 e rfl] at h4
        simp only [PinsOK]
        exact ⟨h n (by simp [ptrPins]) v h4, pins_den ts _ (n + 1) vs' h5 fun i hi => h i (by simp only [ptrPins]; exact List.mem_cons_of_mem _ hi)⟩
      | ptrA a b c d =>
        rw [h3.2.2.2 a b c d rfl] at h4
        simp only [PinsOK]
        exact ⟨h n (by simp [ptrPins]) v h4, pins_den ts _ (n + 1) vs' h5 fun i hi => h i (by simp only [ptrPins]; exact List.mem_cons_of_mem _ hi)⟩
theorem pins_some {P : PHeap} {η : HMap} : ∀ (ps : PTys) (x : ps.T) (n : Nat) (vs : List Value), DenPs P η (giveR ps x n).1 vs → ∀ i ∈ ptrPins ps n, ∃ v, η i = some v
  | .nil, _, _, _, _, i, h => by simp [ptrPins] at h
  | .cons t ts, x, n, vs, hd, i, hi => by
    obtain ⟨s, l, eq, _, _, h3⟩ := giveR_cons t ts x n
    rw [eq] at hd
    obtain ⟨v, vs', rfl, h4, h5⟩ := denPs_cons hd
    cases t with
    | agg e => exact pins_some ts _ (n + 1) vs' h5 i (by simpa only [ptrPins] using hi)
    | mv e => exact pins_some ts _ (n + (e.size + 1)) vs' h5 i (by simpa only [ptrPins] using hi)
    | mvr e => exact pins_some ts _ (n + 1) vs' h5 i (by simpa only [ptrPins] using hi)
    | rs off e => exact pins_some ts _ (n + 1) vs' h5 i (by simpa only [ptrPins] using hi)
    | oagg e =>
      simp only [ptrPins] at hi
      rcases List.mem_append.1 hi with hi | hi
      · obtain ⟨z, hz⟩ := h3.2.1 e rfl
        rw [hz] at h4
        obtain ⟨cs, rfl, h6⟩ := h4
        exact lend_some e z n cs.toList h6 i hi
      · exact pins_some ts _ (n + (e.size + 1)) vs' h5 i hi
    | one t =>
      cases t with
      | c t => exact pins_some ts _ (n + 1) vs' h5 i (by simpa only [ptrPins] using hi)
      | row e =>
        rw [h3.2.2.1 e rfl] at h4
        simp only [ptrPins] at hi
        rcases List.mem_cons.1 hi with rfl | hi
        · exact ⟨v, h4⟩
        · exact pins_some ts _ (n + 1) vs' h5 i hi
      | ptrA a b c d =>
        rw [h3.2.2.2 a b c d rfl] at h4
        simp only [ptrPins] at hi
        rcases List.mem_cons.1 hi with rfl | hi
        · exact ⟨v, h4⟩
        · exact pins_some ts _ (n + 1) vs' h5 i hi
      | map k u => exact pins_some ts _ (n + 1) vs' h5 i (by simpa only [ptrPins] using hi)
      | ptr e =>
        rw [h3.1 e rfl] at h4
        simp only [ptrPins] at hi
        rcases List.mem_cons.1 hi with rfl | hi
        · exact ⟨v, h4⟩
        · exact pins_some ts _ (n + 1) vs' h5 i hi

/-- What a function's way ends with. -/
def lastK (E : Env) (sig : Sig) (rs : List ResultVar) : X → St → Option sig.Out := fun e st => match e with
  | .normal => leaveK E sig rs st
  | .ret => leaveK E sig rs st
  | .exit _ => none
theorem fun_sound_wpA {A : List Value → List Value} {τ : List (S1 ⊕ List S1) → List (S1 ⊕ List S1)} (hA : ∀ P ε l vs, DenPs P ε l vs → DenPs P ε (τ l) (A vs)) (hAl : ∀ vs, (A vs).length = vs.length) {E : Env} {td : Bool} (hE : EnvOK Pg E td) {f : Nat} {fn : Func} {c : Code} {sig : Sig} {F : sig.In → Option sig.Out} (hf : Pg.funcs[f]? = some fn) (hb : fn.body = some c) (hn : fn.ntmps = E.ntmps)
    (hsz : Nat.ble (plen sig.ps) E.ntmps = true)
    (hw : ∀ (x : sig.In) (r : sig.Out), F x = some r → ∀ (cx : Cx), cx.td = td → Glob Pg cx.P0 → (∀ c v, cx.pins c = some v → c ∈ ptrPins sig.ps 0) → (∀ c ∈ ptrPins sig.ps 0, ∃ v, cx.pins c = some v) → ∀ (P : PHeap) (ε : HMap) (φ : Nat → List Nat) (a : Act) (W : World),
      Match cx E.ntmps P ε φ (enterS (τ (giveR sig.ps x 0).1) 0) (giveR sig.ps x 0).2 a W → FreeFrom ε (psize sig.ps) → ∀ Q, Ends cx E.ntmps (lastK E sig fn.results.toList) r Q → c.wp Pg Q a W) : ContractA Pg ⟨f, sig, F⟩ (fun as => (A as).toArray) td := by
  intro P W args x fp hgl hps hrep hnd hfps r hr
  have hsz := Nat.le_of_ble_eq_true hsz
  have hlen : args.length = plen sig.ps := PTys.Rep.len hrep
  obtain ⟨L, l1, l2, l3, l4⟩ := giveR_sound sig.ps x 0 args fp hrep
  let pins : HMap := fun c => if c ∈ ptrPins sig.ps 0 then addE L (fun _ => none) c else none
  let cx : Cx := ⟨W, P, fp, pins, td⟩
  have I0 : Inv cx P (fun _ => none) (fun _ => []) [] W :=
    ⟨fun c x h => by simp [Map.get] at h, fun c x h => by simp [Map.get] at h, fun c d x y _ h => by simp [Map.get] at h, fun c x h => by simp [Map.get] at h, hps, Ext.refl _ _, PHeap.le_refl _, fun b h => .inl h, fun c w h => by cases h⟩
  have hkeys := giveR_nodup sig.ps x 0
  obtain ⟨g1, g2⟩ := l1.get hkeys
  have hLk : (L.map (·.1)).Nodup := by rw [l1.keys]; exact hkeys
  have I1 := I0.install (P' := P) (W' := W) (tab' := (giveR sig.ps x 0).2) fp L (fun b hb => ⟨(hfps b hb).2, .inl hb⟩) (fun c x h => by simp [Map.get] at h) (Ext.refl _ _) (PHeap.le_refl _) hps (fun b h => .inl h)
    (fun d v f hd => by
      obtain ⟨y, hy⟩ := (g1 d).1 ⟨_, hd⟩
      exact ⟨.inl rfl, (g2 d v f y hd hy).1⟩)
    (fun d y hd => .inl ((g1 d).2 ⟨y, Map.get_mem hd⟩))
    (fun d v f y hd hy => (g2 d v f y hd (Map.get_mem hy)).2 _)
    (by rw [l2]; exact hnd) (fun b hb => by rw [l2] at hb; exact ⟨.inl hb, (hfps b hb).1, (hfps b hb).2⟩)
  have hden := l4 (addE L fun _ => none) fun d v f hm => addE_mem hLk hm
  have hfree : FreeFrom (addE L fun _ => none) (psize sig.ps) := by
    intro c hc
    unfold addE
    cases hg : Map.get L c with
    | none => rfl
    | some p =>
      obtain ⟨y, hy⟩ := (g1 c).1 ⟨_, hg⟩
      have := l3 _ hy
      simp at this
      omega
  refine calls_of_wp hf hb ?_
  refine hw x r hr cx rfl hgl (fun c v h => ?_) (fun c hc => ?_) P _ _ _ W ⟨I1, ?_, ?_, rfl, ?_⟩ hfree _ ?_
  · have h : (if c ∈ ptrPins sig.ps 0 then addE L (fun _ => none) c else none) = some v := h
    by_cases hm : c ∈ ptrPins sig.ps 0
    · exact hm
    · rw [if_neg hm] at h; cases h
  · obtain ⟨v, hv⟩ := pins_some sig.ps x 0 args hden c hc
    exact ⟨v, by show (if c ∈ ptrPins sig.ps 0 then addE L (fun _ => none) c else none) = _; rw [if_pos hc]; exact hv⟩
  · intro t
    have h1 := (enterS_den (τ (giveR sig.ps x 0).1) (A args) 0 (hA _ _ _ _ hden) t).2 t (by omega) undef
    have hAl := hAl args
    have h2 : ((A args).toArray ++ Array.replicate (fn.ntmps - (A args).toArray.size) undef).getD t undef = ((A args)[t]?).getD undef := by
      rw [Array.getD_eq_getD_getElem?]
      by_cases ht : t < (A args).length
      · rw [Array.getElem?_append_left (by simpa using ht)]; simp
      · rw [Array.getElem?_append_right (by simpa using ht), List.getElem?_eq_none (by omega)]
        rw [Array.getElem?_replicate]
        split <;> rfl
    rw [h2]; exact h1
  · have hAl := hAl args
    simp only [Array.size_append, List.size_toArray, Array.size_replicate]; omega
  · intro c v h
    have h : (if c ∈ ptrPins sig.ps 0 then addE L (fun _ => none) c else none) = some v := h
    by_cases hm : c ∈ ptrPins sig.ps 0
    · rw [if_pos hm] at h
      exact h
    · rw [if_neg hm] at h; cases h
  · intro e st a W' P' ε' φ' hk M hf'
    have key : leaveK E sig fn.results.toList st = some r → a.defers = [] ∧ ∃ v, (results fn a.tmps).run Pg W' = .ok v W' ∧ (fun (e : Ending) W' => ∃ v P' vs fr fo, e = .returned v ∧ Done W P fp ⟨f, sig, F⟩ args r v W' P' vs fr fo td) (.returned v) W' := by
      intro hk
      refine ⟨M.dfs, ?_⟩
      unfold leaveK at hk
      rw [Prog.runK_eq] at hk
      cases hrun : (leaveP E sig fn.results.toList st.slots).run st.tab with
      | none => rw [hrun] at hk; cases hk
      | some p =>
        obtain ⟨r', tab'⟩ := p
        rw [hrun] at hk
        simp only [Option.bind_some, Option.some.injEq] at hk
        subst hk
        unfold leaveP at hrun
        obtain ⟨l, t1, k1, hrun⟩ := run_bind_inv hrun
        obtain ⟨rr, t2, k2, hrun⟩ := run_bind_inv hrun
        obtain ⟨y, t3, k3, hrun⟩ := run_bind_inv hrun
        obtain ⟨rfl, rfl⟩ := run_pure_inv hrun
        obtain ⟨rfl, vs, q1, q2⟩ := resultsP_sound hE.tt M.slots M.inv fn.results.toList l t1 k1
        obtain ⟨P1, φ1, fr, p1, p2, p3, p4, p5⟩ := takePs_sound sig.rs l vs rr _ t2 P' φ' [] M.inv Held.nil q2 k2
        rw [List.append_nil] at p3
        have hpo : PinsOK ε' sig.ps args 0 := pins_den sig.ps x 0 args hden fun i hi v hv => M.pin i v (by
          show (if i ∈ ptrPins sig.ps 0 then addE L (fun _ => none) i else none) = some v
          rw [if_pos hi]; exact hv)
        obtain ⟨P2, φ2, fo, o1, o2, o3, o4⟩ := takeOuts_sound sig.ps args 0 y t2 _ P1 φ1 fr p2 p3 hpo k3
        refine ⟨retV vs, results_run q1, retV vs, P2, vs, fr, fo, rfl, rfl, o2.pmono, o2.psub, PTys.Rep.mono' o1 p4, o4, o3.nd, fun b hb => o3.ok b hb, o2.ext, o2.pnew⟩
    cases e with
    | normal => exact key hk
    | ret => exact key hk
    | exit i => cases hk

theorem fun_sound_wp {E : Env} {td : Bool} (hE : EnvOK Pg E td) {f : Nat} {fn : Func} {c : Code} {sig : Sig} {F : sig.In → Option sig.Out} (hf : Pg.funcs[f]? = some fn) (hb : fn.body = some c) (hn : fn.ntmps = E.ntmps)
    (hsz : Nat.ble (plen sig.ps) E.ntmps = true)
    (hw : ∀ (x : sig.In) (r : sig.Out), F x = some r → ∀ (cx : Cx), cx.td = td → Glob Pg cx.P0 → (∀ c v, cx.pins c = some v → c ∈ ptrPins sig.ps 0) → (∀ c ∈ ptrPins sig.ps 0, ∃ v, cx.pins c = some v) → ∀ (P : PHeap) (ε : HMap) (φ : Nat → List Nat) (a : Act) (W : World),
      Match cx E.ntmps P ε φ (enterS (giveR sig.ps x 0).1 0) (giveR sig.ps x 0).2 a W → FreeFrom ε (psize sig.ps) → ∀ Q, Ends cx E.ntmps (lastK E sig fn.results.toList) r Q → c.wp Pg Q a W) : Contract Pg ⟨f, sig, F⟩ td :=
  fun_sound_wpA (A := fun as => as) (τ := fun l => l) (fun _ _ _ _ h => h) (fun _ => rfl) hE hf hb hn hsz hw

/-- A function does what the walk has found. -/
theorem fun_sound {E : Env} {td : Bool} (hE : EnvOK Pg E td) {f : Nat} {fn : Func} {c : Code} {sig : Sig} (hf : Pg.funcs[f]? = some fn) (hb : fn.body = some c) (hn : fn.ntmps = E.ntmps)
    (hsz : Nat.ble (plen sig.ps) E.ntmps = true) (hpins : E.pins = ptrPins sig.ps 0) : Contract Pg ⟨f, sig, sxFun E sig c fn.results.toList⟩ td := by
  refine fun_sound_wp hE hf hb hn hsz fun x r hr cx htd hgl h1 h2 P ε φ a W M hfr Q hQ => ?_
  subst htd
  simp only [sxFun, stF_eq] at hr
  exact sx_sound hE (cx := cx) hgl (fun c v h => by rw [hpins]; exact h1 c v h) (fun c hc => h2 c (by rw [← hpins]; exact hc)) c 1 _ _ r hr P ε φ a W M hfr Q hQ
theorem bndLast_den {f : Nat} : ∀ (P : PHeap) (ε : HMap) (l : List (S1 ⊕ List S1)) (vs : List Value), DenPs P ε l vs → DenPs P ε (bndLast f l) (bndArgs f vs)
  | P, ε, [], vs, h => by have h : vs = [] := h; subst h; rfl
  | P, ε, [s], vs, h => by
    obtain ⟨v, vs', rfl, h1, h2⟩ := h
    have h2 : vs' = [] := h2
    subst h2
    show DenPs P ε [bndOne f s] [bndVal f v]
    refine ⟨_, [], rfl, ?_, rfl⟩
    unfold bndOne
    split
    · exact ⟨v, h1, rfl⟩
    · exact trivial
  | P, ε, s :: s2 :: r, vs, h => by
    obtain ⟨v, vs', rfl, h1, v2, vs2, rfl, h3, h4⟩ := h
    have ih := bndLast_den (f := f) P ε (s2 :: r) (v2 :: vs2) ⟨v2, vs2, rfl, h3, h4⟩
    exact ⟨v, _, rfl, h1, ih⟩
theorem bndArgs_len (f : Nat) : ∀ vs : List Value, (bndArgs f vs).length = vs.length
  | [] => rfl
  | [_] => rfl
  | _ :: v2 :: r => by show (bndArgs f (v2 :: r)).length + 1 = _; rw [bndArgs_len f (v2 :: r)]; rfl
/-- The same, where the last parameter is a bound method. -/
theorem fun_soundB {E : Env} {td : Bool} (hE : EnvOK Pg E td) {f m : Nat} {fn : Func} {c : Code} {sig : Sig} (hf : Pg.funcs[f]? = some fn) (hb : fn.body = some c) (hn : fn.ntmps = E.ntmps)
    (hsz : Nat.ble (plen sig.ps) E.ntmps = true) (hpins : E.pins = ptrPins sig.ps 0) : ContractA Pg ⟨f, sig, sxFunB m E sig c fn.results.toList⟩ (fun as => (bndArgs m as).toArray) td := by
  refine fun_sound_wpA (A := bndArgs m) (τ := bndLast m) bndLast_den (bndArgs_len m) hE hf hb hn hsz fun x r hr cx htd hgl h1 h2 P ε φ a W M hfr Q hQ => ?_
  subst htd
  simp only [sxFunB, stF_eq] at hr
  exact sx_sound hE (cx := cx) hgl (fun c v h => by rw [hpins]; exact h1 c v h) (fun c hc => h2 c (by rw [← hpins]; exact hc)) c 1 _ _ r hr P ε φ a W M hfr Q hQ
end
end Go.Sx
