/- A walk of Go code by plain functions is sound. -/
import Derived.Test.YtegncnhhofbmiaaSxSound18
namespace Go.Sx
section
variable {Pg : Program}

/-! ### Entering -/
theorem enterS_den {P : PHeap} {ε : HMap} : ∀ (l : List (S1 ⊕ List S1)) (vs : List Value) (i : Nat), DenPs P ε l vs → ∀ t, (t < i → Slots.at (enterS l i) t = .one .dead) ∧
    ∀ u, t = i + u → ∀ d : Value, DenV P ε (Slots.at (enterS l i) t) ((vs[u]?).getD d)
  | [], vs, i, h, t => ⟨fun _ => rfl, fun u _ d => trivial⟩
  | .inl s :: l, _, i, ⟨v, vs', rfl, h1, h2⟩, t => by
    obtain ⟨k1, k2⟩ := enterS_den l vs' (i + 1) h2 t
    have hne : t ≠ i → Slots.at (enterS (.inl s :: l) i) t = Slots.at (enterS l (i + 1)) t := fun hne => by
      simp only [enterS, Slots.at, Map.get]
      cases hb : Nat.beq i t with
      | true => exact absurd (nbeq_true hb).symm hne
      | false => rfl
    refine ⟨fun hlt => by rw [hne (by omega)]; exact k1 (by omega), fun u hu d => ?_⟩
    cases u with
    | zero =>
      have hu : t = i := hu
      subst hu
      simp only [enterS, Slots.at, Map.get]
      have : Nat.beq t t = true := by simp
      rw [this]
      exact h1
    | succ u => rw [hne (by omega)]; exact k2 u (by omega) d
  | .inr s :: l, _, i, ⟨v, vs', rfl, h1, h2⟩, t => by
    obtain ⟨k1, k2⟩ := enterS_den l vs' (i + 1) h2 t
    have hne : t ≠ i → Slots.at (enterS (.inr s :: l) i) t = Slots.at (enterS l (i + 1)) t := fun hne => by
      simp only [enterS, Slots.at, Map.get]
      cases hb : Nat.beq i t with
      | true => exact absurd (nbeq_true hb).symm hne
      | false => rfl
    refine ⟨fun hlt => by rw [hne (by omega)]; exact k1 (by omega), fun u hu d => ?_⟩
    cases u with
    | zero =>
      have hu : t = i := hu
      subst hu
      simp only [enterS, Slots.at, Map.get]
      have : Nat.beq t t = true := by simp
      rw [this]
      exact h1
    | succ u => rw [hne (by omega)]; exact k2 u (by omega) d

theorem PTys.Rep.length {P : PHeap} {H : HView} : ∀ {ps : PTys} {x : ps.T} {vs : List Value} {fp : List Nat}, PTys.Rep P H ps x vs fp → vs.length ≤ psize ps
  | .nil, _, _, _, h => by rw [h.1]; exact Nat.le_refl _
  | .cons t _, _, _, _, ⟨v, vs', f1, f2, h1, _, _, h4⟩ => by
    have hw : 1 ≤ t.w := by cases t <;> simp [PTy.w]
    have := PTys.Rep.length h4
    rw [h1, List.length_cons]; simp only [psize]; omega

theorem PTys.Rep.len {P : PHeap} {H : HView} : ∀ {ps : PTys} {x : ps.T} {vs : List Value} {fp : List Nat}, PTys.Rep P H ps x vs fp → vs.length = plen ps
  | .nil, _, _, _, h => by rw [h.1]; rfl
  | .cons t _, _, _, _, ⟨v, vs', f1, f2, h1, _, _, h4⟩ => by
    have := PTys.Rep.len h4
    rw [h1, List.length_cons]; simp only [plen]; omega
theorem PTys.Rep.mono' {P Q : PHeap} {H : HView} (hl : P.le Q) : ∀ {ps : PTys} {x : ps.T} {vs : List Value} {fp : List Nat}, PTys.Rep P H ps x vs fp → PTys.Rep Q H ps x vs fp
  | .nil, _, _, _, h => h
  | .cons t _, _, _, _, ⟨v, vs', f1, f2, h1, h2, h3, h4⟩ => ⟨v, vs', f1, f2, h1, h2, PTy.Rep.mono hl t _ _ _ (fun _ _ => rfl) h3, PTys.Rep.mono' hl h4⟩

/-! ### The end -/
def LendPins (ε : HMap) : OTs → List Value → Nat → Prop
  | .nil, vs, _ => vs = []
  | .cons _ _, [], _ => False
  | .cons (.row _) ts, v :: vs, c => ε c = some v ∧ LendPins ε ts vs (c + 1)
  | .cons (.c _) ts, _ :: vs, c => LendPins ε ts vs (c + 1)
  | .cons (.ptr _) ts, _ :: vs, c => LendPins ε ts vs (c + 1)
  | .cons (.map _ _) ts, _ :: vs, c => LendPins ε ts vs (c + 1)
  | .cons (.ptrA _ _ _ _) ts, _ :: vs, c => LendPins ε ts vs (c + 1)
/-- Each pointer among the parameters still has its name. -/
def PinsOK (ε : HMap) : PTys → List Value → Nat → Prop
  | .nil, _, _ => True
  | .cons _ _, [], _ => False
  | .cons (.one (.ptr _)) ts, a :: as, c => ε c = some a ∧ PinsOK ε ts as (c + 1)
  | .cons (.one (.c _)) ts, _ :: as, c => PinsOK ε ts as (c + 1)
  | .cons (.one (.row _)) ts, a :: as, c => ε c = some a ∧ PinsOK ε ts as (c + 1)
  | .cons (.one (.map _ _)) ts, _ :: as, c => PinsOK ε ts as (c + 1)
  | .cons (.one (.ptrA _ _ _ _)) ts, a :: as, c => ε c = some a ∧ PinsOK ε ts as (c + 1)
  | .cons (.agg _) ts, _ :: as, c => PinsOK ε ts as (c + 1)
  | .cons (.mv e) ts, _ :: as, c => PinsOK ε ts as (c + (e.size + 1))
  | .cons (.mvr _) ts, _ :: as, c => PinsOK ε ts as (c + 1)
  | .cons (.rs _ _) ts, _ :: as, c => PinsOK ε ts as (c + 1)
  | .cons (.oagg e) ts, a :: as, c => (∃ cs : Array Value, a = .agg cs ∧ LendPins ε e cs.toList c) ∧ PinsOK ε ts as (c + (e.size + 1))

theorem LendRep.mono {P Q : PHeap} {H : HView} (hl : P.le Q) : ∀ {e : OTs} {vs : List Value} {r : OTs} {y : (lendT e r).T} {fp : List Nat} {k k' : r.T → List Nat → Prop}, (∀ y fp, k y fp → k' y fp) → LendRep P H e vs r y fp k → LendRep Q H e vs r y fp k'
  | .nil, _, _, _, _, _, _, hk, h => ⟨h.1, hk _ _ h.2⟩
  | .cons t _, [], _, _, _, _, _, _, h => by cases t <;> simp only [LendRep] at h
  | .cons (.row _) _, _ :: _, _, _, _, _, _, hk, ⟨f1, f2, h1, h2, h3⟩ => ⟨f1, f2, h1, OT.Rep.mono hl _ _ _ _ (fun _ _ => rfl) h2, LendRep.mono hl hk h3⟩
  | .cons (.c _) _, _ :: _, _, _, _, _, _, hk, h => by simp only [LendRep] at h ⊢; exact LendRep.mono hl hk h
  | .cons (.ptr _) _, _ :: _, _, _, _, _, _, hk, h => by simp only [LendRep] at h ⊢; exact LendRep.mono hl hk h
  | .cons (.map _ _) _, _ :: _, _, _, _, _, _, hk, h => by simp only [LendRep] at h ⊢; exact LendRep.mono hl hk h
  | .cons (.ptrA _ _ _ _) _, _ :: _, _, _, _, _, _, hk, h => by simp only [LendRep] at h ⊢; exact LendRep.mono hl hk h
theorem OutsRep.mono {P Q : PHeap} {H : HView} (hl : P.le Q) : ∀ {ps : PTys} {as : List Value} {y : ps.outs.T} {fp : List Nat}, OutsRep P H ps as y fp → OutsRep Q H ps as y fp
  | .nil, _, _, _, h => h
  | .cons _ _, [], _, _, h => by simp only [OutsRep] at h
  | .cons (.one (.ptr _)) _, _ :: _, _, _, ⟨f1, f2, h1, h2, h3⟩ => ⟨f1, f2, h1, OT.Rep.mono hl _ _ _ _ (fun _ _ => rfl) h2, OutsRep.mono hl h3⟩
  | .cons (.one (.c _)) _, _ :: _, _, _, h => by simp only [OutsRep] at h ⊢; exact OutsRep.mono hl h
  | .cons (.one (.row _)) _, _ :: _, _, _, ⟨f1, f2, h1, h2, h3⟩ => ⟨f1, f2, h1, OT.Rep.mono hl _ _ _ _ (fun _ _ => rfl) h2, OutsRep.mono hl h3⟩
  | .cons (.one (.map _ _)) _, _ :: _, _, _, h => by simp only [OutsRep] at h ⊢; exact OutsRep.mono hl h
  | .cons (.one (.ptrA _ _ _ _)) _, _ :: _, _, _, ⟨f1, f2, h1, h2, h3⟩ => ⟨f1, f2, h1, OT.Rep.mono hl _ _ _ _ (fun _ _ => rfl) h2, OutsRep.mono hl h3⟩
  | .cons (.agg _) _, _ :: _, _, _, h => by simp only [OutsRep] at h ⊢; exact OutsRep.mono hl h
  | .cons (.mv _) _, _ :: _, _, _, h => by simp only [OutsRep] at h ⊢; exact OutsRep.mono hl h
  | .cons (.mvr _) _, _ :: _, _, _, h => by simp only [OutsRep] at h ⊢; exact OutsRep.mono hl h
  | .cons (.rs _ _) _, _ :: _, _, _, h => by simp only [OutsRep] at h ⊢; exact OutsRep.mono hl h
  | .cons (.oagg _) _, _ :: _, _, _, h => by
    simp only [OutsRep] at h ⊢
    obtain ⟨cs, h1, h2⟩ := h
    exact ⟨cs, h1, LendRep.mono hl (fun _ _ h => OutsRep.mono hl h) h2⟩

theorem takeLend_sound {cx : Cx} {ε : HMap} {W : World} : ∀ (e : OTs) (vs : List Value) (c : Nat) (r : OTs) (y : (lendT e r).T) (K : Prog r.T) (k : PHeap → r.T → List Nat → Prop) (tab tab' : Tab) (P : PHeap) (φ : Nat → List Nat) (hf : List Nat), Inv cx P ε φ tab W → Held cx P φ tab W hf →
    LendPins ε e vs c → (takeLend e c r K).run tab = some (y, tab') →
    (∀ (z : r.T) (t t' : Tab) (P : PHeap) (φ : Nat → List Nat) (hf : List Nat), Inv cx P ε φ t W → Held cx P φ t W hf → K.run t = some (z, t') → ∃ P' φ' fp, P.le P' ∧ Inv cx P' ε φ' t' W ∧ Held cx P' φ' t' W (fp ++ hf) ∧ k P' z fp) →
    ∃ P' φ' fp, P.le P' ∧ Inv cx P' ε φ' tab' W ∧ Held cx P' φ' tab' W (fp ++ hf) ∧ LendRep P' (World.view W) e vs r y fp (k P')
  | .nil, vs, c, r, y, K, k, tab, tab', P, φ, hf, I, hh, hp, h, hK => by
    obtain ⟨P', φ', fp, h1, h2, h3, h4⟩ := hK y tab tab' P φ hf I hh h
    exact ⟨P', φ', fp, h1, h2, h3, hp, h4⟩
  | .cons t ts, [], c, r, y, K, k, tab, tab', P, φ, hf, I, hh, hp, h, hK => by cases t <;> simp only [LendPins] at hp
  | .cons (.row e) ts, v :: vs, c, r, y, K, k, tab, tab', P, φ, hf, I, hh, hp, h, hK => by
    simp only [takeLend] at h
    obtain ⟨x, t1, k1, h⟩ := run_bind_inv h
    obtain ⟨z, t2, k2, h⟩ := run_bind_inv h
    obtain ⟨rfl, rfl⟩ := run_pure_inv h
    obtain ⟨P1, φ1, f1, p1, p2, p3, p4, p5⟩ := takeO_sound (.row e) (.own c) v x tab t1 P φ hf I hh hp.1 k1
    obtain ⟨P2, φ2, f2, q1, q2, q3, q4⟩ := takeLend_sound ts vs (c + 1) r z K k t1 tab' P1 φ1 (f1 ++ hf) p2 p3 hp.2 k2 hK
    refine ⟨P2, φ2, f1 ++ f2, PHeap.le_trans p1 q1, q2, q3.perm ?_, ?_⟩
    · rw [← List.append_assoc]
      exact List.Perm.append_right hf List.perm_append_comm
    · simp only [LendRep, OTs.hd_mk, OTs.tl_mk]
      exact ⟨f1, f2, rfl, OT.Rep.mono q1 _ _ _ _ (fun _ _ => rfl) p4, q4⟩
  | .cons (.c _) ts, v :: vs, c, r, y, K, k, tab, tab', P, φ, hf, I, hh, hp, h, hK => by
    simp only [takeLend, LendPins, LendRep] at h hp ⊢
    exact takeLend_sound ts vs (c + 1) r y K k tab tab' P φ hf I hh hp h hK
  | .cons (.ptr _) ts, v :: vs, c, r, y, K, k, tab, tab', P, φ, hf, I, hh, hp, h, hK => by
    simp only [takeLend, LendPins, LendRep] at h hp ⊢
    exact takeLend_sound ts vs (c + 1) r y K k tab tab' P φ hf I hh hp h hK
  | .cons (.map _ _) ts, v :: vs, c, r, y, K, k, tab, tab', P, φ, hf, I, hh, hp, h, hK => by
    simp only [takeLend, LendPins, LendRep] at h hp ⊢
    exact takeLend_sound ts vs (c + 1) r y K k tab tab' P φ hf I hh hp h hK
  | .cons (.ptrA _ _ _ _) ts, v :: vs, c, r, y, K, k, tab, tab', P, φ, hf, I, hh, hp, h, hK => by
    simp only [takeLend, LendPins, LendRep] at h hp ⊢
    exact takeLend_sound ts vs (c + 1) r y K k tab tab' P φ hf I hh hp h hK
theorem takeOuts_sound {cx : Cx} {ε : HMap} {W : World} : ∀ (ps : PTys) (as : List Value) (c : Nat) (y : ps.outs.T) (tab tab' : Tab) (P : PHeap) (φ : Nat → List Nat) (hf : List Nat), Inv cx P ε φ tab W → Held cx P φ tab W hf →
    PinsOK ε ps as c → (takeOuts ps c).run tab = some (y, tab') → ∃ P' φ' fp, P.le P' ∧ Inv cx P' ε φ' tab' W ∧ Held cx P' φ' tab' W (fp ++ hf) ∧ OutsRep P' (World.view W) ps as y fp
  | .nil, as, c, y, tab, tab', P, φ, hf, I, hh, _, h => by
    simp only [takeOuts] at h
    obtain ⟨rfl, rfl⟩ := run_pure_inv h
    exact ⟨P, φ, [], PHeap.le_refl P, I, hh, by simp only [OutsRep]⟩
  | .cons (.one (.ptr e)) ts, a :: as, c, y, tab, tab', P, φ, hf, I, hh, hp, h => by
    simp only [takeOuts] at h
    obtain ⟨x, t1, k1, h⟩ := run_bind_inv h
    obtain ⟨z, t2, k2, h⟩ := run_bind_inv h
    obtain ⟨rfl, rfl⟩ := run_pure_inv h
    obtain ⟨P1, φ1, f1, p1, p2, p3, p4, p5⟩ := takeO_sound (.ptr e) (.own c) a x tab t1 P φ hf I hh hp.1 k1
    obtain ⟨P2, φ2, f2, q1, q2, q3, q4⟩ := takeOuts_sound ts as (c + 1) z t1 tab' P1 φ1 (f1 ++ hf) p2 p3 hp.2 k2
    refine ⟨P2, φ2, f1 ++ f2, PHeap.le_trans p1 q1, q2, q3.perm ?_, ?_⟩
    · rw [← List.append_assoc]
      exact List.Perm.append_right hf List.perm_append_comm
    · simp only [OutsRep, OTs.hd_mk, OTs.tl_mk]
      exact ⟨f1, f2, rfl, OT.Rep.mono q1 _ _ _ _ (fun _ _ => rfl) p4, q4⟩
  | .cons (.one (.c _)) ts, a :: as, c, y, tab, tab', P, φ, hf, I, hh, hp, h => by
    simp only [takeOuts, PinsOK, OutsRep] at h hp ⊢
    exact takeOuts_sound ts as (c + 1) y tab tab' P φ hf I hh hp h
  | .cons (.one (.row e)) ts, a :: as, c, y, tab, tab', P, φ, hf, I, hh, hp, h => by
    simp only [takeOuts] at h
    obtain ⟨x, t1, k1, h⟩ := run_bind_inv h
    obtain ⟨z, t2, k2, h⟩ := run_bind_inv h
    obtain ⟨rfl, rfl⟩ := run_pure_inv h
    obtain ⟨P1, φ1, f1, p1, p2, p3, p4, p5⟩ := takeO_sound (.row e) (.own c) a x tab t1 P φ hf I hh hp.1 k1
    obtain ⟨P2, φ2, f2, q1, q2, q3, q4⟩ := takeOuts_sound ts as (c + 1) z t1 tab' P1 φ1 (f1 ++ hf) p2 p3 hp.2 k2
    refine ⟨P2, φ2, f1 ++ f2, PHeap.le_trans p1 q1, q2, q3.perm ?_, ?_⟩
    · rw [← List.append_assoc]
      exact List.Perm.append_right hf List.perm_append_comm
    · simp only [OutsRep, OTs.hd_mk, OTs.tl_mk]
      exact ⟨f1, f2, rfl, OT.Rep.mono q1 _ _ _ _ (fun _ _ => rfl) p4, q4⟩
  | .cons (.one (.ptrA p t n q)) ts, a :: as, c, y, tab, tab', P, φ, hf, I, hh, hp, h => by
    simp only [takeOuts] at h
    obtain ⟨x, t1, k1, h⟩ := run_bind_inv h
    obtain ⟨z, t2, k2, h⟩ := run_bind_inv h
    obtain ⟨rfl, rfl⟩ := run_pure_inv h
    obtain ⟨P1, φ1, f1, p1, p2, p3, p4, p5⟩ := takeO_sound (.ptrA p t n q) (.own c) a x tab t1 P φ hf I hh hp.1 k1
    obtain ⟨P2, φ2, f2, q1, q2, q3, q4⟩ := takeOuts_sound ts as (c + 1) z t1 tab' P1 φ1 (f1 ++ hf) p2 p3 hp.2 k2
    refine ⟨P2, φ2, f1 ++ f2, PHeap.le_trans p1 q1, q2, q3.perm ?_, ?_⟩
    · rw [← List.append_assoc]
      exact List.Perm.append_right hf List.perm_append_comm
    · simp only [OutsRep, OTs.hd_mk, OTs.tl_mk]
      exact ⟨f1, f2, rfl, OT.Rep.mono q1 _ _ _ _ (fun _ _ => rfl) p4, q4⟩
  | .cons (.one (.map _ _)) ts, a :: as, c, y, tab, tab', P, φ, hf, I, hh, hp, h => by
    simp only [takeOuts, PinsOK, OutsRep] at h hp ⊢
    exact takeOuts_sound ts as (c + 1) y tab tab' P φ hf I hh hp h
  | .cons (.agg _) ts, a :: as, c, y, tab, tab', P, φ, hf, I, hh, hp, h => by
    simp only [takeOuts, PinsOK, OutsRep] at h hp ⊢
    exact takeOuts_sound ts as (c + 1) y tab tab' P φ hf I hh hp h
  | .cons (.mv e) ts, a :: as, c, y, tab, tab', P, φ, hf, I, hh, hp, h => by
    simp only [takeOuts, PinsOK, OutsRep] at h hp ⊢
    exact takeOuts_sound ts as (c + (e.size + 1)) y tab tab' P φ hf I hh hp h
  | .cons (.mvr _) ts, a :: as, c, y, tab, tab', P, φ, hf, I, hh, hp, h => by
    simp only [takeOuts, PinsOK, OutsRep] at h hp ⊢
    exact takeOuts_sound ts as (c + 1) y tab tab' P φ hf I hh hp h
  | .cons (.rs _ _) ts, a :: as, c, y, tab, tab', P, φ, hf, I, hh, hp, h => by
    simp only [takeOuts, PinsOK, OutsRep] at h hp ⊢
    exact takeOuts_sound ts as (c + 1) y tab tab' P φ hf I hh hp h
  | .cons (.oagg e) ts, a :: as, c, y, tab, tab', P, φ, hf, I, hh, hp, h => by
    simp only [takeOuts, PinsOK] at h hp
    obtain ⟨⟨cs, rfl, hp1⟩, hp2⟩ := hp
    obtain ⟨P', φ', fp, h1, h2, h3, h4⟩ := takeLend_sound e cs.toList c ts.outs y _ (fun P y fp => OutsRep P (World.view W) ts as y fp) tab tab' P φ hf I hh hp1 h
      fun z t t' P φ hf I hh h => takeOuts_sound ts as (c + (e.size + 1)) z t t' P φ hf I hh hp2 h
    refine ⟨P', φ', fp, h1, h2, h3, ?_⟩
    simp only [OutsRep]
    exact ⟨cs, rfl, h4⟩
  | .cons _ _, [], _, _, _, _, _, _, _, _, _, hp, _ => by simp only [PinsOK] at hp

def resultOf (tmps : Array Value) : ResultVar → Sem Value
  | .tmp t => pure (tmps.getD t undef)
  | .cell a t => do loadVar t (← asAddr (tmps.getD a undef))
theorem results_eq (fn : Func) (tmps : Array Value) : results fn tmps = (fn.results.mapM (resultOf tmps)) >>= fun vs => pure (if h : vs.size = 1 then vs[0] else .tuple vs) := by
  unfold results
  congr 1

theorem resultsP_sound {tt : TT} (htt : TTOK Pg tt) {cx : Cx} {P : PHeap} {ε : HMap} {φ : Nat → List Nat} {s : Slots} {a : Act} {W : World} (hs : SlotsOK P ε s a) {tab : Tab} (I : Inv cx P ε φ tab W) :
    ∀ (rs : List ResultVar) (l : List SV) (tab' : Tab), (resultsP tt s rs).run tab = some (l, tab') → tab' = tab ∧ ∃ vs, (rs.mapM (resultOf a.tmps)).run Pg W = .ok vs W ∧ DenVs P ε l vs
  | [], l, tab', h => by
    simp only [resultsP] at h
    obtain ⟨rfl, rfl⟩ := run_pure_inv h
    exact ⟨rfl, [], by simp, rfl⟩
  | .tmp t :: rs, l, tab', h => by
    simp only [resultsP] at h
    obtain ⟨x, t1, k1, h⟩ := run_bind_inv h
    obtain ⟨rfl, rfl⟩ := run_pure_inv h
    obtain ⟨rfl, vs, h1, h2⟩ := resultsP_sound htt hs I rs x _ k1
    refine ⟨rfl, a.tmps.getD t undef :: vs, ?_, ⟨_, _, rfl, hs t, h2⟩⟩
    simp [List.mapM_cons, resultOf, h1]
  | .cell b t :: rs, l, tab', h => by
    simp only [resultsP] at h
    split at h
    · rename_i x hx
      obtain ⟨sv, t1, k1, h⟩ := run_bind_inv h
      obtain ⟨y, t2, k2, h⟩ := run_bind_inv h
      obtain ⟨rfl, rfl⟩ := run_pure_inv h
      have hv := hs b
      rw [hx] at hv
      obtain ⟨rfl, r, g1, g2⟩ := load_sound htt I t x _ hv sv t1 k1
      obtain ⟨rfl, vs, h1, h2⟩ := resultsP_sound htt hs I rs y _ k2
      refine ⟨rfl, r :: vs, ?_, ⟨_, _, rfl, g2, h2⟩⟩
      have g3 : (resultOf a.tmps (.cell b t)).run Pg W = .ok r W := by
        unfold resultOf
        unfold Instr.loadAt at g1
        cases hw : a.tmps.getD b undef with
        | pointer m =>
          cases m with
          | none => rw [hw] at g1; simp [Instr.sureAddr, stuck] at g1
          | some ad => rw [hw] at g1; simp only; rw [hw]; simpa [Instr.sureAddr, asAddr] using g1
        | _ => rw [hw] at g1; simp [Instr.sureAddr, stuck] at g1
      simp [List.mapM_cons, g3, h1]
    · exact (run_fail_inv h).elim

theorem results_run {fn : Func} {tmps : Array Value} {W : World} {vs : List Value} (h : (fn.results.toList.mapM (resultOf tmps)).run Pg W = .ok vs W) : (results fn tmps).run Pg W = .ok (retV vs) W := by
  rw [results_eq, Sem.run_bind, Array.mapM_eq_mapM_toList, Sem.run_map, h]
  simp only [Result.andThen_ok, Sem.run_pure]
  congr 1
  match vs with
  | [] => rfl
  | [x] => rfl
  | x :: y :: r => simp [retV]

end
end Go.Sx
