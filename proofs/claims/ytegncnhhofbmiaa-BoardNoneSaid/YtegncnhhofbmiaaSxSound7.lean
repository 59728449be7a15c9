/- A walk of Go code by plain functions is sound. -/
import Derived.Test.YtegncnhhofbmiaaSxSound6
namespace Go.Sx
section
variable {Pg : Program} {tt : TT} {cx : Cx} {P : PHeap} {ε : HMap} {φ : Nat → List Nat} {tab : Tab} {W : World}

/-- Handles and blocks of some pieces, by number. -/
abbrev HL2 := Map (Value × List Nat)
def addE (L : HL2) (ε : HMap) : HMap := fun d => match Map.get L d with | some p => some p.1 | none => ε d
def addF (L : HL2) (φ : Nat → List Nat) : Nat → List Nat := fun d => match Map.get L d with | some p => p.2 | none => φ d
def fpsOf (L : HL2) : List Nat := L.flatMap fun p => p.2.2
theorem Map.get_mem {α : Type} {m : Map α} {c : Nat} {x : α} (h : Map.get m c = some x) : (c, x) ∈ m := by
  induction m with
  | nil => cases h
  | cons p r ih =>
    obtain ⟨k, y⟩ := p
    unfold Map.get at h
    cases hb : Nat.beq k c with
    | true => rw [hb] at h; simp at h; subst h; rw [nbeq_true hb]; simp
    | false => rw [hb] at h; exact List.mem_cons_of_mem _ (ih h)
theorem fps_mem {L : HL2} {d : Nat} {v : Value} {f : List Nat} (h : Map.get L d = some (v, f)) {b : Nat} (hb : b ∈ f) : b ∈ fpsOf L :=
  List.mem_flatMap.2 ⟨_, Map.get_mem h, hb⟩
theorem fps_nodup {L : HL2} (h : (fpsOf L).Nodup) : ∀ {d : Nat} {v : Value} {f : List Nat}, Map.get L d = some (v, f) → f.Nodup := by
  induction L with
  | nil => intro d v f h; cases h
  | cons p r ih =>
    obtain ⟨k, y⟩ := p
    intro d v f hg
    simp only [fpsOf, List.flatMap_cons] at h
    obtain ⟨h1, h2, h3⟩ := List.nodup_append.1 h
    unfold Map.get at hg
    cases hb : Nat.beq k d with
    | true => rw [hb] at hg; simp at hg; subst hg; exact h1
    | false => rw [hb] at hg; exact ih h2 hg
theorem fps_apart {L : HL2} (h : (fpsOf L).Nodup) : ∀ {d e : Nat} {v u : Value} {f g : List Nat}, d ≠ e → Map.get L d = some (v, f) → Map.get L e = some (u, g) → ∀ b ∈ f, b ∉ g := by
  induction L with
  | nil => intro d e v u f g _ h; cases h
  | cons p r ih =>
    obtain ⟨k, y⟩ := p
    intro d e v u f g hne hd he b hb hg
    simp only [fpsOf, List.flatMap_cons] at h
    obtain ⟨h1, h2, h3⟩ := List.nodup_append.1 h
    unfold Map.get at hd he
    cases hk : Nat.beq k d with
    | true =>
      rw [hk] at hd; simp at hd; subst hd
      cases hk2 : Nat.beq k e with
      | true => exact hne ((nbeq_true hk).symm.trans (nbeq_true hk2))
      | false => rw [hk2] at he; exact h3 b hb b (fps_mem he hg) rfl
    | false =>
      rw [hk] at hd
      cases hk2 : Nat.beq k e with
      | true => rw [hk2] at he; simp at he; subst he; exact h3 b hg b (fps_mem hd hb) rfl
      | false => rw [hk2] at he; exact ih h2 hne hd he b hb hg

theorem addE_le {L : HL2} (h : ∀ d v f, Map.get L d = some (v, f) → ε d = none ∨ ε d = some v) : HMap.le ε (addE L ε) := by
  intro d v hd
  unfold addE
  cases hg : Map.get L d with
  | none => exact hd
  | some p =>
    obtain ⟨u, f⟩ := p
    rcases h d u f hg with h | h
    · rw [h] at hd; cases hd
    · rw [h] at hd; cases hd; rfl

/-- Some pieces are laid: with their handles and their blocks. -/
theorem Inv.install (I : Inv cx P ε φ tab W) {P' : PHeap} {W' : World} {tab' : Tab} (F : List Nat) (L : HL2)
    (hF : ∀ b ∈ F, b < W.heap.size ∧ (b ∈ cx.fp0 ∨ cx.W0.heap.size ≤ b))
    (hFk : ∀ c x, tab.get c = some x → ∀ b ∈ φ c, b ∉ F)
    (hW : Ext F W W' cx.td) (hP : P.le P') (hPW : ∀ b o, P' b = some o → W'.heap[b]? = some o)
    (hPn : ∀ b, P' b ≠ none → P b ≠ none ∨ b ∈ F ∨ W.heap.size ≤ b)
    (hεL : ∀ d v f, Map.get L d = some (v, f) → (ε d = none ∨ ε d = some v) ∧ Handle v)
    (hnew : ∀ d x, tab'.get d = some x → (∃ p, Map.get L d = some p) ∨ tab.get d = some x)
    (hok : ∀ d v f x, Map.get L d = some (v, f) → tab'.get d = some x → ChunkOK P' (World.view W') (addE L ε) v f x)
    (hnd : (fpsOf L).Nodup) (hfp : ∀ b ∈ fpsOf L, (b ∈ F ∨ W.heap.size ≤ b) ∧ P' b = none ∧ b < W'.heap.size) :
    Inv cx P' (addE L ε) (addF L φ) tab' W' := by
  refine I.step F (fun d => ∃ p, Map.get L d = some p) hF hW hP hPW hPn (addE_le fun d v f h => (hεL d v f h).1) ?_ ?_ ?_ ?_
  · intro d x hd hn
    have ht : tab.get d = some x := (hnew d x hd).resolve_left hn
    refine ⟨ht, ?_, hFk d x ht⟩
    unfold addF
    cases hg : Map.get L d with
    | none => rfl
    | some p => exact absurd ⟨p, hg⟩ hn
  · intro d x hd ⟨p, hp⟩
    obtain ⟨v, f⟩ := p
    have e1 : addE L ε d = some v := by simp [addE, hp]
    have e2 : addF L φ d = f := by simp [addF, hp]
    rw [e2]
    exact ⟨v, e1, hok d v f x hp hd, fps_nodup hnd hp, fun b hb => hfp b (fps_mem hp hb)⟩
  · intro d e x y ⟨p, hp⟩ ⟨q, hq⟩ hde _ _ b hb
    obtain ⟨v, f⟩ := p
    obtain ⟨u, g⟩ := q
    have e2 : addF L φ d = f := by simp [addF, hp]
    have e3 : addF L φ e = g := by simp [addF, hq]
    rw [e2] at hb; rw [e3]
    exact fps_apart hnd hde hp hq b hb
  · intro d w hw hn
    unfold addE at hw
    cases hg : Map.get L d with
    | none => rw [hg] at hw; rw [hn] at hw; cases hw
    | some p => obtain ⟨v, f⟩ := p; rw [hg] at hw; simp at hw; rw [← hw]; exact (hεL d v f hg).2

theorem newAll_inv {β : Type} {k : Prog β} {r : β × Tab} : ∀ (l : List (Nat × Chunk)) (t : Tab), (newAll l k).run t = some r →
    ∃ t', k.run t' = some r ∧ (∀ d x, (d, x) ∈ l → t'.get d = some x) ∧ (∀ d, (∀ x, (d, x) ∉ l) → t'.get d = t.get d) ∧ (∀ p ∈ l, t.get p.1 = none) ∧ (l.map (·.1)).Nodup
  | [], t, h => ⟨t, h, by simp, fun _ _ => rfl, by simp, by simp⟩
  | (n, x) :: l, t, h => by
    obtain ⟨y, t'⟩ := r
    simp only [newAll] at h
    obtain ⟨h0, h1⟩ := run_new_inv h
    obtain ⟨t', k1, k2, k3, k4, k5⟩ := newAll_inv l _ h1
    have ne : ∀ p ∈ l, n ≠ p.1 ∧ t.get p.1 = none := by
      intro p hp
      have := k4 p hp
      by_cases e : n = p.1
      · rw [e, Map.get_set_same] at this; cases this
      · rw [Map.get_set_other _ _ e] at this; exact ⟨e, this⟩
    refine ⟨t', k1, ?_, ?_, ?_, ?_⟩
    · intro d y hd
      rcases List.mem_cons.1 hd with e | hd
      · cases e
        rw [k3 n (fun y hy => (ne _ hy).1 rfl), Map.get_set_same]
      · exact k2 d y hd
    · intro d hd
      have hn : n ≠ d := fun e => hd x (by rw [e]; simp)
      rw [k3 d (fun y hy => hd y (List.mem_cons_of_mem _ hy)), Map.get_set_other _ _ hn]
    · intro p hp
      rcases List.mem_cons.1 hp with e | hp
      · subst e; exact h0
      · exact (ne p hp).2
    · rw [List.map_cons, List.nodup_cons]
      refine ⟨fun hm => ?_, k5⟩
      obtain ⟨p, hp, e⟩ := List.mem_map.1 hm
      exact (ne p hp).1 e.symm

/-- The cells of an opened struct: handles and blocks of what they own. -/
theorem unfold_sound {H : HView} : ∀ (e : OTs) (x : e.T) (n : Nat) (vs : List Value) (fp : List Nat), e.Rep P H x vs fp →
    ∃ L : HL2, (∀ d, (∃ p, Map.get L d = some p) ↔ ∃ y, (d, y) ∈ (unfoldCells e x n).2) ∧ (∀ d, (∃ p, Map.get L d = some p) → n ≤ d) ∧ fpsOf L = fp ∧
      (∀ d v f y η, Map.get L d = some (v, f) → (d, y) ∈ (unfoldCells e x n).2 → ChunkOK P H η v f y ∧ Handle v) ∧
      ∀ η : HMap, (∀ d v f, Map.get L d = some (v, f) → η d = some v) → DenL P η (unfoldCells e x n).1 vs
  | .nil, x, n, vs, fp, h => by
    simp only [OTs.Rep] at h
    obtain ⟨rfl, rfl⟩ := h
    exact ⟨[], by simp [unfoldCells, Map.get], by simp [Map.get], rfl, by simp [Map.get], fun η _ => rfl⟩
  | .cons t ts, x, n, vs, fp, h => by
    simp only [OTs.Rep] at h
    obtain ⟨v, vs', f1, f2, rfl, rfl, h3, h4⟩ := h
    obtain ⟨L, l1, l2, l3, l4, l5⟩ := unfold_sound ts _ (n + 1) vs' f2 h4
    have plus : ∀ (y : Chunk) (s : S1), unfoldCells (.cons t ts) x n = (s :: (unfoldCells ts (OTs.tl t ts x) (n + 1)).1, (n, y) :: (unfoldCells ts (OTs.tl t ts x) (n + 1)).2) →
        (∀ η, ChunkOK P H η v f1 y ∧ Handle v) → (∀ η : HMap, η n = some v → Den P η s v) →
        ∃ L : HL2, (∀ d, (∃ p, Map.get L d = some p) ↔ ∃ y, (d, y) ∈ (unfoldCells (.cons t ts) x n).2) ∧ (∀ d, (∃ p, Map.get L d = some p) → n ≤ d) ∧ fpsOf L = f1 ++ f2 ∧
          (∀ d v f y η, Map.get L d = some (v, f) → (d, y) ∈ (unfoldCells (.cons t ts) x n).2 → ChunkOK P H η v f y ∧ Handle v) ∧
          ∀ η : HMap, (∀ d v f, Map.get L d = some (v, f) → η d = some v) → DenL P η (unfoldCells (.cons t ts) x n).1 (v :: vs') := by
      intro y s hu hy hs
      rw [hu]
      have g0 : Map.get ((n, v, f1) :: L) n = some (v, f1) := by simp [Map.get]
      have g1 : ∀ d, d ≠ n → Map.get ((n, v, f1) :: L) d = Map.get L d := fun d hd => by
        have : Nat.beq n d = false := by cases hb : Nat.beq n d with | true => exact absurd (nbeq_true hb).symm hd | false => rfl
        simp [Map.get, this]
      have big : ∀ d y', (d, y') ∈ (unfoldCells ts (OTs.tl t ts x) (n + 1)).2 → d ≠ n := fun d y' hd => by
        have := l2 d ((l1 d).2 ⟨y', hd⟩); omega
      refine ⟨(n, v, f1) :: L, ?_, ?_, by simp [fpsOf, ← l3], ?_, ?_⟩
      · intro d
        by_cases e : d = n
        · subst e; exact ⟨fun _ => ⟨y, by simp⟩, fun _ => ⟨_, g0⟩⟩
        · rw [g1 d e, l1 d]
          constructor
          · rintro ⟨z, hz⟩; exact ⟨z, List.mem_cons_of_mem _ hz⟩
          · rintro ⟨z, hz⟩
            rcases List.mem_cons.1 hz with h | h
            · cases h; exact absurd rfl e
            · exact ⟨z, h⟩
      · rintro d ⟨p, hp⟩
        by_cases e : d = n
        · omega
        · rw [g1 d e] at hp; have := l2 d ⟨p, hp⟩; omega
      · intro d w f z η hg hm
        by_cases e : d = n
        · subst e
          rw [g0] at hg; cases hg
          rcases List.mem_cons.1 hm with h | h
          · cases h; exact hy η
          · exact absurd rfl (big _ _ h)
        · rw [g1 d e] at hg
          rcases List.mem_cons.1 hm with h | h
          · cases h; exact absurd rfl e
          · exact l4 d w f z η hg h
      · intro η hη
        refine ⟨v, vs', rfl, hs η (hη n v f1 g0), l5 η fun d w f hg => ?_⟩
        have : d ≠ n := fun e => by have := l2 d ⟨_, hg⟩; omega
        exact hη d w f (by rw [g1 d this]; exact hg)
    cases t with
    | c t =>
      simp only [OT.Rep] at h3
      obtain ⟨h3, rfl⟩ := h3
      refine ⟨L, l1, fun d hd => by have := l2 d hd; omega, by simpa using l3, l4, fun η hη => ⟨v, vs', rfl, (CT.toS_den t _ v).1 h3, l5 η hη⟩⟩
    | row e =>
      simp only [OT.Rep] at h3
      refine plus (.row e _) (.own n) rfl (fun η => ⟨h3, ?_⟩) (fun η h => h)
      rcases h3 with ⟨_, ⟨a, h, _⟩, _⟩ | ⟨b, off, cap, cs, T, fz, h, _⟩
      · exact .inr (.inl ⟨_, _, _, h⟩)
      · exact .inr (.inl ⟨_, _, _, h⟩)
    | map k u =>
      simp only [OT.Rep] at h3
      refine plus (.map k u _) (.own n) rfl (fun η => ⟨h3, ?_⟩) (fun η h => h)
      obtain ⟨b, es, clock, h, _⟩ := h3
      exact .inr (.inr (.inl ⟨_, h⟩))
    | ptrA a t m q =>
      refine plus (.foldA a t m q _) (.own n) rfl (fun η => ⟨h3, ?_⟩) (fun η h => h)
      simp only [OT.Rep] at h3
      rcases h3 with ⟨_, h, _⟩ | ⟨x, y, z, b, cs, T, f1, f2, c1, c2, c3, _, h, _⟩
      · exact .inl ⟨_, h⟩
      · exact .inl ⟨_, h⟩
    | ptr e =>
      refine plus (.fold e _) (.own n) rfl (fun η => ⟨h3, ?_⟩) (fun η h => h)
      simp only [OT.Rep] at h3
      rcases h3 with ⟨_, h, _⟩ | ⟨y, b, cs, T, fp', _, h, _⟩
      · exact .inl ⟨_, h⟩
      · exact .inl ⟨_, h⟩

/-- A struct is opened: its own cells stay, what it owns is laid beside. -/
theorem open_gen (I : Inv cx P ε φ tab W) {c fresh b : Nat} {x0 y0 : Chunk} {news : List (Nat × Chunk)} {hh : Value} {fp' : List Nat} {L : HL2} (hfr : Fresh ε fresh) (hc : tab.get c = some x0) (e1 : ε c = some hh) (e4 : φ c = b :: fp')
    (l1 : ∀ d, (∃ p, Map.get L d = some p) ↔ ∃ y, (d, y) ∈ news) (l3 : fpsOf L = fp') (l4 : ∀ d v f y η, Map.get L d = some (v, f) → (d, y) ∈ news → ChunkOK P (World.view W) η v f y ∧ Handle v)
    (hids : ∀ p ∈ news, fresh ≤ p.1 ∧ p.1 < fresh + stride) (hy0 : ∀ η : HMap, (∀ d v f, Map.get L d = some (v, f) → η d = some v) → ChunkOK P (World.view W) η hh [b] y0) {β : Type} {k : Prog β} {r : β × Tab}
    (h : (Prog.set c y0 (newAll news k)).run tab = some r) :
    ∃ tab' ε' φ', k.run tab' = some r ∧ tab'.get c = some y0 ∧
      HMap.le ε ε' ∧ (∀ d, ε' d ≠ none → ε d ≠ none ∨ (fresh ≤ d ∧ d < fresh + stride)) ∧ Inv cx P ε' φ' tab' W := by
  have h' : (newAll news k).run (tab.set c y0) = some r := h
  obtain ⟨tab', k1, k2, k3, k4, _⟩ := newAll_inv _ _ h'
  have hcn : ∀ y, (c, y) ∉ news := fun y hy => by have := k4 _ hy; rw [Map.get_set_same] at this; cases this
  have ec : tab'.get c = some y0 := by rw [k3 c hcn, Map.get_set_same]
  have hfresh : ∀ y ∈ news, ε y.1 = none := fun y hy => by
    have := hids y hy
    exact hfr y.1 this.1 (by omega)
  have hnd := I.nodup c _ hc
  rw [e4] at hnd
  have hcL : Map.get L c = none := by
    cases hg : Map.get L c with
    | none => rfl
    | some p => obtain ⟨y, hy⟩ := (l1 c).1 ⟨p, hg⟩; exact absurd hy (hcn y)
  have g0 : Map.get ((c, hh, [b]) :: L) c = some (hh, [b]) := by simp [Map.get]
  have g1 : ∀ d, d ≠ c → Map.get ((c, hh, [b]) :: L) d = Map.get L d := fun d hd => by
    have : Nat.beq c d = false := by cases hb : Nat.beq c d with | true => exact absurd (nbeq_true hb).symm hd | false => rfl
    simp [Map.get, this]
  have hfps : fpsOf ((c, hh, [b]) :: L) = φ c := by simp [fpsOf, e4, ← l3]
  have I1 : Inv cx P ε φ (tab.del c) W := I.sub fun d y hd => by
    by_cases e : c = d
    · subst e; rw [Map.get_del_same] at hd; cases hd
    · rwa [Map.get_del_other _ e] at hd
  have hlive := I.live c _ hc
  have I2 := I1.install (P' := P) (W' := W) (tab' := tab') (φ c) ((c, hh, [b]) :: L) (fun b' hb' => (hlive b' hb').2) ?_ (Ext.refl _ _) (PHeap.le_refl P) I.psub (fun b' h => .inl h) ?_ ?_ ?_ (by rw [hfps, e4]; exact hnd) ?_
  · refine ⟨tab', _, _, k1, ec, addE_le ?_, ?_, I2⟩
    · intro d v f hg
      by_cases e : d = c
      · subst e; rw [g0] at hg; cases hg; exact .inr e1
      · rw [g1 d e] at hg
        obtain ⟨y, hy⟩ := (l1 d).1 ⟨_, hg⟩
        exact .inl (hfresh _ hy)
    · intro d hd
      by_cases e : d = c
      · left; subst e; rw [e1]; simp
      · unfold addE at hd
        rw [g1 d e] at hd
        cases hg : Map.get L d with
        | none => rw [hg] at hd; exact .inl hd
        | some p =>
          obtain ⟨y, hy⟩ := (l1 d).1 ⟨p, hg⟩
          exact .inr (hids _ hy)
  · intro d y hd b' hb' hb2
    by_cases e : c = d
    · subst e; rw [Map.get_del_same] at hd; cases hd
    · rw [Map.get_del_other _ e] at hd
      exact I.apart c d _ _ e hc hd b' hb2 hb'
  · intro d v f hg
    by_cases e : d = c
    · subst e; rw [g0] at hg; cases hg; exact ⟨.inr e1, I.hand d _ e1⟩
    · rw [g1 d e] at hg
      obtain ⟨y, hy⟩ := (l1 d).1 ⟨_, hg⟩
      exact ⟨.inl (hfresh _ hy), (l4 d v f y ε hg hy).2⟩
  · intro d y hd
    by_cases e : d = c
    · subst e; exact .inl ⟨_, g0⟩
    · rw [g1 d e]
      by_cases hn : ∃ z, (d, z) ∈ news
      · exact .inl ((l1 d).2 hn)
      · right
        rw [k3 d (fun z hz => hn ⟨z, hz⟩), Map.get_set_other _ _ (Ne.symm e)] at hd
        rw [Map.get_del_other _ (Ne.symm e)]; exact hd
  · intro d v f y hg hd
    by_cases e : d = c
    · subst e
      rw [g0] at hg; cases hg
      rw [ec] at hd; cases hd
      refine hy0 _ fun d' v' f' hg' => ?_
      have : d' ≠ d := fun e => by rw [e, hcL] at hg'; cases hg'
      simp [addE, g1 d' this, hg']
    · rw [g1 d e] at hg
      obtain ⟨z, hz⟩ := (l1 d).1 ⟨_, hg⟩
      rw [k2 d z hz] at hd
      cases hd
      exact (l4 d v f _ _ hg hz).1
  · intro b' hb'
    rw [hfps] at hb'
    exact ⟨.inl hb', (hlive b' hb').1, (hlive b' hb').2.1⟩

/-- A folded struct is opened: the pointer is not nil. -/
theorem open_sound (I : Inv cx P ε φ tab W) {c : Nat} {eo : OTs} {x : eo.T} {fresh : Nat} (hsz : eo.size ≤ stride) (hfr : Fresh ε fresh) (hc : tab.get c = some (.fold eo (some x))) {β : Type} {k : Prog β} {r : β × Tab}
    (h : (Prog.set c (.cells (unfoldCells eo x fresh).1) (newAll (unfoldCells eo x fresh).2 k)).run tab = some r) :
    ∃ tab' ε' φ', k.run tab' = some r ∧ tab'.get c = some (.cells (unfoldCells eo x fresh).1) ∧
      HMap.le ε ε' ∧ (∀ d, ε' d ≠ none → ε d ≠ none ∨ (fresh ≤ d ∧ d < fresh + stride)) ∧ Inv cx P ε' φ' tab' W ∧ ∃ b, ε c = some (.pointer (some ⟨b, 0, none⟩)) := by
  obtain ⟨hh, e1, e2⟩ := I.chunk c _ hc
  simp only [ChunkOK, OT.Rep] at e2
  rcases e2 with ⟨e2, _⟩ | ⟨x', b, cs, T, fp', e2, e3, e4, e5, e6⟩
  · cases e2
  cases e2
  obtain ⟨L, l1, l2, l3, l4, l5⟩ := unfold_sound eo x fresh cs.toList fp' e6
  obtain ⟨tab', ε', φ', q1, q2, q3, q4, q5⟩ := open_gen (y0 := .cells (unfoldCells eo x fresh).1) I hfr hc e1 e4 l1 l3 l4 (fun p hp => by have := unfoldCells_ids eo x fresh p hp; omega) (fun η hη => ⟨b, cs, T, e3, rfl, e5, l5 η hη⟩) h
  exact ⟨tab', ε', φ', q1, q2, q3, q4, q5, b, by rw [e1, e3]⟩
theorem get_append {α : Type} : ∀ (a b : Map α) (d : Nat), Map.get (a ++ b) d = match Map.get a d with | some x => some x | none => Map.get b d
  | [], b, d => rfl
  | (k, x) :: a, b, d => by
    simp only [List.cons_append, Map.get]
    cases Nat.beq k d with
    | true => rfl
    | false => exact get_append a b d
/-- The same, an array amid. -/
theorem openA_sound (I : Inv cx P ε φ tab W) {c : Nat} {p q : OTs} {t : CT} {n : Nat} {x : p.T × List t.T × q.T} {fresh : Nat} (hsz : p.size + q.size ≤ stride) (hfr : Fresh ε fresh) (hc : tab.get c = some (.foldA p t n q (some x))) {β : Type} {k : Prog β} {r : β × Tab}
    (h : (Prog.set c (.cellsA (unfoldCells p x.1 fresh).1 t n x.2.1 (unfoldCells q x.2.2 (fresh + p.size)).1) (newAll ((unfoldCells p x.1 fresh).2 ++ (unfoldCells q x.2.2 (fresh + p.size)).2) k)).run tab = some r) :
    ∃ tab' ε' φ', k.run tab' = some r ∧ tab'.get c = some (.cellsA (unfoldCells p x.1 fresh).1 t n x.2.1 (unfoldCells q x.2.2 (fresh + p.size)).1) ∧
      HMap.le ε ε' ∧ (∀ d, ε' d ≠ none → ε d ≠ none ∨ (fresh ≤ d ∧ d < fresh + stride)) ∧ Inv cx P ε' φ' tab' W ∧ ∃ b, ε c = some (.pointer (some ⟨b, 0, none⟩)) := by
  obtain ⟨hh, e1, e2⟩ := I.chunk c _ hc
  simp only [ChunkOK, OT.Rep] at e2
  rcases e2 with ⟨e2, _⟩ | ⟨x0, y0, z0, b, cs, T, f1, f2, c1, c2, c3, e2, e3, e4, e5, e6, e7, e8, e9⟩
  · cases e2
  cases e2
  dsimp only at h ⊢
  obtain ⟨L, l1, l2, l3, l4, l5⟩ := unfold_sound p x0 fresh c1 f1 e8
  obtain ⟨M, m1, m2, m3, m4, m5⟩ := unfold_sound q z0 (fresh + p.size) c3 f2 e9
  have idp := unfoldCells_ids p x0 fresh
  have idq := unfoldCells_ids q z0 (fresh + p.size)
  have noL : ∀ d, fresh + p.size ≤ d → Map.get L d = none := fun d hd => by
    cases hg : Map.get L d with
    | none => rfl
    | some w => obtain ⟨y, hy⟩ := (l1 d).1 ⟨w, hg⟩; have := idp _ hy; simp only at this; omega
  have gL : ∀ d w, Map.get L d = some w → Map.get (L ++ M) d = some w := fun d w hw => by rw [get_append, hw]
  have gM : ∀ d w, Map.get M d = some w → Map.get (L ++ M) d = some w := fun d w hw => by
    have := m2 d ⟨w, hw⟩
    rw [get_append, noL d this]; exact hw
  have split : ∀ d w, Map.get (L ++ M) d = some w → Map.get L d = some w ∨ (Map.get L d = none ∧ Map.get M d = some w) := fun d w hw => by
    rw [get_append] at hw
    cases hg : Map.get L d with
    | none => rw [hg] at hw; exact .inr ⟨rfl, hw⟩
    | some u => rw [hg] at hw; exact .inl hw
  have hl1 : ∀ d, (∃ w, Map.get (L ++ M) d = some w) ↔ ∃ y, (d, y) ∈ (unfoldCells p x0 fresh).2 ++ (unfoldCells q z0 (fresh + p.size)).2 := by
    intro d
    constructor
    · rintro ⟨w, hw⟩
      rcases split d w hw with h | ⟨_, h⟩
      · obtain ⟨y, hy⟩ := (l1 d).1 ⟨w, h⟩; exact ⟨y, List.mem_append_left _ hy⟩
      · obtain ⟨y, hy⟩ := (m1 d).1 ⟨w, h⟩; exact ⟨y, List.mem_append_right _ hy⟩
    · rintro ⟨y, hy⟩
      rcases List.mem_append.1 hy with h | h
      · obtain ⟨w, hw⟩ := (l1 d).2 ⟨y, h⟩; exact ⟨w, gL d w hw⟩
      · obtain ⟨w, hw⟩ := (m1 d).2 ⟨y, h⟩; exact ⟨w, gM d w hw⟩
  have hl4 : ∀ d v f y η, Map.get (L ++ M) d = some (v, f) → (d, y) ∈ (unfoldCells p x0 fresh).2 ++ (unfoldCells q z0 (fresh + p.size)).2 → ChunkOK P (World.view W) η v f y ∧ Handle v := by
    intro d v f y η hg hy
    rcases List.mem_append.1 hy with h | h
    · obtain ⟨w, hw⟩ := (l1 d).2 ⟨y, h⟩
      rw [gL d w hw] at hg; cases hg
      exact l4 d v f y η hw h
    · obtain ⟨w, hw⟩ := (m1 d).2 ⟨y, h⟩
      rw [gM d w hw] at hg; cases hg
      exact m4 d v f y η hw h
  have hids : ∀ w ∈ (unfoldCells p x0 fresh).2 ++ (unfoldCells q z0 (fresh + p.size)).2, fresh ≤ w.1 ∧ w.1 < fresh + stride := by
    intro w hw
    rcases List.mem_append.1 hw with h | h
    · have := idp w h; omega
    · have := idq w h; omega
  obtain ⟨tab', ε', φ', q1, q2, q3, q4, q5⟩ := open_gen (y0 := .cellsA (unfoldCells p x0 fresh).1 t n y0 (unfoldCells q z0 (fresh + p.size)).1) (L := L ++ M) I hfr hc e1 e4 hl1 (by rw [← l3, ← m3]; simp [fpsOf]) hl4 hids (fun η hη => ⟨b, cs, T, c1, c2, c3, e3, rfl, e5, e6, l5 η fun d v f hg => hη d v f (gL d _ hg), e7, m5 η fun d v f hg => hη d v f (gM d _ hg)⟩) h
  exact ⟨tab', ε', φ', q1, q2, q3, q4, q5, b, by rw [e1, e3]⟩
end
end Go.Sx
