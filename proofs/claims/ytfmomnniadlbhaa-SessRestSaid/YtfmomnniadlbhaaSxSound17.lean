/- A walk of Go code by plain functions is sound. -/
import Derived.Test.YtfmomnniadlbhaaSxSound16
namespace Go.Sx

def NSub (m m' : Names) : Prop := ∀ c d, Map.get m c = some d → Map.get m' c = some d
theorem NSub.refl (m : Names) : NSub m m := fun _ _ h => h
theorem NSub.trans {a b c : Names} (h : NSub a b) (h' : NSub b c) : NSub a c := fun x y hx => h' x y (h x y hx)
def NInj (m : Names) : Prop := ∀ c c' d, Map.get m c = some d → Map.get m c' = some d → c = c'
def eOf (m : Names) (ε : HMap) : HMap := fun c => (Map.get m c).bind ε
def pOf (m : Names) (φ : Nat → List Nat) : Nat → List Nat := fun c => match Map.get m c with | some d => φ d | none => []
theorem eOf_some {m : Names} {ε : HMap} {c d : Nat} (h : Map.get m c = some d) : eOf m ε c = ε d := by unfold eOf; rw [h]; rfl

theorem names_mem : ∀ {m : Names} {c d : Nat}, Map.get m c = some d → (c, d) ∈ m
 | [], _, _, h => by simp [Map.get] at h
 | (k, v) :: r, c, d, h => by
  simp only [Map.get] at h
  cases hb : Nat.beq k c with
  | true => rw [hb] at h; cases h; rw [nbeq_true hb]; exact List.mem_cons_self
  | false => rw [hb] at h; exact List.mem_cons_of_mem _ (names_mem h)

theorem bindName_spec {m m' : Names} {c d : Nat} (h : bindName m c d = some m') : NSub m m' ∧ (NInj m → NInj m') ∧ Map.get m' c = some d := by
 unfold bindName at h
 cases hg : Map.get m c with
 | some d' =>
  rw [hg] at h
  simp only at h
  cases hb : Nat.beq d' d with
  | false => rw [hb] at h; cases h
  | true =>
   rw [hb] at h; cases h
   have := nbeq_true hb; subst this
   exact ⟨NSub.refl _, id, hg⟩
 | none =>
  rw [hg] at h
  simp only at h
  split at h
  ·cases h
  ·rename_i hany
   cases h
   have hno : ∀ c' d', Map.get m c' = some d' → d' ≠ d := by
    intro c' d' hc' e
    subst e
    have : (m.any fun p => Nat.beq p.2 d') = true := by
     rw [List.any_eq_true]
     exact ⟨_, names_mem hc', by simp⟩
    rw [hany] at this; cases this
   have hget : ∀ x, Map.get (Map.set m c d) x = if c = x then some d else Map.get m x := by
    intro x
    by_cases e : c = x
    ·subst e; rw [Map.get_set_same, if_pos rfl]
    ·rw [Map.get_set_other _ _ e, if_neg e]
   refine ⟨fun x y hx => ?_, fun hi x x' y hx hx' => ?_, Map.get_set_same _ _ _⟩
   ·rw [hget, if_neg]
    ·exact hx
    ·intro e; subst e; rw [hg] at hx; cases hx
   ·rw [hget] at hx hx'
    by_cases e1 : c = x
    ·by_cases e2 : c = x'
     ·omega
     ·rw [if_pos e1] at hx; rw [if_neg e2] at hx'; cases hx
      exact absurd rfl (hno x' _ hx')
    ·by_cases e2 : c = x'
     ·rw [if_neg e1] at hx; rw [if_pos e2] at hx'; cases hx'
      exact absurd rfl (hno x _ hx)
     ·rw [if_neg e1] at hx; rw [if_neg e2] at hx'; exact hi x x' y hx hx'

theorem bare_ro {P : PHeap} {e : CTs} {v : Value} (h : Bare v) : (CT.ro e).Rep P [] v := by
 obtain ⟨a, h1, h2⟩ := h
 simp only [CT.Rep]
 exact ⟨a, 0, h1, by simp, by simp, fun _ => rfl, fun ad had => ⟨h2 ad had, fun i hi => by simp at hi⟩⟩

theorem ext1_spec {k : K1} {s : S1} {m m' : Names} {x : HL k.pts} (h : ext1 k s m = some (x, m')) :
  NSub m m' ∧ (NInj m → NInj m') ∧ ∀ mf, NSub m' mf → ∀ (P : PHeap) (ε : HMap) (v : Value), Den P ε s v → Den P (eOf mf ε) (conc1 k x) v := by
 have same : ∀ {m m' : Names}, m = m' → NSub m m' ∧ (NInj m → NInj m') := fun e => by subst e; exact ⟨NSub.refl _, id⟩
 unfold ext1 at h
 split at h
 ·cases h; exact ⟨NSub.refl _, id, fun _ _ _ _ _ _ => trivial⟩
 ·split at h
  ·rename_i hk _; cases h; subst hk; exact ⟨NSub.refl _, id, fun _ _ _ _ _ hd => hd⟩
  ·cases h
 ·cases h; exact ⟨NSub.refl _, id, fun _ _ _ _ _ hd => hd⟩
 ·cases h; exact ⟨NSub.refl _, id, fun _ _ _ _ _ hd => hd⟩
 ·split at h
  ·rename_i hk _; cases h; subst hk; exact ⟨NSub.refl _, id, fun _ _ _ _ _ hd => hd⟩
  ·cases h
 ·cases h; exact ⟨NSub.refl _, id, fun _ _ _ _ _ hd => bare_ro hd⟩
 ·split at h
  ·rename_i hk _; cases h; subst hk; exact ⟨NSub.refl _, id, fun _ _ _ _ _ hd => hd⟩
  ·cases h
 ·split at h
  ·rename_i hk _; cases h; subst hk; exact ⟨NSub.refl _, id, fun _ _ _ ε _ hd => pro_rop (ε := ε) hd⟩
  ·cases h
 ·cases h
  refine ⟨NSub.refl _, id, fun _ _ _ _ _ hd => ?_⟩
  simp only [conc1, Den, CT.Rep] at hd ⊢
  exact .inl ⟨by trivial, hd⟩
 ·split at h
  ·rename_i hk _; cases h; exact ⟨NSub.refl _, id, fun _ _ _ _ _ hd => castCT_rep hk hd⟩
  ·cases h
 ·split at h
  ·cases h
   refine ⟨NSub.refl _, id, fun _ _ _ _ _ hd => ?_⟩
   simp only [conc1, Den, CT.Rep] at hd ⊢
   exact .inl ⟨by trivial, hd⟩
  ·cases h
 ·split at h
  ·rename_i hf
   cases h
   refine ⟨NSub.refl _, id, fun _ _ _ _ _ hd => ?_⟩
   simp only [conc1, Den] at hd ⊢
   rw [hd]; exact isFn_eq hf
  ·cases h
 ·cases h; exact ⟨NSub.refl _, id, fun _ _ _ _ _ hd => hd⟩
 ·cases h; exact ⟨NSub.refl _, id, fun _ _ _ _ _ hd => hd⟩
 ·split at h
  ·rename_i hb
   cases h
   obtain ⟨b1, b2, b3⟩ := bindName_spec hb
   refine ⟨b1, b2, fun mf hs P ε v hd => ?_⟩
   simp only [conc1, Den] at hd ⊢
   rw [eOf_some (hs _ _ b3)]; exact hd
  ·cases h
 ·split at h
  ·rename_i hq hb
   cases h
   obtain ⟨b1, b2, b3⟩ := bindName_spec hb
   refine ⟨b1, b2, fun mf hs P ε v hd => ?_⟩
   have := nbeq_true hq; subst this
   simp only [conc1, Den] at hd ⊢
   rw [eOf_some (hs _ _ b3)]; exact hd
  ·cases h
 ·split at h
  ·rename_i hq hb
   cases h
   obtain ⟨b1, b2, b3⟩ := bindName_spec hb
   refine ⟨b1, b2, fun mf hs P ε v hd => ?_⟩
   have := nbeq_true hq; subst this
   simp only [conc1, Den] at hd ⊢
   rw [eOf_some (hs _ _ b3)]; exact hd
  ·cases h
 ·split at h
  ·rename_i hq hb
   cases h
   obtain ⟨b1, b2, b3⟩ := bindName_spec hb
   refine ⟨b1, b2, fun mf hs P ε v hd => ?_⟩
   rw [Bool.and_eq_true] at hq
   have h1 := nbeq_true hq.1
   have h2 := nbeq_true hq.2
   subst h1; subst h2
   simp only [conc1, Den] at hd ⊢
   rw [eOf_some (hs _ _ b3)]; exact hd
  ·cases h
 ·split at h
  ·rename_i hq hb
   cases h
   obtain ⟨b1, b2, b3⟩ := bindName_spec hb
   refine ⟨b1, b2, fun mf hs P ε v hd => ?_⟩
   have := nbeq_true hq; subst this
   simp only [conc1, Den] at hd ⊢
   rw [eOf_some (hs _ _ b3)]; exact hd
  ·cases h
 ·cases h

theorem ext1s_spec : ∀ {ks : List K1} {ss : List S1} {m m' : Names} {x : HL (K1s.pts ks)}, ext1s ks ss m = some (x, m') →
  NSub m m' ∧ (NInj m → NInj m') ∧ ∀ mf, NSub m' mf → ∀ (P : PHeap) (ε : HMap) (vs : List Value), DenL P ε ss vs → DenL P (eOf mf ε) (conc1s ks x) vs
 | [], [], m, m', x, h => by
  simp only [ext1s, Option.some.injEq, Prod.mk.injEq] at h
  obtain ⟨_, rfl⟩ := h
  exact ⟨NSub.refl _, id, fun _ _ _ _ _ h => h⟩
 | k :: ks, s :: ss, m, m', x, h => by
  simp only [ext1s] at h
  split at h
  ·rename_i y m1 h1
   split at h
   ·rename_i z m2 h2
    cases h
    obtain ⟨a1, a2, a3⟩ := ext1_spec h1
    obtain ⟨b1, b2, b3⟩ := ext1s_spec h2
    refine ⟨a1.trans b1, fun hi => b2 (a2 hi), fun mf hs P ε vs ⟨v, vs', e, d1, d2⟩ => ⟨v, vs', e, ?_, ?_⟩⟩
    ·rw [HL.fst_app]; exact a3 mf (b1.trans hs) P ε v d1
    ·rw [HL.snd_app]; exact b3 mf hs P ε vs' d2
   ·cases h
  ·cases h
 | [], _ :: _, _, _, _, h => by simp [ext1s] at h
 | _ :: _, [], _, _, _, h => by simp [ext1s] at h

theorem extV_spec {k : KV} {s : SV} {m m' : Names} {x : HL k.pts} (h : extV k s m = some (x, m')) :
  NSub m m' ∧ (NInj m → NInj m') ∧ ∀ mf, NSub m' mf → ∀ (P : PHeap) (ε : HMap) (v : Value), DenV P ε s v → DenV P (eOf mf ε) (concV k x) v := by
 unfold extV at h
 split at h
 ·obtain ⟨a, b, c⟩ := ext1_spec h
  exact ⟨a, b, fun mf hs P ε v hd => c mf hs P ε v hd⟩
 ·obtain ⟨a, b, c⟩ := ext1s_spec h
  exact ⟨a, b, fun mf hs P ε v ⟨cs, e, hd⟩ => ⟨cs, e, c mf hs P ε _ hd⟩⟩
 ·split at h
  ·rename_i hk _ hn
   split at h
   ·rename_i y1 m1 h1
    split at h
    ·rename_i z m2 h2
     cases h
     obtain ⟨a1, a2, a3⟩ := ext1s_spec h1
     obtain ⟨b1, b2, b3⟩ := ext1s_spec h2
     subst hk
     have := nbeq_true hn
     subst this
     refine ⟨a1.trans b1, fun hi => b2 (a2 hi), fun mf hs P ε v hd => ?_⟩
     obtain ⟨cs, c1, c2, c3, g1, g2, g3, g4, g5⟩ := hd
     refine ⟨cs, c1, c2, c3, g1, g2, ?_, g4, ?_⟩
     ·rw [HL.fst_app]; exact a3 mf (b1.trans hs) P ε _ g3
     ·rw [HL.snd_app]; exact b3 mf hs P ε _ g5
    ·cases h
   ·cases h
  ·cases h
 ·cases h

theorem castM_ents {P : PHeap} {k v k' v' : VT} (h : OT.map k' v' = OT.map k v) (xs : List (k'.T × v'.T)) {es : List MapEntry} (hr : EntsRep P k' v' xs es) : EntsRep P k v (castM h xs) es := by
 cases h; exact hr
theorem extC_spec {k : KC} {s : Chunk} {m m' : Names} {x : HL k.pts} (h : extC k s m = some (x, m')) :
  NSub m m' ∧ (NInj m → NInj m') ∧ ∀ mf, NSub m' mf → ∀ (P : PHeap) (H : HView) (ε : HMap) (v : Value) (fp : List Nat), ChunkOK P H ε v fp s → ChunkOK P H (eOf mf ε) v fp (concC k x) := by
 unfold extC at h
 split at h
 ·obtain ⟨a, b, c⟩ := ext1s_spec h
  refine ⟨a, b, fun mf hs P H ε v fp hd => ?_⟩
  obtain ⟨bb, cs, T, h1, h2, h3, h4⟩ := hd
  exact ⟨bb, cs, T, h1, h2, h3, c mf hs P ε _ h4⟩
 ·split at h
  ·rename_i hk _; cases h; subst hk; exact ⟨NSub.refl _, id, fun _ _ _ _ _ _ _ hd => hd⟩
  ·cases h
 ·split at h
  ·rename_i hk _; cases h; subst hk; exact ⟨NSub.refl _, id, fun _ _ _ _ _ _ _ hd => hd⟩
  ·cases h
 ·split at h
  ·rename_i hk _; cases h; subst hk; exact ⟨NSub.refl _, id, fun _ _ _ _ _ _ _ hd => hd⟩
  ·cases h
 ·cases h; exact ⟨NSub.refl _, id, fun _ _ _ _ _ _ _ hd => hd⟩
 ·split at h
  ·rename_i hk _; cases h; exact ⟨NSub.refl _, id, fun _ _ _ _ _ _ _ hd => castM_map hk _ hd⟩
  ·cases h
 ·rename_i p t n q p' t' n' q' y
  split at h
  ·rename_i hk _; cases h; exact ⟨NSub.refl _, id, fun _ _ _ _ _ _ _ hd => castM_rep (a := .ptrA p' t' n' q') (b := .ptrA p t n q) hk _ hd⟩
  ·cases h
 ·split at h
  ·rename_i hk _ hn
   split at h
   ·rename_i y1 m1 h1
    split at h
    ·rename_i z m2 h2
     cases h
     obtain ⟨a1, a2, a3⟩ := ext1s_spec h1
     obtain ⟨b1, b2, b3⟩ := ext1s_spec h2
     subst hk
     have := nbeq_true hn
     subst this
     refine ⟨a1.trans b1, fun hi => b2 (a2 hi), fun mf hs P H ε v fp hd => ?_⟩
     obtain ⟨bb, cs, T, c1, c2, c3, g1, g2, g3, g4, g5, g6, g7⟩ := hd
     refine ⟨bb, cs, T, c1, c2, c3, g1, g2, g3, g4, ?_, g6, ?_⟩
     ·rw [HL.fst_app]; exact a3 mf (b1.trans hs) P ε _ g5
     ·rw [HL.snd_app]; exact b3 mf hs P ε _ g7
    ·cases h
   ·cases h
  ·cases h
 ·split at h
  ·rename_i hk _ _ hb
   cases h
   subst hk
   obtain ⟨b1, b2, b3⟩ := bindName_spec hb
   refine ⟨b1, b2, fun mf hs P H ε v fp hd => ?_⟩
   rcases hd with hd | ⟨h1, b, o, n, cap, h2, h3, h4⟩
   ·exact .inl hd
   ·exact .inr ⟨h1, b, o, n, cap, by rw [eOf_some (hs _ _ b3)]; exact h2, h3, h4⟩
  ·cases h
 ·split at h
  ·rename_i hk _
   cases h
   exact ⟨NSub.refl _, id, fun _ _ _ _ _ _ _ hd => ⟨castCT_rep hk hd.1, hd.2⟩⟩
  ·cases h
 ·split at h
  ·rename_i hk _
   cases h
   refine ⟨NSub.refl _, id, fun mf hs P H ε v fp hd => ?_⟩
   cases hk
   obtain ⟨b, h1, h2, h3⟩ := hd
   refine ⟨b, h1, h2, ?_⟩
   rcases h3 with ⟨g1, g2, g3⟩ | ⟨m, es, clock, seen, es', h3, h4, h5, h6, h7, h8⟩
   ·exact .inl ⟨g1, rfl, g3⟩
   ·exact .inr ⟨m, es, clock, seen, es', h3, h4, h5, h6, h7, fun p hp => by cases hp⟩
  ·cases h
 ·split at h
  ·rename_i hk _ _ hb
   cases h
   obtain ⟨b1, b2, b3⟩ := bindName_spec hb
   refine ⟨b1, b2, fun mf hs P H ε v fp hd => ?_⟩
   obtain ⟨b, m, es, clock, seen, es', h1, h2, h3, h4, h5, h6, h7, h8, h9, h10⟩ := hd
   refine ⟨b, m, es, clock, seen, es', h1, h2, h3, by rw [eOf_some (hs _ _ b3)]; exact h4, h5, castM_ents hk _ h6, h7, h8, castM_ents hk _ h9, fun p hp => by cases hp⟩
  ·cases h
 ·cases h

theorem extSlots_spec {s : Slots} : ∀ {l : List (Nat × KV)} {m m' : Names} {x : HL (slotPts l)}, extSlots s l m = some (x, m') →
  NSub m m' ∧ (NInj m → NInj m') ∧ ∀ mf, NSub m' mf → ∀ (P : PHeap) (ε : HMap) (a : Act), SlotsOK P ε s a → SlotsOK P (eOf mf ε) (concSlots l x) a
 | [], m, m', x, h => by
  simp only [extSlots, Option.some.injEq, Prod.mk.injEq] at h
  obtain ⟨_, rfl⟩ := h
  exact ⟨NSub.refl _, id, fun _ _ _ _ _ _ _ => trivial⟩
 | (t, k) :: l, m, m', x, h => by
  simp only [extSlots] at h
  split at h
  ·rename_i y m1 h1
   split at h
   ·rename_i z m2 h2
    cases h
    obtain ⟨a1, a2, a3⟩ := extV_spec h1
    obtain ⟨b1, b2, b3⟩ := extSlots_spec h2
    refine ⟨a1.trans b1, fun hi => b2 (a2 hi), fun mf hs P ε a ha u => ?_⟩
    have hcons : Slots.at (concSlots ((t, k) :: l) (HL.app k.pts _ y z)) u = if t = u then concV k y else Slots.at (concSlots l z) u := by
     simp only [concSlots, Slots.at, Map.get, HL.fst_app, HL.snd_app]
     by_cases e : t = u
     ·subst e; simp
     ·rw [if_neg e]
      cases hb : Nat.beq t u with
      | true => exact absurd (nbeq_true hb) e
      | false => rfl
    rw [hcons]
    by_cases e : t = u
    ·subst e; rw [if_pos rfl]; exact a3 mf (b1.trans hs) P ε _ (ha t)
    ·rw [if_neg e]; exact b3 mf hs P ε a ha u
   ·cases h
  ·cases h

theorem extChunks_spec {tab : Tab} : ∀ {l : List (Nat × KC)} {m m' : Names} {x : HL (chunkPts l)}, extChunks tab l m = some (x, m') →
  NSub m m' ∧ (NInj m → NInj m') ∧ ∀ mf, NSub m' mf → ∀ c y, Map.get (concChunks l x) c = some y →
   ∃ d z, Map.get mf c = some d ∧ tab.get d = some z ∧ ∀ (P : PHeap) (H : HView) (ε : HMap) (v : Value) (fp : List Nat), ChunkOK P H ε v fp z → ChunkOK P H (eOf mf ε) v fp y
 | [], m, m', x, h => by
  simp only [extChunks, Option.some.injEq, Prod.mk.injEq] at h
  obtain ⟨_, rfl⟩ := h
  exact ⟨NSub.refl _, id, fun _ _ c y hc => by simp [concChunks, Map.get] at hc⟩
 | (t, k) :: l, m, m', x, h => by
  simp only [extChunks] at h
  split at h
  ·cases h
  ·rename_i d hd
   split at h
   ·cases h
   ·rename_i w hw
    split at h
    ·rename_i y m1 h1
     split at h
     ·rename_i z m2 h2
      cases h
      obtain ⟨a1, a2, a3⟩ := extC_spec h1
      obtain ⟨b1, b2, b3⟩ := extChunks_spec h2
      refine ⟨a1.trans b1, fun hi => b2 (a2 hi), fun mf hs c u hc => ?_⟩
      simp only [concChunks, Map.get, HL.fst_app, HL.snd_app] at hc
      cases hb : Nat.beq t c with
      | true =>
       rw [hb] at hc; cases hc
       have := nbeq_true hb; subst this
       exact ⟨d, w, hs _ _ (b1 _ _ (a1 _ _ hd)), hw, fun P H ε v fp hk => a3 mf (b1.trans hs) P H ε v fp hk⟩
      | false => rw [hb] at hc; exact b3 mf hs c u hc
     ·cases h
    ·cases h

theorem pinned_get : ∀ {l : List Nat} {c d : Nat}, Map.get (pinned l) c = some d → d = c
 | [], _, _, h => by simp [pinned, Map.get] at h
 | k :: r, c, d, h => by
  simp only [pinned, Map.get] at h
  cases hb : Nat.beq k c with
  | true => rw [hb] at h; cases h; exact nbeq_true hb
  | false => rw [hb] at h; exact pinned_get h
theorem pinned_mem : ∀ {l : List Nat} {c : Nat}, c ∈ l → Map.get (pinned l) c = some c
 | k :: r, c, h => by
  simp only [pinned, Map.get]
  cases hb : Nat.beq k c with
  | true => rw [nbeq_true hb]
  | false =>
   rcases List.mem_cons.1 h with e | h
   ·exact absurd e.symm (nbeq_false hb)
   ·exact pinned_mem h

theorem Inv.layHeld {cx : Cx} {P : PHeap} {ε : HMap} {φ : Nat → List Nat} {tab : Tab} {W : World} (I : Inv cx P ε φ tab W) {fp : List Nat} (hh : Held cx P φ tab W fp) {d : Nat} {v : Value} {x : Chunk}
  (hd : ε d = none ∨ ε d = some v) (hv : Handle v) (hok : ChunkOK P (World.view W) (addE [(d, (v, fp))] ε) v fp x) :
  Inv cx P (addE [(d, (v, fp))] ε) (addF [(d, (v, fp))] φ) (tab.set d x) W := by
 have get1 : ∀ {d' : Nat} {u : Value} {f : List Nat}, Map.get [(d, (v, fp))] d' = some (u, f) → d' = d ∧ u = v ∧ f = fp := by
  intro d' u f h
  simp only [Map.get] at h
  cases hb : Nat.beq d d' with
  | true => rw [hb] at h; simp only [Option.some.injEq, Prod.mk.injEq] at h; exact ⟨(nbeq_true hb).symm, h.1.symm, h.2.symm⟩
  | false => rw [hb] at h; cases h
 refine I.install fp [(d, (v, fp))] (fun b hb => (hh.ok b hb).2) (fun c y hc b hb => hh.away c y hc b hb) (Ext.refl _ _) (PHeap.le_refl P) I.psub (fun b hb => .inl hb) ?_ ?_ ?_ ?_ ?_
 ·intro d' u f h; obtain ⟨rfl, rfl, rfl⟩ := get1 h; exact ⟨hd, hv⟩
 ·intro d' y h
  by_cases e : d = d'
  ·subst e; exact .inl ⟨_, by simp [Map.get]; rfl⟩
  ·rw [Map.get_set_other _ _ e] at h; exact .inr h
 ·intro d' u f y h hy
  obtain ⟨rfl, rfl, rfl⟩ := get1 h
  rw [Map.get_set_same] at hy; cases hy
  exact hok
 ·simpa [fpsOf] using hh.nd
 ·intro b hb
  have hb : b ∈ fp := by simpa [fpsOf] using hb
  exact ⟨.inl hb, (hh.ok b hb).1, (hh.ok b hb).2.1⟩

def Turned (cx : Cx) (P : PHeap) (ε : HMap) (W : World) (tab' : Tab) (n' : Nat) (G : PHeap → HMap → Prop) : Prop :=
 ∃ P' ε' φ', P.le P' ∧ HMap.le ε ε' ∧ Inv cx P' ε' φ' tab' W ∧ FreeFrom ε' n' ∧ G P' ε'
theorem addE_le1 {ε : HMap} {d : Nat} {v : Value} {fp : List Nat} (hd : ε d = none ∨ ε d = some v) : HMap.le ε (addE [(d, (v, fp))] ε) :=
 addE_le fun d' u f h => by
  simp only [Map.get] at h
  cases hb : Nat.beq d d' with
  | true => rw [hb] at h; simp only [Option.some.injEq, Prod.mk.injEq] at h; rw [← nbeq_true hb, ← h.1]; exact hd
  | false => rw [hb] at h; cases h
theorem addE_self {ε : HMap} {d : Nat} {v : Value} {fp : List Nat} : addE [(d, (v, fp))] ε d = some v := by simp [addE, Map.get]
theorem addE_free {ε : HMap} {d n : Nat} {v : Value} {fp : List Nat} (hf : FreeFrom ε n) (hd : d < n) : FreeFrom (addE [(d, (v, fp))] ε) n := fun c hc => by
 have : Nat.beq d c = false := by cases h : Nat.beq d c with | true => have := nbeq_true h; omega | false => rfl
 simp only [addE, Map.get, this]; exact hf c hc
theorem FreeFrom.up {ε : HMap} {n m : Nat} (h : FreeFrom ε n) (hm : n ≤ m) : FreeFrom ε m := fun c hc => h c (by omega)
theorem addE_free' {ε : HMap} {n : Nat} {v : Value} {fp : List Nat} (hf : FreeFrom ε n) : FreeFrom (addE [(n, (v, fp))] ε) (n + 1) := fun c hc => by
 have : Nat.beq n c = false := by cases h : Nat.beq n c with | true => have := nbeq_true h; omega | false => rfl
 simp only [addE, Map.get, this]; exact hf c (by omega)
theorem bare_handle {v : Value} (h : Bare v) : Handle v := by obtain ⟨a, h, _⟩ := h; exact .inr (.inl ⟨a, 0, 0, h⟩)

theorem adjL_sound {cx : Cx} {W : World} {g : K1 → S1 → Nat → Prog (S1 × Nat)}
  (hg : ∀ k s n tab P ε φ v r tab', Inv cx P ε φ tab W → FreeFrom ε n → Den P ε s v → (g k s n).run tab = some (r, tab') → Turned cx P ε W tab' r.2 fun P' ε' => Den P' ε' r.1 v) :
  ∀ (ks : List K1) (ss : List S1) (n : Nat) (tab : Tab) (P : PHeap) (ε : HMap) (φ : Nat → List Nat) (vs : List Value) (r : List S1 × Nat) (tab' : Tab),
   Inv cx P ε φ tab W → FreeFrom ε n → DenL P ε ss vs → (adjL g ks ss n).run tab = some (r, tab') → Turned cx P ε W tab' r.2 fun P' ε' => DenL P' ε' r.1 vs
 | [], ss, n, tab, P, ε, φ, vs, r, tab', I, hf, hd, h => by
  simp only [adjL] at h
  obtain ⟨rfl, rfl⟩ := run_pure_inv h
  exact ⟨P, ε, φ, PHeap.le_refl P, fun _ _ h => h, I, hf, hd⟩
 | _ :: _, [], n, tab, P, ε, φ, vs, r, tab', I, hf, hd, h => by
  simp only [adjL] at h
  obtain ⟨rfl, rfl⟩ := run_pure_inv h
  exact ⟨P, ε, φ, PHeap.le_refl P, fun _ _ h => h, I, hf, hd⟩
 | k :: ks, s :: ss, n, tab, P, ε, φ, vs, r, tab', I, hf, ⟨v, vs', e, d1, d2⟩, h => by
  simp only [adjL] at h
  obtain ⟨x, t1, h1, h⟩ := run_bind_inv h
  obtain ⟨y, t2, h2, h⟩ := run_bind_inv h
  obtain ⟨rfl, rfl⟩ := run_pure_inv h
  obtain ⟨P1, ε1, φ1, a1, a2, a3, a4, a5⟩ := hg k s n tab P ε φ v x t1 I hf d1 h1
  obtain ⟨P2, ε2, φ2, b1, b2, b3, b4, b5⟩ := adjL_sound hg ks ss x.2 t1 P1 ε1 φ1 vs' y tab' a3 a4 (DenL.mono a1 a2 _ _ d2) h2
  exact ⟨P2, ε2, φ2, PHeap.le_trans a1 b1, fun c w hw => b2 c w (a2 c w hw), b3, b4, v, vs', e, Den.mono b1 b2 _ _ a5, b5⟩

theorem adj1_sound {cx : Cx} {W : World} {kc : Map KC} : ∀ (f : Nat) (k : K1) (s : S1) (n : Nat) (tab : Tab) (P : PHeap) (ε : HMap) (φ : Nat → List Nat) (v : Value) (r : S1 × Nat) (tab' : Tab),
  Inv cx P ε φ tab W → FreeFrom ε n → Den P ε s v → (adj1 kc f k s n).run tab = some (r, tab') → Turned cx P ε W tab' r.2 fun P' ε' => Den P' ε' r.1 v := by
 intro f
 induction f with
 | zero =>
  intro k s n tab P ε φ v r tab' I hf hd h
  simp only [adj1] at h
  obtain ⟨rfl, rfl⟩ := run_pure_inv h
  exact ⟨P, ε, φ, PHeap.le_refl P, fun _ _ h => h, I, hf, hd⟩
 | succ f ih =>
  intro k s n tab P ε φ v r tab' I hf hd h
  have stay : ∀ {r tab'}, (Prog.pure (s, n)).run tab = some (r, tab') → Turned cx P ε W tab' r.2 fun P' ε' => Den P' ε' r.1 v := fun h => by
   obtain ⟨rfl, rfl⟩ := run_pure_inv h
   exact ⟨P, ε, φ, PHeap.le_refl P, fun _ _ h => h, I, hf, hd⟩
  have ro : ∀ {e : CTs} {s' : S1}, Den P ε s' v → ((takeC (.ro e) s').bind fun xs => .pure (.ro e xs, n)).run tab = some (r, tab') → Turned cx P ε W tab' r.2 fun P' ε' => Den P' ε' r.1 v := fun hd h => by
   obtain ⟨xs, t1, h1, h⟩ := run_bind_inv h
   obtain ⟨rfl, rfl⟩ := run_pure_inv h
   obtain ⟨P', φ', k1, k2, _, k4, _⟩ := takeC_sound I Held.nil _ _ v hd xs tab' h1
   exact ⟨P', ε, φ', k1, fun _ _ h => h, k2, hf, k4⟩
  simp only [adj1] at h
  split at h
  · -- nils
   split at h
   ·rename_i e _
    obtain ⟨h0, h1⟩ := run_new_inv h
    obtain ⟨rfl, rfl⟩ := run_pure_inv h1
    refine ⟨P, _, _, PHeap.le_refl P, addE_le1 (.inl (hf n (Nat.le_refl n))), I.layHeld (fp := []) Held.nil (.inl (hf n (Nat.le_refl n))) (bare_handle hd) ?_, addE_free' hf, addE_self⟩
    exact .inl ⟨rfl, hd, rfl⟩
   ·exact stay h
  · -- nilp
   split at h
   ·rename_i e _
    obtain ⟨h0, h1⟩ := run_new_inv h
    obtain ⟨rfl, rfl⟩ := run_pure_inv h1
    have hv : v = .pointer none := hd
    subst hv
    refine ⟨P, _, _, PHeap.le_refl P, addE_le1 (.inl (hf n (Nat.le_refl n))), I.layHeld (fp := []) Held.nil (.inl (hf n (Nat.le_refl n))) (.inl ⟨_, rfl⟩) ?_, addE_free' hf, addE_self⟩
    simp only [ChunkOK, OT.Rep]
    exact .inl ⟨trivial, trivial, trivial⟩
   ·rename_i p t m q _
    obtain ⟨h0, h1⟩ := run_new_inv h
    obtain ⟨rfl, rfl⟩ := run_pure_inv h1
    have hv : v = .pointer none := hd
    subst hv
    refine ⟨P, _, _, PHeap.le_refl P, addE_le1 (.inl (hf n (Nat.le_refl n))), I.layHeld (fp := []) Held.nil (.inl (hf n (Nat.le_refl n))) (.inl ⟨_, rfl⟩) ?_, addE_free' hf, addE_self⟩
    simp only [ChunkOK, OT.Rep]
    exact .inl ⟨trivial, trivial, trivial⟩
   ·exact stay h
  · -- view
   rename_i d z off len
   split at h
   ·obtain ⟨y, hc, h⟩ := run_get_inv h
    cases y <;> first | exact stay h | skip
    rename_i e xs
    simp only at h
    split at h
    ·rename_i hz
     have hz := nbeq_true hz
     have h : (Prog.new n (.row e ((xs.drop off).take len)) (.pure (S1.own n, n + 1))).run (tab.del d) = some (r, tab') := h
     obtain ⟨h0, h1⟩ := run_new_inv h
     obtain ⟨rfl, rfl⟩ := run_pure_inv h1
     obtain ⟨w, e1, e2⟩ := I.chunk d _ hc
     obtain ⟨k1, k2⟩ := I.takeOut Held.nil hc
     simp only [List.append_nil] at k2
     have fr := hf n (Nat.le_refl n)
     rcases hd with ⟨b, o, m, cap, cp, g1, g2, g3, g4, g5, g6, g7⟩ | ⟨g1, g2⟩
     ·rw [e1] at g1; cases g1
      rcases e2 with ⟨_, ⟨a, q2, _⟩, _⟩ | ⟨b', off', cap', cs, T, fz, q1, q2, q3, q4, q5, q6, q7, q8⟩
      · -- a slice without room
       injection q2 with q2 q2' q2''
       subst q2'; subst q2''
       have hl : len = 0 := by omega
       subst hl
       refine ⟨P, _, _, PHeap.le_refl P, addE_le1 (.inl fr), (I.sub fun c x hx => ?_).layHeld (fp := []) Held.nil (.inl fr) (.inr (.inl ⟨_, _, _, g2⟩)) ?_, addE_free' hf, addE_self⟩
       ·by_cases e : d = c
        ·subst e; rw [Map.get_del_same] at hx; cases hx
        ·rwa [Map.get_del_other _ e] at hx
       ·refine .inl ⟨by simp, ⟨_, by rw [g2]; congr 1; omega, fun ad had => by cases had; intro _; rfl⟩, rfl⟩
      ·injection q1 with q1 q1' q1''
       cases q1; subst q1''
       refine ⟨P, _, _, PHeap.le_refl P, addE_le1 (.inl fr), k1.layHeld k2 (.inl fr) (.inr (.inl ⟨_, _, _, g2⟩)) ?_, addE_free' hf, addE_self⟩
       refine .inr ⟨b, o + off * z, cp, cs, T, fz, ?_, q2, q3, q4, ?_, by omega, ?_, ?_⟩
       ·rw [g2]; simp; omega
       ·simp; omega
       ·rw [← hz]
        have : off * e.size + cp * e.size ≤ cap * e.size := by rw [← Nat.add_mul]; exact Nat.mul_le_mul_right _ (by omega)
        omega
       ·intro i hi
        simp at hi
        have hx : ((xs.drop off).take len)[i]'(by simp; omega) = xs[off + i]'(by omega) := by simp
        rw [hx]
        have := q8 (off + i) (by omega)
        have e4 : ∀ j, o + off * z + i * e.size + j = o + (off + i) * e.size + j := fun j => by rw [← hz, Nat.add_mul]; omega
        simpa only [e4] using this
     ·subst g1
      refine ⟨P, _, _, PHeap.le_refl P, addE_le1 (.inl fr), (I.sub fun c x hx => ?_).layHeld (fp := []) Held.nil (.inl fr) (bare_handle g2) ?_, addE_free' hf, addE_self⟩
      ·by_cases e : d = c
       ·subst e; rw [Map.get_del_same] at hx; cases hx
       ·rwa [Map.get_del_other _ e] at hx
      ·exact .inl ⟨by simp, g2, rfl⟩
    ·exact stay h
   ·exact stay h
  · -- own
   rename_i c d
   split at h
   · -- into a closed one
    rename_i e _
    obtain ⟨y, hc, h⟩ := run_get_inv h
    cases y <;> first | exact stay h | skip
    rename_i vs
    have h : ((takeOs e vs).bind fun x => .new d (.fold e (some x)) (.pure (S1.own d, n))).run (tab.del d) = some (r, tab') := h
    obtain ⟨x, t1, h1, h⟩ := run_bind_inv h
    obtain ⟨h0, h2⟩ := run_new_inv h
    obtain ⟨rfl, rfl⟩ := run_pure_inv h2
    have hv : ε d = some v := hd
    obtain ⟨w, e1, e2⟩ := I.chunk d _ hc
    rw [hv] at e1; cases e1
    obtain ⟨k1, k2⟩ := I.takeOut Held.nil hc
    obtain ⟨b, cs, T, f1, f2, f3, f4⟩ := e2
    rw [f2] at k2
    obtain ⟨P2, φ2, fp, m1, m2, m3, m4, m5⟩ := takeOs_sound e vs cs.toList x (tab.del d) t1 P φ ([b] ++ []) k1 k2 f4 h1
    have hlt : d < n := by
     rcases Nat.lt_or_ge d n with h | h
     ·exact h
     ·have := hf d h; rw [hv] at this; cases this
    have m3' : Held cx P2 φ2 t1 W (b :: fp) := m3.perm (List.perm_append_comm (l₁ := fp) (l₂ := [b]))
    refine ⟨P2, _, _, m1, addE_le1 (.inr hv), m2.layHeld m3' (.inr hv) (I.hand d v hv) ?_, addE_free hf hlt, addE_self⟩
    simp only [ChunkOK, OT.Rep]
    exact .inr ⟨x, b, cs, T, fp, rfl, f1, rfl, f3, m4⟩
   · -- cell by cell
    rename_i ks _
    obtain ⟨y, hc, h⟩ := run_get_inv h
    cases y <;> first | exact stay h | skip
    rename_i ss
    have h : ((adjL (adj1 kc f) ks ss n).bind fun q => Prog.get d fun
     | .cells _ => .set d (.cells q.1) (.pure (S1.own d, q.2))
     | _ => .fail).run tab = some (r, tab') := h
    obtain ⟨q, t1, h1, h⟩ := run_bind_inv h
    obtain ⟨y2, hc2, h⟩ := run_get_inv h
    cases y2 <;> first | exact (run_fail_inv h).elim | skip
    rename_i ss2
    have h2 : (Prog.pure (S1.own d, q.2)).run (t1.set d (.cells q.1)) = some (r, tab') := h
    obtain ⟨rfl, rfl⟩ := run_pure_inv h2
    have hv : ε d = some v := hd
    obtain ⟨w, e1, b, cs, T, f1, f2, f3, f4⟩ := I.chunk d _ hc
    rw [hv] at e1; cases e1
    obtain ⟨P1, ε1, φ1, a1, a2, a3, a4, a5⟩ := adjL_sound (fun k s n tab P ε φ v r tab' => ih k s n tab P ε φ v r tab') ks ss n tab P ε φ cs.toList q t1 I hf f4 h1
    have hv1 : ε1 d = some v := a2 d v hv
    obtain ⟨w2, e1', b', cs', T', f1', f2', f3', f4'⟩ := a3.chunk d _ hc2
    rw [hv1] at e1'; cases e1'
    rw [f1] at f1'; cases f1'
    have hcs : cs' = cs ∧ T' = T := by rw [f3] at f3'; cases f3'; exact ⟨rfl, rfl⟩
    obtain ⟨rfl, rfl⟩ := hcs
    refine ⟨P1, ε1, φ1, a1, a2, ?_, a4, hv1⟩
    have key := a3.write (cs := cs') (T := T') (fz := (0, 0)) (x' := .cells q.1) hc2 f2' f3' (fun h hh => by
     rw [hv1] at hh; cases hh
     rw [setArr_self f3']
     exact ⟨b, cs', T', f1, rfl, f3', a5⟩)
    rwa [setArr_self f3'] at key
   · -- from now on only read
    obtain ⟨xs, t1, h1, h⟩ := run_bind_inv h
    obtain ⟨rfl, rfl⟩ := run_pure_inv h
    obtain ⟨P', φ', k1, k2, _, k4, _⟩ := takeC_sound I Held.nil _ _ v hd xs tab' h1
    exact ⟨P', ε, φ', k1, fun _ _ h => h, k2, hf, hd⟩
   · -- a map, the same
    obtain ⟨xs, t1, h1, h⟩ := run_bind_inv h
    obtain ⟨rfl, rfl⟩ := run_pure_inv h
    obtain ⟨P', φ', k1, k2, _, k4, _⟩ := takeC_sound I Held.nil _ _ v hd xs tab' h1
    exact ⟨P', ε, φ', k1, fun _ _ h => h, k2, hf, hd⟩
   · -- into a closed one with an array
    rename_i p t m q _
    have hv : ε d = some v := hd
    have hlt : d < n := by
     rcases Nat.lt_or_ge d n with h | h
     ·exact h
     ·have := hf d h; rw [hv] at this; cases this
    have fin : ((takeO (.ptrA p t m q) (.own d)).bind fun x => .new d (.foldA p t m q x) (.pure (S1.own d, n))).run tab = some (r, tab') → Turned cx P ε W tab' r.2 fun P' ε' => Den P' ε' r.1 v := fun h => by
     obtain ⟨x, t1, h1, h⟩ := run_bind_inv h
     obtain ⟨h0, h2⟩ := run_new_inv h
     obtain ⟨rfl, rfl⟩ := run_pure_inv h2
     obtain ⟨P2, φ2, fp, m1, m2, m3, m4, m5⟩ := takeO_sound (.ptrA p t m q) (.own d) v x tab t1 P φ [] I Held.nil hd h1
     rw [List.append_nil] at m3
     exact ⟨P2, _, _, m1, addE_le1 (.inr hv), m2.layHeld m3 (.inr hv) (I.hand d v hv) m4, addE_free hf hlt, addE_self⟩
    obtain ⟨y, hc, h⟩ := run_get_inv h
    cases y <;> first | exact stay h | skip
    ·exact fin h
    ·exact fin h
   · -- cell by cell, an array amid
    rename_i ks _ _ ls _
    obtain ⟨y, hc, h⟩ := run_get_inv h
    cases y <;> first | exact stay h | skip
    rename_i vs t0 n0 y0 ws
    have h : ((adjL (adj1 kc f) ks vs n).bind fun q => (adjL (adj1 kc f) ls ws q.2).bind fun q2 => Prog.get d fun
     | .cellsA vs' t m' y _ => match Nat.beq vs'.length q.1.length, Nat.beq m' n0 with
      | true, true => .set d (.cellsA q.1 t m' y q2.1) (.pure (S1.own d, q2.2))
      | _, _ => .fail
     | _ => .fail).run tab = some (r, tab') := h
    obtain ⟨q, t1, h1, h⟩ := run_bind_inv h
    obtain ⟨q2, t2, h2, h⟩ := run_bind_inv h
    obtain ⟨y2, hc2, h⟩ := run_get_inv h
    cases y2 <;> first | exact (run_fail_inv h).elim | skip
    rename_i vs2 t3 n3 y3 ws2
    simp only at h
    split at h <;> first | exact (run_fail_inv h).elim | skip
    rename_i g1 g2
    have g1 := nbeq_true g1
    have g2 := nbeq_true g2
    have h3 : (Prog.pure (S1.own d, q2.2)).run (t2.set d (.cellsA q.1 t3 n3 y3 q2.1)) = some (r, tab') := h
    obtain ⟨rfl, rfl⟩ := run_pure_inv h3
    have hv : ε d = some v := hd
    obtain ⟨w, e1, b, cs, T, c1, c2, c3, f1, f2, f3, f4, f5, f6, f7⟩ := I.chunk d _ hc
    rw [hv] at e1; cases e1
    obtain ⟨P1, ε1, φ1, a1, a2, a3, a4, a5⟩ := adjL_sound (fun k s n tab P ε φ v r tab' => ih k s n tab P ε φ v r tab') ks vs n tab P ε φ c1 q t1 I hf f5 h1
    obtain ⟨P2, ε2, φ2, b1, b2, b3, b4, b5⟩ := adjL_sound (fun k s n tab P ε φ v r tab' => ih k s n tab P ε φ v r tab') ls ws q.2 t1 P1 ε1 φ1 c3 q2 t2 a3 a4 (DenL.mono a1 a2 _ _ f7) h2
    have hv1 : ε2 d = some v := b2 d v (a2 d v hv)
    obtain ⟨w2, e1', b', cs', T', d1, d2, d3, f1', f2', f3', f4', f5', f6', f7'⟩ := b3.chunk d _ hc2
    rw [hv1] at e1'; cases e1'
    rw [f1] at f1'; cases f1'
    have hcs : cs' = cs ∧ T' = T := by rw [f3] at f3'; cases f3'; exact ⟨rfl, rfl⟩
    obtain ⟨rfl, rfl⟩ := hcs
    have l1 := a5.length
    have l2 := f5'.length
    have l3 := f6.1
    have l4 := f6'.1
    obtain ⟨i1, i2⟩ := List.append_inj (f4.symm.trans f4') (by omega)
    obtain ⟨i2, i3⟩ := List.append_inj i2 (by omega)
    subst i1; subst i2; subst i3
    refine ⟨P2, ε2, φ2, PHeap.le_trans a1 b1, fun c w hw => b2 c w (a2 c w hw), ?_, b4, hv1⟩
    have key := b3.write (cs := cs') (T := T') (fz := (0, 0)) (x' := .cellsA q.1 t3 n3 y3 q2.1) hc2 f2' f3' (fun h hh => by
     rw [hv1] at hh; cases hh
     rw [setArr_self f3']
     exact ⟨b, cs', T', c1, c2, c3, f1, rfl, f3', f4, DenL.mono b1 b2 _ _ a5, f6', b5⟩)
    rwa [setArr_self f3'] at key
   ·exact stay h
  ·exact ro hd h
  ·exact ro hd h
  ·obtain ⟨xs, t1, h1, h⟩ := run_bind_inv h
   obtain ⟨rfl, rfl⟩ := run_pure_inv h
   obtain ⟨P', φ', k1, k2, _, k4, _⟩ := takeC_sound I Held.nil _ _ v hd xs tab' h1
   exact ⟨P', ε, φ', k1, fun _ _ h => h, k2, hf, k4⟩
  ·obtain ⟨xs, t1, h1, h⟩ := run_bind_inv h
   obtain ⟨rfl, rfl⟩ := run_pure_inv h
   obtain ⟨P', φ', k1, k2, _, k4, _⟩ := takeC_sound I Held.nil _ _ v hd xs tab' h1
   exact ⟨P', ε, φ', k1, fun _ _ h => h, k2, hf, k4⟩
  ·exact stay h

theorem adjV_sound {cx : Cx} {W : World} {kc : Map KC} (k : KV) (s : SV) (n : Nat) {tab : Tab} {P : PHeap} {ε : HMap} {φ : Nat → List Nat} {v : Value} {r : SV × Nat} {tab' : Tab}
  (I : Inv cx P ε φ tab W) (hf : FreeFrom ε n) (hd : DenV P ε s v) (h : (adjV kc k s n).run tab = some (r, tab')) : Turned cx P ε W tab' r.2 fun P' ε' => DenV P' ε' r.1 v := by
 unfold adjV at h
 split at h
 ·obtain ⟨x, t1, h1, h⟩ := run_bind_inv h
  obtain ⟨rfl, rfl⟩ := run_pure_inv h
  exact adj1_sound _ _ _ _ _ P ε φ v x tab' I hf hd h1
 ·obtain ⟨x, t1, h1, h⟩ := run_bind_inv h
  obtain ⟨rfl, rfl⟩ := run_pure_inv h
  obtain ⟨cs, e, hd⟩ := hd
  obtain ⟨P', ε', φ', a1, a2, a3, a4, a5⟩ := adjL_sound (adj1_sound (kc := kc) adjDepth) _ _ _ _ P ε φ cs.toList x tab' I hf hd h1
  exact ⟨P', ε', φ', a1, a2, a3, a4, cs, e, a5⟩
 ·obtain ⟨x, t1, h1, h⟩ := run_bind_inv h
  obtain ⟨z, t2, h2, h⟩ := run_bind_inv h
  obtain ⟨rfl, rfl⟩ := run_pure_inv h
  obtain ⟨cs, c1, c2, c3, e, e2, d1, d2, d3⟩ := hd
  obtain ⟨P1, ε1, φ1, a1, a2, a3, a4, a5⟩ := adjL_sound (adj1_sound (kc := kc) adjDepth) _ _ _ _ P ε φ c1 x t1 I hf d1 h1
  obtain ⟨P2, ε2, φ2, b1, b2, b3, b4, b5⟩ := adjL_sound (adj1_sound (kc := kc) adjDepth) _ _ _ _ P1 ε1 φ1 c3 z tab' a3 a4 (DenL.mono a1 a2 _ _ d3) h2
  exact ⟨P2, ε2, φ2, PHeap.le_trans a1 b1, fun c w hw => b2 c w (a2 c w hw), b3, b4, cs, c1, c2, c3, e, e2, DenL.mono b1 b2 _ _ a5, (d2.mono a1).mono b1, b5⟩
 ·obtain ⟨rfl, rfl⟩ := run_pure_inv h
  exact ⟨P, ε, φ, PHeap.le_refl P, fun _ _ h => h, I, hf, hd⟩

theorem adjSlots_sound {cx : Cx} {W : World} {kc : Map KC} {a : Act} : ∀ (l : List (Nat × KV)) (s : Slots) (n : Nat) (tab : Tab) (P : PHeap) (ε : HMap) (φ : Nat → List Nat) (r : Slots × Nat) (tab' : Tab),
  Inv cx P ε φ tab W → FreeFrom ε n → SlotsOK P ε s a → (adjSlots kc l s n).run tab = some (r, tab') → Turned cx P ε W tab' r.2 fun P' ε' => SlotsOK P' ε' r.1 a
 | [], s, n, tab, P, ε, φ, r, tab', I, hf, hs, h => by
  simp only [adjSlots] at h
  obtain ⟨rfl, rfl⟩ := run_pure_inv h
  exact ⟨P, ε, φ, PHeap.le_refl P, fun _ _ h => h, I, hf, hs⟩
 | (t, k) :: l, s, n, tab, P, ε, φ, r, tab', I, hf, hs, h => by
  simp only [adjSlots] at h
  obtain ⟨x, t1, h1, h⟩ := run_bind_inv h
  obtain ⟨P1, ε1, φ1, a1, a2, a3, a4, a5⟩ := adjV_sound k (s.at t) n I hf (hs t) h1
  obtain ⟨P2, ε2, φ2, b1, b2, b3, b4, b5⟩ := adjSlots_sound l (Map.set s t x.1) x.2 t1 P1 ε1 φ1 r tab' a3 a4 (fun u => by
   by_cases e : t = u
   ·subst e; rw [at_set_same]; exact a5
   ·rw [at_set_other _ _ e]; exact DenV.mono a1 a2 _ _ (hs u)) h
  exact ⟨P2, ε2, φ2, PHeap.le_trans a1 b1, fun c w hw => b2 c w (a2 c w hw), b3, b4, b5⟩

theorem adjPins_sound {cx : Cx} {W : World} {kc : Map KC} : ∀ (l : List Nat) (n : Nat) (tab : Tab) (P : PHeap) (ε : HMap) (φ : Nat → List Nat) (r : Nat) (tab' : Tab),
  Inv cx P ε φ tab W → FreeFrom ε n → (∀ c ∈ l, ε c ≠ none) → (adjPins kc l n).run tab = some (r, tab') → Turned cx P ε W tab' r fun _ _ => True
 | [], n, tab, P, ε, φ, r, tab', I, hf, _, h => by
  simp only [adjPins] at h
  obtain ⟨rfl, rfl⟩ := run_pure_inv h
  exact ⟨P, ε, φ, PHeap.le_refl P, fun _ _ h => h, I, hf, trivial⟩
 | c :: l, n, tab, P, ε, φ, r, tab', I, hf, hl, h => by
  simp only [adjPins] at h
  obtain ⟨x, t1, h1, h⟩ := run_bind_inv h
  cases hc : ε c with
  | none => exact absurd hc (hl c (by simp))
  | some v =>
   obtain ⟨P1, ε1, φ1, a1, a2, a3, a4, a5⟩ := adj1_sound _ _ _ _ _ P ε φ v x t1 I hf (show Den P ε (.own c) v from hc) h1
   obtain ⟨P2, ε2, φ2, b1, b2, b3, b4, b5⟩ := adjPins_sound l x.2 t1 P1 ε1 φ1 r tab' a3 a4 (fun d hd => by
    have := hl d (by simp [hd])
    cases he : ε d with
    | none => exact absurd he this
    | some w => rw [a2 d w he]; simp) h
   exact ⟨P2, ε2, φ2, PHeap.le_trans a1 b1, fun c w hw => b2 c w (a2 c w hw), b3, b4, trivial⟩

theorem extract_sound' {cx : Cx} {n : Nat} {pins : List Nat} (hpin : ∀ c v, cx.pins c = some v → c ∈ pins) {k : Skel} {st : St} {x : HL k.pts} (h : extract pins k st = some x) {P : PHeap} {ε : HMap} {φ : Nat → List Nat} {a : Act} {W : World}
  (M : Match cx n P ε φ st.slots st.tab a W) : ∃ ε' φ', Match cx n P ε' φ' (conc k x).slots (conc k x).tab a W ∧ FreeFrom ε' (conc k x).next := by
 unfold extract at h
 split at h
 ·rename_i y m1 h1
  split at h
  ·rename_i z m2 h2
   split at h
   ·rename_i hall
    cases h
    obtain ⟨a1, a2, a3⟩ := extSlots_spec h1
    obtain ⟨b1, b2, b3⟩ := extChunks_spec h2
    have hinj : NInj m2 := b2 (a2 fun c c' d hc hc' => (pinned_get hc).symm.trans (pinned_get hc'))
    have b3 := b3 m2 (NSub.refl _)
    have hp : ∀ {c d}, Map.get m2 c = some d → pOf m2 φ c = φ d := fun hg => by unfold pOf; rw [hg]
    refine ⟨eOf m2 ε, pOf m2 φ, ⟨⟨?_, ?_, ?_, ?_, M.inv.psub, M.inv.ext, M.inv.pmono, M.inv.pnew, ?_⟩, ?_, M.size, M.dfs, fun c v hc => ?_⟩, ?_⟩
    ·intro c u hc
     simp only [conc, HL.snd_app] at hc
     obtain ⟨d, w, h1, h2, h3⟩ := b3 c u hc
     obtain ⟨v, hv, hk⟩ := M.inv.chunk d w h2
     rw [eOf_some h1, hp h1]
     exact ⟨v, hv, h3 _ _ _ _ _ hk⟩
    ·intro c u hc
     simp only [conc, HL.snd_app] at hc
     obtain ⟨d, w, h1, h2, h3⟩ := b3 c u hc
     rw [hp h1]; exact M.inv.nodup d w h2
    ·intro c c' u u' hne hc hc' b hb
     simp only [conc, HL.snd_app] at hc hc'
     obtain ⟨d, w, h1, h2, h3⟩ := b3 c u hc
     obtain ⟨d', w', h1', h2', h3'⟩ := b3 c' u' hc'
     rw [hp h1] at hb; rw [hp h1']
     refine M.inv.apart d d' w w' (fun e => hne ?_) h2 h2' b hb
     subst e; exact hinj c c' d h1 h1'
    ·intro c u hc b hb
     simp only [conc, HL.snd_app] at hc
     obtain ⟨d, w, h1, h2, h3⟩ := b3 c u hc
     rw [hp h1] at hb
     exact M.inv.live d w h2 b hb
    ·intro c w hw
     unfold eOf at hw
     cases hg : Map.get m2 c with
     | none => rw [hg] at hw; cases hw
     | some d => rw [hg] at hw; exact M.inv.hand d w hw
    ·simp only [conc, HL.fst_app]
     exact a3 m2 b1 P ε a M.slots
    ·rw [eOf_some (b1 _ _ (a1 _ _ (pinned_mem (hpin c v hc))))]; exact M.pin c v hc
    ·intro c hc
     unfold eOf
     cases hg : Map.get m2 c with
     | none => rfl
     | some d =>
      have := List.all_eq_true.1 hall _ (names_mem hg)
      have := Nat.le_of_ble_eq_true this
      simp only [conc] at hc
      omega
   ·cases h
  ·cases h
 ·cases h

theorem intoK_sound {cx : Cx} {n : Nat} {pins : List Nat} (hpin : ∀ c v, cx.pins c = some v → c ∈ pins) (hpin' : ∀ c ∈ pins, ∃ v, cx.pins c = some v) {k : Skel} {st : St} {R : Type} {K : HL k.pts → Option R} {r : R} (h : intoK pins k st K = some r) {P : PHeap} {ε : HMap} {φ : Nat → List Nat} {a : Act} {W : World}
  (M : Match cx n P ε φ st.slots st.tab a W) (hf : FreeFrom ε st.next) : ∃ x P' ε' φ', K x = some r ∧ Match cx n P' ε' φ' (conc k x).slots (conc k x).tab a W ∧ FreeFrom ε' (conc k x).next := by
 unfold intoK at h
 rw [Prog.runK_eq] at h
 cases hr : (adjP pins k st).run st.tab with
 | none => rw [hr] at h; cases h
 | some q =>
  rw [hr] at h
  simp only [Option.bind_some] at h
  split at h
  ·rename_i x hx
   unfold adjP at hr
   obtain ⟨y, t1, h1, hr⟩ := run_bind_inv hr
   obtain ⟨m, t2, h2, hr⟩ := run_bind_inv hr
   obtain ⟨e1, e2⟩ := run_pure_inv hr
   obtain ⟨P1, ε1, φ1, a1, a2, a3, a4, a5⟩ := adjSlots_sound k.slots st.slots st.next st.tab P ε φ y t1 M.inv hf M.slots h1
   obtain ⟨P2, ε2, φ2, b1, b2, b3, b4, _⟩ := adjPins_sound pins y.2 t1 P1 ε1 φ1 m t2 a3 a4 (fun c hc => by
    obtain ⟨v, hv⟩ := hpin' c hc
    rw [a2 c v (M.pin c v hv)]; simp) h2
   have M2 : Match cx n P2 ε2 φ2 q.1.1 q.2 a W := ⟨by rw [e2]; exact b3, by rw [e1]; exact a5.mono b1 b2, M.size, M.dfs, fun c v hc => b2 c v (a2 c v (M.pin c v hc))⟩
   obtain ⟨ε', φ', M3, hf3⟩ := extract_sound' hpin (st := ⟨q.1.1, q.2, q.1.2⟩) hx M2
   exact ⟨x, P2, ε', φ', h, M3, hf3⟩
  ·cases h
end Go.Sx
