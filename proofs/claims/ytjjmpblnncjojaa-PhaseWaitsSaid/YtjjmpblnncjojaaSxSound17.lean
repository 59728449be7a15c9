/- A part of the proof: a walk of Go code by plain functions, and that it is sound. -/
import Derived.Test.YtjjmpblnncjojaaSxSound16
namespace Go.Sx

def NSub (m m' : Names) : Prop := ∀ c d, Map.get m c = some d → Map.get m' c = some d
theorem NSub.refl (m : Names) : NSub m m := fun _ _ h => h
theorem NSub.trans {a b c : Names} (h : NSub a b) (h' : NSub b c) : NSub a c := fun x y hx => h' x y (h x y hx)
def NInj (m : Names) : Prop := ∀ c c' d, Map.get m c = some d → Map.get m c' = some d → c = c'
def eOf (m : Names) (ε : HMap) : HMap := fun c => (Map.get m c).bind ε
def pOf (m : Names) (φ : Nat → List Nat) : Nat → List Nat := fun c => match Map.get m c with | some d => φ d | none => []
theorem eOf_some {m : Names} {ε : HMap} {c d : Nat} (h : Map.get m c = some d) : eOf m ε c = ε d := by unfold eOf; rw [h]; rfl

theorem names_mem : ∀ {m : Names} {c d : Nat}, Map.get m c = some d → (c, d) ∈ m
  | [], _, _, h => by simp [Map.get] at h
  | (k, v) :: r, c, d, h => by
    simp only [Map.get] at h
    cases hb : Nat.beq k c with
    | true => rw [hb] at h; cases h; rw [nbeq_true hb]; exact List.mem_cons_self
    | false => rw [hb] at h; exact List.mem_cons_of_mem _ (names_mem h)

theorem bindName_spec {m m' : Names} {c d : Nat} (h : bindName m c d = some m') : NSub m m' ∧ (NInj m → NInj m') ∧ Map.get m' c = some d := by
  unfold bindName at h
  cases hg : Map.get m c with
  | some d' =>
    rw [hg] at h
    simp only at h
    cases hb : Nat.beq d' d with
    | false => rw [hb] at h; cases h
    | true =>
      rw [hb] at h; cases h
      have := nbeq_true hb; subst this
      exact ⟨NSub.refl _, id, hg⟩
  | none =>
    rw [hg] at h
    simp only at h
    split at h
    · cases h
    · rename_i hany
      cases h
      have hno : ∀ c' d', Map.get m c' = some d' → d' ≠ d := by
        intro c' d' hc' e
        subst e
        have : (m.any fun p => Nat.beq p.2 d') = true := by
          rw [List.any_eq_true]
          exact ⟨_, names_mem hc', by simp⟩
        rw [hany] at this; cases this
      have hget : ∀ x, Map.get (Map.set m c d) x = if c = x then some d else Map.get m x := by
        intro x
        by_cases e : c = x
        · subst e; rw [Map.get_set_same, if_pos rfl]
        · rw [Map.get_set_other _ _ e, if_neg e]
      refine ⟨fun x y hx => ?_, fun hi x x' y hx hx' => ?_, Map.get_set_same _ _ _⟩
      · rw [hget, if_neg]
        · exact hx
        · intro e; subst e; rw [hg] at hx; cases hx
      · rw [hget] at hx hx'
        by_cases e1 : c = x
        · by_cases e2 : c = x'
          · omega
          · rw [if_pos e1] at hx; rw [if_neg e2] at hx'; cases hx
            exact absurd rfl (hno x' _ hx')
        · by_cases e2 : c = x'
          · rw [if_neg e1] at hx; rw [if_pos e2] at hx'; cases hx'
            exact absurd rfl (hno x _ hx)
          · rw [if_neg e1] at hx; rw [if_neg e2] at hx'; exact hi x x' y hx hx'

theorem bare_ro {P : PHeap} {e : CTs} {v : Value} (h : Bare v) : (CT.ro e).Rep P [] v := by
  obtain ⟨a, h1, h2⟩ := h
  simp only [CT.Rep]
  exact ⟨a, 0, h1, by simp, by simp, fun _ => rfl, fun ad had => ⟨h2 ad had, fun i hi => by simp at hi⟩⟩

theorem ext1_spec {k : K1} {s : S1} {m m' : Names} {x : HL k.pts} (h : ext1 k s m = some (x, m')) :
    NSub m m' ∧ (NInj m → NInj m') ∧ ∀ mf, NSub m' mf → ∀ (P : PHeap) (ε : HMap) (v : Value), Den P ε s v → Den P (eOf mf ε) (conc1 k x) v := by
  have same : ∀ {m m' : Names}, m = m' → NSub m m' ∧ (NInj m → NInj m') := fun e => by subst e; exact ⟨NSub.refl _, id⟩
  unfold ext1 at h
  split at h
  · cases h; exact ⟨NSub.refl _, id, fun _ _ _ _ _ _ => trivial⟩
  · split at h
    · rename_i hk _; cases h; subst hk; exact ⟨NSub.refl _, id, fun _ _ _ _ _ hd => hd⟩
    · cases h
  · cases h; exact ⟨NSub.refl _, id, fun _ _ _ _ _ hd => hd⟩
  · cases h; exact ⟨NSub.refl _, id, fun _ _ _ _ _ hd => hd⟩
  · split at h
    · rename_i hk _; cases h; subst hk; exact ⟨NSub.refl _, id, fun _ _ _ _ _ hd => hd⟩
    · cases h
  · cases h; exact ⟨NSub.refl _, id, fun _ _ _ _ _ hd => bare_ro hd⟩
  · cases h; exact ⟨NSub.refl _, id, fun _ _ _ _ _ hd => hd⟩
  · cases h; exact ⟨NSub.refl _, id, fun _ _ _ _ _ hd => hd⟩
  · split at h
    · rename_i hb
      cases h
      obtain ⟨b1, b2, b3⟩ := bindName_spec hb
      refine ⟨b1, b2, fun mf hs P ε v hd => ?_⟩
      simp only [conc1, Den] at hd ⊢
      rw [eOf_some (hs _ _ b3)]; exact hd
    · cases h
  · split at h
    · rename_i hq hb
      cases h
      obtain ⟨b1, b2, b3⟩ := bindName_spec hb
      refine ⟨b1, b2, fun mf hs P ε v hd => ?_⟩
      have := nbeq_true hq; subst this
      simp only [conc1, Den] at hd ⊢
      rw [eOf_some (hs _ _ b3)]; exact hd
    · cases h
  · split at h
    · rename_i hq hb
      cases h
      obtain ⟨b1, b2, b3⟩ := bindName_spec hb
      refine ⟨b1, b2, fun mf hs P ε v hd => ?_⟩
      rw [Bool.and_eq_true] at hq
      have h1 := nbeq_true hq.1
      have h2 := nbeq_true hq.2
      subst h1; subst h2
      simp only [conc1, Den] at hd ⊢
      rw [eOf_some (hs _ _ b3)]; exact hd
    · cases h
  · split at h
    · rename_i hq hb
      cases h
      obtain ⟨b1, b2, b3⟩ := bindName_spec hb
      refine ⟨b1, b2, fun mf hs P ε v hd => ?_⟩
      have := nbeq_true hq; subst this
      simp only [conc1, Den] at hd ⊢
      rw [eOf_some (hs _ _ b3)]; exact hd
    · cases h
  · cases h

theorem ext1s_spec : ∀ {ks : List K1} {ss : List S1} {m m' : Names} {x : HL (K1s.pts ks)}, ext1s ks ss m = some (x, m') →
    NSub m m' ∧ (NInj m → NInj m') ∧ ∀ mf, NSub m' mf → ∀ (P : PHeap) (ε : HMap) (vs : List Value), DenL P ε ss vs → DenL P (eOf mf ε) (conc1s ks x) vs
  | [], [], m, m', x, h => by
    simp only [ext1s, Option.some.injEq, Prod.mk.injEq] at h
    obtain ⟨_, rfl⟩ := h
    exact ⟨NSub.refl _, id, fun _ _ _ _ _ h => h⟩
  | k :: ks, s :: ss, m, m', x, h => by
    simp only [ext1s] at h
    split at h
    · rename_i y m1 h1
      split at h
      · rename_i z m2 h2
        cases h
        obtain ⟨a1, a2, a3⟩ := ext1_spec h1
        obtain ⟨b1, b2, b3⟩ := ext1s_spec h2
        refine ⟨a1.trans b1, fun hi => b2 (a2 hi), fun mf hs P ε vs ⟨v, vs', e, d1, d2⟩ => ⟨v, vs', e, ?_, ?_⟩⟩
        · rw [HL.fst_app]; exact a3 mf (b1.trans hs) P ε v d1
        · rw [HL.snd_app]; exact b3 mf hs P ε vs' d2
      · cases h
    · cases h
  | [], _ :: _, _, _, _, h => by simp [ext1s] at h
  | _ :: _, [], _, _, _, h => by simp [ext1s] at h

theorem extV_spec {k : KV} {s : SV} {m m' : Names} {x : HL k.pts} (h : extV k s m = some (x, m')) :
    NSub m m' ∧ (NInj m → NInj m') ∧ ∀ mf, NSub m' mf → ∀ (P : PHeap) (ε : HMap) (v : Value), DenV P ε s v → DenV P (eOf mf ε) (concV k x) v := by
  unfold extV at h
  split at h
  · obtain ⟨a, b, c⟩ := ext1_spec h
    exact ⟨a, b, fun mf hs P ε v hd => c mf hs P ε v hd⟩
  · obtain ⟨a, b, c⟩ := ext1s_spec h
    exact ⟨a, b, fun mf hs P ε v ⟨cs, e, hd⟩ => ⟨cs, e, c mf hs P ε _ hd⟩⟩
  · cases h

theorem extC_spec {k : KC} {s : Chunk} {m m' : Names} {x : HL k.pts} (h : extC k s m = some (x, m')) :
    NSub m m' ∧ (NInj m → NInj m') ∧ ∀ mf, NSub m' mf → ∀ (P : PHeap) (H : HView) (ε : HMap) (v : Value) (fp : List Nat), ChunkOK P H ε v fp s → ChunkOK P H (eOf mf ε) v fp (concC k x) := by
  unfold extC at h
  split at h
  · obtain ⟨a, b, c⟩ := ext1s_spec h
    refine ⟨a, b, fun mf hs P H ε v fp hd => ?_⟩
    obtain ⟨bb, cs, T, h1, h2, h3, h4⟩ := hd
    exact ⟨bb, cs, T, h1, h2, h3, c mf hs P ε _ h4⟩
  · split at h
    · rename_i hk _; cases h; subst hk; exact ⟨NSub.refl _, id, fun _ _ _ _ _ _ _ hd => hd⟩
    · cases h
  · split at h
    · rename_i hk _; cases h; subst hk; exact ⟨NSub.refl _, id, fun _ _ _ _ _ _ _ hd => hd⟩
    · cases h
  · split at h
    · rename_i hk _; cases h; subst hk; exact ⟨NSub.refl _, id, fun _ _ _ _ _ _ _ hd => hd⟩
    · cases h
  · cases h

theorem extSlots_spec {s : Slots} : ∀ {l : List (Nat × KV)} {m m' : Names} {x : HL (slotPts l)}, extSlots s l m = some (x, m') →
    NSub m m' ∧ (NInj m → NInj m') ∧ ∀ mf, NSub m' mf → ∀ (P : PHeap) (ε : HMap) (a : Act), SlotsOK P ε s a → SlotsOK P (eOf mf ε) (concSlots l x) a
  | [], m, m', x, h => by
    simp only [extSlots, Option.some.injEq, Prod.mk.injEq] at h
    obtain ⟨_, rfl⟩ := h
    exact ⟨NSub.refl _, id, fun _ _ _ _ _ _ _ => trivial⟩
  | (t, k) :: l, m, m', x, h => by
    simp only [extSlots] at h
    split at h
    · rename_i y m1 h1
      split at h
      · rename_i z m2 h2
        cases h
        obtain ⟨a1, a2, a3⟩ := extV_spec h1
        obtain ⟨b1, b2, b3⟩ := extSlots_spec h2
        refine ⟨a1.trans b1, fun hi => b2 (a2 hi), fun mf hs P ε a ha u => ?_⟩
        have hcons : Slots.at (concSlots ((t, k) :: l) (HL.app k.pts _ y z)) u = if t = u then concV k y else Slots.at (concSlots l z) u := by
          simp only [concSlots, Slots.at, Map.get, HL.fst_app, HL.snd_app]
          by_cases e : t = u
          · subst e; simp
          · rw [if_neg e]
            cases hb : Nat.beq t u with
            | true => exact absurd (nbeq_true hb) e
            | false => rfl
        rw [hcons]
        by_cases e : t = u
        · subst e; rw [if_pos rfl]; exact a3 mf (b1.trans hs) P ε _ (ha t)
        · rw [if_neg e]; exact b3 mf hs P ε a ha u
      · cases h
    · cases h

theorem extChunks_spec {tab : Tab} : ∀ {l : List (Nat × KC)} {m m' : Names} {x : HL (chunkPts l)}, extChunks tab l m = some (x, m') →
    NSub m m' ∧ (NInj m → NInj m') ∧ ∀ mf, NSub m' mf → ∀ c y, Map.get (concChunks l x) c = some y →
      ∃ d z, Map.get mf c = some d ∧ tab.get d = some z ∧ ∀ (P : PHeap) (H : HView) (ε : HMap) (v : Value) (fp : List Nat), ChunkOK P H ε v fp z → ChunkOK P H (eOf mf ε) v fp y
  | [], m, m', x, h => by
    simp only [extChunks, Option.some.injEq, Prod.mk.injEq] at h
    obtain ⟨_, rfl⟩ := h
    exact ⟨NSub.refl _, id, fun _ _ c y hc => by simp [concChunks, Map.get] at hc⟩
  | (t, k) :: l, m, m', x, h => by
    simp only [extChunks] at h
    split at h
    · cases h
    · rename_i d hd
      split at h
      · cases h
      · rename_i w hw
        split at h
        · rename_i y m1 h1
          split at h
          · rename_i z m2 h2
            cases h
            obtain ⟨a1, a2, a3⟩ := extC_spec h1
            obtain ⟨b1, b2, b3⟩ := extChunks_spec h2
            refine ⟨a1.trans b1, fun hi => b2 (a2 hi), fun mf hs c u hc => ?_⟩
            simp only [concChunks, Map.get, HL.fst_app, HL.snd_app] at hc
            cases hb : Nat.beq t c with
            | true =>
              rw [hb] at hc; cases hc
              have := nbeq_true hb; subst this
              exact ⟨d, w, hs _ _ (b1 _ _ (a1 _ _ hd)), hw, fun P H ε v fp hk => a3 mf (b1.trans hs) P H ε v fp hk⟩
            | false => rw [hb] at hc; exact b3 mf hs c u hc
          · cases h
        · cases h

theorem pinned_get : ∀ {l : List Nat} {c d : Nat}, Map.get (pinned l) c = some d → d = c
  | [], _, _, h => by simp [pinned, Map.get] at h
  | k :: r, c, d, h => by
    simp only [pinned, Map.get] at h
    cases hb : Nat.beq k c with
    | true => rw [hb] at h; cases h; exact nbeq_true hb
    | false => rw [hb] at h; exact pinned_get h
theorem pinned_mem : ∀ {l : List Nat} {c : Nat}, c ∈ l → Map.get (pinned l) c = some c
  | k :: r, c, h => by
    simp only [pinned, Map.get]
    cases hb : Nat.beq k c with
    | true => rw [nbeq_true hb]
    | false =>
      rcases List.mem_cons.1 h with e | h
      · exact absurd e.symm (nbeq_false hb)
      · exact pinned_mem h

theorem skel_sound {cx : Cx} {n : Nat} {pins : List Nat} (hpin : ∀ c v, cx.pins c = some v → c ∈ pins) {k : Skel} {st : St} {x : HL k.pts} (h : extract pins k st = some x) {P : PHeap} {ε : HMap} {φ : Nat → List Nat} {a : Act} {W : World}
    (M : Match cx n P ε φ st.slots st.tab a W) : ∃ ε' φ', Match cx n P ε' φ' (conc k x).slots (conc k x).tab a W ∧ FreeFrom ε' (conc k x).next := by
  unfold extract at h
  split at h
  · rename_i y m1 h1
    split at h
    · rename_i z m2 h2
      split at h
      · rename_i hall
        cases h
        obtain ⟨a1, a2, a3⟩ := extSlots_spec h1
        obtain ⟨b1, b2, b3⟩ := extChunks_spec h2
        have hinj : NInj m2 := b2 (a2 fun c c' d hc hc' => (pinned_get hc).symm.trans (pinned_get hc'))
        have b3 := b3 m2 (NSub.refl _)
        have hp : ∀ {c d}, Map.get m2 c = some d → pOf m2 φ c = φ d := fun hg => by unfold pOf; rw [hg]
        refine ⟨eOf m2 ε, pOf m2 φ, ⟨⟨?_, ?_, ?_, ?_, M.inv.psub, M.inv.ext, M.inv.pmono, M.inv.pnew, ?_⟩, ?_, M.size, M.dfs, fun c v hc => ?_⟩, ?_⟩
        · intro c u hc
          simp only [conc, HL.snd_app] at hc
          obtain ⟨d, w, h1, h2, h3⟩ := b3 c u hc
          obtain ⟨v, hv, hk⟩ := M.inv.chunk d w h2
          rw [eOf_some h1, hp h1]
          exact ⟨v, hv, h3 _ _ _ _ _ hk⟩
        · intro c u hc
          simp only [conc, HL.snd_app] at hc
          obtain ⟨d, w, h1, h2, h3⟩ := b3 c u hc
          rw [hp h1]; exact M.inv.nodup d w h2
        · intro c c' u u' hne hc hc' b hb
          simp only [conc, HL.snd_app] at hc hc'
          obtain ⟨d, w, h1, h2, h3⟩ := b3 c u hc
          obtain ⟨d', w', h1', h2', h3'⟩ := b3 c' u' hc'
          rw [hp h1] at hb; rw [hp h1']
          refine M.inv.apart d d' w w' (fun e => hne ?_) h2 h2' b hb
          subst e; exact hinj c c' d h1 h1'
        · intro c u hc b hb
          simp only [conc, HL.snd_app] at hc
          obtain ⟨d, w, h1, h2, h3⟩ := b3 c u hc
          rw [hp h1] at hb
          exact M.inv.live d w h2 b hb
        · intro c w hw
          unfold eOf at hw
          cases hg : Map.get m2 c with
          | none => rw [hg] at hw; cases hw
          | some d => rw [hg] at hw; exact M.inv.hand d w hw
        · simp only [conc, HL.fst_app]
          exact a3 m2 b1 P ε a M.slots
        · rw [eOf_some (b1 _ _ (a1 _ _ (pinned_mem (hpin c v hc))))]; exact M.pin c v hc
        · intro c hc
          unfold eOf
          cases hg : Map.get m2 c with
          | none => rfl
          | some d =>
            have := List.all_eq_true.1 hall _ (names_mem hg)
            have := Nat.le_of_ble_eq_true this
            simp only [conc] at hc
            omega
      · cases h
    · cases h
  · cases h
end Go.Sx
