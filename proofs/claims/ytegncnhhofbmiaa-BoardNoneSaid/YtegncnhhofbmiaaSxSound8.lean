/- A walk of Go code by plain functions is sound. -/
import Derived.Test.YtegncnhhofbmiaaSxSound7
namespace Go.Sx
section
variable {Pg : Program} {tt : TT} {cx : Cx} {P : PHeap} {ε : HMap} {φ : Nat → List Nat} {tab : Tab} {W : World}

/-- Blocks that are in hand: no piece of the table has them. -/
structure Held (cx : Cx) (P : PHeap) (φ : Nat → List Nat) (tab : Tab) (W : World) (hf : List Nat) : Prop where
  nd : hf.Nodup
  ok : ∀ b ∈ hf, P b = none ∧ b < W.heap.size ∧ (b ∈ cx.fp0 ∨ cx.W0.heap.size ≤ b)
  away : ∀ c x, tab.get c = some x → ∀ b ∈ φ c, b ∉ hf
theorem Held.nil : Held cx P φ tab W [] := ⟨List.nodup_nil, by simp, by simp⟩
theorem Held.perm {hf hf' : List Nat} (h : Held cx P φ tab W hf) (hp : hf.Perm hf') : Held cx P φ tab W hf' :=
  ⟨hp.nodup h.nd, fun b hb => h.ok b (hp.mem_iff.2 hb), fun c x hc b hb hb' => h.away c x hc b hb (hp.mem_iff.2 hb')⟩

/-- A piece is taken out of the table. -/
theorem Inv.takeOut (I : Inv cx P ε φ tab W) {hf : List Nat} (hh : Held cx P φ tab W hf) {c : Nat} {x : Chunk} (hc : tab.get c = some x) :
    Inv cx P ε φ (tab.del c) W ∧ Held cx P φ (tab.del c) W (φ c ++ hf) := by
  have sub : ∀ d y, (tab.del c).get d = some y → c ≠ d ∧ tab.get d = some y := fun d y hd => by
    by_cases e : c = d
    · subst e; rw [Map.get_del_same] at hd; cases hd
    · rw [Map.get_del_other _ e] at hd; exact ⟨e, hd⟩
  refine ⟨I.sub fun d y hd => (sub d y hd).2, ?_, ?_, ?_⟩
  · exact List.nodup_append.2 ⟨I.nodup c x hc, hh.nd, fun a ha b hb e => hh.away c x hc a ha (e ▸ hb)⟩
  · intro b hb
    rcases List.mem_append.1 hb with h | h
    · exact I.live c x hc b h
    · exact hh.ok b h
  · intro d y hd b hb hb'
    obtain ⟨h1, h2⟩ := sub d y hd
    rcases List.mem_append.1 hb' with h | h
    · exact I.apart c d x y h1 hc h2 b h hb
    · exact hh.away d y h2 b hb h

/-- A piece of one's own is only read from now on. -/
theorem Inv.sealG (I : Inv cx P ε φ tab W) {c : Nat} {x0 y : Chunk} (hc : tab.get c = some x0)
    (hy : ∀ P' : PHeap, P.le P' → (∀ b ∈ φ c, P' b = W.heap[b]?) → ∀ h, ε c = some h → ChunkOK P (World.view W) ε h (φ c) x0 → ChunkOK P' (World.view W) ε h [] y) :
    ∃ P' φ', P.le P' ∧ (∀ b ∈ φ c, P' b = W.heap[b]?) ∧ Inv cx P' ε φ' (tab.set c y) W ∧
      ∀ hf, Held cx P φ tab W hf → Held cx P' φ' (tab.set c y) W hf := by
  obtain ⟨h, e1, e2⟩ := I.chunk c _ hc
  have hl := I.live c _ hc
  let P' : PHeap := fun b => if b ∈ φ c then W.heap[b]? else P b
  have hle : P.le P' := fun b o hb => by
    have : b ∉ φ c := fun hm => by rw [(hl b hm).1] at hb; cases hb
    show (if b ∈ φ c then W.heap[b]? else P b) = some o
    rw [if_neg this]; exact hb
  have hin : ∀ b ∈ φ c, P' b = W.heap[b]? := fun b hb => if_pos hb
  let φ' : Nat → List Nat := fun d => if d = c then [] else φ d
  have hmem : ∀ b, P' b ≠ none → P b ≠ none ∨ b ∈ φ c := fun b hb => by
    by_cases hm : b ∈ φ c
    · exact .inr hm
    · left; have : P' b = P b := if_neg hm
      rwa [this] at hb
  refine ⟨P', φ', hle, hin, ?_, fun hf hh => ⟨hh.nd, fun b hb => ?_, ?_⟩⟩
  · refine I.step (φ c) (· = c) (fun b hb => (hl b hb).2) (Ext.refl _ _) hle ?_ ?_ (fun _ _ h => h) ?_ ?_ ?_ (fun d w h h' => by rw [h'] at h; cases h)
    · intro b o hb
      by_cases hm : b ∈ φ c
      · rwa [hin b hm] at hb
      · have : P' b = P b := if_neg hm
        rw [this] at hb; exact I.psub b o hb
    · intro b hb
      rcases hmem b hb with h | h
      · exact .inl h
      · exact .inr (.inl h)
    · intro d y hd hn
      rw [Map.get_set_other _ _ (fun e => hn e.symm)] at hd
      exact ⟨hd, if_neg hn, fun b hb hb' => I.apart d c y _ hn hd hc b hb hb'⟩
    · intro d y hd hn
      subst hn
      rw [Map.get_set_same] at hd; cases hd
      have : φ' d = [] := if_pos rfl
      rw [this]
      exact ⟨h, e1, hy P' hle hin h e1 e2, List.nodup_nil, by simp⟩
    · intro d f y z hd hf hdf; rw [hd, hf] at hdf; exact absurd rfl hdf
  · obtain ⟨o1, o2, o3⟩ := hh.ok b hb
    refine ⟨?_, o2, o3⟩
    have hm : b ∉ φ c := fun hm => hh.away c _ hc b hm hb
    have : P' b = P b := if_neg hm
    rw [this]; exact o1
  · intro d y hd b hb hb'
    by_cases e : d = c
    · have : φ' d = [] := if_pos e
      rw [this] at hb; cases hb
    · have : φ' d = φ d := if_neg e
      rw [this] at hb
      rw [Map.get_set_other _ _ (Ne.symm e)] at hd
      exact hh.away d y hd b hb hb'
theorem row_sealed {P' : PHeap} {H : HView} {e : CTs} {xs : List e.T} {v : Value} {fp : List Nat} (hle : P.le P') (hin : ∀ b ∈ fp, P' b = H b) (h : RowRep P H e xs v fp) : (CT.ro e).Rep P' xs v := by
  simp only [CT.Rep]
  rcases h with ⟨q1, ⟨a, q2, q3⟩, _⟩ | ⟨b, off, cap, cs, T, fz, q1, q2, q3, q4, q5, q6, q7, q8⟩
  · subst q1; exact ⟨a, 0, q2, by simp, by simp, fun _ => rfl, fun ad had => ⟨q3 ad had, fun i hi => by simp at hi⟩⟩
  · refine ⟨some ⟨b, off, none⟩, cap, q1, q5, q6, (fun h => by cases h), fun ad had => ?_⟩
    cases had
    refine ⟨fun _ => rfl, fun i hi => CTs.Rep.mono hle e _ _ _ (fun j v hv => ?_) (q8 i hi)⟩
    have hb : P' b = some (.cells cs T fz) := by rw [hin b (by simp [q2])]; exact q3
    simp [PHeap.cell, hb, hv]
theorem ents_rom {P' : PHeap} {k u : CTs} : ∀ {xs : List (k.T × u.T)} {es : List MapEntry}, EntsRep P' (.agg k) (.agg u) xs es → es.length = xs.length ∧
    ∀ i (h : i < xs.length), ∃ (en : MapEntry) (ks us : Array Value), es[i]? = some en ∧ en.key = .agg ks ∧ ks.size = k.size ∧ en.val = .agg us ∧ us.size = u.size ∧
        CTs.Rep P' k (xs[i]).1 (fun j => ks[j]?) ∧ CTs.Rep P' u (xs[i]).2 (fun j => us[j]?)
  | [], es, h => by simp only [EntsRep] at h; subst h; exact ⟨rfl, fun i h => by simp at h⟩
  | x :: xs, _, ⟨e, es', rfl, ⟨ks, g1, g2, g3⟩, ⟨us, g4, g5, g6⟩, h4⟩ => by
    obtain ⟨q1, q2⟩ := ents_rom h4
    refine ⟨by simp [q1], fun i hi => ?_⟩
    cases i with
    | zero => exact ⟨e, ks, us, rfl, g1, g2, g4, g5, by simpa using g3, by simpa using g6⟩
    | succ i => simpa using q2 i (by simpa using hi)
theorem rom_ents {P' : PHeap} {k u : CTs} : ∀ {xs : List (k.T × u.T)} {es : List MapEntry}, es.length = xs.length → (∀ i (h : i < xs.length), ∃ (en : MapEntry) (ks us : Array Value), es[i]? = some en ∧ en.key = .agg ks ∧ ks.size = k.size ∧ en.val = .agg us ∧ us.size = u.size ∧
        CTs.Rep P' k (xs[i]).1 (fun j => ks[j]?) ∧ CTs.Rep P' u (xs[i]).2 (fun j => us[j]?)) → EntsRep P' (.agg k) (.agg u) xs es
  | [], es, h, _ => List.eq_nil_of_length_eq_zero (by simpa using h)
  | x :: xs, [], h, _ => by simp at h
  | x :: xs, e :: es, h, h2 => by
    obtain ⟨en, ks, us, g1, g2, g3, g4, g5, g6, g7⟩ := h2 0 (by simp)
    simp at g1
    subst g1
    refine ⟨e, es, rfl, ⟨ks, g2, g3, by simpa using g6⟩, ⟨us, g4, g5, by simpa using g7⟩, rom_ents (by simpa using h) fun i hi => ?_⟩
    obtain ⟨en, ks, us, g1, g2⟩ := h2 (i + 1) (by simpa using hi)
    exact ⟨en, ks, us, by simpa using g1, g2⟩
theorem map_sealed {P' : PHeap} {H : HView} {k u : CTs} {xs : List (k.T × u.T)} {v : Value} {fp : List Nat} (hle : P.le P') (hin : ∀ b ∈ fp, P' b = H b) (h : MapRep P H (.agg k) (.agg u) xs v fp) : (CT.rom k u).Rep P' xs v := by
  obtain ⟨b, es, clock, h1, h2, h3, h4, h5⟩ := h
  obtain ⟨q1, q2⟩ := ents_rom (EntsRep.mono hle _ _ h4)
  simp only [CT.Rep]
  exact .inr ⟨b, es, clock, h1, by rw [hin b (by simp [h2])]; exact h3, h5, by simpa using q1, fun i hi => by simpa using q2 i hi⟩
/-- A map that is only read. -/
theorem rom_inv {k u : CTs} {xs : List (k.T × u.T)} {v : Value} (h : (CT.rom k u).Rep P xs v) :
    (xs = [] ∧ v = .map none) ∨ ∃ b es clock, v = .map (some b) ∧ P b = some (.map es clock) ∧ BornOK es clock ∧ EntsRep P (.agg k) (.agg u) xs es.toList := by
  simp only [CT.Rep] at h
  rcases h with h | ⟨b, es, clock, h1, h2, h3, h4, h5⟩
  · exact .inl h
  · exact .inr ⟨b, es, clock, h1, h2, h3, rom_ents (by simpa using h4) fun i hi => by simpa using h5 i hi⟩
/-- A slice of one's own is only read from now on. -/
theorem Inv.sealUp (I : Inv cx P ε φ tab W) {c : Nat} {e : CTs} {xs : List e.T} (hc : tab.get c = some (.row e xs)) :
    ∃ P' φ', P.le P' ∧ Inv cx P' ε φ' (tab.set c (.sealed e xs)) W ∧ (∀ v, ε c = some v → (CT.ro e).Rep P' xs v) ∧
      ∀ hf, Held cx P φ tab W hf → Held cx P' φ' (tab.set c (.sealed e xs)) W hf := by
  obtain ⟨P', φ', h1, h2, h3, h4⟩ := I.sealG (y := .sealed e xs) hc fun P' hle hin h _ hx => ⟨row_sealed hle hin hx, rfl⟩
  obtain ⟨h, e1, e2⟩ := I.chunk c _ hc
  exact ⟨P', φ', h1, h3, fun v hv => by rw [hv] at e1; cases e1; exact row_sealed h1 h2 e2, h4⟩

/-- Memory in hand is from now on only read. -/
theorem Inv.freeze (I : Inv cx P ε φ tab W) {fp : List Nat} (hh : Held cx P φ tab W fp) : ∃ P', P.le P' ∧ Inv cx P' ε φ tab W ∧ (∀ b ∈ fp, P' b = W.heap[b]?) ∧ ∀ b, b ∉ fp → P' b = P b := by
  let P' : PHeap := fun b => if b ∈ fp then W.heap[b]? else P b
  have hle : P.le P' := fun b o hb => by
    have : b ∉ fp := fun hm => by rw [(hh.ok b hm).1] at hb; cases hb
    show (if b ∈ fp then W.heap[b]? else P b) = some o
    rw [if_neg this]; exact hb
  refine ⟨P', hle, ?_, fun b hb => if_pos hb, fun b hb => if_neg hb⟩
  refine I.step fp (fun _ => False) (fun b hb => (hh.ok b hb).2) (Ext.refl _ _) hle ?_ ?_ (fun _ _ h => h) (fun d y hd _ => ⟨hd, rfl, fun b hb hb' => hh.away d y hd b hb hb'⟩) (fun _ _ _ h => h.elim) (fun _ _ _ _ h => h.elim) (fun d w h h' => by rw [h'] at h; cases h)
  · intro b o hb
    by_cases hm : b ∈ fp
    · have : P' b = W.heap[b]? := if_pos hm
      rwa [this] at hb
    · have : P' b = P b := if_neg hm
      rw [this] at hb; exact I.psub b o hb
  · intro b hb
    by_cases hm : b ∈ fp
    · exact .inr (.inl hm)
    · left; have : P' b = P b := if_neg hm
      rwa [this] at hb
theorem Inv.freezeH (I : Inv cx P ε φ tab W) {fp hf : List Nat} (hh : Held cx P φ tab W (fp ++ hf)) : ∃ P', P.le P' ∧ Inv cx P' ε φ tab W ∧ Held cx P' φ tab W hf ∧ ∀ b ∈ fp, P' b = W.heap[b]? := by
  have h0 := List.nodup_append.1 hh.nd
  obtain ⟨P', h1, h2, h3, h4⟩ := I.freeze (fp := fp) ⟨h0.1, fun b hb => hh.ok b (by simp [hb]), fun c x hc b hb hb' => hh.away c x hc b hb (by simp [hb'])⟩
  refine ⟨P', h1, h2, ⟨h0.2.1, fun b hb => ?_, fun c x hc b hb hb' => hh.away c x hc b hb (by simp [hb'])⟩, h3⟩
  obtain ⟨o1, o2, o3⟩ := hh.ok b (by simp [hb])
  exact ⟨by rw [h4 b (fun hm => h0.2.2 b hm b hb rfl)]; exact o1, o2, o3⟩
theorem sealCells_den {P' : PHeap} {H : HView} (hle : P.le P') : ∀ (e : OTs) (x : e.T) (vs : List Value) (fp : List Nat), (∀ b ∈ fp, P' b = H b) → e.Rep P H x vs fp → DenL P' ε (sealCells e x) vs
  | .nil, x, vs, fp, _, h => by simp only [OTs.Rep] at h; exact h.1
  | .cons t ts, x, vs, fp, hin, h => by
    simp only [OTs.Rep] at h
    obtain ⟨v, vs', f1, f2, rfl, rfl, h3, h4⟩ := h
    refine ⟨v, vs', rfl, ?_, sealCells_den hle ts _ vs' f2 (fun b hb => hin b (by simp [hb])) h4⟩
    have hin1 : ∀ b ∈ f1, P' b = H b := fun b hb => hin b (by simp [hb])
    generalize OTs.hd t ts x = y at h3 ⊢
    unfold sealS
    split
    · simp only [OT.Rep] at h3
      exact (CT.toS_den _ _ v).1 (CT.Rep.mono hle _ _ _ h3.1)
    · simp only [OT.Rep] at h3
      exact row_sealed hle hin1 h3
    · simp only [OT.Rep] at h3
      exact map_sealed hle hin1 h3
    · trivial
def Shrinks (tab tab' : Tab) : Prop := ∀ d, tab'.get d ≠ none → tab.get d ≠ none
theorem Shrinks.refl (tab : Tab) : Shrinks tab tab := fun _ h => h
theorem Shrinks.trans {a b c : Tab} (h : Shrinks a b) (h' : Shrinks b c) : Shrinks a c := fun d hd => h d (h' d hd)
theorem Shrinks.set {c : Nat} {x y : Chunk} (h : tab.get c = some x) : Shrinks tab (tab.set c y) := fun d hd => by
  by_cases e : c = d
  · subst e; rw [h]; simp
  · rwa [Map.get_set_other _ _ e] at hd
theorem Shrinks.del {c : Nat} : Shrinks tab (tab.del c) := fun d hd => by
  by_cases e : c = d
  · subst e; rw [Map.get_del_same] at hd; exact absurd rfl hd
  · rwa [Map.get_del_other _ e] at hd

theorem view_ro {e : CTs} {xs : List e.T} {v : Value} {c z off len : Nat} (hr : ∀ w, ε c = some w → (CT.ro e).Rep P xs w) (hz : e.size = z) (hd : Den P ε (.view c z off len) v) :
    (CT.ro e).Rep P ((xs.drop off).take len) v := by
  rcases hd with ⟨b, o, n, cap, cp, h1, h2, h3, h4, h5, h6, h7⟩ | ⟨h1, a, h2, h3⟩
  · have hr' := hr _ h1
    have hr2 := hr'
    simp only [CT.Rep] at hr2
    obtain ⟨a, cap', g1, g2, g3, g4, g5⟩ := hr2
    injection g1 with g1 g1' g1''
    subst g1'; subst g1''
    have key := ro_slice (l := off) (h := off + len) hr' (by omega) h3
    have e1 : ((xs.take (off + len)).drop off) = (xs.drop off).take len := by rw [List.drop_take]; congr 1; omega
    rw [e1] at key
    by_cases hc : cap = off
    · have hl : len = 0 := by omega
      subst hl
      rw [h2]
      simp only [CT.Rep]
      exact ⟨some ⟨b, o + off * z, none⟩, cp, by simp, by simp, by omega, (fun h => by cases h), fun ad had => ⟨by cases had; intro _; rfl, fun i hi => by simp at hi⟩⟩
    · rw [if_neg hc] at key
      have e2 : off + len - off = len := by omega
      rw [h2, ← hz]
      have key' : (CT.ro e).Rep P ((xs.drop off).take len) (.slice (some ⟨b, o + off * e.size, none⟩) len (cap - off)) := by simpa [add_none, e2] using key
      simp only [CT.Rep] at key' ⊢
      obtain ⟨a, cq, k1, k2, k3, k4, k5⟩ := key'
      injection k1 with k1 k1' k1''
      subst k1
      exact ⟨_, cp, by rw [← k1'], by rw [← k1']; exact h6, by omega, (fun h => by cases h), fun ad had => ⟨fun _ => (by cases had; rfl), (k5 ad had).2⟩⟩
  · subst h1
    simp only [CT.Rep]
    exact ⟨a, 0, by rw [h2]; simp, by simp, by simp, fun _ => rfl, fun ad had => ⟨h3 ad had, fun i hi => by simp at hi⟩⟩

theorem takeC0_sound (I : Inv cx P ε φ tab W) {hf : List Nat} (hh : Held cx P φ tab W hf) (t : CT) (s : S1) (v : Value) (hs : Den P ε s v) (x : t.T) (tab' : Tab)
    (h : (takeC0 t s).run tab = some (x, tab')) : ∃ P' φ', P.le P' ∧ Inv cx P' ε φ' tab' W ∧ Held cx P' φ' tab' W hf ∧ CT.Rep P' t x v ∧ Shrinks tab tab' := by
  have dflt : (ret (CT.ofS t s)).run tab = some (x, tab') → ∃ P' φ', P.le P' ∧ Inv cx P' ε φ' tab' W ∧ Held cx P' φ' tab' W hf ∧ CT.Rep P' t x v ∧ Shrinks tab tab' := fun h => by
    obtain ⟨h1, rfl⟩ := run_ret_inv h
    exact ⟨P, φ, PHeap.le_refl P, I, hh, CT.ofS_rep t s x v h1 hs, Shrinks.refl _⟩
  unfold takeC0 at h
  split at h
  · rename_i e c
    obtain ⟨y, hc, h⟩ := run_get_inv h
    have hv : ε c = some v := hs
    cases y <;> first | exact (run_fail_inv h).elim | skip
    · rename_i e' xs
      simp only at h
      split at h
      · rename_i p hp
        subst p
        have h' : (tab.set c (.sealed e' xs), xs) = (tab', x) := by
          simp only [Prog.run, Option.some.injEq, Prod.mk.injEq] at h
          exact Prod.ext h.2 h.1
        cases h'
        obtain ⟨P', φ', k1, k2, k3, k4⟩ := I.sealUp hc
        exact ⟨P', φ', k1, k2, k4 hf hh, k3 v hv, Shrinks.set hc⟩
      · exact (run_fail_inv h).elim
    · rename_i e' xs
      simp only at h
      split at h
      · rename_i p hp
        subst p
        obtain ⟨rfl, rfl⟩ := run_pure_inv h
        obtain ⟨w, e1, e2⟩ := I.chunk c _ hc
        rw [hv] at e1; cases e1
        exact ⟨P, φ, PHeap.le_refl P, I, hh, e2.1, Shrinks.refl _⟩
      · exact (run_fail_inv h).elim
  · rename_i e c z off len
    obtain ⟨y, hc, h⟩ := run_get_inv h
    cases y <;> first | exact (run_fail_inv h).elim | skip
    · rename_i e' xs
      simp only at h
      split at h
      · rename_i p hz hp
        subst p
        have hz := nbeq_true hz
        have h' : (tab.set c (.sealed e' xs), (xs.drop off).take len) = (tab', x) := by
          simp only [Prog.run, Option.some.injEq, Prod.mk.injEq] at h
          exact Prod.ext h.2 h.1
        cases h'
        obtain ⟨P', φ', k1, k2, k3, k4⟩ := I.sealUp hc
        exact ⟨P', φ', k1, k2, k4 hf hh, view_ro k3 hz (Den.mono k1 (fun _ _ h => h) _ _ hs), Shrinks.set hc⟩
      · exact (run_fail_inv h).elim
    · rename_i e' xs
      simp only at h
      split at h
      · rename_i p hz hp
        subst p
        have hz := nbeq_true hz
        obtain ⟨rfl, rfl⟩ := run_pure_inv h
        refine ⟨P, φ, PHeap.le_refl P, I, hh, view_ro (fun w hw => ?_) hz hs, Shrinks.refl _⟩
        obtain ⟨w', e1, e2⟩ := I.chunk c _ hc
        rw [hw] at e1; cases e1
        exact e2.1
      · exact (run_fail_inv h).elim
  · rename_i e c n
    split at h
    · rename_i ct
      obtain ⟨y, hc, h⟩ := run_get_inv h
      cases y <;> first | exact (run_fail_inv h).elim | skip
      rename_i vs
      simp only at h
      split at h
      · rename_i y hy
        split at h
        · rename_i hl
          have hl := nbeq_true hl
          have h' : (tab.del c, y) = (tab', x) := by
            simp only [Prog.run, Option.some.injEq, Prod.mk.injEq] at h
            exact Prod.ext h.2 h.1
          cases h'
          obtain ⟨h0, b0, hx, rfl⟩ := hs
          obtain ⟨w, e1, b, cs, T, f1, f2, f3, f4⟩ := I.chunk c _ hc
          rw [hx] at e1; cases e1; cases f1
          obtain ⟨k1, k2⟩ := I.takeOut hh hc
          rw [f2] at k2
          have k3 : Held cx P φ (tab.del c) W [b0] := ⟨by simp, fun b hb => k2.ok b (by simp at hb; subst hb; simp), fun d z hd b hb hb' => k2.away d z hd b hb (by simp at hb'; subst hb'; simp)⟩
          obtain ⟨P', p1, p2, p3, p4⟩ := k1.freeze k3
          have ha := ofSL_rep ct vs x cs.toList hy f4
          have hb0 : P' b0 = some (.cells cs T (0, 0)) := by rw [p3 b0 (by simp)]; exact f3
          refine ⟨P', φ, p1, p2, ⟨(List.nodup_append.1 k2.nd).2.1, fun b hb => ?_, fun d z hd b hb hb' => k2.away d z hd b hb (by simp [hb'])⟩, ?_, Shrinks.del⟩
          · obtain ⟨o1, o2, o3⟩ := k2.ok b (by simp [hb])
            refine ⟨?_, o2, o3⟩
            rw [p4 b (fun hm => ?_)]; exact o1
            simp at hm; subst hm
            have := (List.nodup_append.1 k2.nd).2.2
            exact this b (by simp) b (by assumption) rfl
          · simp only [CT.Rep]
            refine ⟨some ⟨b0, 0, none⟩, n, by rw [hl], by omega, ?_, (fun h => by cases h), fun ad had => ?_⟩
            · have : (2 : Nat) ^ 63 = 9223372036854775808 := by decide
              omega
            · cases had
              refine ⟨fun _ => rfl, fun i hi => ?_⟩
              have hi2 : i < cs.toList.length := by rw [ha.1, ← ha.2.1]; exact hi
              simp only [CTs.Rep, CTs.size, and_true]
              refine ⟨cs.toList[i], ?_, ?_⟩
              · unfold PHeap.cell
                rw [hb0]
                simp only [Array.length_toList] at hi2
                simp [hi2]
              · exact CT.Rep.mono p1 _ _ _ (ha.2.2 i hi _ (List.getElem?_eq_getElem hi2))
        · exact (run_fail_inv h).elim
      · exact (run_fail_inv h).elim
    · exact (run_fail_inv h).elim
  · exact dflt h

theorem flatL_sound {α : Type} {t : CT} {y : List t.T} {ws : List S1} {k : List S1 → Prog α} {c3 : List Value} (h3 : DenL P ε ws c3) : ∀ (n i : Nat) (c : List Value), c.length = n →
    (∀ j (h : i + j < y.length) (w : Value), c[j]? = some w → t.Rep P y[i + j] w) → ∀ {r : α} {tab' : Tab}, (flatL t y ws n i k).run tab = some (r, tab') → ∃ l, DenL P ε l (c ++ c3) ∧ (k l).run tab = some (r, tab')
  | 0, i, c, hc, _, r, tab', h => by
    have : c = [] := List.eq_nil_of_length_eq_zero hc
    subst this
    exact ⟨ws, h3, h⟩
  | n + 1, i, c, hc, hr, r, tab', h => by
    simp only [flatL] at h
    obtain ⟨x, hx, h⟩ := run_bindO_inv h
    cases c with
    | nil => simp at hc
    | cons w c =>
      obtain ⟨l, q1, q2⟩ := flatL_sound (k := fun l => k (CT.toS t x :: l)) h3 n (i + 1) c (by simpa using hc) (fun j hj w' hw' => by
        have hj' : i + (j + 1) < y.length := by omega
        have := hr (j + 1) hj' w' (by simpa using hw')
        simpa [Nat.add_assoc, Nat.add_comm 1 j] using this) h
      refine ⟨CT.toS t x :: l, ⟨w, c ++ c3, rfl, ?_, q1⟩, q2⟩
      obtain ⟨hi, e⟩ := List.getElem?_eq_some_iff.1 hx
      have := hr 0 (by omega) w rfl
      rw [← e]
      exact (CT.toS_den t _ w).1 (by simpa using this)
mutual
theorem takeC_sound {cx : Cx} {P : PHeap} {ε : HMap} {φ : Nat → List Nat} {tab : Tab} {W : World} (I : Inv cx P ε φ tab W) {hf : List Nat} (hh : Held cx P φ tab W hf) : ∀ (t : CT) (s : S1) (v : Value) (_ : Den P ε s v) (x : t.T) (tab' : Tab)
    (_ : (takeC t s).run tab = some (x, tab')), ∃ P' φ', P.le P' ∧ Inv cx P' ε φ' tab' W ∧ Held cx P' φ' tab' W hf ∧ CT.Rep P' t x v ∧ Shrinks tab tab'
  | .int k, s, v, hs, x, tab', h => takeC0_sound I hh (.int k) s v hs x tab' h
  | .bool, s, v, hs, x, tab', h => takeC0_sound I hh .bool s v hs x tab' h
  | .str, s, v, hs, x, tab', h => takeC0_sound I hh .str s v hs x tab' h
  | .ro e, s, v, hs, x, tab', h => takeC0_sound I hh (.ro e) s v hs x tab' h
  | .fn f, s, v, hs, x, tab', h => takeC0_sound I hh (.fn f) s v hs x tab' h
  | .rom k u, s, v, hs, x, tab', h => by
    simp only [takeC] at h
    split at h
    · rename_i c
      obtain ⟨y, hc, h⟩ := run_get_inv h
      have hv : ε c = some v := hs
      cases y <;> first | exact (run_fail_inv h).elim | skip
      · rename_i k' u' xs
        simp only at h
        split at h
        · rename_i p hp
          cases p
          have h' : (tab.set c (.sealedM k u xs), xs) = (tab', x) := by
            simp only [Prog.run, Option.some.injEq, Prod.mk.injEq] at h
            exact Prod.ext h.2 h.1
          cases h'
          obtain ⟨P', φ', h1, h2, h3, h4⟩ := I.sealG (y := .sealedM k u x) hc fun P' hle hin h _ hx => ⟨map_sealed hle hin hx, rfl⟩
          obtain ⟨w, e1, e2⟩ := I.chunk c _ hc
          rw [hv] at e1; cases e1
          exact ⟨P', φ', h1, h3, h4 hf hh, map_sealed h1 h2 e2, Shrinks.set hc⟩
        · exact (run_fail_inv h).elim
      · rename_i k' u' xs
        simp only at h
        split at h
        · rename_i p hp
          obtain ⟨rfl, rfl⟩ := run_pure_inv h
          obtain ⟨w, e1, e2⟩ := I.chunk c _ hc
          rw [hv] at e1; cases e1
          exact ⟨P, φ, PHeap.le_refl P, I, hh, castCT_rep p e2.1, Shrinks.refl _⟩
        · exact (run_fail_inv h).elim
    · obtain ⟨h1, rfl⟩ := run_ret_inv h
      exact ⟨P, φ, PHeap.le_refl P, I, hh, CT.ofS_rep _ s x v h1 hs, Shrinks.refl _⟩
  | .rop e, s, v, hs, x, tab', h => by
    simp only [takeC] at h
    split at h
    · rename_i c
      obtain ⟨y, hc, h⟩ := run_get_inv h
      have hv : ε c = some v := hs
      obtain ⟨I1, H1⟩ := I.takeOut hh hc
      obtain ⟨w, e1, e2⟩ := I.chunk c _ hc
      rw [hv] at e1; cases e1
      cases y <;> first | exact (run_fail_inv h).elim | skip
      · rename_i vs
        obtain ⟨b, cs, T, rfl, f2, f3, f4⟩ := e2
        have h : ((takeCs e vs).bind fun x => Prog.pure (some x)).run (tab.del c) = some (x, tab') := h
        obtain ⟨y, t1, k1, h⟩ := run_bind_inv h
        obtain ⟨rfl, rfl⟩ := run_pure_inv h
        obtain ⟨P1, φ1, p1, p2, p3, p4, _, p5⟩ := takeCs_sound e vs cs.toList y (tab.del c) tab' P φ (φ c ++ hf) I1 H1 f4 k1
        obtain ⟨P2, q1, q2, q3, q4⟩ := p2.freezeH p3
        refine ⟨P2, φ1, PHeap.le_trans p1 q1, q2, q3, ?_, Shrinks.del.trans p5⟩
        simp only [CT.Rep]
        refine .inr ⟨y, ⟨b, 0, none⟩, rfl, rfl, rfl, CTs.Rep.mono q1 e _ _ _ (fun j w hw => ?_) p4⟩
        have hb : P2 b = some (.cells cs T (0, 0)) := by rw [q4 b (by simp [f2])]; exact f3
        simp only [PHeap.cell, hb, Nat.zero_add]
        simpa using hw
      · rename_i e' m
        have h : (Prog.elim m (Prog.pure none) fun z => (ret (CTs.ofS e (sealCells e' z))).bind fun x => Prog.pure (some x)).run (tab.del c) = some (x, tab') := h
        obtain ⟨P2, q1, q2, q3, q4⟩ := I1.freezeH H1
        cases m with
        | none =>
          obtain ⟨rfl, rfl⟩ := run_pure_inv h
          refine ⟨P2, φ, q1, q2, q3, ?_, Shrinks.del⟩
          simp only [ChunkOK, OT.Rep] at e2
          rcases e2 with ⟨_, e2, _⟩ | ⟨x, _, _, _, _, g1, _⟩
          · simp only [CT.Rep]; exact .inl ⟨by trivial, e2⟩
          · cases g1
        | some z =>
          rw [Prog.run_elim_some] at h
          obtain ⟨y, t1, k1, h⟩ := run_bind_inv h
          obtain ⟨rfl, rfl⟩ := run_pure_inv h
          obtain ⟨k2, rfl⟩ := run_ret_inv k1
          simp only [ChunkOK, OT.Rep] at e2
          rcases e2 with ⟨e2, _⟩ | ⟨z', b, cs, T, fp', g1, g2, g3, g4, g5⟩
          · cases e2
          · cases g1
            refine ⟨P2, φ, q1, q2, q3, ?_, Shrinks.del⟩
            have hd := sealCells_den (ε := ε) q1 e' z cs.toList fp' (fun b' hb' => by rw [q4 b' (by rw [g3]; simp [hb'])]; rfl) g5
            obtain ⟨r1, _⟩ := CTs.ofS_rep e _ y cs.toList k2 hd
            simp only [CT.Rep]
            refine .inr ⟨y, ⟨b, 0, none⟩, rfl, g2, rfl, CTs.Rep.mono (PHeap.le_refl _) e _ _ _ (fun j w hw => ?_) r1⟩
            have hb : P2 b = some (.cells cs T (0, 0)) := by rw [q4 b (by simp [g3])]; exact g4
            simp only [PHeap.cell, hb, Nat.zero_add]
            simpa using hw
      · rename_i p t n q m
        have h : (Prog.elim m (Prog.pure none) fun z => flatL t z.2.1 (sealCells q z.2.2) n 0 fun l => (ret (CTs.ofS e (sealCells p z.1 ++ l))).bind fun x => Prog.pure (some x)).run (tab.del c) = some (x, tab') := h
        obtain ⟨P2, q1, q2, q3, q4⟩ := I1.freezeH H1
        cases m with
        | none =>
          obtain ⟨rfl, rfl⟩ := run_pure_inv h
          refine ⟨P2, φ, q1, q2, q3, ?_, Shrinks.del⟩
          simp only [ChunkOK, OT.Rep] at e2
          rcases e2 with ⟨_, e2, _⟩ | ⟨x, _, _, _, _, _, _, _, _, _, _, g1, _⟩
          · simp only [CT.Rep]; exact .inl ⟨by trivial, e2⟩
          · cases g1
        | some z =>
          rw [Prog.run_elim_some] at h
          simp only [ChunkOK, OT.Rep] at e2
          rcases e2 with ⟨e2, _⟩ | ⟨x1, x2, x3, b, cs, T, f1, f2, c1, c2, c3, g1, g2, g3, g4, g5, g6, g7, g8⟩
          · cases e2
          · cases g1
            have hin : ∀ b' ∈ f1 ++ f2, P2 b' = World.view W b' := fun b' hb' => by rw [q4 b' (by rw [g3]; exact List.mem_cons_of_mem _ hb')]; rfl
            have hd1 := sealCells_den (ε := ε) q1 p x1 c1 f1 (fun b' hb' => hin b' (by simp [hb'])) g7
            have hd2 := sealCells_den (ε := ε) q1 q x3 c3 f2 (fun b' hb' => hin b' (by simp [hb'])) g8
            obtain ⟨l, r1, h⟩ := flatL_sound (P := P2) (k := fun l => (ret (CTs.ofS e (sealCells p x1 ++ l))).bind fun x => Prog.pure (some x)) hd2 n 0 c2 g6.1 (fun j hj w hw => by simpa using CT.Rep.mono q1 _ _ _ (g6.2.2 j (by simpa using hj) w hw)) h
            obtain ⟨y, t1, k1, h⟩ := run_bind_inv h
            obtain ⟨rfl, rfl⟩ := run_pure_inv h
            obtain ⟨k2, rfl⟩ := run_ret_inv k1
            refine ⟨P2, φ, q1, q2, q3, ?_, Shrinks.del⟩
            obtain ⟨r2, _⟩ := CTs.ofS_rep e _ y _ k2 (DenL.append hd1 r1)
            simp only [CT.Rep]
            refine .inr ⟨y, ⟨b, 0, none⟩, rfl, g2, rfl, CTs.Rep.mono (PHeap.le_refl _) e _ _ _ (fun j w hw => ?_) r2⟩
            have hb : P2 b = some (.cells cs T (0, 0)) := by rw [q4 b (by simp [g3])]; exact g4
            simp only [PHeap.cell, hb, Nat.zero_add]
            rw [← g5] at hw
            simpa using hw
      · rename_i vs t n y ws
        obtain ⟨b, cs, T, c1, c2, c3, rfl, f2, f3, f4, f5, f6, f7⟩ := e2
        have h : (flatL t y ws n 0 fun l => (takeCs e (vs ++ l)).bind fun x => Prog.pure (some x)).run (tab.del c) = some (x, tab') := h
        obtain ⟨l, r1, h⟩ := flatL_sound (P := P) (k := fun l => (takeCs e (vs ++ l)).bind fun x => Prog.pure (some x)) f7 n 0 c2 f6.1 (fun j hj w hw => by simpa using f6.2.2 j (by omega) w hw) h
        obtain ⟨z, t1, k1, h⟩ := run_bind_inv h
        obtain ⟨rfl, rfl⟩ := run_pure_inv h
        obtain ⟨P1, φ1, p1, p2, p3, p4, _, p5⟩ := takeCs_sound e (vs ++ l) cs.toList z (tab.del c) tab' P φ (φ c ++ hf) I1 H1 (by rw [f4]; exact DenL.append f5 r1) k1
        obtain ⟨P2, q1, q2, q3, q4⟩ := p2.freezeH p3
        refine ⟨P2, φ1, PHeap.le_trans p1 q1, q2, q3, ?_, Shrinks.del.trans p5⟩
        simp only [CT.Rep]
        refine .inr ⟨z, ⟨b, 0, none⟩, rfl, rfl, rfl, CTs.Rep.mono q1 e _ _ _ (fun j w hw => ?_) p4⟩
        have hb : P2 b = some (.cells cs T (0, 0)) := by rw [q4 b (by simp [f2])]; exact f3
        simp only [PHeap.cell, hb, Nat.zero_add]
        simpa using hw
    · obtain ⟨h1, rfl⟩ := run_ret_inv h
      exact ⟨P, φ, PHeap.le_refl P, I, hh, CT.ofS_rep _ s x v h1 hs, Shrinks.refl _⟩
theorem takeCs_sound {cx : Cx} {ε : HMap} {W : World} : ∀ (e : CTs) (ss : List S1) (vs : List Value) (x : e.T) (tab tab' : Tab) (P : PHeap) (φ : Nat → List Nat) (hf : List Nat), Inv cx P ε φ tab W → Held cx P φ tab W hf → DenL P ε ss vs →
    (takeCs e ss).run tab = some (x, tab') → ∃ P' φ', P.le P' ∧ Inv cx P' ε φ' tab' W ∧ Held cx P' φ' tab' W hf ∧ CTs.Rep P' e x (fun j => vs[j]?) ∧ vs.length = e.size ∧ Shrinks tab tab'
  | .nil, [], vs, x, tab, tab', P, φ, hf, I, hh, hd, h => by
    obtain ⟨rfl, rfl⟩ := run_pure_inv h
    simp only [DenL] at hd
    exact ⟨P, φ, PHeap.le_refl P, I, hh, by simp [CTs.Rep], by simp [hd, CTs.size], Shrinks.refl _⟩
  | .nil, _ :: _, _, _, _, _, _, _, _, _, _, _, h => (run_fail_inv h).elim
  | .cons _ _, [], _, _, _, _, _, _, _, _, _, _, h => (run_fail_inv h).elim
  | .cons t ts, s :: ss, _, x, tab, tab', P, φ, hf, I, hh, ⟨v, vs', rfl, h2, h3⟩, h => by
    simp only [takeCs] at h
    obtain ⟨y, t1, k1, h⟩ := run_bind_inv h
    obtain ⟨z, t2, k2, h⟩ := run_bind_inv h
    obtain ⟨rfl, rfl⟩ := run_pure_inv h
    obtain ⟨P1, φ1, p1, p2, p3, p4, p5⟩ := takeC_sound I hh t s v h2 y t1 k1
    obtain ⟨P2, φ2, q1, q2, q3, q4, q5, q6⟩ := takeCs_sound ts ss vs' z t1 tab' P1 φ1 hf p2 p3 (DenL.mono p1 (fun _ _ h => h) _ _ h3) k2
    refine ⟨P2, φ2, PHeap.le_trans p1 q1, q2, q3, ?_, by simp [CTs.size, q5], p5.trans q6⟩
    simp only [CTs.Rep, CTs.hd_mk, CTs.tl_mk]
    exact ⟨⟨v, rfl, CT.Rep.mono q1 t _ _ p4⟩, by simpa using q4⟩
end

theorem castM_map {k v k' v' : VT} (h : OT.map k' v' = OT.map k v) (xs : List (k'.T × v'.T)) {H : HView} {w : Value} {fp : List Nat} (hr : MapRep P H k' v' xs w fp) : MapRep P H k v (castM h xs) w fp := by
  cases h; exact hr
theorem takeVT_sound (I : Inv cx P ε φ tab W) {hf : List Nat} (hh : Held cx P φ tab W hf) (t : VT) (s : SV) (v : Value) (hs : DenV P ε s v) (x : t.T) (tab' : Tab)
    (h : (takeVT t s).run tab = some (x, tab')) : ∃ P' φ', P.le P' ∧ Inv cx P' ε φ' tab' W ∧ Held cx P' φ' tab' W hf ∧ VT.Rep P' t x v ∧ Shrinks tab tab' := by
  cases t with
  | one t =>
    cases s <;> first | exact (run_fail_inv h).elim | skip
    exact takeC_sound I hh t _ v hs x tab' h
  | agg e =>
    cases s <;> first | exact (run_fail_inv h).elim | skip
    obtain ⟨cs, rfl, h2⟩ := hs
    obtain ⟨P1, φ1, p1, p2, p3, p4, p5, p6⟩ := takeCs_sound e _ cs.toList x tab tab' P φ hf I hh h2 h
    exact ⟨P1, φ1, p1, p2, p3, ⟨cs, rfl, by simpa using p5, by simpa using p4⟩, p6⟩

theorem flatA_sound {α : Type} {vs : List S1} {t : CT} {n : Nat} {y : List t.T} {ws : List S1} {v : Value} (hd : DenV P ε (.aggA vs t n y ws) v) {k : List S1 → Prog α} {r : α} {tab' : Tab}
    (h : (flatL t y ws n 0 fun l => k (vs ++ l)).run tab = some (r, tab')) : ∃ cs l, v = .agg cs ∧ DenL P ε (vs ++ l) cs.toList ∧ (k (vs ++ l)).run tab = some (r, tab') := by
  obtain ⟨cs, c1, c2, c3, rfl, hc, h1, h2, h3⟩ := hd
  obtain ⟨l, q1, q2⟩ := flatL_sound (k := fun l => k (vs ++ l)) h3 n 0 c2 h2.1 (fun j hj w hw => by simpa using h2.2.2 j (by omega) w hw) h
  exact ⟨cs, l, rfl, by rw [hc]; exact DenL.append h1 q1, q2⟩
theorem castM_rep {P : PHeap} {H : HView} {a b : OT} (h : a = b) (x : a.T) {v : Value} {fp : List Nat} (hr : a.Rep P H x v fp) : b.Rep P H (castM h x) v fp := by subst h; exact hr
mutual
theorem takeO_sound : ∀ (t : OT) (s : S1) (v : Value) (x : t.T) (tab tab' : Tab) (P : PHeap) (φ : Nat → List Nat) (hf : List Nat), Inv cx P ε φ tab W → Held cx P φ tab W hf → Den P ε s v →
    (takeO t s).run tab = some (x, tab') → ∃ P' φ' fp, P.le P' ∧ Inv cx P' ε φ' tab' W ∧ Held cx P' φ' tab' W (fp ++ hf) ∧ OT.Rep P' (World.view W) t x v fp ∧ Shrinks tab tab'
  | .c t, s, v, x, tab, tab', P, φ, hf, I, hh, hd, h => by
    simp only [takeO] at h
    obtain ⟨P1, φ1, p1, p2, p3, p4, p5⟩ := takeC_sound I hh t s v hd x tab' h
    exact ⟨P1, φ1, [], p1, p2, p3, by rw [OT.Rep]; exact ⟨p4, rfl⟩, p5⟩
  | .row e, s, v, x, tab, tab', P, φ, hf, I, hh, hd, h => by
    simp only [takeO] at h
    cases s <;> first | exact (run_fail_inv h).elim | skip
    case own c =>
      obtain ⟨y, hc, h⟩ := run_get_inv h
      cases y <;> first | exact (run_fail_inv h).elim | skip
      rename_i e' xs
      simp only at h
      split at h
      · rename_i p hp
        subst p
        have h' : (tab.del c, xs) = (tab', x) := by
          simp only [Prog.run, Option.some.injEq, Prod.mk.injEq] at h
          exact Prod.ext h.2 h.1
        cases h'
        obtain ⟨w, e1, e2⟩ := I.chunk c _ hc
        have hv : ε c = some v := hd
        rw [hv] at e1; cases e1
        obtain ⟨k1, k2⟩ := I.takeOut hh hc
        exact ⟨P, φ, φ c, PHeap.le_refl P, k1, k2, by simp only [OT.Rep]; exact e2, Shrinks.del⟩
      · exact (run_fail_inv h).elim
    case nils =>
      obtain ⟨rfl, rfl⟩ := run_pure_inv h
      exact ⟨P, φ, [], PHeap.le_refl P, I, hh, by rw [OT.Rep]; exact .inl ⟨rfl, hd, rfl⟩, Shrinks.refl _⟩
  | .ptr e, s, v, x, tab, tab', P, φ, hf, I, hh, hd, h => by
    simp only [takeO] at h
    cases s <;> first | exact (run_fail_inv h).elim | skip
    case nilp =>
      obtain ⟨rfl, rfl⟩ := run_pure_inv h
      exact ⟨P, φ, [], PHeap.le_refl P, I, hh, by rw [OT.Rep]; exact .inl ⟨rfl, hd, rfl⟩, Shrinks.refl _⟩
    case own c =>
      obtain ⟨y, hc, h⟩ := run_get_inv h
      obtain ⟨w, e1, e2⟩ := I.chunk c _ hc
      have hv : ε c = some v := hd
      rw [hv] at e1; cases e1
      obtain ⟨k1, k2⟩ := I.takeOut hh hc
      cases y <;> first | exact (run_fail_inv h).elim | skip
      · rename_i vs
        have h' : ((takeOs e vs).bind fun x => .pure (some x)).run (tab.del c) = some (x, tab') := h
        obtain ⟨z, t2, q1, h⟩ := run_bind_inv h'
        obtain ⟨rfl, rfl⟩ := run_pure_inv h
        obtain ⟨b, cs, T, f1, f2, f3, f4⟩ := e2
        rw [f2] at k2
        obtain ⟨P2, φ2, fp, m1, m2, m3, m4, m5⟩ := takeOs_sound e vs cs.toList z (tab.del c) tab' P φ ([b] ++ hf) k1 k2 f4 q1
        refine ⟨P2, φ2, b :: fp, m1, m2, m3.perm ?_, ?_, Shrinks.del.trans m5⟩
        · show (fp ++ (b :: hf)).Perm (b :: (fp ++ hf))
          exact List.perm_middle
        · simp only [OT.Rep]
          exact .inr ⟨z, b, cs, T, fp, rfl, f1, rfl, f3, m4⟩
      · rename_i e' m
        simp only at h
        split at h
        · rename_i p hp
          subst p
          have h' : (tab.del c, m) = (tab', x) := by
            simp only [Prog.run, Option.some.injEq, Prod.mk.injEq] at h
            exact Prod.ext h.2 h.1
          cases h'
          exact ⟨P, φ, φ c, PHeap.le_refl P, k1, k2, e2, Shrinks.del⟩
        · exact (run_fail_inv h).elim
  | .map k u, s, v, x, tab, tab', P, φ, hf, I, hh, hd, h => by
    simp only [takeO] at h
    cases s <;> first | exact (run_fail_inv h).elim | skip
    case own c =>
      obtain ⟨y, hc, h⟩ := run_get_inv h
      cases y <;> first | exact (run_fail_inv h).elim | skip
      rename_i k' u' xs
      simp only at h
      split at h
      · rename_i p hp
        have h' : (tab.del c, castM p xs) = (tab', x) := by
          simp only [Prog.run, Option.some.injEq, Prod.mk.injEq] at h
          exact Prod.ext h.2 h.1
        cases h'
        obtain ⟨w, e1, e2⟩ := I.chunk c _ hc
        have hv : ε c = some v := hd
        rw [hv] at e1; cases e1
        obtain ⟨k1, k2⟩ := I.takeOut hh hc
        exact ⟨P, φ, φ c, PHeap.le_refl P, k1, k2, by simp only [OT.Rep]; exact castM_map p xs e2, Shrinks.del⟩
      · exact (run_fail_inv h).elim
  | .ptrA p t n q, s, v, x, tab, tab', P, φ, hf, I, hh, hd, h => by
    simp only [takeO] at h
    cases s <;> first | exact (run_fail_inv h).elim | skip
    case nilp =>
      obtain ⟨rfl, rfl⟩ := run_pure_inv h
      exact ⟨P, φ, [], PHeap.le_refl P, I, hh, by rw [OT.Rep]; exact .inl ⟨rfl, hd, rfl⟩, Shrinks.refl _⟩
    case own c =>
      obtain ⟨y, hc, h⟩ := run_get_inv h
      obtain ⟨w, e1, e2⟩ := I.chunk c _ hc
      have hv : ε c = some v := hd
      rw [hv] at e1; cases e1
      obtain ⟨k1, k2⟩ := I.takeOut hh hc
      have parts : ∀ (vs ws : List S1) (c1 c2 c3 : List Value) (y : List t.T) (b T : Nat) (cs : Array Value), φ c = [b] → v = .pointer (some ⟨b, 0, none⟩) → World.view W b = some (.cells cs T (0, 0)) → cs.toList = c1 ++ (c2 ++ c3) → DenL P ε vs c1 → ArrRep P t n y c2 → DenL P ε ws c3 →
          ((takeOs p vs).bind fun x => (takeOs q ws).bind fun z => .pure (some (x, y, z))).run (tab.del c) = some (x, tab') →
          ∃ P' φ' fp, P.le P' ∧ Inv cx P' ε φ' tab' W ∧ Held cx P' φ' tab' W (fp ++ hf) ∧ OT.Rep P' (World.view W) (.ptrA p t n q) x v fp ∧ Shrinks tab tab' := by
        intro vs ws c1 c2 c3 y b T cs g1 g2 g3 g4 g5 g6 g7 h
        obtain ⟨x1, t2, q1, h⟩ := run_bind_inv h
        obtain ⟨z1, t3, q2, h⟩ := run_bind_inv h
        obtain ⟨rfl, rfl⟩ := run_pure_inv h
        rw [g1] at k2
        obtain ⟨P2, φ2, f1, m1, m2, m3, m4, m5⟩ := takeOs_sound p vs c1 x1 (tab.del c) t2 P φ ([b] ++ hf) k1 k2 g5 q1
        obtain ⟨P3, φ3, f2, n1, n2, n3, n4, n5⟩ := takeOs_sound q ws c3 z1 t2 tab' P2 φ2 (f1 ++ ([b] ++ hf)) m2 m3 (DenL.mono m1 (fun _ _ h => h) _ _ g7) q2
        refine ⟨P3, φ3, b :: (f1 ++ f2), PHeap.le_trans m1 n1, n2, n3.perm ?_, ?_, (Shrinks.del.trans m5).trans n5⟩
        · have h1 : (f2 ++ (f1 ++ ([b] ++ hf))).Perm ((f1 ++ ([b] ++ hf)) ++ f2) := List.perm_append_comm
          refine h1.trans ?_
          have h2 : ((f1 ++ ([b] ++ hf)) ++ f2).Perm (b :: ((f1 ++ hf) ++ f2)) := by
            rw [List.singleton_append]
            exact (List.perm_middle.append_right f2)
          refine h2.trans (List.Perm.cons b ?_)
          show ((f1 ++ hf) ++ f2).Perm ((f1 ++ f2) ++ hf)
          rw [List.append_assoc, List.append_assoc]
          exact List.Perm.append_left f1 List.perm_append_comm
        · simp only [OT.Rep]
          exact .inr ⟨x1, y, z1, b, cs, T, f1, f2, c1, c2, c3, rfl, g2, rfl, g3, g4, g6.mono (PHeap.le_trans m1 n1), OTs.Rep.mono n1 p _ _ _ (fun _ _ => rfl) m4, n4⟩
      cases y <;> first | exact (run_fail_inv h).elim | skip
      · rename_i vs
        simp only at h
        split at h
        · rename_i y hy
          split at h
          · rename_i hlen
            have hlen := nbeq_true hlen
            obtain ⟨b, cs, T, f1, f2, f3, f4⟩ := e2
            have ha := ofSL_rep t _ y _ hy (DenL.take n (DenL.drop p.size f4))
            have hn : ((vs.drop p.size).take n).length = n := by have := ha.2.1; omega
            rw [hn] at ha
            refine parts (vs.take p.size) (vs.drop (p.size + n)) (cs.toList.take p.size) ((cs.toList.drop p.size).take n) (cs.toList.drop (p.size + n)) y b T cs f2 f1 f3 ?_ (DenL.take _ f4) ha (DenL.drop _ f4) h
            rw [← List.drop_drop, List.take_append_drop, List.take_append_drop]
          · exact (run_fail_inv h).elim
        · exact (run_fail_inv h).elim
      · rename_i p' t' n' q' m
        simp only at h
        split at h
        · rename_i hp _
          have h' : (tab.del c, castM (a := .ptrA p' t' n' q') (b := .ptrA p t n q) hp m) = (tab', x) := by
            simp only [Prog.run, Option.some.injEq, Prod.mk.injEq] at h
            exact Prod.ext h.2 h.1
          cases h'
          exact ⟨P, φ, φ c, PHeap.le_refl P, k1, k2, castM_rep (a := .ptrA p' t' n' q') (b := .ptrA p t n q) hp m e2, Shrinks.del⟩
        · exact (run_fail_inv h).elim
      · rename_i vs t' n' y ws
        simp only at h
        split at h
        · rename_i ht _ hn
          subst ht
          have hn := nbeq_true hn
          subst hn
          obtain ⟨b, cs, T, c1, c2, c3, f1, f2, f3, f4, f5, f6, f7⟩ := e2
          exact parts vs ws c1 c2 c3 y b T cs f2 f1 f3 f4 f5 f6 f7 h
        · exact (run_fail_inv h).elim
theorem takeOs_sound : ∀ (e : OTs) (ss : List S1) (vs : List Value) (x : e.T) (tab tab' : Tab) (P : PHeap) (φ : Nat → List Nat) (hf : List Nat), Inv cx P ε φ tab W → Held cx P φ tab W hf → DenL P ε ss vs →
    (takeOs e ss).run tab = some (x, tab') → ∃ P' φ' fp, P.le P' ∧ Inv cx P' ε φ' tab' W ∧ Held cx P' φ' tab' W (fp ++ hf) ∧ OTs.Rep P' (World.view W) e x vs fp ∧ Shrinks tab tab'
  | .nil, [], vs, x, tab, tab', P, φ, hf, I, hh, hd, h => by
    simp only [takeOs] at h
    obtain ⟨rfl, rfl⟩ := run_pure_inv h
    simp only [DenL] at hd
    exact ⟨P, φ, [], PHeap.le_refl P, I, hh, by rw [OTs.Rep]; exact ⟨hd, rfl⟩, Shrinks.refl _⟩
  | .nil, _ :: _, _, _, _, _, _, _, _, _, _, _, h => by simp only [takeOs] at h; exact (run_fail_inv h).elim
  | .cons _ _, [], _, _, _, _, _, _, _, _, _, _, h => by simp only [takeOs] at h; exact (run_fail_inv h).elim
  | .cons t ts, s :: ss, _, x, tab, tab', P, φ, hf, I, hh, ⟨v, vs', rfl, h2, h3⟩, h => by
    simp only [takeOs] at h
    obtain ⟨y, t1, k1, h⟩ := run_bind_inv h
    obtain ⟨z, t2, k2, h⟩ := run_bind_inv h
    obtain ⟨rfl, rfl⟩ := run_pure_inv h
    obtain ⟨P1, φ1, f1, p1, p2, p3, p4, p5⟩ := takeO_sound t s v y tab t1 P φ hf I hh h2 k1
    obtain ⟨P2, φ2, f2, q1, q2, q3, q4, q5⟩ := takeOs_sound ts ss vs' z t1 tab' P1 φ1 (f1 ++ hf) p2 p3 (DenL.mono p1 (fun _ _ h => h) _ _ h3) k2
    refine ⟨P2, φ2, f1 ++ f2, PHeap.le_trans p1 q1, q2, q3.perm ?_, ?_, p5.trans q5⟩
    · rw [← List.append_assoc]
      exact List.Perm.append_right hf List.perm_append_comm
    · simp only [OTs.Rep, OTs.hd_mk, OTs.tl_mk]
      exact ⟨v, vs', f1, f2, rfl, rfl, OT.Rep.mono q1 t _ _ _ (fun _ _ => rfl) p4, q4⟩
end

/-! ### Arguments, results -/
def PTy.Rep (P : PHeap) (H : HView) : (t : PTy) → t.T → Value → List Nat → Prop
  | .one t, x, v, fp => OT.Rep P H t x v fp
  | .agg e, x, v, fp => ∃ cs : Array Value, v = .agg cs ∧ cs.size = e.size ∧ CTs.Rep P e x (fun j => cs[j]?) ∧ fp = []
  | .oagg e, x, v, fp => ∃ cs : Array Value, v = .agg cs ∧ OTs.Rep P H e x cs.toList fp
  | .mv e, x, v, fp => ∃ cs : Array Value, v = .agg cs ∧ OTs.Rep P H e x cs.toList fp
  | .mvr e, x, v, fp => OT.Rep P H (.row e) x v fp
  | .rs off e, x, v, fp => ∃ w, RowRep P H e x.2 w fp ∧ ((x.1 = 0 ∧ Bare v) ∨ (x.1 = 1 ∧ ∃ b o cap, v = .slice (some ⟨b, o, none⟩) 1 cap ∧ P.cell b (o + off) = some w))
def PTys.Rep (P : PHeap) (H : HView) : (ps : PTys) → ps.T → List Value → List Nat → Prop
  | .nil, _, vs, fp => vs = [] ∧ fp = []
  | .cons t ts, x, vs, fp => ∃ v vs' f1 f2, vs = v :: vs' ∧ fp = f1 ++ f2 ∧ PTy.Rep P H t (PTys.hd t ts x) v f1 ∧ PTys.Rep P H ts (PTys.tl t ts x) vs' f2
theorem PTy.Rep.mono {P Q : PHeap} {H G : HView} (hl : P.le Q) (t : PTy) (x : t.T) (v : Value) (fp : List Nat) (hg : ∀ b ∈ fp, G b = H b) (h : t.Rep P H x v fp) : t.Rep Q G x v fp := by
  cases t with
  | one t => exact OT.Rep.mono hl t x v fp hg h
  | agg e => obtain ⟨cs, h1, h2, h3, h4⟩ := h; exact ⟨cs, h1, h2, CTs.Rep.mono hl e _ _ _ (fun _ _ h => h) h3, h4⟩
  | oagg e => obtain ⟨cs, h1, h2⟩ := h; exact ⟨cs, h1, OTs.Rep.mono hl e _ _ _ hg h2⟩
  | mv e => obtain ⟨cs, h1, h2⟩ := h; exact ⟨cs, h1, OTs.Rep.mono hl e _ _ _ hg h2⟩
  | mvr e => exact OT.Rep.mono hl (.row e) x v fp hg h
  | rs off e => obtain ⟨w, h1, h2⟩ := h; exact ⟨w, RowRep.mono hl hg h1, h2.imp id fun ⟨h0, b, o, cap, h3, h4⟩ => ⟨h0, b, o, cap, h3, PHeap.cell_le hl h4⟩⟩

theorem takeP_sound (t : PTy) (s : SV) (v : Value) (x : t.T) (tab' : Tab) (hf : List Nat) (I : Inv cx P ε φ tab W) (hh : Held cx P φ tab W hf) (hd : DenV P ε s v)
    (h : (takeP t s).run tab = some (x, tab')) : ∃ P' φ' fp, P.le P' ∧ Inv cx P' ε φ' tab' W ∧ Held cx P' φ' tab' W (fp ++ hf) ∧ PTy.Rep P' (World.view W) t x v fp ∧ Shrinks tab tab' := by
  cases t with
  | one t =>
    cases s <;> first | exact (run_fail_inv h).elim | skip
    exact takeO_sound t _ v x tab tab' P φ hf I hh hd h
  | agg e =>
    cases s <;> first | exact (run_fail_inv h).elim | skip
    · obtain ⟨cs, rfl, h2⟩ := hd
      obtain ⟨P1, φ1, p1, p2, p3, p4, p5, p6⟩ := takeCs_sound e _ cs.toList x tab tab' P φ hf I hh h2 h
      exact ⟨P1, φ1, [], p1, p2, p3, ⟨cs, rfl, by simpa using p5, by simpa using p4, rfl⟩, p6⟩
    · obtain ⟨cs, l, rfl, h2, h⟩ := flatA_sound hd h
      obtain ⟨P1, φ1, p1, p2, p3, p4, p5, p6⟩ := takeCs_sound e _ cs.toList x tab tab' P φ hf I hh h2 h
      exact ⟨P1, φ1, [], p1, p2, p3, ⟨cs, rfl, by simpa using p5, by simpa using p4, rfl⟩, p6⟩
  | oagg e =>
    cases s <;> first | exact (run_fail_inv h).elim | skip
    · obtain ⟨cs, rfl, h2⟩ := hd
      obtain ⟨P1, φ1, fp, p1, p2, p3, p4, p5⟩ := takeOs_sound e _ cs.toList x tab tab' P φ hf I hh h2 h
      exact ⟨P1, φ1, fp, p1, p2, p3, ⟨cs, rfl, p4⟩, p5⟩
    · obtain ⟨cs, l, rfl, h2, h⟩ := flatA_sound hd h
      obtain ⟨P1, φ1, fp, p1, p2, p3, p4, p5⟩ := takeOs_sound e _ cs.toList x tab tab' P φ hf I hh h2 h
      exact ⟨P1, φ1, fp, p1, p2, p3, ⟨cs, rfl, p4⟩, p5⟩
  | mvr e =>
    cases s <;> first | exact (run_fail_inv h).elim | skip
    exact takeO_sound (.row e) _ v x tab tab' P φ hf I hh hd h
  | rs off e =>
    cases s <;> first | exact (run_fail_inv h).elim | skip
    rename_i s
    cases s <;> first | exact (run_fail_inv h).elim | skip
    · obtain ⟨e1, e2⟩ := run_pure_inv h
      subst e1; subst e2
      refine ⟨P, φ, [], PHeap.le_refl P, I, hh, ⟨.slice none 0 0, .inl ⟨rfl, ⟨none, rfl, fun ad h => by cases h⟩, rfl⟩, .inl ⟨rfl, hd⟩⟩, fun c h => h⟩
    · rename_i off' c k
      simp only [takeP] at h
      split at h
      · rename_i hb
        have hb := nbeq_true hb
        subst hb
        obtain ⟨xs, t1, k1, h⟩ := run_bind_inv h
        obtain ⟨e1, e2⟩ := run_pure_inv h
        subst e1; subst e2
        have hw : ∃ w, ε c = some w := by
          have k1' := k1
          simp only [takeO] at k1'
          obtain ⟨x0, hx0, _⟩ := run_get_inv k1'
          obtain ⟨w, hw, _⟩ := I.chunk c _ hx0
          exact ⟨w, hw⟩
        obtain ⟨w, hw⟩ := hw
        obtain ⟨P1, φ1, fp, p1, p2, p3, p4, p5⟩ := takeO_sound (.row e) (.own c) w xs tab _ P φ hf I hh hw k1
        rw [OT.Rep] at p4
        refine ⟨P1, φ1, fp, p1, p2, p3, ⟨w, p4, ?_⟩, p5⟩
        rcases hd with ⟨q1, q2⟩ | ⟨q1, b, o, cap, w', q2, q3, q4⟩
        · exact .inl ⟨q1, q2⟩
        · rw [hw] at q4; cases q4
          exact .inr ⟨q1, b, o, cap, q2, PHeap.cell_le p1 q3⟩
      · exact (run_fail_inv h).elim
  | mv e =>
    cases s <;> first | exact (run_fail_inv h).elim | skip
    · obtain ⟨cs, rfl, h2⟩ := hd
      obtain ⟨P1, φ1, fp, p1, p2, p3, p4, p5⟩ := takeOs_sound e _ cs.toList x tab tab' P φ hf I hh h2 h
      exact ⟨P1, φ1, fp, p1, p2, p3, ⟨cs, rfl, p4⟩, p5⟩
    · obtain ⟨cs, l, rfl, h2, h⟩ := flatA_sound hd h
      obtain ⟨P1, φ1, fp, p1, p2, p3, p4, p5⟩ := takeOs_sound e _ cs.toList x tab tab' P φ hf I hh h2 h
      exact ⟨P1, φ1, fp, p1, p2, p3, ⟨cs, rfl, p4⟩, p5⟩
def DenVs (P : PHeap) (ε : HMap) : List SV → List Value → Prop
  | [], vs => vs = []
  | s :: ss, vs => ∃ v vs', vs = v :: vs' ∧ DenV P ε s v ∧ DenVs P ε ss vs'
theorem DenVs.mono {P Q : PHeap} {ε η : HMap} (hl : P.le Q) (he : HMap.le ε η) : ∀ (s : List SV) (v : List Value), DenVs P ε s v → DenVs Q η s v
  | [], _, h => h
  | _ :: ss, _, ⟨v, vs', h1, h2, h3⟩ => ⟨v, vs', h1, DenV.mono hl he _ _ h2, DenVs.mono hl he ss _ h3⟩
theorem takePs_sound : ∀ (ps : PTys) (ss : List SV) (vs : List Value) (x : ps.T) (tab tab' : Tab) (P : PHeap) (φ : Nat → List Nat) (hf : List Nat), Inv cx P ε φ tab W → Held cx P φ tab W hf → DenVs P ε ss vs →
    (takePs ps ss).run tab = some (x, tab') → ∃ P' φ' fp, P.le P' ∧ Inv cx P' ε φ' tab' W ∧ Held cx P' φ' tab' W (fp ++ hf) ∧ PTys.Rep P' (World.view W) ps x vs fp ∧ Shrinks tab tab'
  | .nil, [], vs, x, tab, tab', P, φ, hf, I, hh, hd, h => by
    simp only [takePs] at h
    obtain ⟨rfl, rfl⟩ := run_pure_inv h
    exact ⟨P, φ, [], PHeap.le_refl P, I, hh, ⟨hd, rfl⟩, Shrinks.refl _⟩
  | .nil, _ :: _, _, _, _, _, _, _, _, _, _, _, h => by simp only [takePs] at h; exact (run_fail_inv h).elim
  | .cons _ _, [], _, _, _, _, _, _, _, _, _, _, h => by simp only [takePs] at h; exact (run_fail_inv h).elim
  | .cons t ts, s :: ss, _, x, tab, tab', P, φ, hf, I, hh, ⟨v, vs', rfl, h2, h3⟩, h => by
    simp only [takePs] at h
    obtain ⟨y, t1, k1, h⟩ := run_bind_inv h
    obtain ⟨z, t2, k2, h⟩ := run_bind_inv h
    obtain ⟨rfl, rfl⟩ := run_pure_inv h
    obtain ⟨P1, φ1, f1, p1, p2, p3, p4, p5⟩ := takeP_sound t s v y t1 hf I hh h2 k1
    obtain ⟨P2, φ2, f2, q1, q2, q3, q4, q5⟩ := takePs_sound ts ss vs' z t1 tab' P1 φ1 (f1 ++ hf) p2 p3 (DenVs.mono p1 (fun _ _ h => h) _ _ h3) k2
    refine ⟨P2, φ2, f1 ++ f2, PHeap.le_trans p1 q1, q2, q3.perm ?_, ?_, p5.trans q5⟩
    · rw [← List.append_assoc]
      exact List.Perm.append_right hf List.perm_append_comm
    · simp only [PTys.Rep, PTys.hd_mk, PTys.tl_mk]
      exact ⟨v, vs', f1, f2, rfl, rfl, PTy.Rep.mono q1 t _ _ _ (fun _ _ => rfl) p4, q4⟩
end
end Go.Sx
