/- A walk of Go code by plain functions is sound. -/
import Derived.Test.YtegncnhhofbmiaaSxSound5
import Derived.ChangeKeysEq
namespace Go.Sx
section
variable {Pg : Program} {tt : TT} {cx : Cx} {P : PHeap} {ε : HMap} {φ : Nat → List Nat} {tab : Tab} {W : World}

def asVal (d : TD) (vs : List Value) : Value := match d.agg with | true => .agg vs.toArray | false => vs.headD undef
theorem td_odd {t : Nat} {d : TD} (h : tdOf Pg t = some d) (ho : d.odd = false) : Pg.eqGuardType Pg.depth t = false ∧ Pg.stoodInHeld t = false := by
  unfold tdOf at h
  split at h
  · simp only [Option.some.injEq] at h
    subst h
    simpa using ho
  · cases h
theorem part_asVal {t : Nat} {d : TD} (hd : tdOf Pg t = some d) {vs : List Value} {off : Nat} (h1 : off + d.size ≤ vs.length) (h2 : d.agg = true ∨ d.size = 1) :
    (part t vs.toArray off).run Pg W = .ok (asVal d ((vs.drop off).take d.size)) W := by
  unfold part asVal
  rw [Sem.run_bind, td_isAgg hd]
  cases ha : d.agg with
  | true =>
    have : (vs.toArray.extract off (off + d.size)) = ((vs.drop off).take d.size).toArray := by
      apply Array.ext'; simp
    simp [td_size hd]
  | false =>
    have hs : d.size = 1 := by rcases h2 with h2 | h2
                               · rw [ha] at h2; cases h2
                               · exact h2
    have hl : off < vs.length := by omega
    have e1 : vs.toArray[off]? = some vs[off] := by simp [hl]
    have e2 : ((vs.drop off).take d.size).headD undef = vs[off] := by
      rw [hs, List.drop_eq_getElem_cons hl]; rfl
    rw [hs] at e2
    simp [hl, hs]
    simpa using e2.symm

theorem eqT_sound (htt : TTOK Pg tt) : ∀ (n t : Nat) (a b : List S1) (r : Bool) (va vb : List Value) (d : TD), tt.get t = some d → eqT tt n t a b = some r → DenL P ε a va → DenL P ε b vb →
    (d.agg = true ∨ (a.length = 1)) ∧ ∀ D, n ≤ D → (Op.equalIn D t (asVal d va) (asVal d vb)).run Pg W = .ok r W
  | 0, t, a, b, r, va, vb, d, _, h, _, _ => by simp [eqT] at h
  | n + 1, t, a, b, r, va, vb, d, ht, h, ha, hb => by
    have hd := htt t d ht
    simp only [eqT, ht] at h
    have lone : ∀ {s : S1} {vs : List Value}, DenL P ε [s] vs → ∃ v, vs = [v] ∧ Den P ε s v := by
      intro s vs h
      obtain ⟨v, vs', h1, h2, h3⟩ := h
      simp only [DenL] at h3
      exact ⟨v, by rw [h1, h3], h2⟩
    split at h
    · rename_i k hk
      split at h
      · rename_i k1 x k2 y
        cases hq : kindEq k2 k1 with
        | none => rw [hq] at h; cases h
        | some p =>
          obtain ⟨p⟩ := p
          rw [hq] at h
          subst p
          simp only [Option.some.injEq] at h
          obtain ⟨v, rfl, hv⟩ := lone ha
          obtain ⟨u, rfl, hu⟩ := lone hb
          have hagg : d.agg = false := by unfold TD.agg; rw [hk]
          refine ⟨.inr rfl, fun D hD => ?_⟩
          obtain ⟨D, rfl⟩ : ∃ D', D = D' + 1 := ⟨D - 1, by omega⟩
          simp only [asVal, hagg, List.headD_cons]
          rw [show v = _ from hv, show u = _ from hu, run_equalIn_int W D t _ k _ _ (td_int hd hk), ← h, IK.eqb_eq]
      · cases h
    · rename_i hk
      split at h
      · rename_i x y
        simp only [Option.some.injEq] at h
        obtain ⟨v, rfl, hv⟩ := lone ha
        obtain ⟨u, rfl, hu⟩ := lone hb
        have hagg : d.agg = false := by unfold TD.agg; rw [hk]
        refine ⟨.inr rfl, fun D hD => ?_⟩
        obtain ⟨D, rfl⟩ : ∃ D', D = D' + 1 := ⟨D - 1, by omega⟩
        obtain ⟨i, desc, h1, h2, h3, h4, h5, h6⟩ := td_facts hd
        have hu' : Pg.underlying t = some .bool := by
          rw [hk] at h3; cases desc <;> simp only [TK.ofDesc] at h3 <;> first | (cases h3; done) | exact h2
        simp only [asVal, hagg, List.headD_cons]
        rw [show v = _ from hv, show u = _ from hu, run_equalIn_bool' W D t _ _ hu', ← h]
      · cases h
    · rename_i hk
      split at h
      · rename_i x y
        simp only [Option.some.injEq] at h
        obtain ⟨v, rfl, hv⟩ := lone ha
        obtain ⟨u, rfl, hu⟩ := lone hb
        have hagg : d.agg = false := by unfold TD.agg; rw [hk]
        refine ⟨.inr rfl, fun D hD => ?_⟩
        obtain ⟨D, rfl⟩ : ∃ D', D = D' + 1 := ⟨D - 1, by omega⟩
        simp only [asVal, hagg, List.headD_cons]
        rw [hv.1, hu.1, run_equalIn_string W D t _ _ (td_str hd hk), ba_toList, ba_toList, ← h]
      · cases h
    · rename_i fs hk
      split at h
      · cases h
      · rename_i ho
        obtain ⟨fields, hu, hfs⟩ := td_struct hd hk
        obtain ⟨_, hst⟩ := td_odd hd ho
        have hagg : d.agg = true := by unfold TD.agg; rw [hk]
        refine ⟨.inl hagg, fun D hD => ?_⟩
        obtain ⟨D, rfl⟩ : ∃ D', D = D' + 1 := ⟨D - 1, by omega⟩
        simp only [asVal, hagg]
        have hfo : Pg.fieldsOf t = fields := by simp [Program.fieldsOf, hu]
        rw [run_equalIn_struct W D t _ _ (by rw [hfo]; exact hu) hst, hfo]
        subst hfs
        clear hk hu hfo
        generalize fields.toList = fl at h
        have la := ha.length
        have lb := hb.length
        induction fl generalizing r with
        | nil => simp only [List.map_nil, eqFs, Option.some.injEq] at h; subst h; rfl
        | cons f fl ih =>
          simp only [List.map_cons, eqFs] at h
          split at h
          · cases h
          · rename_i hblank
            split at h
            · cases h
            · rename_i fd hfd
              split at h
              · cases h
              · rename_i hle
                simp only [Bool.and_eq_true] at hle
                have l1 := Nat.le_of_ble_eq_true hle.1
                have l2 := Nat.le_of_ble_eq_true hle.2
                split at h
                · rename_i x y hx hy
                  simp only [Option.some.injEq] at h
                  subst h
                  obtain ⟨q1, q2⟩ := eqT_sound htt n f.type _ _ x _ _ fd hfd hx (DenL.take fd.size (DenL.drop f.offset ha)) (DenL.take fd.size (DenL.drop f.offset hb))
                  have hfd' := htt _ _ hfd
                  have q3 : fd.agg = true ∨ fd.size = 1 := by
                    rcases q1 with q1 | q1
                    · exact .inl q1
                    · right; simp at q1; omega
                  have hb' : f.name ≠ "_" := by simpa using hblank
                  simp only [Op.eqFields, hb', ne_eq, not_false_eq_true, if_true, Sem.run_bind]
                  rw [part_asVal hfd' (by omega) q3]
                  simp only [Result.andThen_ok]
                  rw [part_asVal hfd' (by omega) q3]
                  simp only [Result.andThen_ok]
                  rw [q2 D (by omega)]
                  simp only [Result.andThen_ok]
                  cases x
                  · simp
                  · simp only [Bool.not_true, Bool.false_eq_true, if_false, Bool.true_and]
                    exact ih y hy
                · cases h
    · rename_i k e hk
      split at h
      · rename_i ed hed
        have hagg : d.agg = true := by unfold TD.agg; rw [hk]
        refine ⟨.inl hagg, fun D hD => ?_⟩
        obtain ⟨D, rfl⟩ : ∃ D', D = D' + 1 := ⟨D - 1, by omega⟩
        have hed' := htt e ed hed
        obtain ⟨i, g1, g2, _⟩ := td_info hed'
        simp only [asVal, hagg]
        rw [run_equalIn_array W D va.toArray vb.toArray (td_arr hd hk) g1]
        have hc : Pg.cellsOf e = ed.size := by unfold Program.cellsOf; rw [g1]; exact g2.symm
        rw [hc, List.range_eq_range']
        have key : ∀ (m j : Nat) (r : Bool), eqAs (eqT tt n e) ed.size m (j * ed.size) a b = some r → (Op.eqItems D e ed.size va.toArray vb.toArray (List.range' j m)).run Pg W = .ok r W := by
          intro m
          have la := ha.length
          have lb := hb.length
          induction m with
          | zero => intro j r h; simp only [eqAs, Option.some.injEq] at h; subst h; rfl
          | succ m ih =>
            intro j r h
            simp only [eqAs] at h
            split at h
            · cases h
            · rename_i hle
              simp only [Bool.and_eq_true] at hle
              have l1 := Nat.le_of_ble_eq_true hle.1
              have l2 := Nat.le_of_ble_eq_true hle.2
              split at h
              · rename_i x y hx hy
                simp only [Option.some.injEq] at h
                subst h
                obtain ⟨q1, q2⟩ := eqT_sound htt n e _ _ x _ _ ed hed hx (DenL.take ed.size (DenL.drop (j * ed.size) ha)) (DenL.take ed.size (DenL.drop (j * ed.size) hb))
                have q3 : ed.agg = true ∨ ed.size = 1 := by
                  rcases q1 with q1 | q1
                  · exact .inl q1
                  · right; simp at q1; omega
                rw [List.range'_succ]
                simp only [Op.eqItems, Sem.run_bind]
                rw [part_asVal hed' (by omega) q3]
                simp only [Result.andThen_ok]
                rw [part_asVal hed' (by omega) q3]
                simp only [Result.andThen_ok]
                rw [q2 D (by omega)]
                simp only [Result.andThen_ok]
                cases x
                · simp
                · simp only [Bool.not_true, Bool.false_eq_true, if_false, Bool.true_and]
                  exact ih (j + 1) y (by rw [Nat.add_mul, Nat.one_mul]; exact hy)
              · cases h
        exact key k 0 r (by rw [Nat.zero_mul]; exact h)
      · cases h
    · cases h

theorem eqAgg_sound (htt : TTOK Pg tt) {t : Nat} {d : TD} (ht : tt.get t = some d) (ho : d.odd = false) (hagg : d.agg = true) {a b : List S1} {v u : Value} (hv : DenV P ε (.agg a) v) (hu : DenV P ε (.agg b) u) {r : Bool}
    (h : eqT tt 6 t a b = some r) (x y : Operand) (op : BinOp) :
    (eqGuard op t x y v u).run Pg W = .ok () W ∧ (binOp .eql t v u).run Pg W = .ok (.bool r) W ∧ (binOp .neq t v u).run Pg W = .ok (.bool (!r)) W := by
  obtain ⟨va, rfl, ha⟩ := hv
  obtain ⟨vb, rfl, hb⟩ := hu
  obtain ⟨g1, _⟩ := td_odd (htt t d ht) ho
  obtain ⟨q1, q2⟩ := eqT_sound (Pg := Pg) (W := W) htt 6 t a b r _ _ d ht h ha hb
  refine ⟨run_eqGuard_agg W op t x y va vb g1, ?_⟩
  have e := q2 10000 (by decide)
  simp only [asVal, hagg, Array.toArray_toList] at e
  exact ⟨by rw [run_eql_struct, e]; rfl, by rw [run_neq_struct, e]; rfl⟩

/-! ### New memory -/
theorem upd_le {ε : HMap} {c : Nat} {h : Value} (hc : ε c = none) : HMap.le ε (fun d => if d = c then some h else ε d) := by
  intro d v hd
  by_cases e : d = c
  · subst e; rw [hc] at hd; cases hd
  · simp [e, hd]
/-- A new block. -/
theorem Inv.newBlock (I : Inv cx P ε φ tab W) {c : Nat} (hc : ε c = none) (htab : tab.get c = none) (cs : Array Value) (T : Nat) (x : Chunk) (h : Value) (hh : Handle h)
    (W' : World) (hheap : W'.heap = W.heap.push (.cells cs T (0, 0))) (hos : W'.os = W.os) (hout : W'.output = W.output) (htp : cx.td = true → W'.tape = W.tape ∧ W.drawn ≤ W'.drawn)
    (hok : ChunkOK P (World.view W') (fun d => if d = c then some h else ε d) h [W.heap.size] x) :
    Inv cx P (fun d => if d = c then some h else ε d) (fun d => if d = c then [W.heap.size] else φ d) (tab.set c x) W' := by
  have hsz : W'.heap.size = W.heap.size + 1 := by rw [hheap]; simp
  have old : ∀ b, b < W.heap.size → W'.heap[b]? = W.heap[b]? := fun b hb => by
    rw [hheap, Array.getElem?_push]; simp [Nat.ne_of_lt hb]
  have Pn : P W.heap.size = none := by
    cases hp : P W.heap.size with
    | none => rfl
    | some o => have := I.psub _ _ hp; simp at this
  refine I.step [] (· = c) (fun b hb => by cases hb) ⟨by omega, fun b hb _ => old b hb, hos, hout, htp⟩ (PHeap.le_refl P) ?_ (fun b hb => .inl hb) (upd_le hc) ?_ ?_ ?_ ?_
  · intro b o hb
    have := I.psub b o hb
    rcases Nat.lt_or_ge b W.heap.size with hl | hl
    · rw [old b hl]; exact this
    · simp [Array.getElem?_eq_none hl] at this
  · intro d y hd hn
    rw [Map.get_set_other _ _ (fun e => hn e.symm)] at hd
    exact ⟨hd, by simp [hn], fun _ _ => by simp⟩
  · intro d y hd hn
    subst hn
    rw [Map.get_set_same] at hd
    cases hd
    exact ⟨h, by simp, by simpa using hok, by simp, fun b hb => by simp at hb; subst hb; exact ⟨.inr (Nat.le_refl _), Pn, by omega⟩⟩
  · intro d e y z hd he hde; rw [hd, he] at hde; exact absurd rfl hde
  · intro d w hw hd
    by_cases e : d = c
    · simp [e] at hw; rw [← hw]; exact hh
    · simp [e, hd] at hw

theorem newVar_sound (I : Inv cx P ε φ tab W) {c : Nat} (hc : ε c = none) (htab : tab.get c = none) (t : Nat) (v : Value) (cs : List S1) (hcs : DenL P ε cs v.cells.toList) :
    ∃ W' ε' φ', (newVar t v).run Pg W = .ok ⟨W.heap.size, 0, none⟩ W' ∧ HMap.le ε ε' ∧ (∀ d, ε' d ≠ none → ε d ≠ none ∨ d = c) ∧
      Inv cx P ε' φ' (tab.set c (.cells cs)) W' ∧ ε' c = some (.pointer (some ⟨W.heap.size, 0, none⟩)) := by
  refine ⟨{ W with heap := W.heap.push (.cells v.cells t) }, _, _, rfl, upd_le (h := .pointer (some ⟨W.heap.size, 0, none⟩)) hc, ?_,
    I.newBlock hc htab v.cells t (.cells cs) _ (.inl ⟨_, rfl⟩) _ rfl rfl rfl (fun _ => ⟨rfl, Nat.le_refl _⟩) ⟨W.heap.size, v.cells, t, rfl, rfl, ?_, DenL.mono (PHeap.le_refl P) (upd_le hc) _ _ hcs⟩, by simp⟩
  · intro d hd
    by_cases e : d = c
    · exact .inr e
    · left; simpa [e] using hd
  · simp [World.view]

theorem newVarA_sound (I : Inv cx P ε φ tab W) {c : Nat} (hc : ε c = none) (htab : tab.get c = none) (t0 : Nat) (v : Value) {vs ws : List S1} {t : CT} {n : Nat} {y : List t.T} {c1 c2 c3 : List Value} (hC : v.cells.toList = c1 ++ (c2 ++ c3))
    (h1 : DenL P ε vs c1) (h2 : ArrRep P t n y c2) (h3 : DenL P ε ws c3) :
    ∃ W' ε' φ', (newVar t0 v).run Pg W = .ok ⟨W.heap.size, 0, none⟩ W' ∧ HMap.le ε ε' ∧ (∀ d, ε' d ≠ none → ε d ≠ none ∨ d = c) ∧
      Inv cx P ε' φ' (tab.set c (.cellsA vs t n y ws)) W' ∧ ε' c = some (.pointer (some ⟨W.heap.size, 0, none⟩)) := by
  refine ⟨{ W with heap := W.heap.push (.cells v.cells t0) }, _, _, rfl, upd_le (h := .pointer (some ⟨W.heap.size, 0, none⟩)) hc, ?_,
    I.newBlock hc htab v.cells t0 (.cellsA vs t n y ws) _ (.inl ⟨_, rfl⟩) _ rfl rfl rfl (fun _ => ⟨rfl, Nat.le_refl _⟩) ⟨W.heap.size, v.cells, t0, c1, c2, c3, rfl, rfl, ?_, hC, DenL.mono (PHeap.le_refl P) (upd_le hc) _ _ h1, h2, DenL.mono (PHeap.le_refl P) (upd_le hc) _ _ h3⟩, by simp⟩
  · intro d hd
    by_cases e : d = c
    · exact .inr e
    · left; simpa [e] using hd
  · simp [World.view]

/-! ### A struct behind a pointer is opened -/
theorem unfoldCells_ids : ∀ (e : OTs) (x : e.T) (n : Nat), ∀ p ∈ (unfoldCells e x n).2, n ≤ p.1 ∧ p.1 < n + e.size
  | .nil, _, n => by simp [unfoldCells]
  | .cons t ts, x, n => by
    have h2 := unfoldCells_ids ts (OTs.tl t ts x) (n + 1)
    have h3 : ∀ p ∈ (unfoldCells ts (OTs.tl t ts x) (n + 1)).2, n ≤ p.1 ∧ p.1 < n + (OTs.cons t ts).size := fun p hp => by
      have := h2 p hp; simp only [OTs.size]; omega
    have h0 : n ≤ n ∧ n < n + (OTs.cons t ts).size := by simp only [OTs.size]; omega
    cases t with
    | c t => exact h3
    | row e => intro p hp; rcases List.mem_cons.1 hp with rfl | hp <;> first | exact h0 | exact h3 p hp
    | ptr e => intro p hp; rcases List.mem_cons.1 hp with rfl | hp <;> first | exact h0 | exact h3 p hp
    | map k v => intro p hp; rcases List.mem_cons.1 hp with rfl | hp <;> first | exact h0 | exact h3 p hp
    | ptrA a b c d => intro p hp; rcases List.mem_cons.1 hp with rfl | hp <;> first | exact h0 | exact h3 p hp
end
end Go.Sx
