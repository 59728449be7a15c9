/- A walk of Go code by plain functions is sound. -/
import Derived.Test.YtegncnhhofbmiaaSxInv
import Derived.Laws.Cells
import Derived.Laws.CopyRow
import Derived.Laws.AppendOwn
import Derived.Laws.Strings
import Derived.Laws.Tables
import Derived.Laws.StructEq
import Derived.Laws.BytesString
namespace Go.Sx

/-! ### What the types' table gives -/
theorem td_facts {Pg : Program} {t : Nat} {d : TD} (h : tdOf Pg t = some d) :
    ∃ i desc, Pg.info? t = some i ∧ Pg.underlying t = some desc ∧ d.kind = TK.ofDesc desc ∧ d.size = i.size ∧ d.bytes = i.bytes ∧ d.zero = i.zero := by
  unfold tdOf at h
  split at h
  · rename_i i desc h1 h2
    simp only [Option.some.injEq] at h
    subst h
    exact ⟨i, desc, h1, h2, rfl, rfl, rfl, rfl⟩
  · cases h
section
variable {Pg : Program} {t : Nat} {d : TD}
theorem td_size (h : tdOf Pg t = some d) (W : World) : (sizeOf t).run Pg W = .ok d.size W := by
  obtain ⟨i, desc, h1, h2, h3, h4, h5, h6⟩ := td_facts h
  simp [sizeOf, typeInfo, h1, h4]
def descAgg : TypeDesc → Bool | .struct _ => true | .array _ _ => true | _ => false
theorem descAgg_eq (d : TD) (desc : TypeDesc) (h : d.kind = TK.ofDesc desc) : d.agg = descAgg desc := by
  unfold TD.agg; rw [h]; cases desc <;> rfl
theorem td_isAgg (h : tdOf Pg t = some d) (W : World) : (isAgg t).run Pg W = .ok d.agg W := by
  obtain ⟨i, desc, h1, h2, h3, h4, h5, h6⟩ := td_facts h
  rw [descAgg_eq d desc h3]
  unfold isAgg
  rw [Sem.run_bind, run_underlying h2]
  cases desc <;> rfl
theorem td_zero (h : tdOf Pg t = some d) {z : Value} (hz : d.zero = some z) (W : World) : (zeroValue t).run Pg W = .ok z W := by
  obtain ⟨i, desc, h1, h2, h3, h4, h5, h6⟩ := td_facts h
  rw [hz] at h6
  simp [zeroValue, typeInfo, h1, ← h6]
theorem td_struct (h : tdOf Pg t = some d) {fs : List (Nat × Nat × Bool)} (hk : d.kind = .struct fs) :
    ∃ fields : Array Field, Pg.underlying t = some (.struct fields) ∧ fs = fields.toList.map fun f => (f.offset, f.type, f.name == "_") := by
  obtain ⟨i, desc, h1, h2, h3, h4, h5, h6⟩ := td_facts h
  rw [hk] at h3
  cases desc <;> simp only [TK.ofDesc] at h3 <;> first | (cases h3; done) | skip
  rename_i fields
  exact ⟨fields, h2, by injection h3⟩
theorem td_slice (h : tdOf Pg t = some d) {e : Nat} (hk : d.kind = .slice e) : Pg.underlying t = some (.slice e) := by
  obtain ⟨i, desc, h1, h2, h3, h4, h5, h6⟩ := td_facts h
  rw [hk] at h3
  cases desc <;> simp only [TK.ofDesc] at h3 <;> first | (cases h3; done) | skip
  injection h3 with h3; subst h3; exact h2
theorem td_ptr (h : tdOf Pg t = some d) {e : Nat} (hk : d.kind = .ptr e) : Pg.underlying t = some (.pointer e) := by
  obtain ⟨i, desc, h1, h2, h3, h4, h5, h6⟩ := td_facts h
  rw [hk] at h3
  cases desc <;> simp only [TK.ofDesc] at h3 <;> first | (cases h3; done) | skip
  injection h3 with h3; subst h3; exact h2
theorem td_arr (h : tdOf Pg t = some d) {n e : Nat} (hk : d.kind = .arr n e) : Pg.underlying t = some (.array n e) := by
  obtain ⟨i, desc, h1, h2, h3, h4, h5, h6⟩ := td_facts h
  rw [hk] at h3
  cases desc <;> simp only [TK.ofDesc] at h3 <;> first | (cases h3; done) | skip
  injection h3 with h3 h3'; subst h3; subst h3'; exact h2
theorem td_str (h : tdOf Pg t = some d) (hk : d.kind = .str) : Pg.underlying t = some .string := by
  obtain ⟨i, desc, h1, h2, h3, h4, h5, h6⟩ := td_facts h
  rw [hk] at h3
  cases desc <;> simp only [TK.ofDesc] at h3 <;> first | (cases h3; done) | exact h2
theorem td_int (h : tdOf Pg t = some d) {k : IntKind} (hk : d.kind = .int k) : Pg.underlying t = some (.int k) := by
  obtain ⟨i, desc, h1, h2, h3, h4, h5, h6⟩ := td_facts h
  rw [hk] at h3
  cases desc <;> simp only [TK.ofDesc] at h3 <;> first | (cases h3; done) | skip
  injection h3 with h3; subst h3; exact h2
theorem td_info (h : tdOf Pg t = some d) : ∃ i, Pg.info? t = some i ∧ d.size = i.size ∧ d.bytes = i.bytes ∧ d.zero = i.zero := by
  obtain ⟨i, desc, h1, h2, h3, h4, h5, h6⟩ := td_facts h
  exact ⟨i, h1, h4, h5, h6⟩
end

/-! ### Plain data: symbolic and meant -/
theorem CT.toS_den {P : PHeap} {ε : HMap} : ∀ (t : CT) (x : t.T) (v : Value), t.Rep P x v ↔ Den P ε (CT.toS t x) v
  | .int k, x, v => by simp [CT.Rep, CT.toS, Den]
  | .bool, x, v => by simp [CT.Rep, CT.toS, Den]
  | .str, x, v => by simp [CT.Rep, CT.toS, Den]
  | .ro e, x, v => by simp [CT.toS, Den]
  | .rop e, x, v => by simp [CT.toS, Den]
  | .rom a b, x, v => by simp [CT.toS, Den]
  | .fn f, x, v => by simp [CT.Rep, CT.toS, Den]
theorem isFn_eq {f : Nat} {v : Value} (h : isFn f v = true) : v = .func (.func f) #[] #[] := by
  unfold isFn at h
  split at h
  · rename_i g a b
    simp only [Bool.and_eq_true] at h
    rw [nbeq_true h.1, Array.eq_empty_of_size_eq_zero (nbeq_true h.2.1), Array.eq_empty_of_size_eq_zero (nbeq_true h.2.2)]
  · cases h
theorem castCT_rep {P : PHeap} {a b : CT} (h : a = b) {x : a.T} {v : Value} (hr : a.Rep P x v) : b.Rep P (castCT h x) v := by subst h; exact hr
theorem pro_rop {P : PHeap} {ε : HMap} {e : CTs} {x : e.T} {v : Value} (h : Den P ε (.pro e x) v) : (CT.rop e).Rep P (some x) v := by
  obtain ⟨ad, h1, h2, h3⟩ := h
  simp only [CT.Rep]
  exact .inr ⟨x, ad, rfl, h1, h2, h3⟩
theorem CTs.toS_length : ∀ (e : CTs) (x : e.T), (CTs.toS e x).length = e.size
  | .nil, _ => rfl
  | .cons t ts, x => by simp [CTs.toS, CTs.size, CTs.toS_length ts]
/-- The cells of an element, out of a place that holds it. -/
theorem CTs.toS_den {P : PHeap} {ε : HMap} : ∀ (e : CTs) (x : e.T) (f : Nat → Option Value), e.Rep P x f →
    ∃ vs : List Value, vs.length = e.size ∧ (∀ j, j < e.size → f j = vs[j]?) ∧ DenL P ε (CTs.toS e x) vs
  | .nil, _, f, _ => ⟨[], rfl, fun j hj => by simp [CTs.size] at hj, rfl⟩
  | .cons t ts, x, f, h => by
    simp only [CTs.Rep] at h
    obtain ⟨⟨v, hv, hr⟩, h2⟩ := h
    obtain ⟨vs, h3, h4, h5⟩ := CTs.toS_den (ε := ε) ts _ _ h2
    refine ⟨v :: vs, by simp [CTs.size, h3], ?_, ?_⟩
    · intro j hj
      cases j with
      | zero => simpa using hv
      | succ j => simpa using h4 j (by simp [CTs.size] at hj; omega)
    · exact ⟨v, vs, rfl, (CT.toS_den t _ _).1 hr, h5⟩
theorem CT.ofS_rep {P : PHeap} {ε : HMap} (t : CT) (s : S1) (x : t.T) (v : Value) (h : CT.ofS t s = some x) (hd : Den P ε s v) : t.Rep P x v := by
  unfold CT.ofS at h
  split at h
  · rename_i k k' y
    cases hk : kindEq k' k with
    | none => rw [hk] at h; cases h
    | some p => obtain ⟨p⟩ := p; rw [hk] at h; subst p; simp only [Option.some.injEq] at h; subst h; simpa [CT.Rep, Den] using hd
  · simp only [Option.some.injEq] at h; subst h; simpa [CT.Rep, Den] using hd
  · simp only [Option.some.injEq] at h; subst h; simpa [CT.Rep, Den] using hd
  · rename_i e e' xs
    cases hk : CTs.eq? e' e with
    | none => rw [hk] at h; cases h
    | some p => obtain ⟨p⟩ := p; rw [hk] at h; subst p; simp only [Option.some.injEq] at h; subst h; simpa [Den] using hd
  · simp only [Option.some.injEq] at h; subst h
    obtain ⟨a, h1, h2⟩ := hd
    simp only [CT.Rep]
    exact ⟨a, 0, h1, by simp, by simp, fun _ => rfl, fun ad had => ⟨h2 ad had, fun i hi => by simp at hi⟩⟩
  · rename_i e e' m
    cases hk : CTs.eq? e' e with
    | none => simp only [hk] at h; exact absurd h (by simp)
    | some p => obtain ⟨p⟩ := p; subst p; simp only [hk, Option.some.injEq] at h; subst h; simpa [Den] using hd
  · rename_i e e' m
    cases hk : CTs.eq? e' e with
    | none => simp only [hk] at h; exact absurd h (by simp)
    | some p => obtain ⟨p⟩ := p; subst p; simp only [hk, Option.some.injEq] at h; subst h; exact pro_rop hd
  · simp only [Option.some.injEq] at h; subst h
    simp only [CT.Rep]
    exact .inl ⟨by trivial, hd⟩
  · split at h
    · rename_i p _
      simp only [Option.some.injEq] at h; subst h; exact castCT_rep p hd
    · cases h
  · split at h
    · simp only [Option.some.injEq] at h; subst h
      simp only [CT.Rep]
      exact .inl ⟨by trivial, hd⟩
    · cases h
  · split at h
    · rename_i hf
      rw [hd]; simp only [CT.Rep]; exact isFn_eq hf
    · cases h
  · cases h
theorem CTs.ofS_rep {P : PHeap} {ε : HMap} : ∀ (e : CTs) (ss : List S1) (x : e.T) (vs : List Value), CTs.ofS e ss = some x → DenL P ε ss vs →
    e.Rep P x (fun j => vs[j]?) ∧ vs.length = e.size
  | .nil, [], x, vs, _, h => by simp only [DenL] at h; simp [CTs.Rep, h, CTs.size]
  | .nil, _ :: _, x, vs, h, _ => by simp [CTs.ofS] at h
  | .cons t ts, [], x, vs, h, _ => by simp [CTs.ofS] at h
  | .cons t ts, s :: ss, x, vs, h, hd => by
    obtain ⟨v, vs', rfl, h2, h3⟩ := hd
    simp only [CTs.ofS] at h
    split at h
    · rename_i y z hy hz
      simp only [Option.some.injEq] at h
      subst h
      obtain ⟨h4, h5⟩ := CTs.ofS_rep ts ss z vs' hz h3
      refine ⟨?_, by simp [CTs.size, h5]⟩
      simp only [CTs.Rep, CTs.hd_mk, CTs.tl_mk]
      exact ⟨⟨v, rfl, CT.ofS_rep t s y v hy h2⟩, by simpa using h4⟩
    · cases h
theorem dropE_den {P : PHeap} {ε : HMap} : ∀ (e : CTs) (x : e.T) (n : Nat) (ad : Addr), ad.spot = none → e.Rep P x (fun j => P.cell ad.block (ad.off + j)) →
    Den P ε (dropE e x n) (.pointer (some (ad.add n)))
  | e, x, 0, ad, hs, h => by
    have : dropE e x 0 = .pro e x := by cases e <;> rfl
    rw [this]; exact ⟨ad, by simp [Addr.add], hs, h⟩
  | .nil, _, _ + 1, _, _, _ => trivial
  | .cons t ts, x, n + 1, ad, hs, h => by
    simp only [CTs.Rep] at h
    have ih := dropE_den (ε := ε) ts (CTs.tl t ts x) n { ad with off := ad.off + 1 } hs (by simpa [Nat.add_assoc, Nat.add_comm, Nat.add_left_comm] using h.2)
    have e1 : dropE (.cons t ts) x (n + 1) = dropE ts (CTs.tl t ts x) n := rfl
    rw [e1]
    have e2 : ({ ad with off := ad.off + 1 } : Addr).add n = ad.add (n + 1) := by
      unfold Addr.add
      cases n with
      | zero => simp [hs]
      | succ n => simp; omega
    rw [← e2]; exact ih

/-! ### Memory -/
theorem cell_of_view {W : World} {b : Nat} {cs : Array Value} {T : Nat} {fz : Nat × Nat} (h : World.view W b = some (.cells cs T fz)) (o : Nat) :
    W.cell? ⟨b, o, none⟩ = cs[o]? := by
  unfold World.view at h; simp [World.cell?, h]
theorem cell_of_P {cx : Cx} {P : PHeap} {ε : HMap} {φ : Nat → List Nat} {tab : Tab} {W : World} (I : Inv cx P ε φ tab W) {b o : Nat} {v : Value}
    (h : P.cell b o = some v) : W.cell? ⟨b, o, none⟩ = some v := by
  unfold PHeap.cell at h
  split at h
  · rename_i c t f hb
    have := I.psub _ _ hb
    simp [World.cell?, this, h]
  · cases h
theorem add_none (b o n : Nat) : (⟨b, o, none⟩ : Addr).add n = ⟨b, o + n, none⟩ := by unfold Addr.add; split <;> simp_all
theorem add_spot {a : Addr} (h : a.spot = none) (n : Nat) : a.add n = ⟨a.block, a.off + n, none⟩ := by
  obtain ⟨b, o, s⟩ := a; simp at h; subst h; exact add_none b o n

/-- A variable is read: its cells are known. -/
theorem loadVar_run {Pg : Program} {t : Nat} {d : TD} (hd : tdOf Pg t = some d) {P : PHeap} {ε : HMap} {W : World} {a : Addr} {ss : List S1} {vs : List Value}
    (hss : DenL P ε ss vs) {off : Nat} (hc : ∀ j v, vs[off + j]? = some v → W.cell? (a.add j) = some v) {sv : SV} (hp : partS d ss off = some sv) :
    ∃ r, (loadVar t a).run Pg W = .ok r W ∧ DenV P ε sv r := by
  unfold partS at hp
  unfold loadVar
  rw [Sem.run_bind, td_isAgg hd]
  cases ha : d.agg with
  | true =>
    rw [ha] at hp
    simp only at hp
    split at hp
    · rename_i hle
      have hle := Nat.le_of_ble_eq_true hle
      simp only [Option.some.injEq] at hp
      subst hp
      have hl := hss.length
      have hlen : ((vs.drop off).take d.size).length = d.size := by simp; omega
      have h1 := run_loadCells_list (P := Pg) W a ((vs.drop off).take d.size) (fun j v hj => hc j v (by
        rw [List.getElem?_take] at hj
        split at hj
        · simpa using hj
        · cases hj))
      rw [hlen] at h1
      refine ⟨.agg ((vs.drop off).take d.size).toArray, ?_, _, rfl, by simpa using DenL.take d.size (DenL.drop off hss)⟩
      simp [td_size hd, h1]
    · cases hp
  | false =>
    rw [ha] at hp
    simp only at hp
    split at hp
    · rename_i s hs
      simp only [Option.some.injEq] at hp
      subst hp
      rw [nth_eq] at hs
      obtain ⟨v, hv, hdv⟩ := hss.nth hs
      have := hc 0 v (by simpa using hv)
      refine ⟨v, ?_, hdv⟩
      have h0 : a.add 0 = a := by simp [Addr.add]
      rw [h0] at this
      simp [load, Sem.run, this]
    · cases hp

theorem DenL.of_nth {P : PHeap} {ε : HMap} : ∀ (ss : List S1) (vs : List Value), ss.length = vs.length → (∀ (i : Nat) (s : S1) (v : Value), ss[i]? = some s → vs[i]? = some v → Den P ε s v) → DenL P ε ss vs
  | [], [], _, _ => rfl
  | [], _ :: _, h, _ => by simp at h
  | _ :: _, [], h, _ => by simp at h
  | s :: ss, v :: vs, h, hd => ⟨v, vs, rfl, hd 0 s v rfl rfl, DenL.of_nth ss vs (by simpa using h) fun i s v h1 h2 => hd (i + 1) s v (by simpa using h1) (by simpa using h2)⟩
theorem parted {c1 c2 c3 : List Value} {cs : Array Value} (h : cs.toList = c1 ++ (c2 ++ c3)) :
    (∀ k, k < c1.length → cs[k]? = c1[k]?) ∧ (∀ k, k < c2.length → cs[c1.length + k]? = c2[k]?) ∧ (∀ k, cs[c1.length + c2.length + k]? = c3[k]?) := by
  have e : ∀ k, cs[k]? = (c1 ++ (c2 ++ c3))[k]? := fun k => by rw [← h, Array.getElem?_toList]
  refine ⟨fun k hk => ?_, fun k hk => ?_, fun k => ?_⟩
  · rw [e, List.getElem?_append_left hk]
  · rw [e, List.getElem?_append_right (by omega), List.getElem?_append_left (by omega)]; congr 1; omega
  · rw [e, List.getElem?_append_right (by omega), List.getElem?_append_right (by omega)]; congr 1; omega
theorem loadVar_agg {Pg : Program} {t : Nat} {d : TD} (hd : tdOf Pg t = some d) {W : World} {a : Addr} (ha : d.agg = true) {C : List Value} {off : Nat} (hle : off + d.size ≤ C.length)
    (hc : ∀ j v, C[off + j]? = some v → W.cell? (a.add j) = some v) : (loadVar t a).run Pg W = .ok (.agg ((C.drop off).take d.size).toArray) W := by
  unfold loadVar
  rw [Sem.run_bind, td_isAgg hd, ha]
  have hlen : ((C.drop off).take d.size).length = d.size := by simp; omega
  have h1 := run_loadCells_list (P := Pg) W a ((C.drop off).take d.size) (fun j v hj => hc j v (by
    rw [List.getElem?_take] at hj
    split at hj
    · simpa using hj
    · cases hj))
  rw [hlen] at h1
  simp [td_size hd, h1]
theorem cat_mid {α : Type} (c1 c2 c3 : List α) : ((c1 ++ (c2 ++ c3)).drop c1.length).take c2.length = c2 := by simp
/-- What comes out of cells with an array amid, as a reader has it that gives a cell, or cells. -/
theorem partA_gen {d : TD} {P : PHeap} {ε : HMap} {C c1 c2 c3 : List Value} (hC : C = c1 ++ (c2 ++ c3)) {vs ws : List S1} {t : CT} {n : Nat} {y : List t.T}
    (h1 : DenL P ε vs c1) (h2 : ArrRep P t n y c2) (h3 : DenL P ε ws c3) {off : Nat} {sv : SV} (hp : partA d vs t n y ws off = some sv) {R : Value → Prop}
    (hl : ∀ (ss : List S1) (c : List Value) (o : Nat), DenL P ε ss c → (∀ j v, c[o + j]? = some v → C[off + j]? = some v) → partS d ss o = some sv → ∃ r, R r ∧ DenV P ε sv r)
    (ha : d.agg = true → off + d.size ≤ C.length → R (.agg ((C.drop off).take d.size).toArray)) : ∃ r, R r ∧ DenV P ε sv r := by
  have l1 := h1.length
  have l2 := h2.1
  have l3 := h3.length
  unfold partA at hp
  split at hp
  · refine hl vs c1 off h1 (fun j v hj => ?_) hp
    rw [hC, List.getElem?_append_left]
    · exact hj
    · rcases Nat.lt_or_ge (off + j) c1.length with h | h
      · exact h
      · rw [List.getElem?_eq_none h] at hj; cases hj
  · split at hp
    · rename_i hle
      have hle := Nat.le_of_ble_eq_true hle
      refine hl ws c3 _ h3 (fun j v hj => ?_) hp
      rw [hC, List.getElem?_append_right (by omega), List.getElem?_append_right (by omega), ← hj]
      congr 1; omega
    · split at hp
      · rename_i hb
        simp only [Bool.and_eq_true] at hb
        obtain ⟨⟨ho, hs⟩, hg⟩ := hb
        have ho := nbeq_true ho
        have hs := nbeq_true hs
        simp only [Option.some.injEq] at hp
        subst hp
        refine ⟨_, ha hg (by rw [hC]; simp; omega), _, [], c2, [], rfl, ?_, rfl, h2, rfl⟩
        have e1 : off = c1.length := by omega
        have e2 : d.size = c2.length := by omega
        simp only [hC, e1, e2, cat_mid, List.nil_append, List.append_nil]
      · split at hp
        · rename_i hb
          simp only [Bool.and_eq_true] at hb
          obtain ⟨⟨ho, hs⟩, hg⟩ := hb
          have ho := nbeq_true ho
          have hs := nbeq_true hs
          simp only [Option.some.injEq] at hp
          subst hp
          have hlen : C.length = d.size := by rw [hC]; simp; omega
          refine ⟨_, ha hg (by omega), _, c1, c2, c3, rfl, ?_, h1, h2, h3⟩
          rw [ho, List.drop_zero, List.take_of_length_le (by omega), ← hC]
        · cases hp
theorem partA_sound {Pg : Program} {t0 : Nat} {d : TD} (hd : tdOf Pg t0 = some d) {P : PHeap} {ε : HMap} {W : World} {tab : Tab} {b T off : Nat} {cs : Array Value} (hW : World.view W b = some (.cells cs T (0, 0))) {vs ws : List S1} {t : CT} {n : Nat} {y : List t.T} {c1 c2 c3 : List Value}
    (h : cs.toList = c1 ++ (c2 ++ c3)) (h1 : DenL P ε vs c1) (h2 : ArrRep P t n y c2) (h3 : DenL P ε ws c3) {sv : SV} {tab' : Tab} (hp : (partAP d vs t n y ws off).run tab = some (sv, tab')) :
    tab' = tab ∧ ∃ r, (loadVar t0 ⟨b, off, none⟩).run Pg W = .ok r W ∧ DenV P ε sv r := by
  have hp' : partA d vs t n y ws off = some sv ∧ tab' = tab := by
    unfold partAP at hp
    cases hq : partA d vs t n y ws off with
    | none => rw [hq] at hp; simp [ret, Prog.run] at hp
    | some y => rw [hq] at hp; simp only [ret, Prog.run, Option.some.injEq, Prod.mk.injEq] at hp; exact ⟨by rw [hp.1], hp.2.symm⟩
  obtain ⟨hp1, rfl⟩ := hp'
  have hcell : ∀ j v, (cs.toList)[off + j]? = some v → W.cell? (Addr.add ⟨b, off, none⟩ j) = some v := fun j v hj => by
    rw [add_none, cell_of_view hW]; simpa using hj
  exact ⟨rfl, partA_gen h h1 h2 h3 hp1 (R := fun r => (loadVar t0 ⟨b, off, none⟩).run Pg W = .ok r W)
    (fun ss c o hs hc hp => loadVar_run hd hs (fun j v hj => hcell j v (hc j v hj)) hp) (fun ha hle => loadVar_agg hd ha hle hcell)⟩
/-- What is read behind a pointer. -/
theorem load_sound {Pg : Program} {tt : TT} (htt : TTOK Pg tt) {cx : Cx} {P : PHeap} {ε : HMap} {φ : Nat → List Nat} {tab : Tab} {W : World}
    (I : Inv cx P ε φ tab W) (t : Nat) (x : S1) (v : Value) (hx : Den P ε x v) (sv : SV) (tab' : Tab) (hrun : (loadP tt t x).run tab = some (sv, tab')) :
    tab' = tab ∧ ∃ r, (Instr.loadAt t v).run Pg W = .ok r W ∧ DenV P ε sv r := by
  have sure : ∀ a : Addr, (Instr.loadAt t (.pointer (some a))).run Pg W = (loadVar t a).run Pg W := fun a => by simp [Instr.loadAt, Instr.sureAddr]
  unfold loadP at hrun
  cases ht : tt.get t with
  | none => rw [ht] at hrun; simp [Prog.run] at hrun
  | some d =>
    have hd := htt t d ht
    rw [ht] at hrun
    simp only at hrun
    have fin : ∀ (ss : List S1) (off : Nat), (ret (partS d ss off)).run tab = some (sv, tab') → tab' = tab ∧ partS d ss off = some sv := by
      intro ss off h
      cases hp : partS d ss off with
      | none => rw [hp] at h; simp [ret, Prog.run] at h
      | some y => rw [hp] at h; simp only [ret, Prog.run, Option.some.injEq, Prod.mk.injEq] at h; exact ⟨h.2.symm, by rw [h.1]⟩
    have cells : ∀ (c off : Nat) (b : Nat), ε c = some (.pointer (some ⟨b, 0, none⟩)) → v = .pointer (some ⟨b, off, none⟩) →
        (Prog.get c fun | .cells vs => ret (partS d vs off) | .cellsA vs t n y ws => partAP d vs t n y ws off | _ => .fail).run tab = some (sv, tab') →
        tab' = tab ∧ ∃ r, (Instr.loadAt t v).run Pg W = .ok r W ∧ DenV P ε sv r := by
      intro c off b hε hv h
      simp only [Prog.run] at h
      cases hc : tab.get c with
      | none => rw [hc] at h; cases h
      | some x =>
        rw [hc] at h
        cases x <;> first | (simp only [Prog.run] at h; cases h; done) | skip
        case cellsA vs t' n y ws =>
          obtain ⟨hh, e1, b', cs, T, c1, c2, c3, e2, e3, e4, e5, e6, e7, e8⟩ := I.chunk c _ hc
          rw [hε] at e1
          cases e1
          cases e2
          obtain ⟨h1, h2⟩ := partA_sound hd e4 e5 e6 e7 e8 h
          exact ⟨h1, by rw [hv, sure]; exact h2⟩
        rename_i vs
        obtain ⟨h1, h2⟩ := fin vs off h
        obtain ⟨hh, e1, b', cs, T, e2, e3, e4, e5⟩ := I.chunk c _ hc
        rw [hε] at e1
        cases e1
        cases e2
        refine ⟨h1, ?_⟩
        rw [hv, sure]
        refine loadVar_run hd e5 (fun j w hj => ?_) h2
        rw [add_none, cell_of_view e4]
        simpa using hj
    cases x <;> first | (simp only [Prog.run] at hrun; cases hrun; done) | skip
    case own c =>
      have hrun' := hrun
      simp only [Prog.run] at hrun
      have hε : ε c = some v := hx
      have : ∃ b, v = .pointer (some ⟨b, 0, none⟩) := by
        cases hc : tab.get c with
        | none => rw [hc] at hrun; cases hrun
        | some y =>
          rw [hc] at hrun
          cases y <;> first | (simp only [Prog.run] at hrun; cases hrun; done) | skip
          · obtain ⟨hh, e1, b', cs, T, e2, e3, e4, e5⟩ := I.chunk c _ hc
            rw [hε] at e1; cases e1; exact ⟨b', e2⟩
          · obtain ⟨hh, e1, b', cs, T, c1, c2, c3, e2, _⟩ := I.chunk c _ hc
            rw [hε] at e1; cases e1; exact ⟨b', e2⟩
      obtain ⟨b, hb⟩ := this
      exact cells c 0 b (by rw [hε, hb]) hb hrun'
    case parr c off i =>
      obtain ⟨b, h1, h2⟩ := hx
      simp only [Prog.run] at hrun
      cases hc : tab.get c with
      | none => rw [hc] at hrun; cases hrun
      | some x =>
        rw [hc] at hrun
        cases x <;> simp only [Prog.run] at hrun <;> first | (cases hrun; done) | skip
        rename_i vs t' n y ws
        cases hb : Nat.beq off vs.length with
        | false => rw [hb] at hrun; simp [Prog.run] at hrun
        | true =>
        cases ha : d.agg with
        | true => rw [hb, ha] at hrun; simp [Prog.run] at hrun
        | false =>
          rw [hb, ha] at hrun
          simp only at hrun
          cases hi : y[i]? with
          | none => rw [hi] at hrun; simp [Prog.run] at hrun
          | some z =>
            rw [hi] at hrun
            have hrun : (Prog.pure (SV.one (CT.toS t' z))).run tab = some (sv, tab') := hrun
            simp only [Prog.run, Option.some.injEq, Prod.mk.injEq] at hrun
            obtain ⟨r1, r2⟩ := hrun
            obtain ⟨hh, e1, b', cs, T, c1, c2, c3, e2, e3, e4, e5, e6, e7, e8⟩ := I.chunk c _ hc
            rw [h1] at e1; cases e1; cases e2
            have hil : i < y.length := by
              rcases Nat.lt_or_ge i y.length with h | h
              · exact h
              · simp [List.getElem?_eq_none h] at hi
            have hz : y[i] = z := by simpa [List.getElem?_eq_getElem hil] using hi
            have hi2 : i < c2.length := by have := e7.1; have := e7.2.1; omega
            have hrep := e7.2.2 i hil c2[i] (by simp [hi2])
            rw [hz] at hrep
            refine ⟨r2.symm, ?_⟩
            rw [h2, sure, ← r1]
            refine loadVar_run hd (ss := [CT.toS t' z]) (vs := [c2[i]]) ⟨_, [], rfl, (CT.toS_den t' z _).1 hrep, rfl⟩ (off := 0) (fun j w hj => ?_) ?_
            · cases j with
              | zero =>
                rw [add_none, cell_of_view e4, nbeq_true hb, ← e6.length, Nat.add_zero, (parted e5).2.1 i hi2]
                simpa [hi2] using hj
              | succ j => simp at hj
            · unfold partS; rw [ha]; rfl
    case pcell c off =>
      obtain ⟨b, h1, h2⟩ := hx
      exact cells c off b h1 h2 hrun
    case pelem c z i off =>
      obtain ⟨b, o, n, cap, h1, h2⟩ := hx
      simp only [Prog.run] at hrun
      cases hc : tab.get c with
      | none => rw [hc] at hrun; cases hrun
      | some y =>
        rw [hc] at hrun
        cases y <;> simp only [Prog.run] at hrun <;> first | (cases hrun; done) | skip
        rename_i e xs
        cases hz : Nat.beq e.size z <;> rw [hz] at hrun <;> simp only [Prog.run] at hrun
        · cases hrun
        have hz := nbeq_true hz
        cases hi : xs[i]? with
        | none => rw [hi] at hrun; cases hrun
        | some w =>
          rw [hi] at hrun
          obtain ⟨f1, f2⟩ := fin _ _ hrun
          refine ⟨f1, ?_⟩
          obtain ⟨hh, e1, e2⟩ := I.chunk c _ hc
          rw [h1] at e1; cases e1
          rcases e2 with ⟨g1, ⟨a, g2, _⟩, g3⟩ | ⟨b', o', cap', cs, T, fz, g1, g2, g3, g4, g5, g6, g7, g8⟩
          · rw [g1] at hi; simp at hi
          · cases g1
            have hil : i < xs.length := by
              rcases Nat.lt_or_ge i xs.length with h | h
              · exact h
              · simp [List.getElem?_eq_none h] at hi
            have hw : xs[i] = w := by simpa [List.getElem?_eq_getElem hil] using hi
            obtain ⟨vs, k1, k2, k3⟩ := CTs.toS_den (ε := ε) e _ _ (g8 i hil)
            rw [hw] at k3
            rw [h2, sure]
            refine loadVar_run hd k3 (fun j w' hj => ?_) f2
            have hjl : off + j < e.size := by
              rcases Nat.lt_or_ge (off + j) vs.length with h | h
              · omega
              · simp [List.getElem?_eq_none h] at hj
            rw [add_none, cell_of_view g3, ← hz]
            have := k2 (off + j) hjl
            rw [hj] at this
            simpa [Nat.add_assoc] using this
    case pro e y =>
      obtain ⟨ad, h1, h2, h3⟩ := hx
      obtain ⟨f1, f2⟩ := fin _ _ hrun
      obtain ⟨vs, k1, k2, k3⟩ := CTs.toS_den (ε := ε) e _ _ h3
      refine ⟨f1, ?_⟩
      rw [h1, sure]
      refine loadVar_run hd k3 (fun j w' hj => ?_) f2
      have hjl : j < e.size := by
        rcases Nat.lt_or_ge j vs.length with h | h
        · omega
        · simp [List.getElem?_eq_none h] at hj
      rw [add_spot h2]
      exact cell_of_P I (by rw [k2 j hjl]; simpa using hj)
    case rp1 off c =>
      cases off with
      | succ n => simp only [Prog.run] at hrun; cases hrun
      | zero =>
      obtain ⟨b, o, w, h1, h2, h3⟩ := hx
      obtain ⟨f1, f2⟩ := fin _ _ hrun
      refine ⟨f1, ?_⟩
      rw [h1, sure]
      refine loadVar_run hd (ss := [.own c]) (vs := [w]) ⟨w, [], rfl, h3, rfl⟩ (off := 0) (fun j w' hj => ?_) f2
      cases j with
      | zero =>
        have hj : some w = some w' := hj
        cases hj
        rw [add_none]
        exact cell_of_P I h2
      | succ j => simp at hj
    case rop e m =>
      cases m with
      | none => simp only [Prog.run] at hrun; cases hrun
      | some y =>
      simp only [Prog.run] at hrun
      obtain ⟨ad, h1, h2, h3⟩ : ∃ ad, v = .pointer (some ad) ∧ ad.spot = none ∧ e.Rep P y (fun j => P.cell ad.block (ad.off + j)) := by
        rcases hx with ⟨q1, _⟩ | ⟨y', ad, q1, q2, q3, q4⟩
        · cases q1
        · cases q1; exact ⟨ad, q2, q3, q4⟩
      obtain ⟨f1, f2⟩ := fin _ _ hrun
      obtain ⟨vs, k1, k2, k3⟩ := CTs.toS_den (ε := ε) e _ _ h3
      refine ⟨f1, ?_⟩
      rw [h1, sure]
      refine loadVar_run hd k3 (fun j w' hj => ?_) f2
      have hjl : j < e.size := by
        rcases Nat.lt_or_ge j vs.length with h | h
        · omega
        · simp [List.getElem?_eq_none h] at hj
      rw [add_spot h2]
      exact cell_of_P I (by rw [k2 j hjl]; simpa using hj)

end Go.Sx
