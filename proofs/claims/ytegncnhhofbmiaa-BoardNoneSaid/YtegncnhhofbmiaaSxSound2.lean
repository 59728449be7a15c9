/- A walk of Go code by plain functions is sound. -/
import Derived.Test.YtegncnhhofbmiaaSxSound1
namespace Go.Sx

theorem CTs.Rep.mono' {P : PHeap} : ∀ (e : CTs) (x : e.T) (f g : Nat → Option Value), (∀ j v, j < e.size → f j = some v → g j = some v) → e.Rep P x f → e.Rep P x g
  | .nil, _, _, _, _, _ => by simp [CTs.Rep]
  | .cons t ts, x, f, g, hfg, h => by
    simp only [CTs.Rep] at h ⊢
    obtain ⟨⟨v, hv, hr⟩, h2⟩ := h
    exact ⟨⟨v, hfg _ _ (by simp [CTs.size]) hv, hr⟩, CTs.Rep.mono' ts _ _ _ (fun j v hj hv => hfg (j + 1) v (by simp [CTs.size]; omega) hv) h2⟩

def setArr (W : World) (b : Nat) (cs : Array Value) (T : Nat) (fz : Nat × Nat) : World := { W with heap := W.heap.setIfInBounds b (.cells cs T fz) }
def putArr (cs : Array Value) (k : Nat) (vs : List Value) : Array Value := (cs.toList.take k ++ vs ++ cs.toList.drop (k + vs.length)).toArray
theorem putArr_size (cs : Array Value) (k : Nat) (vs : List Value) (h : k + vs.length ≤ cs.size) : (putArr cs k vs).size = cs.size := by
  simp [putArr]; omega
theorem seg_get {α : Type} (l vs : List α) (k m : Nat) (h : k + vs.length ≤ l.length) :
    (l.take k ++ vs ++ l.drop (k + vs.length))[m]? = if k ≤ m ∧ m < k + vs.length then vs[m - k]? else l[m]? := by
  have hk : min k l.length = k := by omega
  by_cases c1 : m < k
  · rw [if_neg (by omega), List.append_assoc, List.getElem?_append_left (by simp; omega)]
    simp [c1]
  · by_cases c2 : m < k + vs.length
    · rw [if_pos ⟨by omega, c2⟩, List.append_assoc, List.getElem?_append_right (by simp; omega), List.getElem?_append_left (by simp [hk]; omega)]
      simp [hk]
    · rw [if_neg (by omega), List.append_assoc, List.getElem?_append_right (by simp; omega), List.getElem?_append_right (by simp [hk]; omega)]
      simp only [List.getElem?_drop, List.length_take, hk]
      congr 1
      omega
theorem putArr_get (cs : Array Value) (k : Nat) (vs : List Value) (h : k + vs.length ≤ cs.size) (m : Nat) :
    (putArr cs k vs)[m]? = if k ≤ m ∧ m < k + vs.length then vs[m - k]? else cs[m]? := by
  unfold putArr
  rw [List.getElem?_toArray, seg_get _ _ _ _ (by simpa using h)]
  simp
theorem setArr_heap {W : World} {b : Nat} {cs : Array Value} {T : Nat} {fz : Nat × Nat} {o : Obj} (h : W.heap[b]? = some o) :
    (setArr W b cs T fz).heap[b]? = some (.cells cs T fz) := by
  have hb : b < W.heap.size := by
    rcases Nat.lt_or_ge b W.heap.size with h' | h'
    · exact h'
    · simp [Array.getElem?_eq_none h'] at h
  simp [setArr, hb]
theorem setArr_other {W : World} {b c : Nat} {cs : Array Value} {T : Nat} {fz : Nat × Nat} (h : b ≠ c) : (setArr W b cs T fz).heap[c]? = W.heap[c]? := by
  simp [setArr, Array.getElem?_setIfInBounds_ne h]
theorem setArr_size {W : World} {b : Nat} {cs : Array Value} {T : Nat} {fz : Nat × Nat} : (setArr W b cs T fz).heap.size = W.heap.size := by simp [setArr]
theorem setArr_setArr {W : World} {b : Nat} {cs cs' : Array Value} {T T' : Nat} {fz fz' : Nat × Nat} : setArr (setArr W b cs T fz) b cs' T' fz' = setArr W b cs' T' fz' := by
  simp [setArr]
theorem setArr_self {W : World} {b : Nat} {cs : Array Value} {T : Nat} {fz : Nat × Nat} (h : W.heap[b]? = some (.cells cs T fz)) : setArr W b cs T fz = W := by
  unfold setArr
  have : W.heap.setIfInBounds b (.cells cs T fz) = W.heap := by
    apply Array.ext_getElem?
    intro i
    by_cases hi : b = i
    · subst hi
      rw [h]
      have hb : b < W.heap.size := by
        rcases Nat.lt_or_ge b W.heap.size with h' | h'
        · exact h'
        · simp [Array.getElem?_eq_none h'] at h
      simp [hb]
    · rw [Array.getElem?_setIfInBounds_ne hi]
  rw [this]
theorem setCell_setArr {W : World} {b o : Nat} {cs : Array Value} {T : Nat} {fz : Nat × Nat} (v : Value) (h : W.heap[b]? = some (.cells cs T fz)) :
    W.setCell ⟨b, o, none⟩ v = setArr W b (cs.setIfInBounds o v) T fz := by
  unfold World.setCell setArr
  congr 1
  apply Array.ext_getElem?
  intro i
  by_cases hi : b = i
  · subst hi
    have hb : b < W.heap.size := by
      rcases Nat.lt_or_ge b W.heap.size with h' | h'
      · exact h'
      · simp [Array.getElem?_eq_none h'] at h
    rw [Array.getElem?_modify, if_pos rfl, h]; simp [hb]
  · rw [Array.getElem?_setIfInBounds_ne hi, Array.getElem?_modify]; simp [hi]
def oneCell (v : Value) : Prop := (∀ c, v ≠ .agg c) ∧ (∀ c, v ≠ .tuple c)
theorem oneCell_cells {v : Value} (h : oneCell v) : v.cells = #[v] := by
  cases v <;> simp [Value.cells]
  exact absurd rfl (h.1 _)
theorem run_store_one {Pg : Program} {W : World} {b o : Nat} {cs : Array Value} {T : Nat} {fz : Nat × Nat} {v : Value} (h : W.heap[b]? = some (.cells cs T fz))
    (hf : thawed fz cs.size) (ho : o < cs.size) (hv : oneCell v) : (store ⟨b, o, none⟩ v).run Pg W = .ok () (setArr W b (cs.setIfInBounds o v) T fz) := by
  have hc : W.cell? ⟨b, o, none⟩ = some cs[o] := by simp [World.cell?, h, ho]
  have hz : W.frozen? ⟨b, o, none⟩ = false := by
    simp only [World.frozen?, h]
    rcases hf with hf | hf <;> simp <;> omega
  rw [← setCell_setArr v h]
  unfold store
  cases v <;> simp [Sem.run, hc, hz]
  · exact absurd rfl (hv.1 _)
  · exact absurd rfl (hv.2 _)
theorem storeCells_run {Pg : Program} (b o T : Nat) (fz : Nat × Nat) : ∀ (vs : List Value) (i : Nat) (cs : Array Value) (W : World), W.heap[b]? = some (.cells cs T fz) →
    thawed fz cs.size → o + i + vs.length ≤ cs.size → (∀ v ∈ vs, oneCell v) → (storeCells ⟨b, o, none⟩ vs i).run Pg W = .ok () (setArr W b (putArr cs (o + i) vs) T fz)
  | [], i, cs, W, h, _, _, _ => by
    have : putArr cs (o + i) [] = cs := by simp [putArr]
    rw [this, setArr_self h]; rfl
  | v :: rest, i, cs, W, h, hf, hl, h1 => by
    have hi : o + i < cs.size := by simp at hl; omega
    have hst := run_store_one (Pg := Pg) h hf hi (h1 v (by simp))
    have ih := storeCells_run (Pg := Pg) b o T fz rest (i + 1) (cs.setIfInBounds (o + i) v) (setArr W b (cs.setIfInBounds (o + i) v) T fz) (setArr_heap h)
      (by simpa using hf) (by simp at hl ⊢; omega) (fun x hx => h1 x (by simp [hx]))
    simp only [storeCells, Sem.run_bind, add_none, hst, Result.andThen_ok, ih, setArr_setArr]
    congr 2
    have e := list_seg_step cs.toList (o + i) v rest (by simp at hl ⊢; omega)
    unfold putArr
    congr 1
    simpa [Array.toList_setIfInBounds, Nat.add_assoc] using e

/-- A block that may change is written. -/
theorem Inv.write {cx : Cx} {P : PHeap} {ε : HMap} {φ : Nat → List Nat} {tab : Tab} {W : World} (I : Inv cx P ε φ tab W) {c : Nat} {x x' : Chunk} {b : Nat}
    (hc : tab.get c = some x) (hφ : φ c = [b]) {cs : Array Value} {T : Nat} {fz : Nat × Nat} {o : Obj} (hb : W.heap[b]? = some o)
    (hok : ∀ h, ε c = some h → ChunkOK P (World.view (setArr W b cs T fz)) ε h [b] x') :
    Inv cx P ε φ (tab.set c x') (setArr W b cs T fz) := by
  obtain ⟨l1, l2, l3⟩ := I.live c x hc b (by simp [hφ])
  refine I.step [b] (· = c) ?_ ?_ (PHeap.le_refl _) ?_ (fun b' h => .inl h) (fun _ _ h => h) ?_ ?_ ?_ (fun d w h h' => by rw [h'] at h; cases h)
  · intro b' hb'; simp at hb'; subst hb'; exact ⟨l2, l3⟩
  · exact ⟨by rw [setArr_size]; exact Nat.le_refl _, fun b' _ hn => setArr_other (fun e => hn (by simp [e])), rfl, rfl, fun _ => ⟨rfl, Nat.le_refl _⟩⟩
  · intro b' o' h
    by_cases e : b = b'
    · subst e; rw [l1] at h; cases h
    · rw [setArr_other e]; exact I.psub b' o' h
  · intro d y hd hn
    have hcd : c ≠ d := fun e => hn e.symm
    rw [Map.get_set_other _ _ hcd] at hd
    refine ⟨hd, rfl, fun b' hb' => ?_⟩
    simp
    intro e; subst e
    exact I.apart c d x y hcd hc hd b' (by simp [hφ]) hb'
  · intro d y hd hN
    subst hN
    rw [Map.get_set_same] at hd
    cases hd
    obtain ⟨h, e1, e2⟩ := I.chunk d x hc
    refine ⟨h, e1, by rw [hφ]; exact hok h e1, by rw [hφ]; simp, fun b' hb' => ?_⟩
    rw [hφ] at hb'; simp at hb'; subst hb'
    exact ⟨.inl (by simp), l1, by rw [setArr_size]; exact l2⟩
  · intro d e y z hd he hde
    rw [hd, he] at hde; exact absurd rfl hde

theorem DenL.solid {cx : Cx} {P : PHeap} {ε : HMap} {φ : Nat → List Nat} {tab : Tab} {W : World} (I : Inv cx P ε φ tab W) :
    ∀ {ss : List S1} {vs : List Value}, DenL P ε ss vs → ss.all S1.solid = true → ∀ v ∈ vs, oneCell v
  | [], vs, h, _, v, hv => by simp only [DenL] at h; rw [h] at hv; cases hv
  | s :: ss, _, ⟨w, vs', rfl, h2, h3⟩, ha, v, hv => by
    simp only [List.all_cons, Bool.and_eq_true] at ha
    rcases List.mem_cons.1 hv with e | e
    · subst e; exact solid_cell ha.1 h2 I.hand
    · exact DenL.solid I h3 ha.2 v e

theorem asOwn_den {P : PHeap} {ε : HMap} {s : S1} {v : Value} (h : Den P ε s v) : Den P ε (asOwn s) v := by
  unfold asOwn
  split
  · split
    · obtain ⟨b, h1, h2⟩ := h
      subst h2; exact h1
    · exact h
  · exact h
theorem ownV_den {P : PHeap} {ε : HMap} {s : SV} {v : Value} (h : DenV P ε s v) : DenV P ε (ownV s) v := by
  unfold ownV
  split
  · exact asOwn_den h
  · exact h
/-- The cells of a value that has cells. -/
theorem cells?_den {cx : Cx} {P : PHeap} {ε : HMap} {φ : Nat → List Nat} {tab : Tab} {W : World} (I : Inv cx P ε φ tab W) {sv : SV} {v : Value} {cs : List S1}
    (h : sv.cells? = some cs) (hd : DenV P ε sv v) : DenL P ε cs v.cells.toList ∧ ∀ x ∈ v.cells.toList, oneCell x := by
  cases sv with
  | one s =>
    simp only [SV.cells?] at h
    split at h
    · rename_i hs
      simp only [Option.some.injEq] at h; subst h
      have h1 := solid_cell hs hd I.hand
      rw [oneCell_cells h1]
      exact ⟨⟨v, [], rfl, asOwn_den hd, rfl⟩, fun x hx => by simp at hx; subst hx; exact h1⟩
    · cases h
  | agg ss =>
    simp only [SV.cells?] at h
    split at h
    · rename_i hs
      simp only [Option.some.injEq] at h; subst h
      obtain ⟨cs', rfl, h2⟩ := hd
      exact ⟨h2, DenL.solid I h2 hs⟩
    · cases h
  | tup ss => cases h
  | aggA vs t n y ws => cases h

theorem putCells_den {P : PHeap} {ε : HMap} {ss new ss' : List S1} {cs : Array Value} {vs : List Value} {off : Nat} (h : putCells ss off new = some ss') (hs : DenL P ε ss cs.toList)
    (hn : DenL P ε new vs) : DenL P ε ss' (putArr cs off vs).toList ∧ off + vs.length ≤ cs.size := by
  unfold putCells at h
  split at h
  · rename_i hle
    have hle := Nat.le_of_ble_eq_true hle
    simp only [Option.some.injEq] at h; subst h
    have h1 := hs.length
    have h2 := hn.length
    refine ⟨?_, by simp at h1; omega⟩
    simp only [putArr, List.toList_toArray, ← h2]
    exact DenL.append (DenL.append (DenL.take off hs) hn) (DenL.drop _ hs)
  · cases h

theorem put_left {α : Type} (A B us : List α) (off : Nat) (h : off + us.length ≤ A.length) : (A ++ B).take off ++ us ++ (A ++ B).drop (off + us.length) = (A.take off ++ us ++ A.drop (off + us.length)) ++ B := by
  rw [List.take_append_of_le_length (by omega), List.drop_append_of_le_length (by omega)]
  simp
theorem put_right {α : Type} (A B us : List α) (off : Nat) (h : A.length ≤ off) : (A ++ B).take off ++ us ++ (A ++ B).drop (off + us.length) = A ++ (B.take (off - A.length) ++ us ++ B.drop (off - A.length + us.length)) := by
  rw [List.take_append, List.drop_append, List.take_of_length_le (by omega), List.drop_eq_nil_of_le (by omega)]
  simp only [List.nil_append, List.append_assoc]
  congr 4
  omega
theorem ofSL_rep {P : PHeap} {ε : HMap} (t : CT) : ∀ (ss : List S1) (y : List t.T) (vs : List Value), ofSL t ss = some y → DenL P ε ss vs → ArrRep P t ss.length y vs
  | [], y, vs, h, hd => by
    simp only [ofSL, Option.some.injEq] at h; subst h
    simp only [DenL] at hd; subst hd
    exact ⟨rfl, rfl, fun i hi => by simp at hi⟩
  | s :: ss, y, _, h, ⟨v, vs', rfl, h2, h3⟩ => by
    simp only [ofSL] at h
    split at h
    · rename_i x xs hx hxs
      simp only [Option.some.injEq] at h; subst h
      obtain ⟨a1, a2, a3⟩ := ofSL_rep t ss xs vs' hxs h3
      refine ⟨by simp [a1], by simp [a2], fun i hi w hw => ?_⟩
      cases i with
      | zero => simp at hw; subst hw; exact CT.ofS_rep t s x v hx h2
      | succ i => simp at hw; exact a3 i (by simpa using hi) w hw
    · cases h
theorem putAL_den {P : PHeap} {ε : HMap} {off : Nat} {cs : Array Value} {vs ws new : List S1} {t : CT} {n : Nat} {y : List t.T} {c1 c2 c3 us : List Value} (h : cs.toList = c1 ++ (c2 ++ c3))
    (h1 : DenL P ε vs c1) (h2 : ArrRep P t n y c2) (h3 : DenL P ε ws c3) (hn : DenL P ε new us) {r : List S1 × List t.T × List S1} (hp : putAL t n vs y ws off new = some r) :
    off + us.length ≤ cs.size ∧ ∃ (d1 d2 d3 : List Value), (putArr cs off us).toList = d1 ++ (d2 ++ d3) ∧ DenL P ε r.1 d1 ∧ ArrRep P t n r.2.1 d2 ∧ DenL P ε r.2.2 d3 := by
  have l1 := h1.length
  have l2 := h2.1
  have l3 := h3.length
  have ln := hn.length
  have hsz : cs.size = c1.length + (c2.length + c3.length) := by have := congrArg List.length h; simpa using this
  unfold putAL at hp
  split at hp
  · rename_i hle
    have hle := Nat.le_of_ble_eq_true hle
    split at hp
    · rename_i vs' hp'
      cases hp
      obtain ⟨k1, k2⟩ := putCells_den (cs := c1.toArray) hp' (by simpa using h1) hn
      refine ⟨by omega, _, c2, c3, ?_, k1, h2, h3⟩
      simp only [putArr, List.toList_toArray, h]
      exact put_left c1 (c2 ++ c3) us off (by omega)
    · cases hp
  · split at hp
    · rename_i hle
      have hle := Nat.le_of_ble_eq_true hle
      split at hp
      · rename_i ws' hp'
        cases hp
        obtain ⟨k1, k2⟩ := putCells_den (cs := c3.toArray) hp' (by simpa using h3) hn
        simp only [List.size_toArray] at k2
        refine ⟨by omega, c1, c2, _, ?_, h1, h2, k1⟩
        simp only [putArr, List.toList_toArray, h]
        rw [← List.append_assoc, put_right (c1 ++ c2) c3 us off (by simp; omega), List.append_assoc]
        have e : off - (c1 ++ c2).length = off - (vs.length + n) := by simp; omega
        rw [e]
      · cases hp
    · split at hp
      · rename_i ho hs
        have ho := nbeq_true ho
        have hs := nbeq_true hs
        split at hp
        · rename_i y' hp'
          cases hp
          have ha := ofSL_rep t new y' us hp' hn
          rw [hs] at ha
          refine ⟨by omega, c1, us, c3, ?_, h1, ha, h3⟩
          simp only [putArr, List.toList_toArray, h]
          rw [put_right c1 (c2 ++ c3) us off (by omega)]
          have e : off - c1.length = 0 := by omega
          rw [e, Nat.zero_add, List.take_zero, List.nil_append, List.drop_append, List.drop_eq_nil_of_le (by omega), show us.length - c2.length = 0 by omega]
          simp
        · cases hp
      · split at hp
        · rename_i ho hs
          have ho := nbeq_true ho
          have hs := nbeq_true hs
          subst ho
          split at hp
          · rename_i y' hp'
            cases hp
            have q1 := DenL.take vs.length hn
            have q2 := DenL.take n (DenL.drop vs.length hn)
            have q3 := DenL.drop (vs.length + n) hn
            have ha := ofSL_rep t _ y' _ hp' q2
            have e2 : ((new.drop vs.length).take n).length = n := by rw [List.length_take, List.length_drop]; omega
            rw [e2] at ha
            refine ⟨by omega, _, _, _, ?_, q1, ha, q3⟩
            simp only [putArr, List.take_zero, List.nil_append, Nat.zero_add]
            rw [List.drop_eq_nil_of_le (by simp; omega), List.append_nil]
            rw [← List.drop_drop, List.take_append_drop, List.take_append_drop]
          · cases hp
        · cases hp
theorem putA_sound {P : PHeap} {ε : HMap} {tab : Tab} {c off : Nat} {cs : Array Value} {vs ws new : List S1} {t : CT} {n : Nat} {y : List t.T} {c1 c2 c3 us : List Value} (h : cs.toList = c1 ++ (c2 ++ c3))
    (h1 : DenL P ε vs c1) (h2 : ArrRep P t n y c2) (h3 : DenL P ε ws c3) (hn : DenL P ε new us) {sv : SV} {tab' : Tab} (hrun : (putAP c vs t n y ws off new).run tab = some (sv, tab')) :
    sv = .one .dead ∧ off + us.length ≤ cs.size ∧ ∃ (vs' ws' : List S1) (y' : List t.T) (d1 d2 d3 : List Value), tab' = tab.set c (.cellsA vs' t n y' ws') ∧ (putArr cs off us).toList = d1 ++ (d2 ++ d3) ∧ DenL P ε vs' d1 ∧ ArrRep P t n y' d2 ∧ DenL P ε ws' d3 := by
  unfold putAP at hrun
  cases hp : putAL t n vs y ws off new with
  | none => rw [hp] at hrun; simp [ret, Prog.bind, Prog.run] at hrun
  | some r =>
    rw [hp] at hrun
    simp only [ret, Prog.bind, Prog.run, Option.some.injEq, Prod.mk.injEq] at hrun
    obtain ⟨r1, r2⟩ := hrun
    obtain ⟨k1, d1, d2, d3, k2, k3, k4, k5⟩ := putAL_den h h1 h2 h3 hn hp
    exact ⟨r1.symm, k1, r.1, r.2.2, r.2.1, d1, d2, d3, r2.symm, k2, k3, k4, k5⟩
theorem put_whole {α : Type} (C e1 e2 e3 : List α) (off : Nat) : C.take off ++ (e1 ++ (e2 ++ e3)) ++ C.drop (off + (e1 ++ (e2 ++ e3)).length) = (C.take off ++ e1) ++ (e2 ++ (e3 ++ C.drop (off + (e1 ++ (e2 ++ e3)).length))) := by simp
/-- A value, maybe one with an array amid, is laid into cells with an array amid. -/
theorem putA_den {cx : Cx} {P : PHeap} {ε : HMap} {φ : Nat → List Nat} {tab : Tab} {W : World} (I : Inv cx P ε φ tab W) {off : Nat} {cs : Array Value} {vs ws : List S1} {t : CT} {n : Nat} {y : List t.T} {c1 c2 c3 : List Value} (h : cs.toList = c1 ++ (c2 ++ c3))
    (h1 : DenL P ε vs c1) (h2 : ArrRep P t n y c2) (h3 : DenL P ε ws c3) {new : SV} {u : Value} (hn : DenV P ε new u) {r : List S1 × List t.T × List S1} (hp : putA t n vs y ws off new = some r) :
    u.cells.size = new.len ∧ off + u.cells.toList.length ≤ cs.size ∧ ∃ (d1 d2 d3 : List Value), (putArr cs off u.cells.toList).toList = d1 ++ (d2 ++ d3) ∧ DenL P ε r.1 d1 ∧ ArrRep P t n r.2.1 d2 ∧ DenL P ε r.2.2 d3 := by
  have l1 := h1.length
  have l2 := h2.1
  have l3 := h3.length
  have hsz : cs.size = c1.length + (c2.length + c3.length) := by have := congrArg List.length h; simpa using this
  have plain : ∀ l, new.cells? = some l → putAL t n vs y ws off l = some r → u.cells.size = new.len ∧ off + u.cells.toList.length ≤ cs.size ∧ ∃ (d1 d2 d3 : List Value), (putArr cs off u.cells.toList).toList = d1 ++ (d2 ++ d3) ∧ DenL P ε r.1 d1 ∧ ArrRep P t n r.2.1 d2 ∧ DenL P ε r.2.2 d3 := fun l hl hp => by
    obtain ⟨k1, _⟩ := cells?_den I hl hn
    obtain ⟨q1, q2⟩ := putAL_den h h1 h2 h3 k1 hp
    refine ⟨?_, q1, q2⟩
    have e1 := k1.length
    have e2 : l.length = new.len := by
      unfold SV.cells? at hl
      split at hl
      · split at hl
        · cases hl; rfl
        · cases hl
      · split at hl
        · cases hl; rfl
        · cases hl
      · cases hl
      · cases hl
    simp only [Array.length_toList] at e1
    omega
  cases new with
  | one s =>
    simp only [putA] at hp
    split at hp
    · rename_i l hl; exact plain l hl hp
    · cases hp
  | agg s =>
    simp only [putA] at hp
    split at hp
    · rename_i l hl; exact plain l hl hp
    · cases hp
  | tup s =>
    simp only [putA] at hp
    split at hp
    · rename_i l hl; exact plain l hl hp
    · cases hp
  | aggA vs' t' n' y' ws' =>
    simp only [putA] at hp
    split at hp
    · rename_i e _ hb
      cases hp
      simp only [Bool.and_eq_true] at hb
      obtain ⟨⟨b1, b2⟩, b3⟩ := hb
      have b1 := nbeq_true b1
      have b2 := nbeq_true b2
      have b3 := Nat.le_of_ble_eq_true b3
      subst e; subst b1
      obtain ⟨us, e1, e2, e3, rfl, hu, k1, k2, k3⟩ := hn
      have m1 := k1.length
      have m2 := k2.1
      have m3 := k3.length
      have hus : us.size = e1.length + (e2.length + e3.length) := by have := congrArg List.length hu; simpa using this
      refine ⟨by simp only [Value.cells, SV.len]; omega, by simp only [Value.cells, Array.length_toList]; omega, c1.take off ++ e1, e2, e3 ++ c3.drop e3.length, ?_, DenL.append (DenL.take off h1) k1, k2, ?_⟩
      · simp only [Value.cells, putArr, List.toList_toArray, h, hu]
        have a1 : (c1 ++ (c2 ++ c3)).take off = c1.take off := List.take_append_of_le_length (by omega)
        have a2 : (c1 ++ (c2 ++ c3)).drop (off + (e1 ++ (e2 ++ e3)).length) = c3.drop e3.length := by
          rw [← List.append_assoc c1 c2 c3, List.drop_append, List.drop_eq_nil_of_le (by simp only [List.length_append]; omega), List.nil_append]
          congr 1; simp only [List.length_append]; omega
        rw [a1, a2]; simp only [List.append_assoc]
      · rw [m3]; exact DenL.append k3 (DenL.drop _ h3)
    · cases hp
theorem CT.Rep.one {P : PHeap} : ∀ (t : CT) (x : t.T) (v : Value), t.Rep P x v → oneCell v
  | .int k, x, v, h => by simp only [CT.Rep] at h; subst h; exact ⟨fun _ e => (by cases e), fun _ e => (by cases e)⟩
  | .bool, x, v, h => by simp only [CT.Rep] at h; subst h; exact ⟨fun _ e => (by cases e), fun _ e => (by cases e)⟩
  | .str, x, v, h => by simp only [CT.Rep] at h; obtain ⟨rfl, _⟩ := h; exact ⟨fun _ e => (by cases e), fun _ e => (by cases e)⟩
  | .ro e, x, v, h => by simp only [CT.Rep] at h; obtain ⟨a, c, rfl, _⟩ := h; exact ⟨fun _ e => (by cases e), fun _ e => (by cases e)⟩
  | .rop e, x, v, h => by simp only [CT.Rep] at h; rcases h with ⟨_, rfl⟩ | ⟨_, _, _, rfl, _⟩ <;> exact ⟨fun _ e => (by cases e), fun _ e => (by cases e)⟩
  | .rom a b, x, v, h => by simp only [CT.Rep] at h; rcases h with ⟨_, rfl⟩ | ⟨_, _, _, rfl, _⟩ <;> exact ⟨fun _ e => (by cases e), fun _ e => (by cases e)⟩
  | .fn f, x, v, h => by simp only [CT.Rep] at h; subst h; exact ⟨fun _ e => (by cases e), fun _ e => (by cases e)⟩
theorem ArrRep.one {P : PHeap} {t : CT} {n : Nat} {y : List t.T} {c : List Value} (h : ArrRep P t n y c) : ∀ v ∈ c, oneCell v := fun v hv => by
  obtain ⟨i, hi, e⟩ := List.mem_iff_getElem.1 hv
  have hy : i < y.length := by have := h.1; have := h.2.1; omega
  exact CT.Rep.one t _ v (h.2.2 i hy v (by rw [List.getElem?_eq_getElem hi, e]))
theorem store_sound {Pg : Program} {cx : Cx} {P : PHeap} {ε : HMap} {φ : Nat → List Nat} {tab : Tab} {W : World} (I : Inv cx P ε φ tab W)
    {t : Nat} {d : TD} (hd : tdOf Pg t = some d) (x : S1) (v u : Value) (hx : Den P ε x v) (new : List S1) (hn : DenL P ε new u.cells.toList) (ho : ∀ y ∈ u.cells.toList, oneCell y)
    (hlen : new.length = d.size) (sv : SV) (tab' : Tab) (hrun : (storeP x new).run tab = some (sv, tab')) :
    sv = .one .dead ∧ (∀ c, (tab'.get c = none ↔ tab.get c = none)) ∧ ∃ W', (Instr.storeAt t v u).run Pg W = .ok () W' ∧ Inv cx P ε φ tab' W' := by
  have hus : u.cells.toList.length = d.size := by rw [hn.length, hlen]
  have sure : ∀ (a : Addr) (W' : World), (storeCells a u.cells.toList).run Pg W = .ok () W' → (Instr.storeAt t (.pointer (some a)) u).run Pg W = .ok () W' := fun a W' h => by
    simp only [Array.length_toList] at hus
    simp [Instr.storeAt, Instr.sureAddr, storeVar, td_size hd, hus, h]
  have keys : ∀ (c : Nat) (y y' : Chunk), tab.get c = some y → ∀ e, ((tab.set c y').get e = none ↔ tab.get e = none) := by
    intro c y y' hc e
    by_cases h : c = e
    · subst h; rw [Map.get_set_same, hc]; simp
    · rw [Map.get_set_other _ _ h]
  have cells : ∀ (c off b : Nat), ε c = some (.pointer (some ⟨b, 0, none⟩)) → v = .pointer (some ⟨b, off, none⟩) →
      (Prog.get c fun | .cells vs => (ret (putCells vs off new)).bind fun vs' => .set c (.cells vs') (.pure (.one .dead)) | .cellsA vs t n y ws => putAP c vs t n y ws off new | _ => .fail).run tab = some (sv, tab') →
      sv = .one .dead ∧ (∀ c, (tab'.get c = none ↔ tab.get c = none)) ∧ ∃ W', (Instr.storeAt t v u).run Pg W = .ok () W' ∧ Inv cx P ε φ tab' W' := by
    intro c off b hε hv h
    simp only [Prog.run] at h
    cases hc : tab.get c with
    | none => rw [hc] at h; cases h
    | some y =>
      rw [hc] at h
      cases y <;> first | (simp only [Prog.run] at h; cases h; done) | skip
      case cellsA vs t' n y ws =>
        obtain ⟨hh, e1, b', cs, T, c1, c2, c3, e2, e3, e4, e5, e6, e7, e8⟩ := I.chunk c _ hc
        rw [hε] at e1; cases e1; cases e2
        obtain ⟨r1, k2, vs', ws', y', d1, d2, d3, r2, q1, q2, q3, q4⟩ := putA_sound e5 e6 e7 e8 hn h
        subst r2
        have hst := storeCells_run (Pg := Pg) b off T (0, 0) u.cells.toList 0 cs W e4 (.inl rfl) (by simpa using k2) ho
        refine ⟨r1, keys c _ _ hc, setArr W b (putArr cs off u.cells.toList) T (0, 0), ?_, ?_⟩
        · rw [hv]; exact sure _ _ (by simpa using hst)
        · refine I.write hc e3 e4 (fun h' hh' => ?_)
          rw [hε] at hh'; cases hh'
          exact ⟨b, _, T, d1, d2, d3, rfl, rfl, setArr_heap e4, q1, q2, q3, q4⟩
      rename_i vs
      simp only at h
      cases hp : putCells vs off new with
      | none => rw [hp] at h; simp [ret, Prog.bind, Prog.run] at h
      | some vs' =>
        rw [hp] at h
        simp only [ret, Prog.bind, Prog.run, Option.some.injEq, Prod.mk.injEq] at h
        obtain ⟨h1, h2⟩ := h
        subst h2
        obtain ⟨hh, e1, b', cs, T, e2, e3, e4, e5⟩ := I.chunk c _ hc
        rw [hε] at e1; cases e1; cases e2
        obtain ⟨k1, k2⟩ := putCells_den hp e5 hn
        have hst := storeCells_run (Pg := Pg) b off T (0, 0) u.cells.toList 0 cs W e4 (.inl rfl) (by simpa using k2) ho
        refine ⟨h1.symm, keys c _ _ hc, setArr W b (putArr cs off u.cells.toList) T (0, 0), ?_, ?_⟩
        · rw [hv]; exact sure _ _ (by simpa using hst)
        · refine I.write hc e3 e4 (fun h' hh' => ?_)
          rw [hε] at hh'; cases hh'
          exact ⟨b, _, T, rfl, rfl, setArr_heap e4, k1⟩
  unfold storeP at hrun
  cases x <;> first | (simp only [Prog.run] at hrun; cases hrun; done) | skip
  case own c =>
    have hε : ε c = some v := hx
    have : ∃ b, v = .pointer (some ⟨b, 0, none⟩) := by
      simp only [Prog.run] at hrun
      cases hc : tab.get c with
      | none => rw [hc] at hrun; cases hrun
      | some y =>
        rw [hc] at hrun
        cases y <;> first | (simp only [Prog.run] at hrun; cases hrun; done) | skip
        · obtain ⟨hh, e1, b', cs, T, e2, e3, e4, e5⟩ := I.chunk c _ hc
          rw [hε] at e1; cases e1; exact ⟨b', e2⟩
        · obtain ⟨hh, e1, b', cs, T, c1, c2, c3, e2, _⟩ := I.chunk c _ hc
          rw [hε] at e1; cases e1; exact ⟨b', e2⟩
    obtain ⟨b, hb⟩ := this
    exact cells c 0 b (by rw [hε, hb]) hb hrun
  case pcell c off =>
    obtain ⟨b, h1, h2⟩ := hx
    exact cells c off b h1 h2 hrun
  case parr c off i =>
    obtain ⟨b, h1, h2⟩ := hx
    simp only [Prog.run] at hrun
    cases hc : tab.get c with
    | none => rw [hc] at hrun; cases hrun
    | some x =>
      rw [hc] at hrun
      cases x <;> first | (simp only [Prog.run] at hrun; cases hrun; done) | skip
      rename_i vs t' n y ws
      simp only at hrun
      split at hrun
      · rename_i s hb
        cases hx : CT.ofS t' s with
        | none => rw [hx] at hrun; simp [ret, Prog.bind, Prog.run] at hrun
        | some z =>
          rw [hx] at hrun
          simp only [ret, Prog.bind] at hrun
          cases hi : Nat.blt i y.length with
          | false => rw [hi] at hrun; simp [Prog.run] at hrun
          | true =>
            rw [hi] at hrun
            have hrun : (Prog.pure (SV.one S1.dead)).run (tab.set c (.cellsA vs t' n (y.set i z) ws)) = some (sv, tab') := hrun
            simp only [Prog.run, Option.some.injEq, Prod.mk.injEq] at hrun
            obtain ⟨r1, r2⟩ := hrun
            subst r2
            have hi : i < y.length := Nat.lt_of_succ_le (Nat.le_of_ble_eq_true hi)
            obtain ⟨hh, e1, b', cs, T, c1, c2, c3, e2, e3, e4, e5, e6, e7, e8⟩ := I.chunk c _ hc
            rw [h1] at e1; cases e1; cases e2
            obtain ⟨w, us', hu, hw, hu'⟩ := hn
            have hu' : us' = [] := hu'
            subst hu'
            have hoff : off = c1.length := by rw [nbeq_true hb, ← e6.length]
            have hi2 : i < c2.length := by have := e7.1; have := e7.2.1; omega
            have hsz : cs.size = c1.length + (c2.length + c3.length) := by have := congrArg List.length e5; simpa using this
            have hst := storeCells_run (Pg := Pg) b (off + i) T (0, 0) u.cells.toList 0 cs W e4 (.inl rfl) (by rw [hu]; simp; omega) ho
            refine ⟨r1.symm, keys c _ _ hc, setArr W b (putArr cs (off + i) u.cells.toList) T (0, 0), ?_, ?_⟩
            · rw [h2]; exact sure _ _ (by simpa using hst)
            · refine I.write hc e3 e4 (fun h' hh' => ?_)
              rw [h1] at hh'; cases hh'
              refine ⟨b, _, T, c1, c2.set i w, c3, rfl, rfl, setArr_heap e4, ?_, e6, ⟨by simpa using e7.1, by simpa using e7.2.1, fun j hj w' hw' => ?_⟩, e8⟩
              · simp only [putArr, List.toList_toArray, e5, hu, hoff]
                rw [put_right c1 (c2 ++ c3) [w] (c1.length + i) (by omega)]
                have e : c1.length + i - c1.length = i := by omega
                rw [e, put_left c2 c3 [w] i (by simp; omega), List.set_eq_take_append_cons_drop, if_pos hi2]
                simp
              · simp only [List.length_set] at hj
                by_cases hji : i = j
                · subst hji
                  have e0 : (y.set i z)[i]'(by simpa using hj) = z := by simp
                  rw [e0]
                  rw [List.getElem?_set_self hi2] at hw'
                  cases hw'
                  exact CT.ofS_rep t' s z w hx hw
                · have e0 : (y.set i z)[j]'(by simpa using hj) = y[j] := by rw [List.getElem_set_ne hji]
                  rw [e0]
                  rw [List.getElem?_set_ne hji] at hw'
                  exact e7.2.2 j hj w' hw'
      · simp [Prog.run] at hrun
  case pelem c z i off =>
    obtain ⟨b, o, n, cap, h1, h2⟩ := hx
    simp only [Prog.run] at hrun
    cases hc : tab.get c with
    | none => rw [hc] at hrun; cases hrun
    | some y =>
      rw [hc] at hrun
      cases y <;> simp only [Prog.run] at hrun <;> first | (cases hrun; done) | skip
      rename_i e xs
      cases hz : Nat.beq e.size z <;> rw [hz] at hrun <;> simp only [Prog.run] at hrun
      · cases hrun
      have hz := nbeq_true hz
      cases hi : xs[i]? with
      | none => rw [hi] at hrun; cases hrun
      | some w =>
        rw [hi, Prog.run_bindO_some] at hrun
        cases hp : putCells (e.toS w) off new with
        | none => rw [hp] at hrun; simp [ret, Prog.bind, Prog.run] at hrun
        | some ss' =>
        rw [hp] at hrun
        simp only [ret, Prog.bind] at hrun
        cases hq : e.ofS ss' with
        | none => rw [hq] at hrun; simp [Prog.bind, Prog.run] at hrun
        | some y =>
        rw [hq] at hrun
        simp only [Prog.bind, Prog.run, Option.some.injEq, Prod.mk.injEq] at hrun
        obtain ⟨r1, r2⟩ := hrun
        subst r2
        obtain ⟨hh, e1, e2⟩ := I.chunk c _ hc
        rw [h1] at e1; cases e1
        rcases e2 with ⟨g1, _, _⟩ | ⟨b', o', cap', cs, T, fz, g1, g2, g3, g4, g5, g6, g7, g8⟩
        · rw [g1] at hi; simp at hi
        cases g1
        have hil : i < xs.length := by
          rcases Nat.lt_or_ge i xs.length with h | h
          · exact h
          · simp [List.getElem?_eq_none h] at hi
        have hw : xs[i] = w := by simpa [List.getElem?_eq_getElem hil] using hi
        obtain ⟨vs, k1, k2, k3⟩ := CTs.toS_den (ε := ε) e _ _ (g8 i hil)
        rw [hw] at k3
        obtain ⟨p1, p2⟩ := putCells_den (cs := vs.toArray) hp (by simpa using k3) hn
        obtain ⟨q1, q2⟩ := CTs.ofS_rep e ss' y _ hq p1
        simp only [List.size_toArray] at p2
        have hfit : o + i * z + off + u.cells.toList.length ≤ cs.size := by
          have h3 : i * e.size + e.size ≤ cap * e.size := by
            have : (i + 1) * e.size ≤ cap * e.size := Nat.mul_le_mul_right _ (by omega)
            rw [Nat.add_mul] at this; omega
          rw [← hz]; omega
        have hst := storeCells_run (Pg := Pg) b (o + i * z + off) T fz u.cells.toList 0 cs W g3 g4 (by simpa using hfit) ho
        refine ⟨r1.symm, keys c _ _ hc, setArr W b (putArr cs (o + i * z + off) u.cells.toList) T fz, ?_, ?_⟩
        · rw [h2]; exact sure _ _ (by simpa using hst)
        · refine I.write hc g2 g3 (fun h' hh' => ?_)
          rw [h1] at hh'; cases hh'
          refine .inr ⟨b, o, cap, _, T, fz, by simp, rfl, setArr_heap g3, by rw [putArr_size _ _ _ hfit]; exact g4, by simpa using g5, g6, by rw [putArr_size _ _ _ hfit]; exact g7, fun j hj => ?_⟩
          simp only [List.length_set] at hj
          have cell := fun m => putArr_get cs (o + i * z + off) u.cells.toList hfit m
          by_cases hji : i = j
          · subst hji
            have hset : (xs.set i y)[i]'(by simpa using hj) = y := by simp
            rw [hset]
            refine CTs.Rep.mono (PHeap.le_refl P) e y _ _ ?_ q1
            intro j' v' hj'
            have e1 : (putArr vs.toArray off u.cells.toList).toList[j']? = (putArr vs.toArray off u.cells.toList)[j']? := by simp
            rw [e1, putArr_get _ _ _ (by simpa using p2)] at hj'
            rw [cell]
            by_cases c1 : off ≤ j' ∧ j' < off + u.cells.toList.length
            · rw [if_pos c1] at hj'
              rw [if_pos ⟨by rw [hz]; omega, by rw [hz]; omega⟩, ← hj']
              congr 1
              rw [hz]; omega
            · rw [if_neg c1] at hj'
              rw [if_neg (by rw [hz]; omega)]
              have hjl : j' < vs.length := by
                rcases Nat.lt_or_ge j' vs.length with h | h
                · exact h
                · simp [h] at hj'
              rw [k2 j' (by omega)]
              simpa using hj'
          · have hset : (xs.set i y)[j]'(by simpa using hj) = xs[j] := by rw [List.getElem_set_ne hji]
            rw [hset]
            refine CTs.Rep.mono' e _ _ _ ?_ (g8 j hj)
            intro j' v' hjl hj'
            rw [cell, if_neg, hj']
            intro ⟨a1, a2⟩
            rw [← hz] at a1 a2
            rcases Nat.lt_or_gt_of_ne hji with h | h
            · have : (i + 1) * e.size ≤ j * e.size := Nat.mul_le_mul_right _ h
              rw [Nat.add_mul] at this; omega
            · have : (j + 1) * e.size ≤ i * e.size := Nat.mul_le_mul_right _ h
              rw [Nat.add_mul] at this; omega


/-- A struct with an array amid is stored. -/
theorem storeA_sound {Pg : Program} {cx : Cx} {P : PHeap} {ε : HMap} {φ : Nat → List Nat} {tab : Tab} {W : World} (I : Inv cx P ε φ tab W)
    {t0 : Nat} {d : TD} (hd : tdOf Pg t0 = some d) (x : S1) (v u : Value) (hx : Den P ε x v) {vs ws : List S1} {t : CT} {n : Nat} {y : List t.T} (hn : DenV P ε (.aggA vs t n y ws) u)
    (sv : SV) (tab' : Tab) (hrun : (storeAP d.size x vs t n y ws).run tab = some (sv, tab')) :
    sv = .one .dead ∧ ∃ W', (Instr.storeAt t0 v u).run Pg W = .ok () W' ∧ Inv cx P ε φ tab' W' := by
  unfold storeAP at hrun
  split at hrun
  · rename_i c off hb hxl
    simp only [Bool.and_eq_true] at hb
    obtain ⟨⟨hsz, hs1⟩, hs2⟩ := hb
    have hsz := nbeq_true hsz
    obtain ⟨us, e1, e2, e3, rfl, hu, k1, k2, k3⟩ := hn
    have m1 := k1.length
    have m2 := k2.1
    have m3 := k3.length
    have hlen : us.size = e1.length + (e2.length + e3.length) := by have := congrArg List.length hu; simpa using this
    have ho : ∀ y ∈ (Value.agg us).cells.toList, oneCell y := fun y hy => by
      have hy : y ∈ us.toList := hy
      rw [hu, List.mem_append, List.mem_append] at hy
      rcases hy with hy | hy | hy
      · exact DenL.solid I k1 hs1 y hy
      · exact k2.one y hy
      · exact DenL.solid I k3 hs2 y hy
    have sure : ∀ (a : Addr) (W' : World), (storeCells a (Value.agg us).cells.toList).run Pg W = .ok () W' → (Instr.storeAt t0 (.pointer (some a)) (.agg us)).run Pg W = .ok () W' := fun a W' h => by
      have hus : us.size = d.size := by omega
      have h' : (storeCells a us.toList).run Pg W = .ok () W' := h
      simp [Instr.storeAt, Instr.sureAddr, storeVar, td_size hd, Value.cells, hus, h']
    have hloc : ∀ b, ε c = some (.pointer (some ⟨b, 0, none⟩)) → v = .pointer (some ⟨b, off, none⟩) := fun b hb => by
      cases x <;> simp only [Option.some.injEq, Prod.mk.injEq, reduceCtorEq] at hxl
      · obtain ⟨rfl, rfl⟩ := hxl
        have hx : ε _ = some v := hx
        rw [hb] at hx; cases hx; rfl
      · obtain ⟨rfl, rfl⟩ := hxl
        obtain ⟨b', h1, h2⟩ := hx
        rw [hb] at h1; cases h1; exact h2
    simp only [Prog.run] at hrun
    cases hc : tab.get c with
    | none => rw [hc] at hrun; cases hrun
    | some ch =>
      rw [hc] at hrun
      cases ch <;> first | (simp only [Prog.run] at hrun; cases hrun; done) | skip
      · rename_i old
        simp only at hrun
        split at hrun
        · rename_i hle
          have hle := Nat.le_of_ble_eq_true hle
          have h' : (Prog.pure (SV.one S1.dead)).run (tab.set c (.cellsA (old.take off ++ vs) t n y (ws ++ old.drop (off + d.size)))) = some (sv, tab') := hrun
          simp only [Prog.run, Option.some.injEq, Prod.mk.injEq] at h'
          obtain ⟨r1, r2⟩ := h'
          subst r2
          obtain ⟨hh, f1, b, cs, T, f2, f3, f4, f5⟩ := I.chunk c _ hc
          subst f2
          have l5 := f5.length
          have hst := storeCells_run (Pg := Pg) b off T (0, 0) (Value.agg us).cells.toList 0 cs W f4 (.inl rfl) (by simp only [Value.cells, Array.length_toList] at l5 ⊢; omega) ho
          refine ⟨r1.symm, setArr W b (putArr cs off us.toList) T (0, 0), ?_, ?_⟩
          · rw [hloc b f1]; exact sure _ _ (by simpa [Value.cells] using hst)
          · refine I.write hc f3 f4 (fun h' hh' => ?_)
            rw [f1] at hh'; cases hh'
            refine ⟨b, _, T, cs.toList.take off ++ e1, e2, e3 ++ cs.toList.drop (off + d.size), rfl, rfl, setArr_heap f4, ?_, DenL.append (DenL.take off f5) k1, k2, DenL.append k3 (DenL.drop _ f5)⟩
            simp only [putArr, List.toList_toArray, hu]
            have : off + (e1 ++ (e2 ++ e3)).length = off + d.size := by simp only [List.length_append]; omega
            rw [this]; simp only [List.append_assoc]
        · simp [Prog.run] at hrun
      · rename_i vs0 t1 n1 y1 ws0
        simp only at hrun
        split at hrun
        · rename_i r hr
          have h' : (Prog.pure (SV.one S1.dead)).run (tab.set c (.cellsA r.1 t1 n1 r.2.1 r.2.2)) = some (sv, tab') := hrun
          simp only [Prog.run, Option.some.injEq, Prod.mk.injEq] at h'
          obtain ⟨r1, r2⟩ := h'
          subst r2
          obtain ⟨hh, f1, b, cs, T, c1, c2, c3, f2, f3, f4, f5, f6, f7, f8⟩ := I.chunk c _ hc
          subst f2
          obtain ⟨_, q2, d1, d2, d3, q3, q4, q5, q6⟩ := putA_den I f5 f6 f7 f8 (new := .aggA vs t n y ws) (u := .agg us) ⟨us, e1, e2, e3, rfl, hu, k1, k2, k3⟩ hr
          have hst := storeCells_run (Pg := Pg) b off T (0, 0) (Value.agg us).cells.toList 0 cs W f4 (.inl rfl) (by simpa using q2) ho
          refine ⟨r1.symm, setArr W b (putArr cs off us.toList) T (0, 0), ?_, ?_⟩
          · rw [hloc b f1]; exact sure _ _ (by simpa [Value.cells] using hst)
          · refine I.write hc f3 f4 (fun h' hh' => ?_)
            rw [f1] at hh'; cases hh'
            exact ⟨b, _, T, d1, d2, d3, rfl, rfl, setArr_heap f4, q3, q4, q5, q6⟩
        · simp [Prog.run] at hrun
  · simp [Prog.run] at hrun
end Go.Sx
