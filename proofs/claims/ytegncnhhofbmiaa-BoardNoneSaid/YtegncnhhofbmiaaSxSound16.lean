/- A walk of Go code by plain functions is sound. -/
import Derived.Test.YtegncnhhofbmiaaSxSound15
namespace Go.Sx
section
variable {Pg : Program} {tt : TT} {fs : List Fun} {cx : Cx} {n : Nat} {R : Type}

theorem eqv_set_self {s : Slots} {d : Nat} {v : SV} (h : s.at d = v) : Slots.eqv s (Map.set s d v) := fun t => by
  by_cases e : d = t
  · subst e; rw [at_set_same, h]
  · rw [at_set_other _ _ e]

theorem wantS_yes {ops : List Oper} {s : Slots} {g : Option (Nat × Bool)} (h : wantS ops s g = .yes) : wantedV ops s g = some true := by
  unfold wantS at h
  unfold wantedV
  split at h
  · rfl
  · split at h
    · split at h
      · split at h
        · cases h
        · split at h <;> cases h
        · cases h
      · cases h
    · cases h
theorem wantS_no {ops : List Oper} {s : Slots} {g : Option (Nat × Bool)} (h : wantS ops s g = .no) : wantedV ops s g = some false := by
  unfold wantS at h
  unfold wantedV
  split at h
  · cases h
  · rename_i j want
    simp only
    cases hj : nth ops j with
    | none => rfl
    | some oj =>
      rw [hj] at h
      simp only at h ⊢
      cases hd : oj.dst with
      | none => rfl
      | some d =>
        rw [hd] at h
        simp only at h ⊢
        split at h
        · cases h
        · rename_i v hv
          rw [hv]
          split at h
          · rfl
          · cases h
        · cases h
theorem wantS_ask {ops : List Oper} {s : Slots} {g : Option (Nat × Bool)} {d : Nat} {b want : Bool} (h : wantS ops s g = .ask d b want) :
    s.at d = .one (.bool b) ∧ ∀ s' : Slots, ∀ b', s'.at d = .one (.bool b') → wantedV ops s' g = some (b' == want) := by
  unfold wantS at h
  unfold wantedV
  split at h
  · cases h
  · rename_i j want'
    simp only
    cases hj : nth ops j with
    | none => rw [hj] at h; cases h
    | some oj =>
      rw [hj] at h
      simp only at h ⊢
      cases hd : oj.dst with
      | none => rw [hd] at h; cases h
      | some d' =>
        rw [hd] at h
        simp only at h ⊢
        split at h
        · rename_i b2 hb
          cases h
          refine ⟨hb, fun s' b' hs => ?_⟩
          rw [hs]
        · split at h <;> cases h
        · cases h

theorem regionK_run {ops : List Oper} {next0 : Nat} (l : List Oper) : ∀ (k : Nat), (∀ j, l[j]? = ops[k + j]?) → ∀ (st : St) (tr : Trace) (K : St → Trace → Option R) (r : R), st.next = next0 + k * stride →
    regionK tt fs n ops (number k l) st tr K = some r →
    ∃ (T : Trace) (st' : St), STrace tt fs n ops next0 T st.slots st.tab st'.slots st'.tab ∧ T.map (·.1) = List.range' k l.length ∧ st'.next = next0 + (k + l.length) * stride ∧ K st' (T.reverse ++ tr) = some r := by
  induction l with
  | nil =>
    intro k _ st tr K r hn h
    refine ⟨[], st, .nil (Slots.eqv_refl _) (fun _ => rfl), rfl, by simpa using hn, ?_⟩
    simpa [number, regionK] using h
  | cons o l ih =>
    intro k hl st tr K r hn h
    have ho : ops[k]? = some o := by have := hl 0; simpa using this.symm
    have hl' : ∀ j, l[j]? = ops[k + 1 + j]? := fun j => by have := hl (j + 1); rw [List.getElem?_cons_succ] at this; rw [this]; congr 1; omega
    have hn' : st.next + stride = next0 + (k + 1) * stride := by rw [hn, Nat.add_mul]; omega
    -- it is carried out
    have hrun : ∀ s : Slots, Slots.eqv st.slots s → wantedV ops s o.guard = some true →
        ((opP tt fs s o st.next).runT st.tab [] [] fun sv tab' r w => svF sv fun sv => turnF w tab' fun tab' => natF (st.next + stride) fun nx =>
          match slotsIn n o.dst with
          | true => regionK tt fs n ops (number (k + 1) l) ⟨putS s o.dst sv, tab', nx⟩ ((k, r, w) :: tr) K
          | false => none) = some r →
        ∃ (T : Trace) (st' : St), STrace tt fs n ops next0 T st.slots st.tab st'.slots st'.tab ∧ T.map (·.1) = List.range' k (l.length + 1) ∧ st'.next = next0 + (k + (l.length + 1)) * stride ∧ K st' (T.reverse ++ tr) = some r := by
      intro s hs hw h
      rw [Prog.runT_eq] at h
      cases hr : (opP tt fs s o st.next).run st.tab with
      | none => rw [hr] at h; cases h
      | some p =>
        obtain ⟨sv, tab'⟩ := p
        rw [hr] at h
        simp only [Option.bind_some, svF_eq, turnF_eq, natF_eq, List.append_nil] at h
        cases hin : slotsIn n o.dst with
        | false => rw [hin] at h; cases h
        | true =>
          rw [hin] at h
          simp only at h
          obtain ⟨T, st', h1, h2, h3, h4⟩ := ih (k + 1) hl' _ _ K r hn' h
          refine ⟨(k, ((opP tt fs s o st.next).touches st.tab).1.reverse, ((opP tt fs s o st.next).touches st.tab).2.reverse) :: T, st', STrace.congr (.cons (acc := (((opP tt fs s o st.next).touches st.tab).1.reverse, ((opP tt fs s o st.next).touches st.tab).2.reverse)) ho ⟨hin, .inl ⟨hw, sv, hn ▸ hr, fun c => ?_, Slots.eqv_refl _⟩⟩ h1) hs (fun _ => rfl), ?_, ?_, ?_⟩
          · rw [← hn]; simp
          · simp [h2, List.range'_succ]
          · rw [h3]; congr 2; omega
          · simpa using h4
    have hskip : ∀ s : Slots, Slots.eqv st.slots s → wantedV ops s o.guard = some false →
        (match slotsIn n o.dst with
          | true => natF (st.next + stride) fun nx => regionK tt fs n ops (number (k + 1) l) ⟨putS s o.dst (.one (.const (.tuple #[]))), st.tab, nx⟩ ((k, [], []) :: tr) K
          | false => none) = some r →
        ∃ (T : Trace) (st' : St), STrace tt fs n ops next0 T st.slots st.tab st'.slots st'.tab ∧ T.map (·.1) = List.range' k (l.length + 1) ∧ st'.next = next0 + (k + (l.length + 1)) * stride ∧ K st' (T.reverse ++ tr) = some r := by
      intro s hs hw h
      cases hin : slotsIn n o.dst with
      | false => rw [hin] at h; cases h
      | true =>
        rw [hin] at h
        simp only [natF_eq] at h
        obtain ⟨T, st', h1, h2, h3, h4⟩ := ih (k + 1) hl' _ _ K r hn' h
        refine ⟨(k, [], []) :: T, st', STrace.congr (.cons (acc := ([], [])) ho ⟨hin, .inr ⟨hw, rfl, rfl, Slots.eqv_refl _⟩⟩ h1) hs (fun _ => rfl), ?_, ?_, ?_⟩
        · simp [h2, List.range'_succ]
        · rw [h3]; congr 2; omega
        · simpa using h4
    simp only [number, regionK] at h
    split at h
    · rename_i hw; exact hrun _ (Slots.eqv_refl _) (wantS_yes hw) h
    · rename_i hw; exact hskip _ (Slots.eqv_refl _) (wantS_no hw) h
    · rename_i d b want hw
      obtain ⟨hb, hwv⟩ := wantS_ask hw
      unfold oite at h
      cases b with
      | true =>
        have he := eqv_set_self hb
        have hv := hwv _ true (at_set_same st.slots d (.one (.bool true)))
        cases want with
        | true => exact hrun _ he hv h
        | false => exact hskip _ he hv h
      | false =>
        have he := eqv_set_self hb
        have hv := hwv _ false (at_set_same st.slots d (.one (.bool false)))
        cases want with
        | true => exact hskip _ he hv h
        | false => exact hrun _ he hv h
    · cases h

def FreeFrom (ε : HMap) (n : Nat) : Prop := ∀ c, n ≤ c → ε c = none

theorem Match.drew {P : PHeap} {ε : HMap} {φ : Nat → List Nat} {s : Slots} {t : Tab} {a : Act} {W : World} (M : Match cx n P ε φ s t a W) : Match cx n P ε φ s t a { W with drawn := W.drawn + 1 } :=
  ⟨M.inv.drew _ (fun _ => Nat.le_succ _), M.slots, M.size, M.dfs, M.pin⟩

theorem range'_zero_eq (k : Nat) : List.range' 0 k = List.range k := by rw [List.range_eq_range']

theorem region_sound (htt : TTOK Pg tt) (hfs : FsAt Pg cx fs) (hmix : Pg.follows .mixedOrders = true) {id : Nat} {ops : Array Oper} {draw : Bool} {st : St} {r : R} {K : St → Option R}
    (h : (regionK tt fs n ops.toList (number 0 ops.toList) st [] fun st' tr => match draw with
      | false => K st'
      | true => match orderFree ops.toList tr with | true => K st' | false => none) = some r)
    {P : PHeap} {ε : HMap} {φ : Nat → List Nat} {a : Act} {W : World} (M : Match cx n P ε φ st.slots st.tab a W) (hfr : FreeFrom ε st.next) {Q : Exit → Act → World → Prop}
    (hQ : ∀ st' a' W' P' ε' φ', K st' = some r → Match cx n P' ε' φ' st'.slots st'.tab a' W' → FreeFrom ε' st'.next → Q .normal a' W') : (Code.region id ops draw).wp Pg Q a W := by
  obtain ⟨T, st', hT, hidx, hn, hK⟩ := regionK_run (next0 := st.next) ops.toList 0 (fun j => by rw [Nat.zero_add]) st [] _ r (by simp) h
  rw [range'_zero_eq, Array.length_toList] at hidx
  have hmem : ∀ p ∈ T, p.1 < ops.size := by
    intro p hp
    have : p.1 ∈ T.map (·.1) := List.mem_map.2 ⟨p, hp, rfl⟩
    rw [hidx, List.mem_range] at this; exact this
  have hids : Ids ε st.next T := by
    intro p hp c hc _
    exact hfr c (by omega)
  have hlt : ∀ p ∈ T, st.next + p.1 * stride + stride ≤ st'.next := by
    intro p hp
    have := hmem p hp
    rw [hn, Nat.zero_add, Array.length_toList]
    have : (p.1 + 1) * stride ≤ ops.size * stride := Nat.mul_le_mul_right _ (by omega)
    rw [Nat.add_mul] at this
    omega
  have hle : st.next ≤ st'.next := by rw [hn]; omega
  have hend : ∀ ε', Grew ε ε' st.next T → FreeFrom ε' st'.next := by
    intro ε' hg c hc
    cases he : ε' c with
    | none => rfl
    | some w =>
      rcases hg c (by rw [he]; simp) with h | ⟨p, hp, h1, h2⟩
      · exact absurd (hfr c (by omega)) h
      · have := hlt p hp; omega
  have hnd : (T.map (·.1)).Nodup := by rw [hidx]; exact List.nodup_range
  have hpw : (T.map (·.1)).Pairwise (· < ·) := by rw [hidx]; exact List.pairwise_lt_range
  cases draw with
  | false =>
    refine wp_region ?_
    rw [← hidx]
    exact run_text htt hfs T _ _ hT hnd P ε φ a W M hids fun a' W' P' ε' φ' hg M' => hQ st' a' W' P' ε' φ' hK M' (hend ε' hg)
  | true =>
    simp only [List.append_nil] at hK
    cases hof : orderFree ops.toList T.reverse with
    | false => rw [hof] at hK; cases hK
    | true =>
      rw [hof] at hK
      unfold orderFree at hof
      rw [Bool.and_eq_true] at hof
      obtain ⟨hback, hpairs⟩ := hof
      refine wp_region_any hmix ?_
      have hpf : PairFree ops.toList T := fun p hp q hq => pairs_spec hpairs p (by simpa using hp) q (by simpa using hq)
      refine run_any htt hfs hback ops.size (Array.replicate ops.size false) T _ _ hT (by simp) ?_ hpw ?_ hpf hmem ?_ P ε φ a _ M.drew hids fun a' W' P' ε' φ' hg M' => hQ st' a' W' P' ε' φ' hK M' (hend ε' hg)
      · intro i hi
        have : i ∈ T.map (·.1) := by rw [hidx, List.mem_range]; exact hi
        obtain ⟨p, hp, e⟩ := List.mem_map.1 this
        refine ⟨fun _ => ⟨p, hp, e⟩, fun _ => ?_⟩
        rw [Array.getD_eq_getD_getElem?]
        simp [hi]
      · have : (T.map (·.1)).length = ops.size := by rw [hidx, List.length_range]
        rw [List.length_map] at this; omega
      · intro k l hk hkl
        rw [Array.getD_eq_getD_getElem?] at hkl
        simp [hk] at hkl

/-- A region behind its first operation, in the order of the text. -/
theorem region_tail (htt : TTOK Pg tt) (hfs : FsAt Pg cx fs) {ops : Array Oper} {st : St} {next0 : Nat} {r : R} {K : St → Option R} (hn1 : st.next = next0 + stride)
    (h : (regionK tt fs n ops.toList (number 1 (ops.toList.drop 1)) st [] fun st' _ => K st') = some r)
    {P : PHeap} {ε : HMap} {φ : Nat → List Nat} {a : Act} {W : World} (M : Match cx n P ε φ st.slots st.tab a W) (hfr : FreeFrom ε st.next) {Q : Exit → Act → World → Prop}
    (hQ : ∀ st' a' W' P' ε' φ', K st' = some r → Match cx n P' ε' φ' st'.slots st'.tab a' W' → FreeFrom ε' st'.next → Q .normal a' W') : wpOps Pg ops Q (List.range' 1 (ops.size - 1)) a W := by
  obtain ⟨T, st', hT, hidx, hn, hK⟩ := regionK_run (next0 := next0) (ops := ops.toList) (ops.toList.drop 1) 1 (fun j => by rw [List.getElem?_drop]) st [] _ r (by rw [hn1]; omega) h
  rw [List.length_drop, Array.length_toList] at hidx hn
  have hmem : ∀ p ∈ T, 1 ≤ p.1 ∧ p.1 < 1 + (ops.size - 1) := by
    intro p hp
    have : p.1 ∈ T.map (·.1) := List.mem_map.2 ⟨p, hp, rfl⟩
    rw [hidx, List.mem_range'_1] at this; exact this
  have hids : Ids ε next0 T := by
    intro p hp c hc _
    have h1 : 1 * stride ≤ p.1 * stride := Nat.mul_le_mul_right _ (hmem p hp).1
    exact hfr c (by omega)
  have hlt : ∀ p ∈ T, next0 + p.1 * stride + stride ≤ st'.next := by
    intro p hp
    have := hmem p hp
    rw [hn]
    have : (p.1 + 1) * stride ≤ (1 + (ops.size - 1)) * stride := Nat.mul_le_mul_right _ (by omega)
    rw [Nat.add_mul] at this
    omega
  have hle : st.next ≤ st'.next := by
    rw [hn, hn1]
    have : 1 * stride ≤ (1 + (ops.size - 1)) * stride := Nat.mul_le_mul_right _ (by omega)
    omega
  have hend : ∀ ε', Grew ε ε' next0 T → FreeFrom ε' st'.next := by
    intro ε' hg c hc
    cases he : ε' c with
    | none => rfl
    | some w =>
      rcases hg c (by rw [he]; simp) with h | ⟨p, hp, h1, h2⟩
      · exact absurd (hfr c (by omega)) h
      · have := hlt p hp; omega
  have hnd : (T.map (·.1)).Nodup := by rw [hidx]; exact List.nodup_range'
  rw [← hidx]
  exact run_text htt hfs T _ _ hT hnd P ε φ a W M hids fun a' W' P' ε' φ' hg M' => hQ st' a' W' P' ε' φ' hK M' (hend ε' hg)
end
end Go.Sx
