/- A walk of Go code by plain functions is sound. -/
import Derived.Test.YtegncnhhofbmiaaSxSound14
namespace Go.Sx
section
variable {Pg : Program} {tt : TT} {fs : List Fun} {cx : Cx} {n : Nat}

/-- A state of the walk stands for one of the machine. -/
structure Match (cx : Cx) (n : Nat) (P : PHeap) (ε : HMap) (φ : Nat → List Nat) (s : Slots) (t : Tab) (a : Act) (W : World) : Prop where
  inv : Inv cx P ε φ t W
  slots : SlotsOK P ε s a
  size : a.tmps.size = n
  dfs : a.defers = []
  pin : ∀ c v, cx.pins c = some v → ε c = some v

theorem Match.eqv {P : PHeap} {ε : HMap} {φ : Nat → List Nat} {s s' : Slots} {t t' : Tab} {a : Act} {W : World} (h : Match cx n P ε φ s t a W) (hs : Slots.eqv s' s) (ht : Tab.eqv t' t) : Match cx n P ε φ s' t' a W :=
  ⟨h.inv.eqv ht, fun u => by rw [hs u]; exact h.slots u, h.size, h.dfs, h.pin⟩
theorem Act.put_tmps (a : Act) (dst : Option Tmp) (v : Value) : (a.put dst v).tmps = (match dst with | some d => a.tmps.setIfInBounds d v | none => a.tmps) := by cases dst <;> rfl
theorem Act.put_defers' (a : Act) (dst : Option Tmp) (v : Value) : (a.put dst v).defers = a.defers := by cases dst <;> rfl
theorem slots_put {P : PHeap} {ε : HMap} {s : Slots} {a : Act} (hs : SlotsOK P ε s a) {dst : Option Nat} (hd : slotsIn a.tmps.size dst = true) {sv : SV} {v : Value} (hv : DenV P ε sv v) : SlotsOK P ε (putS s dst sv) (a.put dst v) := by
  intro t
  rw [at_putS, Act.put_tmps]
  cases dst with
  | none => simpa using hs t
  | some d =>
    have hlt : d < a.tmps.size := Nat.le_of_ble_eq_true hd
    by_cases h : d = t
    · subst h; simp [hlt]; exact hv
    · have h' : ¬ some d = some t := by simpa using h
      rw [if_neg h']
      have : (a.tmps.setIfInBounds d v).getD t undef = a.tmps.getD t undef := by
        simp only [Array.getD_eq_getD_getElem?, Array.getElem?_setIfInBounds_ne h]
      simp only [this]; exact hs t

theorem wanted_iff {P : PHeap} {ε : HMap} {s : Slots} {a : Act} (hs : SlotsOK P ε s a) {ops : Array Oper} {o : Oper} {b : Bool} (h : wantedV ops.toList s o.guard = some b) : Region.wanted o (yielded ops a.tmps) = b := by
  unfold wantedV at h
  unfold Region.wanted
  cases hg : o.guard with
  | none => rw [hg] at h; simp only [Option.some.injEq] at h; exact h
  | some p =>
    obtain ⟨j, want⟩ := p
    rw [hg] at h
    simp only [nth_eq] at h ⊢
    unfold yielded
    have he : ops[j]? = ops.toList[j]? := by simp
    rw [he]
    cases hj : ops.toList[j]? with
    | none => rw [hj] at h; simp only [Option.some.injEq] at h; subst h; simp
    | some oj =>
      rw [hj] at h
      simp only [Option.bind_some] at h ⊢
      cases hd : oj.dst with
      | none => rw [hd] at h; simp only [Option.some.injEq] at h; subst h; simp
      | some d =>
        rw [hd] at h
        simp only [Option.bind_some] at h ⊢
        have hv := hs d
        split at h
        · rename_i bb hb
          rw [hb] at hv
          have hv : a.tmps.getD d undef = .bool bb := hv
          simp only [Option.some.injEq] at h
          have hg2 : a.tmps[d]? = some (.bool bb) := by
            rw [Array.getD_eq_getD_getElem?] at hv
            cases hx : a.tmps[d]? with
            | none => rw [hx] at hv; simp [undef] at hv
            | some w => rw [hx] at hv; simp at hv; rw [hv]
          rw [hg2, ← h]
          simp
        · rename_i w hb
          split at h
          · rename_i vs
            simp only [Option.some.injEq] at h
            subst h
            rw [hb] at hv
            have hv : a.tmps.getD d undef = .tuple vs := hv
            rw [Array.getD_eq_getD_getElem?] at hv
            cases hx : a.tmps[d]? with
            | none => simp
            | some w => rw [hx] at hv; simp at hv; rw [hv]; simp
          · cases h
        · cases h

/-- One operation of a region is carried out. -/
theorem run_op (htt : TTOK Pg tt) (hfs : FsAt Pg cx fs) {ops : Array Oper} {i : Nat} {o : Oper} (ho : ops.toList[i]? = some o) {fresh : Nat} {s s1 : Slots} {t t1 : Tab} {acc : List Nat × List Nat}
    (h : SRun tt fs n ops.toList o fresh s t s1 t1 acc) {P : PHeap} {ε : HMap} {φ : Nat → List Nat} {a : Act} {W : World} (M : Match cx n P ε φ s t a W) (hfr : Fresh ε fresh)
    {K : Act → World → Prop} {Q : Exit → Act → World → Prop}
    (hK : ∀ a' W' P' ε' φ', (∀ c, ε' c ≠ none → ε c ≠ none ∨ (fresh ≤ c ∧ c < fresh + stride)) → Match cx n P' ε' φ' s1 t1 a' W' → K a' W') : wpOp Pg ops Q i K a W := by
  obtain ⟨h0, h⟩ := h
  have ho' : ops[i]? = some o := by rw [← ho]; simp
  unfold wpOp
  simp only [ho']
  rcases h with ⟨h1, sv, h2, _, h4⟩ | ⟨h1, h2, _, h4⟩
  · rw [wanted_iff M.slots h1]
    simp only [if_true]
    left
    refine opP_sound htt hfs M.inv hfr M.slots o sv t1 h2 ?_
    intro v W' P' ε' φ' g1 g2 g3 g4 g5
    refine hK _ W' P' ε' φ' g3 ⟨g4, ?_, ?_, ?_, fun c v hp => g2 _ _ (M.pin c v hp)⟩
    · intro u
      rw [h4 u]
      exact slots_put (M.slots.mono g1 g2) (by rw [M.size]; exact h0) g5 u
    · rw [Act.put_tmps]; cases o.dst <;> simp [M.size]
    · rw [Act.put_defers']; exact M.dfs
  · rw [wanted_iff M.slots h1]
    simp only [Bool.false_eq_true, if_false]
    subst h2
    refine hK _ W P ε φ (fun _ h => .inl h) ⟨M.inv, ?_, ?_, ?_, M.pin⟩
    · intro u
      rw [h4 u]
      exact slots_put (sv := undefSV) (v := undef) M.slots (by rw [M.size]; exact h0) rfl u
    · rw [Act.put_tmps]; cases o.dst <;> simp [M.size]
    · rw [Act.put_defers']; exact M.dfs

def Ids (ε : HMap) (next0 : Nat) (T : Trace) : Prop := ∀ p ∈ T, Fresh ε (next0 + p.1 * stride)

theorem STrace.cons_inv {ops : List Oper} {next0 : Nat} {p : Nat × List Nat × List Nat} {T : Trace} {s s' : Slots} {t t' : Tab} (h : STrace tt fs n ops next0 (p :: T) s t s' t') :
    ∃ o s1 t1, ops[p.1]? = some o ∧ SRun tt fs n ops o (next0 + p.1 * stride) s t s1 t1 p.2 ∧ STrace tt fs n ops next0 T s1 t1 s' t' := by
  cases h with
  | cons ho h1 h2 => exact ⟨_, _, _, ho, h1, h2⟩
theorem STrace.nil_inv {ops : List Oper} {next0 : Nat} {s s' : Slots} {t t' : Tab} (h : STrace tt fs n ops next0 [] s t s' t') : Slots.eqv s' s ∧ Tab.eqv t' t := by
  cases h with
  | nil hs ht => exact ⟨hs, ht⟩

/-- The numbers of the operations still to come stay free. -/
theorem Ids.step {ε ε' : HMap} {next0 i : Nat} {T : Trace} (hI : Ids ε next0 T) (hi : ∀ q ∈ T, q.1 ≠ i) (hε : ∀ c, ε' c ≠ none → ε c ≠ none ∨ (next0 + i * stride ≤ c ∧ c < next0 + i * stride + stride)) : Ids ε' next0 T := by
  intro q hq c hc1 hc2
  have hne := hi q hq
  cases hc : ε' c with
  | none => rfl
  | some w =>
    rcases hε c (by rw [hc]; simp) with h | ⟨h1, h2⟩
    · exact absurd (hI q hq c hc1 hc2) h
    · exfalso
      unfold stride at *
      omega

def Grew (ε ε' : HMap) (next0 : Nat) (T : Trace) : Prop := ∀ c, ε' c ≠ none → ε c ≠ none ∨ ∃ p ∈ T, next0 + p.1 * stride ≤ c ∧ c < next0 + p.1 * stride + stride

/-- In the order of the text. -/
theorem run_text (htt : TTOK Pg tt) (hfs : FsAt Pg cx fs) {ops : Array Oper} {next0 : Nat} {Q : Exit → Act → World → Prop} {s' : Slots} {t' : Tab} (T : Trace) :
    ∀ (s : Slots) (t : Tab), STrace tt fs n ops.toList next0 T s t s' t' → (T.map (·.1)).Nodup → ∀ (P : PHeap) (ε : HMap) (φ : Nat → List Nat) (a : Act) (W : World), Match cx n P ε φ s t a W → Ids ε next0 T →
    (∀ a' W' P' ε' φ', Grew ε ε' next0 T → Match cx n P' ε' φ' s' t' a' W' → Q .normal a' W') → wpOps Pg ops Q (T.map (·.1)) a W := by
  induction T with
  | nil =>
    intro s t h _ P ε φ a W M _ hQ
    obtain ⟨hs, ht⟩ := h.nil_inv
    exact hQ a W P ε φ (fun _ h => .inl h) (M.eqv hs ht)
  | cons p T ih =>
    intro s t h hnd P ε φ a W M hI hQ
    obtain ⟨o, s1, t1, ho, h1, h2⟩ := h.cons_inv
    rw [List.map_cons, wpOps_cons]
    rw [List.map_cons, List.nodup_cons] at hnd
    refine run_op htt hfs ho h1 M (hI p List.mem_cons_self) fun a' W' P' ε' φ' hε M' => ?_
    refine ih s1 t1 h2 hnd.2 P' ε' φ' a' W' M' ?_ ?_
    · exact Ids.step (fun q hq => hI q (List.mem_cons_of_mem _ hq)) (fun q hq e => hnd.1 (List.mem_map.2 ⟨q, hq, e⟩)) hε
    · intro a2 W2 P2 ε2 φ2 h2' M2
      refine hQ a2 W2 P2 ε2 φ2 (fun c hc => ?_) M2
      rcases h2' c hc with h | ⟨q, hq, h⟩
      · rcases hε c h with h | h
        · exact .inl h
        · exact .inr ⟨p, List.mem_cons_self, h⟩
      · exact .inr ⟨q, List.mem_cons_of_mem _ hq, h⟩

/-! ### In any order -/
theorem mem_iff (x : Nat) (l : List Nat) : mem x l = true ↔ x ∈ l := by
  induction l with
  | nil => simp [mem]
  | cons y r ih =>
    unfold mem
    cases h : Nat.beq y x with
    | true => have := nbeq_true h; subst this; simp
    | false => have := nbeq_false h; simp [ih]; intro e; exact absurd e.symm this

def ancStep (acc : List (List Nat)) (o : Oper) : List Nat :=
  o.after.toList.foldl (fun l e => match Region.binds .any e with | true => insN e.on (uniN (match nth acc e.on with | some a => a | none => []) l) | false => l) []
theorem insN_mem {x y : Nat} {l : List Nat} (h : x ∈ insN y l) : x = y ∨ x ∈ l := by
  unfold insN at h
  split at h
  · exact .inr h
  · exact List.mem_cons.1 h
theorem uniN_mem {x : Nat} : ∀ {a l : List Nat}, x ∈ uniN a l → x ∈ a ∨ x ∈ l
  | [], _, h => .inr h
  | y :: a, l, h => by
    rcases uniN_mem (a := a) (l := insN y l) h with h | h
    · exact .inl (List.mem_cons_of_mem _ h)
    · rcases insN_mem h with h | h
      · exact .inl (h ▸ List.mem_cons_self)
      · exact .inr h
theorem ancStep_spec (acc : List (List Nat)) (o : Oper) : ∀ x ∈ ancStep acc o, ∃ e ∈ o.after.toList, Region.binds .any e = true ∧ (x = e.on ∨ ∃ l, acc[e.on]? = some l ∧ x ∈ l) := by
  unfold ancStep
  have gen : ∀ (es : List Edge) (l0 : List Nat), ∀ x ∈ es.foldl (fun l e => match Region.binds .any e with | true => insN e.on (uniN (match nth acc e.on with | some a => a | none => []) l) | false => l) l0,
      x ∈ l0 ∨ ∃ e ∈ es, Region.binds .any e = true ∧ (x = e.on ∨ ∃ l, acc[e.on]? = some l ∧ x ∈ l) := by
    intro es
    induction es with
    | nil => intro l0 x hx; exact .inl hx
    | cons e es ih =>
      intro l0 x hx
      simp only [List.foldl_cons] at hx
      rcases ih _ x hx with h | ⟨e', he, h⟩
      · split at h
        · rename_i hb
          have h := (insN_mem h).imp id uniN_mem
          rcases h with h | h | h
          · exact .inr ⟨e, by simp, hb, .inl h⟩
          · rw [nth_eq] at h
            split at h
            · rename_i l hl; exact .inr ⟨e, by simp, hb, .inr ⟨l, hl, h⟩⟩
            · cases h
          · exact .inl h
        · exact .inl h
      · exact .inr ⟨e', List.mem_cons_of_mem _ he, h⟩
  intro x hx
  rcases gen _ [] x hx with h | h
  · cases h
  · exact h
theorem ancs_spec (ops : List Oper) : (ancs ops).length = ops.length ∧ ∀ (i : Nat) (l : List Nat) (o : Oper), (ancs ops)[i]? = some l → ops[i]? = some o →
    ∀ x ∈ l, ∃ e ∈ o.after.toList, Region.binds .any e = true ∧ (x = e.on ∨ ∃ l', (ancs ops)[e.on]? = some l' ∧ x ∈ l') := by
  have gen : ∀ (rest done : List Oper) (acc : List (List Nat)), acc.length = done.length →
      (∀ (i : Nat) (l : List Nat) (o : Oper), acc[i]? = some l → done[i]? = some o → ∀ x ∈ l, ∃ e ∈ o.after.toList, Region.binds .any e = true ∧ (x = e.on ∨ ∃ l', acc[e.on]? = some l' ∧ x ∈ l')) →
      let r := rest.foldl (fun acc o => acc ++ [ancStep acc o]) acc
      r.length = (done ++ rest).length ∧ ∀ (i : Nat) (l : List Nat) (o : Oper), r[i]? = some l → (done ++ rest)[i]? = some o → ∀ x ∈ l, ∃ e ∈ o.after.toList, Region.binds .any e = true ∧ (x = e.on ∨ ∃ l', r[e.on]? = some l' ∧ x ∈ l') := by
    intro rest
    induction rest with
    | nil =>
      intro done acc h1 h2
      simp only [List.append_nil, List.foldl_nil]
      exact ⟨h1, h2⟩
    | cons o rest ih =>
      intro done acc h1 h2
      have := ih (done ++ [o]) (acc ++ [ancStep acc o]) (by simp [h1]) (by
        intro i l o' hl ho x hx
        by_cases hi : i < acc.length
        · rw [List.getElem?_append_left hi] at hl
          rw [List.getElem?_append_left (by omega)] at ho
          obtain ⟨e, e1, e2, e3⟩ := h2 i l o' hl ho x hx
          refine ⟨e, e1, e2, e3.imp id ?_⟩
          rintro ⟨l', hl', hx'⟩
          refine ⟨l', ?_, hx'⟩
          rw [List.getElem?_append_left]
          · exact hl'
          · rcases Nat.lt_or_ge e.on acc.length with h | h
            · exact h
            · rw [List.getElem?_eq_none h] at hl'; cases hl'
        · have hil : i = acc.length := by
            rcases Nat.lt_or_ge i (acc ++ [ancStep acc o]).length with h | h
            · simp at h; omega
            · rw [List.getElem?_eq_none h] at hl; cases hl
          subst hil
          rw [List.getElem?_append_right (Nat.le_refl _)] at hl
          rw [List.getElem?_append_right (by omega)] at ho
          simp [h1] at hl ho
          subst hl; subst ho
          obtain ⟨e, e1, e2, e3⟩ := ancStep_spec acc o x hx
          refine ⟨e, e1, e2, e3.imp id ?_⟩
          rintro ⟨l', hl', hx'⟩
          refine ⟨l', ?_, hx'⟩
          rw [List.getElem?_append_left]
          · exact hl'
          · rcases Nat.lt_or_ge e.on acc.length with h | h
            · exact h
            · rw [List.getElem?_eq_none h] at hl'; cases hl')
      simpa using this
  have := gen ops [] [] rfl (by simp)
  simp only [List.nil_append] at this
  exact this

/-- What is asked of a pair of operations, by number. -/
def PairFree (ops : List Oper) (T : Trace) : Prop :=
  ∀ p ∈ T, ∀ q ∈ T, p.1 < q.1 → (∃ l, (ancs ops)[q.1]? = some l ∧ p.1 ∈ l) ∨ (indep p.2 q.2 = true ∧ ∃ x y, ops[p.1]? = some x ∧ ops[q.1]? = some y ∧ apartS ops x y = true)
theorem pairs_spec {ops : List Oper} {T : Trace} (h : pairsS ops T = true) : PairFree ops T := by
  intro p hp q hq hlt
  unfold pairsS at h
  have h1 := List.all_eq_true.1 (List.all_eq_true.1 h p hp) q hq
  split at h1
  · rename_i hb
    have : Nat.blt p.1 q.1 = true := Nat.ble_eq_true_of_le hlt
    rw [this] at hb; cases hb
  · split at h1
    · rename_i hm
      rw [mem_iff, nth_eq] at hm
      split at hm
      · rename_i l hl; exact .inl ⟨l, hl, hm⟩
      · cases hm
    · simp only [Bool.and_eq_true, nth_eq] at h1
      obtain ⟨h2, h3⟩ := h1
      split at h3
      · rename_i x y hx hy; exact .inr ⟨h2, x, y, hx, hy, h3⟩
      · cases h3

theorem number_get {α : Type} : ∀ (l : List α) (k i : Nat), (number k l)[i]? = l[i]?.map fun x => (k + i, x)
  | [], k, i => by simp [number]
  | x :: r, k, 0 => by simp [number]
  | x :: r, k, i + 1 => by
    simp only [number, List.getElem?_cons_succ, number_get r]
    cases r[i]? with
    | none => rfl
    | some y => simp; omega
theorem back_spec {ops : List Oper} (h : backS ops = true) {i : Nat} {o : Oper} (ho : ops[i]? = some o) {e : Edge} (he : e ∈ o.after.toList) (hb : Region.binds .any e = true) : e.on < i := by
  unfold backS at h
  have h1 : (i, o) ∈ number 0 ops := by
    rw [List.mem_iff_getElem?]
    exact ⟨i, by rw [number_get, ho]; simp⟩
  have h2 := List.all_eq_true.1 (List.all_eq_true.1 h _ h1) e he
  simp only [hb] at h2
  exact Nat.le_of_ble_eq_true h2

theorem listed_set {listed : Array Bool} {i k : Nat} (hi : i < listed.size) : (listed.setIfInBounds i true).getD k true = if k = i then true else listed.getD k true := by
  simp only [Array.getD_eq_getD_getElem?]
  by_cases h : k = i
  · subst h; simp [hi]
  · rw [Array.getElem?_setIfInBounds_ne (fun e => h e.symm), if_neg h]

theorem run_any (htt : TTOK Pg tt) (hfs : FsAt Pg cx fs) {ops : Array Oper} {next0 : Nat} {Q : Exit → Act → World → Prop} {s' : Slots} {t' : Tab} (hroot : backS ops.toList = true) (fuel : Nat) :
    ∀ (listed : Array Bool) (T : Trace) (s : Slots) (t : Tab), STrace tt fs n ops.toList next0 T s t s' t' → listed.size = ops.size →
    (∀ i, i < ops.size → (listed.getD i true = false ↔ ∃ p ∈ T, p.1 = i)) → (T.map (·.1)).Pairwise (· < ·) → T.length ≤ fuel → PairFree ops.toList T → (∀ p ∈ T, p.1 < ops.size) →
    (∀ k l, k < ops.size → listed.getD k true = true → (ancs ops.toList)[k]? = some l → ∀ j ∈ l, j < ops.size → listed.getD j true = true) →
    ∀ (P : PHeap) (ε : HMap) (φ : Nat → List Nat) (a : Act) (W : World), Match cx n P ε φ s t a W → Ids ε next0 T →
    (∀ a' W' P' ε' φ', Grew ε ε' next0 T → Match cx n P' ε' φ' s' t' a' W' → Q .normal a' W') →
    wpAny Pg .any ops Q fuel listed a W := by
  induction fuel with
  | zero =>
    intro listed T s t h hsz hT hord hlen hpf hb hcl P ε φ a W M hI hQ
    have : T = [] := List.eq_nil_of_length_eq_zero (by omega)
    subst this
    obtain ⟨hs, ht⟩ := h.nil_inv
    refine ⟨?_, hQ a W P ε φ (fun _ h => .inl h) (M.eqv hs ht)⟩
    unfold Region.ready
    rw [List.filter_eq_nil_iff]
    intro i hi
    rw [List.mem_range] at hi
    have : listed.getD i true ≠ false := fun e => by obtain ⟨p, hp, _⟩ := (hT i hi).1 e; cases hp
    cases hl : listed.getD i true with
    | false => exact absurd hl this
    | true => simp
  | succ fuel ih =>
    intro listed T s t h hsz hT hord hlen hpf hb hcl P ε φ a W M hI hQ
    refine ⟨?_, ?_⟩
    · intro hr
      -- nothing is ready: nothing is left
      have hTe : T = [] := by
        cases T with
        | nil => rfl
        | cons p T =>
        exfalso
        have hpi := hb p (by simp)
        have : p.1 ∈ Region.ready .any ops listed := by
          unfold Region.ready
          rw [List.mem_filter, List.mem_range]
          refine ⟨hpi, ?_⟩
          have h1 : listed.getD p.1 true = false := (hT p.1 hpi).2 ⟨p, by simp, rfl⟩
          have h2 : ops[p.1]? = some ops[p.1] := by simp [hpi]
          rw [h1, h2]
          simp only [Bool.not_false, Bool.true_and, Option.map_some, Option.getD_some]
          rw [Array.all_eq_true_iff_forall_mem]
          intro e he
          cases hbd : Region.binds .any e with
          | false => simp
          | true =>
            simp only [Bool.not_true, Bool.false_or]
            have h3 : e.on < p.1 := back_spec (o := ops[p.1]) hroot (by simp [hpi]) (by simpa using he) hbd
            have h4 : listed.getD e.on true = true := by
              cases hl : listed.getD e.on true with
              | true => rfl
              | false =>
                exfalso
                obtain ⟨q, hq, hqe⟩ := (hT e.on (by omega)).1 hl
                rw [List.map_cons, List.pairwise_cons] at hord
                rcases List.mem_cons.1 hq with rfl | hq
                · omega
                · have := hord.1 q.1 (List.mem_map.2 ⟨q, hq, rfl⟩); omega
            have h5 : e.on < listed.size := by omega
            rw [Array.getD_eq_getD_getElem?, Array.getElem?_eq_getElem h5] at h4 ⊢
            simpa using h4
        rw [hr] at this; cases this
      subst hTe
      obtain ⟨hs, ht⟩ := h.nil_inv
      exact hQ a W P ε φ (fun _ h => .inl h) (M.eqv hs ht)
    · intro i hi
      unfold Region.ready at hi
      rw [List.mem_filter, List.mem_range] at hi
      obtain ⟨hi1, hi2⟩ := hi
      rw [Bool.and_eq_true] at hi2
      obtain ⟨hi2, hi3⟩ := hi2
      have hl : listed.getD i true = false := by simpa using hi2
      obtain ⟨p, hp, hpi⟩ := (hT i hi1).1 hl
      obtain ⟨A, B, hAB⟩ := List.append_of_mem hp
      subst hAB
      have ho0 : ops[i]? = some ops[i] := by simp [hi1]
      have ho : ops.toList[p.1]? = some ops[i] := by rw [hpi]; simp [hi1]
      -- what is bound ahead of i is listed
      have hanc : ∀ l, (ancs ops.toList)[i]? = some l → ∀ j ∈ l, j < ops.size → listed.getD j true = true := by
        intro l hll j hj hjs
        obtain ⟨e, e1, e2, e3⟩ := (ancs_spec ops.toList).2 i l ops[i] hll (by simp [hi1]) j hj
        rw [ho0] at hi3
        simp only [Option.map_some, Option.getD_some] at hi3
        rw [Array.all_eq_true_iff_forall_mem] at hi3
        have he := hi3 e (by simpa using e1)
        rw [e2] at he
        simp only [Bool.not_true, Bool.false_or] at he
        have heon : e.on < ops.size := by
          rcases Nat.lt_or_ge e.on ops.size with h | h
          · exact h
          · rw [Array.getD_eq_getD_getElem?, Array.getElem?_eq_none (by omega)] at he; cases he
        have he' : listed.getD e.on true = true := by
          rw [Array.getD_eq_getD_getElem?] at he ⊢
          rw [Array.getElem?_eq_getElem (by omega)] at he ⊢
          simpa using he
        rcases e3 with rfl | ⟨l', hl', hj'⟩
        · exact he'
        · exact hcl e.on l' heon he' hl' j hj' hjs
      rw [List.map_append, List.map_cons, List.pairwise_append] at hord
      obtain ⟨ord1, ord2, ord3⟩ := hord
      rw [List.pairwise_cons] at ord2
      have hfront : STrace tt fs n ops.toList next0 ((p.1, p.2) :: (A ++ B)) s t s' t' := by
        refine STrace.front ho A B (fun q hq => ?_) h
        have hlt : q.1 < p.1 := ord3 q.1 (List.mem_map.2 ⟨q, hq, rfl⟩) p.1 List.mem_cons_self
        rcases hpf q (by simp [hq]) p (by simp) hlt with ⟨l, hll, hql⟩ | ⟨h1, x, y, hx, hy, h2⟩
        · exfalso
          have hqs := hb q (by simp [hq])
          have h1 : listed.getD q.1 true = false := (hT q.1 hqs).2 ⟨q, by simp [hq], rfl⟩
          rw [hpi] at hll
          rw [hanc l hll q.1 hql hqs] at h1
          cases h1
        · rw [ho] at hy; cases hy
          exact ⟨x, hx, h1, h2⟩
      obtain ⟨o, s1, t1, ho', h1, h2⟩ := hfront.cons_inv
      simp only at ho' h1
      rw [ho] at ho'; cases ho'
      have hne : ∀ q ∈ A ++ B, q.1 ≠ p.1 := by
        intro q hq e
        rcases List.mem_append.1 hq with hq | hq
        · have := ord3 q.1 (List.mem_map.2 ⟨q, hq, rfl⟩) p.1 List.mem_cons_self; omega
        · have := ord2.1 q.1 (List.mem_map.2 ⟨q, hq, rfl⟩); omega
      have hin : ∀ q ∈ A ++ B, q ∈ A ++ p :: B := fun q hq => by
        rcases List.mem_append.1 hq with hq | hq
        · exact List.mem_append_left _ hq
        · exact List.mem_append_right _ (List.mem_cons_of_mem _ hq)
      have hil : i < listed.size := by omega
      rw [← hpi]
      refine run_op htt hfs ho h1 M (hI p (by simp)) fun a' W' P' ε' φ' hε M' => ?_
      refine ih (listed.setIfInBounds p.1 true) (A ++ B) s1 t1 h2 (by simpa using hsz) ?_ ?_ ?_ ?_ ?_ ?_ P' ε' φ' a' W' M' ?_ ?_
      · intro k hk
        rw [hpi, listed_set hil]
        by_cases hki : k = i
        · rw [if_pos hki]
          constructor
          · intro h; cases h
          · rintro ⟨q, hq, e⟩; exact absurd (e.trans (hki.trans hpi.symm)) (hne q hq)
        · rw [if_neg hki, hT k hk]
          constructor
          · rintro ⟨q, hq, e⟩
            refine ⟨q, ?_, e⟩
            rcases List.mem_append.1 hq with hq | hq
            · exact List.mem_append_left _ hq
            · rcases List.mem_cons.1 hq with hq | hq
              · exfalso; rw [hq, hpi] at e; exact hki e.symm
              · exact List.mem_append_right _ hq
          · rintro ⟨q, hq, e⟩; exact ⟨q, hin q hq, e⟩
      · rw [List.map_append, List.pairwise_append]
        exact ⟨ord1, ord2.2, fun a ha b hb => ord3 a ha b (List.mem_cons_of_mem _ hb)⟩
      · simp at hlen ⊢; omega
      · exact fun q hq r hr => hpf q (hin q hq) r (hin r hr)
      · exact fun q hq => hb q (hin q hq)
      · intro k l hk hkl hll j hj hjs
        rw [hpi, listed_set hil] at hkl ⊢
        by_cases hji : j = i
        · rw [if_pos hji]
        · rw [if_neg hji]
          by_cases hki : k = i
          · rw [hki] at hll; exact hanc l hll j hj hjs
          · rw [if_neg hki] at hkl; exact hcl k l hk hkl hll j hj hjs
      · exact Ids.step (fun q hq => hI q (hin q hq)) hne hε
      · intro a2 W2 P2 ε2 φ2 h2' M2
        refine hQ a2 W2 P2 ε2 φ2 (fun c hc => ?_) M2
        rcases h2' c hc with h | ⟨q, hq, h⟩
        · rcases hε c h with h | h
          · exact .inl h
          · exact .inr ⟨p, by simp, h⟩
        · exact .inr ⟨q, hin q hq, h⟩
end
end Go.Sx
