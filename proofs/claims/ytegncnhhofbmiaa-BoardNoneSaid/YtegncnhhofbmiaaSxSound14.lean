/- A walk of Go code by plain functions is sound. -/
import Derived.Test.YtegncnhhofbmiaaSxSound13
import Derived.Test.YtegncnhhofbmiaaSxExec
namespace Go.Sx

/-! ### Operations look at their operands alone -/
theorem opP_congr (tt : TT) (fs : List Fun) {s s' : Slots} (o : Oper) (fresh : Nat) (h : ∀ x ∈ o.op.operands, ev s x = ev s' x) : opP tt fs s o fresh = opP tt fs s' o fresh := by
  obtain ⟨dst, op, ty, pos, after, guard⟩ := o
  have pairs : ∀ ps : Array (Nat × Operand), (∀ x ∈ (ps.toList.map (·.2)).toArray, ev s x = ev s' x) → (ps.toList.map fun p => (p.1, ev s p.2)) = (ps.toList.map fun p => (p.1, ev s' p.2)) := fun ps hp =>
    List.map_congr_left fun p hm => by rw [hp p.2 (by simp; exact ⟨p.1, by simpa using hm⟩)]
  have opts : ∀ o : Option Operand, (∀ x ∈ o.toArray, ev s x = ev s' x) → o.map (ev s) = o.map (ev s') := fun o ho => by
    cases o with
    | none => rfl
    | some x => simp [ho x (by simp)]
  cases op <;> simp only [Op.operands] at h <;> simp only [opP]
  case move x => rw [h x (by simp)]
  case assign x => rw [h x (by simp)]
  case pick c x y => rw [h c (by simp), h x (by simp), h y (by simp)]
  case box t x => rw [h x (by simp)]
  case build t ps => rw [pairs ps h]
  case buildSlice t n ps => rw [pairs ps h]
  case load t x => rw [h x (by simp)]
  case store t x y => rw [h x (by simp), h y (by simp)]
  case nilCheck x => rw [h x (by simp)]
  case binOp op t x y yt => rw [h x (by simp), h y (by simp)]
  case unOp op t x => rw [h x (by simp)]
  case convert a b x => rw [h x (by simp)]
  case slice t x lo hi mx =>
    rw [h x (by simp), opts lo (fun y hy => h y (by simp at hy ⊢; simp [hy])), opts hi (fun y hy => h y (by simp at hy ⊢; simp [hy])), opts mx (fun y hy => h y (by simp at hy ⊢; simp [hy]))]
  case fieldAddr t x f => rw [h x (by simp)]
  case field t x f => rw [h x (by simp)]
  case indexAddr t x ix => rw [h x (by simp), h ix (by simp)]
  case index t x ix => rw [h x (by simp), h ix (by simp)]
  case extract x i => rw [h x (by simp)]
  case range t x => rw [h x (by simp)]
  case entry x => rw [h x (by simp)]
  case makeSlice t l c => rw [h l (by simp), h c (by simp)]
  case makeMap t r =>
    cases r with
    | none => cases mapTy tt t <;> rfl
    | some r => have := h r (by simp); cases mapTy tt t <;> simp only [this]
  case lookup t x ix ok => rw [h x (by simp), h ix (by simp)]
  case mapUpdate t x ix y => rw [h x (by simp), h ix (by simp), h y (by simp)]
  case mapEntry t x ix => rw [h x (by simp), h ix (by simp)]
  case entryStore t x ix y => rw [h x (by simp), h ix (by simp), h y (by simp)]
  case next x b => rw [h x (by simp)]
  case makeFunc fn first captured =>
    split
    · rename_i f x hx hc; rw [h x (Array.mem_append.2 (.inl (Array.mem_def.2 (by rw [hx]; simp))))]
    · rename_i f x hx hc; rw [h x (Array.mem_append.2 (.inr (Array.mem_def.2 (by rw [hc]; simp))))]
    · rfl
  case sliceToArrayPointer t x => rw [h x (by simp)]
  case call c =>
    obtain ⟨callee, args, ats⟩ := c
    have ha : ∀ x ∈ args.toList, ev s x = ev s' x := fun x hx => h x (by simp [Call.operands]; right; simpa using hx)
    have hmap : (args.toList.map fun x => ownV (ev s x)) = args.toList.map fun x => ownV (ev s' x) := List.map_congr_left fun x hx => by rw [ha x hx]
    simp only
    rw [hmap]
    split
    · split
      · rename_i x t hx _; rw [ha x (by rw [hx]; simp)]
      · rfl
    · split
      · rename_i x y t u hx _; rw [ha x (by rw [hx]; simp), ha y (by rw [hx]; simp)]
      · rfl
    · split
      · rename_i x t hx _; rw [ha x (by rw [hx]; simp)]
      · rfl
    · split
      · rename_i x y hx; rw [ha x (by rw [hx]; simp), ha y (by rw [hx]; simp)]
      · rfl
    · split
      · rename_i x y hx; rw [ha x (by rw [hx]; simp), ha y (by rw [hx]; simp)]
      · rfl
    · split
      · rename_i x y t u hx _; rw [ha x (by rw [hx]; simp), ha y (by rw [hx]; simp)]
      · rfl
    · rfl
    · rename_i t; rw [h (.tmp t) (by simp [Call.operands])]
    · rfl

def Slots.eqv (s s' : Slots) : Prop := ∀ t, s.at t = s'.at t
theorem Slots.eqv_refl (s : Slots) : Slots.eqv s s := fun _ => rfl
theorem Slots.eqv_ev {s s' : Slots} (h : Slots.eqv s s') (x : Operand) : ev s x = ev s' x := by
  cases x with
  | tmp t => exact h t
  | _ => rfl
theorem at_set_same (s : Slots) (d : Nat) (v : SV) : Slots.at (Map.set s d v) d = v := by simp [Slots.at, Map.get_set_same]
theorem at_set_other (s : Slots) {d t : Nat} (v : SV) (h : d ≠ t) : Slots.at (Map.set s d v) t = s.at t := by simp [Slots.at, Map.get_set_other _ _ h]
theorem at_putS (s : Slots) (dst : Option Nat) (v : SV) (t : Nat) : (putS s dst v).at t = if dst = some t then v else s.at t := by
  cases dst with
  | none => simp [putS]
  | some d =>
    by_cases h : d = t
    · subst h; simp [putS, at_set_same]
    · simp [putS, h, at_set_other _ _ h]
theorem Slots.eqv_put {s s' : Slots} (h : Slots.eqv s s') (dst : Option Nat) (v : SV) : Slots.eqv (putS s dst v) (putS s' dst v) := fun t => by
  rw [at_putS, at_putS, h t]
theorem put_comm {s : Slots} {d e : Option Nat} {v u : SV} (h : ∀ x, d = some x → e ≠ some x) : Slots.eqv (putS (putS s d v) e u) (putS (putS s e u) d v) := fun t => by
  rw [at_putS, at_putS, at_putS, at_putS]
  by_cases h1 : e = some t
  · by_cases h2 : d = some t
    · exact absurd h1 (h t h2)
    · simp [h1, h2]
  · simp [h1]

/-- Is an operation wanted? (none: it can't be told) -/
def wantedV (ops : List Oper) (s : Slots) (g : Option (Nat × Bool)) : Option Bool :=
  match g with
  | none => some true
  | some (j, want) => match nth ops j with
    | some oj => match oj.dst with
      | some d => match s.at d with
        | .one (.bool b) => some (b == want)
        | .one (.const v) => match v with | .tuple _ => some false | _ => none
        | _ => none
      | none => some false
    | none => some false

def undefSV : SV := .one (.const (.tuple #[]))

/-- One operation of a region, in a state. -/
def SRun (tt : TT) (fs : List Fun) (n : Nat) (ops : List Oper) (o : Oper) (fresh : Nat) (s : Slots) (t : Tab) (s' : Slots) (t' : Tab) (acc : List Nat × List Nat) : Prop :=
  slotsIn n o.dst = true ∧
  ((wantedV ops s o.guard = some true ∧ ∃ sv, (opP tt fs s o fresh).run t = some (sv, t') ∧ (∀ c, (c ∈ acc.1 ↔ c ∈ ((opP tt fs s o fresh).touches t).1) ∧ (c ∈ acc.2 ↔ c ∈ ((opP tt fs s o fresh).touches t).2)) ∧ Slots.eqv s' (putS s o.dst sv)) ∨
   (wantedV ops s o.guard = some false ∧ t' = t ∧ acc = ([], []) ∧ Slots.eqv s' (putS s o.dst undefSV)))

inductive STrace (tt : TT) (fs : List Fun) (n : Nat) (ops : List Oper) (next0 : Nat) : Trace → Slots → Tab → Slots → Tab → Prop where
  | nil {s s' : Slots} {t t' : Tab} (hs : Slots.eqv s' s) (ht : Tab.eqv t' t) : STrace tt fs n ops next0 [] s t s' t'
  | cons {i : Nat} {o : Oper} {acc : List Nat × List Nat} {T : Trace} {s s1 s' : Slots} {t t1 t' : Tab} (ho : ops[i]? = some o)
      (h1 : SRun tt fs n ops o (next0 + i * stride) s t s1 t1 acc) (h2 : STrace tt fs n ops next0 T s1 t1 s' t') : STrace tt fs n ops next0 ((i, acc.1, acc.2) :: T) s t s' t'

theorem wantedV_congr {ops : List Oper} {s s' : Slots} (g : Option (Nat × Bool)) (h : ∀ j w oj d, g = some (j, w) → ops[j]? = some oj → oj.dst = some d → s.at d = s'.at d) : wantedV ops s g = wantedV ops s' g := by
  unfold wantedV
  cases g with
  | none => rfl
  | some p =>
    obtain ⟨j, w⟩ := p
    simp only [nth_eq]
    cases hj : ops[j]? with
    | none => rfl
    | some oj =>
      simp only
      cases hd : oj.dst with
      | none => rfl
      | some d => simp only [h j w oj d rfl hj hd]

theorem SRun.congr {tt : TT} {fs : List Fun} {n : Nat} {ops : List Oper} {o : Oper} {fresh : Nat} {s s1 s2 : Slots} {t t1 t2 : Tab} {acc : List Nat × List Nat} (h : SRun tt fs n ops o fresh s t s1 t1 acc)
    (hs : Slots.eqv s2 s) (ht : Tab.eqv t2 t) : ∃ t3, SRun tt fs n ops o fresh s2 t2 s1 t3 acc ∧ Tab.eqv t3 t1 := by
  obtain ⟨h0, h⟩ := h
  have hw : wantedV ops s2 o.guard = wantedV ops s o.guard := wantedV_congr _ fun j w oj d _ _ _ => hs d
  have ho : opP tt fs s2 o fresh = opP tt fs s o fresh := opP_congr tt fs o fresh fun x _ => Slots.eqv_ev hs x
  rcases h with ⟨h1, sv, h2, h3, h4⟩ | ⟨h1, h2, h3, h4⟩
  · obtain ⟨t3, k1, k2, k3, k4⟩ := Prog.run_local (opP tt fs s o fresh) t t2 t1 sv h2 (fun c _ => (ht c).symm)
    refine ⟨t3, ⟨h0, .inl ⟨by rw [hw]; exact h1, sv, by rw [ho]; exact k1, by rw [ho, k2]; exact h3, fun u => by rw [h4 u]; exact (Slots.eqv_put hs o.dst sv u).symm⟩⟩, fun c => ?_⟩
    by_cases hc : c ∈ ((opP tt fs s o fresh).touches t).2
    · exact k3 c hc
    · rw [(k4 c hc).1, (k4 c hc).2]; exact ht c
  · exact ⟨t2, ⟨h0, .inr ⟨by rw [hw]; exact h1, rfl, h3, fun u => by rw [h4 u]; exact (Slots.eqv_put hs o.dst _ u).symm⟩⟩, by rw [h2]; exact ht⟩

theorem STrace.congr {tt : TT} {fs : List Fun} {n : Nat} {ops : List Oper} {next0 : Nat} {T : Trace} {s s' : Slots} {t t' : Tab} (h : STrace tt fs n ops next0 T s t s' t') :
    ∀ {s2 : Slots} {t2 : Tab}, Slots.eqv s2 s → Tab.eqv t2 t → STrace tt fs n ops next0 T s2 t2 s' t' := by
  induction h with
  | nil hs ht => exact fun h1 h2 => .nil (fun u => by rw [hs u]; exact (h1 u).symm) (fun c => by rw [ht c]; exact (h2 c).symm)
  | cons ho h1 h2 ih =>
    intro s2 t2 hs ht
    obtain ⟨t3, k1, k2⟩ := h1.congr hs ht
    exact .cons ho k1 (ih (Slots.eqv_refl _) k2)

theorem disj_congr {a a' b b' : List Nat} (ha : ∀ c, c ∈ a' → c ∈ a) (hb : ∀ c, c ∈ b' → c ∈ b) (h : disj a b = true) : disj a' b' = true := by
  have := disj_spec h
  unfold disj
  rw [List.all_eq_true]; intro x hx
  rw [List.all_eq_true]; intro y hy
  cases hxy : Nat.beq x y with
  | false => rfl
  | true => exact absurd (hb y hy) (nbeq_true hxy ▸ this x (ha x hx))

theorem mem_looks_op {ops : List Oper} {o : Oper} {d : Nat} (h : Operand.tmp d ∈ o.op.operands) : d ∈ looks ops o := by
  have h1 : d ∈ opTmps o := by
    unfold opTmps
    rw [List.mem_filterMap]
    exact ⟨.tmp d, by simpa using h, rfl⟩
  unfold looks
  split
  · split
    · split
      · exact List.mem_cons_of_mem _ h1
      · exact h1
    · exact h1
  · exact h1
theorem mem_looks_guard {ops : List Oper} {o : Oper} {j d : Nat} {w : Bool} {oj : Oper} (hg : o.guard = some (j, w)) (hj : ops[j]? = some oj) (hd : oj.dst = some d) : d ∈ looks ops o := by
  unfold looks
  rw [hg]
  simp only [nth_eq, hj, hd]
  exact List.mem_cons_self
theorem dst_mem {o : Oper} {d : Nat} (h : o.dst = some d) : d ∈ dstL o := by unfold dstL; rw [h]; simp

/-- An operation that another one has nothing to do with. -/
theorem put_quiet {tt : TT} {fs : List Fun} {ops : List Oper} {x y : Oper} (h : disj (dstL x) (looks ops y) = true) (s : Slots) (v : SV) (fresh : Nat) :
    opP tt fs (putS s x.dst v) y fresh = opP tt fs s y fresh ∧ wantedV ops (putS s x.dst v) y.guard = wantedV ops s y.guard := by
  have hd := disj_spec h
  have key : ∀ d, d ∈ looks ops y → (putS s x.dst v).at d = s.at d := by
    intro d hl
    rw [at_putS, if_neg]
    intro e
    exact hd d (dst_mem e) hl
  refine ⟨opP_congr tt fs y fresh fun z hz => ?_, wantedV_congr _ fun j w oj d hg hj hdd => key d (mem_looks_guard hg hj hdd)⟩
  cases z with
  | tmp d => exact key d (mem_looks_op hz)
  | _ => rfl

/-- Two that are apart change places. -/
theorem STrace.swap {tt : TT} {fs : List Fun} {n : Nat} {ops : List Oper} {next0 : Nat} {T : Trace} {s s' : Slots} {t t' : Tab} {i j : Nat} {a b : List Nat × List Nat} {x y : Oper}
    (hx : ops[i]? = some x) (hy : ops[j]? = some y) (hi : indep a b = true) (hap : apartS ops x y = true)
    (h : STrace tt fs n ops next0 ((i, a) :: (j, b) :: T) s t s' t') : STrace tt fs n ops next0 ((j, b) :: (i, a) :: T) s t s' t' := by
  cases h with
  | @cons _ o1 acc1 _ _ s1 _ _ t1 _ ho1 h1 h2 =>
    cases h2 with
    | @cons _ o2 acc2 _ _ s2 _ _ t2 _ ho2 h3 h4 =>
      rw [hx] at ho1; cases ho1
      rw [hy] at ho2; cases ho2
      simp only [apartS, Bool.and_eq_true] at hap
      obtain ⟨⟨ap1, ap2⟩, ap3⟩ := hap
      have ap3' : disj (dstL y) (looks ops x) = true := by
        have := disj_spec ap3
        unfold disj
        rw [List.all_eq_true]; intro u hu
        rw [List.all_eq_true]; intro w hw
        cases huw : Nat.beq u w with
        | false => rfl
        | true => exact absurd hu (nbeq_true huw ▸ this w hw)
      have dne : ∀ d, x.dst = some d → y.dst ≠ some d := fun d h1 h2 => disj_spec ap2 d (dst_mem h1) (dst_mem h2)
      obtain ⟨g1, h1⟩ := h1
      obtain ⟨g3, h3⟩ := h3
      -- y in the first state
      have first : ∀ v, Slots.eqv s1 (putS s x.dst v) → opP tt fs s1 y (next0 + j * stride) = opP tt fs s y (next0 + j * stride) ∧ wantedV ops s1 y.guard = wantedV ops s y.guard := by
        intro v hv
        obtain ⟨q1, q2⟩ := put_quiet (tt := tt) (fs := fs) ap1 s v (next0 + j * stride)
        exact ⟨(opP_congr tt fs y _ fun z _ => Slots.eqv_ev hv z).trans q1, (wantedV_congr _ fun _ _ _ d _ _ _ => hv d).trans q2⟩
      have second : ∀ u, opP tt fs (putS s y.dst u) x (next0 + i * stride) = opP tt fs s x (next0 + i * stride) ∧ wantedV ops (putS s y.dst u) x.guard = wantedV ops s x.guard := fun u => put_quiet ap3' s u _
      rcases h1 with ⟨w1, sv1, r1, c1, e1⟩ | ⟨w1, r1, c1, e1⟩ <;> rcases h3 with ⟨w3, sv3, r3, c3, e3⟩ | ⟨w3, r3, c3, e3⟩
      · obtain ⟨f1, f2⟩ := first sv1 e1
        rw [f1] at r3 c3
        rw [f2] at w3
        have hi' : indep ((opP tt fs s x (next0 + i * stride)).touches t) ((opP tt fs s y (next0 + j * stride)).touches t1) = true := by
          simp only [indep, Bool.and_eq_true] at hi ⊢
          exact ⟨⟨disj_congr (fun c hc => (c1 c).2.2 hc) (fun c hc => (c3 c).1.2 hc) hi.1.1, disj_congr (fun c hc => (c1 c).2.2 hc) (fun c hc => (c3 c).2.2 hc) hi.1.2⟩,
            disj_congr (fun c hc => (c1 c).1.2 hc) (fun c hc => (c3 c).2.2 hc) hi.2⟩
        obtain ⟨t3, t4, m1, m2, m3, m4, m5⟩ := Prog.swap _ _ t t1 t2 sv1 sv3 r1 r3 hi'
        obtain ⟨p1, p2⟩ := second sv3
        refine .cons (s1 := putS s y.dst sv3) hy ⟨g3, .inl ⟨w3, sv3, m1, by rw [m4]; exact c3, Slots.eqv_refl _⟩⟩
          (.cons (s1 := putS (putS s y.dst sv3) x.dst sv1) hx ⟨g1, .inl ⟨by rw [p2]; exact w1, sv1, by rw [p1]; exact m2, by rw [p1, m5]; exact c1, Slots.eqv_refl _⟩⟩ (h4.congr ?_ m3))
        intro u
        rw [e3 u, ← put_comm dne u]; exact (Slots.eqv_put e1 y.dst sv3 u).symm
      · obtain ⟨f1, f2⟩ := first sv1 e1
        rw [f2] at w3
        obtain ⟨p1, p2⟩ := second undefSV
        subst r3
        refine .cons (s1 := putS s y.dst undefSV) hy ⟨g3, .inr ⟨w3, rfl, c3, Slots.eqv_refl _⟩⟩
          (.cons (s1 := putS (putS s y.dst undefSV) x.dst sv1) hx ⟨g1, .inl ⟨by rw [p2]; exact w1, sv1, by rw [p1]; exact r1, by rw [p1]; exact c1, Slots.eqv_refl _⟩⟩ (h4.congr ?_ (fun _ => rfl)))
        intro u
        rw [e3 u, ← put_comm dne u]; exact (Slots.eqv_put e1 y.dst undefSV u).symm
      · obtain ⟨f1, f2⟩ := first undefSV e1
        rw [f1] at r3 c3
        rw [f2] at w3
        subst r1
        obtain ⟨p1, p2⟩ := second sv3
        refine .cons (s1 := putS s y.dst sv3) hy ⟨g3, .inl ⟨w3, sv3, r3, c3, Slots.eqv_refl _⟩⟩
          (.cons (s1 := putS (putS s y.dst sv3) x.dst undefSV) hx ⟨g1, .inr ⟨by rw [p2]; exact w1, rfl, c1, Slots.eqv_refl _⟩⟩ (h4.congr ?_ (fun _ => rfl)))
        intro u
        rw [e3 u, ← put_comm dne u]; exact (Slots.eqv_put e1 y.dst sv3 u).symm
      · obtain ⟨f1, f2⟩ := first undefSV e1
        rw [f2] at w3
        subst r1; subst r3
        obtain ⟨p1, p2⟩ := second undefSV
        refine .cons (s1 := putS s y.dst undefSV) hy ⟨g3, .inr ⟨w3, rfl, c3, Slots.eqv_refl _⟩⟩
          (.cons (s1 := putS (putS s y.dst undefSV) x.dst undefSV) hx ⟨g1, .inr ⟨by rw [p2]; exact w1, rfl, c1, Slots.eqv_refl _⟩⟩ (h4.congr ?_ (fun _ => rfl)))
        intro u
        rw [e3 u, ← put_comm dne u]; exact (Slots.eqv_put e1 y.dst undefSV u).symm

/-- One that is apart from all ahead of it comes first. -/
theorem STrace.front {tt : TT} {fs : List Fun} {n : Nat} {ops : List Oper} {next0 : Nat} {i : Nat} {a : List Nat × List Nat} {x : Oper} (hx : ops[i]? = some x) : ∀ (A B : Trace) {s s' : Slots} {t t' : Tab},
    (∀ p ∈ A, ∃ y, ops[p.1]? = some y ∧ indep p.2 a = true ∧ apartS ops y x = true) → STrace tt fs n ops next0 (A ++ (i, a) :: B) s t s' t' → STrace tt fs n ops next0 ((i, a) :: (A ++ B)) s t s' t'
  | [], B, _, _, _, _, _, h => h
  | p :: A, B, s, s', t, t', hA, h => by
    obtain ⟨y, hy, h1, h2⟩ := hA p (by simp)
    obtain ⟨j, b⟩ := p
    have h' : STrace tt fs n ops next0 ((j, b) :: (i, a) :: (A ++ B)) s t s' t' := by
      cases h with
      | cons ho k1 k2 => exact .cons ho k1 (STrace.front hx A B (fun p hp => hA p (List.mem_cons_of_mem _ hp)) k2)
    exact h'.swap hy hx h1 h2

end Go.Sx
