/- One struct, laid into a slice and appended to none: the slice at one of its cells stays one's own. -/
import Derived.Test.YtegncnhhofbmiaaSxFun
open Go Go.Sx
namespace Go.Sx
section
variable {Pg : Program} {tt : TT} {cx : Cx} {P : PHeap} {ε : HMap} {φ : Nat → List Nat} {tab : Tab} {W : World}
theorem build1_run (I : Inv cx P ε φ tab W) {t e : Nat} {d ed : TD} (hd : tdOf Pg t = some d) (hk : d.kind = .slice e) (hed : tdOf Pg e = some ed) {z : Value} (hz : ed.zero = some z) (hzq : z.cells.size = ed.size) (c2 : 1 ≤ ed.size) (c3 : ed.size ≤ 65536)
    {vs r : List S1} {v : Value} (hv : DenV P ε (.agg vs) v) (hr : fillS (fun i => some (i * ed.size, ed.size)) (repL 1 (cellsOfV z)) [(0, .agg vs)] = some r) :
    ∃ cs' : Array Value, (Instr.buildSlice t 1 #[(0, v)]).run Pg W = .ok (.slice (some ⟨W.heap.size, 0, none⟩) 1 1) { W with heap := W.heap.push (.cells cs' e) } ∧ DenL P ε r cs'.toList := by
  have hu := td_slice hd hk
  have hz0 := td_zero hed hz W
  have hzs : 0 < z.cells.size := by omega
  have hden := repL_den (cellsOfV_den P ε z) 1
  obtain ⟨cs', f1, f2⟩ := fill_sound I (fun i => some (i * ed.size, ed.size)) [(0, .agg vs)] [(0, v)] _ (repL 1 z.cells.toList).toArray (by simpa using hden) rfl (fun i p q hp hq => by
    cases i with
    | zero =>
      have hp : some (0, SV.agg vs) = some p := hp
      have hq : some (0, v) = some q := hq
      cases hp; cases hq
      exact ⟨rfl, hv⟩
    | succ i => simp at hp) r hr
  refine ⟨cs', ?_, f2⟩
  have hsmall : ¬ 1 * ed.size > 2 ^ 24 := by omega
  have h0 : ¬ (1 * ed.size = 0) := by omega
  have hz1 := zeros_eq z.cells 1 hzs
  unfold Instr.buildSlice
  simp only [Sem.run_bind, run_underlying hu, td_size hed, Result.andThen_ok, hsmall, h0, if_false, hz0]
  rw [hzq] at hz1
  simp only [Sem.run_pure, Result.andThen_ok, hzq, hz1, f1]
  simp only [newRow, newObj]
  simp [Sem.run]
theorem append1_run {t u e : Nat} {d ud ed : TD} (ht : tdOf Pg t = some d) (hk : d.kind = .slice e) (hu : tdOf Pg u = some ud) (huk : ∀ k, ud.kind ≠ .int k) (he : tdOf Pg e = some ed)
    {z : Value} (hz : ed.zero = some z) (hb : ed.bytes ≤ 16384) {b : Nat} {cs : Array Value} {T : Nat} {fz : Nat × Nat} (hblk : W.heap[b]? = some (.cells cs T fz)) (hcs : cs.size = ed.size) (a : Option Addr) (cap1 : Nat) (ty : Nat) :
    ∃ N, 1 ≤ N ∧ N ≤ maxLen ∧ (Builtin.append_ #[t, u] ty #[.slice a 0 0, .slice (some ⟨b, 0, none⟩) 1 cap1]).run Pg W = .ok (.slice (some ⟨W.heap.size, 0, none⟩) 1 N)
      { W with drawn := W.drawn + 1, heap := W.heap.push (.cells (cs ++ Builtin.zeroCells z.cells (N - 1)) e) } := by
  have hut := td_slice ht hk
  obtain ⟨desc, hud⟩ : ∃ desc, Pg.underlying u = some desc := by obtain ⟨i, desc, _, h2, _⟩ := td_facts hu; exact ⟨desc, h2⟩
  have hnoint : ∀ k, desc ≠ .int k := by
    intro k hk'
    obtain ⟨i, desc', _, h2, h3, _⟩ := td_facts hu
    rw [hud] at h2; cases h2
    subst hk'
    exact huk _ h3
  have hm := isInt_false desc hnoint
  have hsz := td_size he
  obtain ⟨i, hi, hi1, hi2, hi3⟩ := td_info he
  have room : ¬ (Builtin.nextslicecap 1 0 * ed.bytes > 2 ^ 48) := by
    have h1 := nextcap_le 1 0 (by omega)
    have h2 : Builtin.nextslicecap 1 0 * ed.bytes ≤ (2 * 1 + 768) * 16384 := Nat.mul_le_mul (by omega) hb
    omega
  obtain ⟨N, hNN⟩ : ∃ N, N = grownCap W 1 0 e := ⟨_, rfl⟩
  have hN1 : 1 ≤ N := by rw [hNN]; exact grownCap_ge W _ _ e
  have hN2 : N ≤ maxLen := by rw [hNN]; exact grownCap_le_maxLen W _ _ e (by simp only [maxLen]; omega)
  refine ⟨N, hN1, hN2, ?_⟩
  have hf2 : (Builtin.firstCells ed.size 1 (.slice (some ⟨b, 0, none⟩) 1 cap1)).run Pg W.drew = .ok cs W.drew := by
    have := run_loadCells_list (P := Pg) W.drew ⟨b, 0, none⟩ cs.toList (fun j v hj => by
      show W.cell? _ = _
      unfold World.cell?
      simp only [add_none, hblk]
      simpa using hj)
    simp only [Array.length_toList, hcs] at this
    simpa [Builtin.firstCells] using this
  have hf1 : (Builtin.firstCells ed.size 0 (.slice a 0 0)).run Pg W.drew = .ok #[] W.drew := by
    cases a <;> simp [Builtin.firstCells, loadCells, loadCellsFrom]
  have hz0 := td_zero he hz W.drew
  have hti : ∀ w', (typeInfo e).run Pg w' = .ok i w' := fun w' => by simp [typeInfo, hi]
  have k2 : ¬ (281474976710656 < Builtin.nextslicecap 1 0 * i.bytes) := by rw [← hi2]; omega
  have k3 : (Question.appendCap 1 0 e).forced = false := rfl
  have hy1 : (Builtin.lenOf (.slice (some ⟨b, 0, none⟩) 1 cap1)).run Pg W = .ok 1 W := rfl
  unfold Builtin.append_
  simp only [List.getElem?_toArray, List.getElem?_cons_zero, List.getElem?_cons_succ, Sem.run_bind, run_underlying hut, run_underlying hud, hsz, Result.andThen_ok]
  simp [hy1, hti, k2, k3, hf1, hf2, hz0]
  simp only [newRow, newObj]
  simp [Sem.run, hNN, grownCap]
  refine ⟨?_, ?_, ?_⟩ <;> rfl
theorem Inv.frozen (I : Inv cx P ε φ tab W) {W' : World} (hE : Ext [] W W' cx.td) (b : Nat) (o : Obj) (hb : W.heap.size ≤ b) (ho : W'.heap[b]? = some o) :
    ∃ P' : PHeap, P.le P' ∧ P' b = some o ∧ Inv cx P' ε φ tab W' := by
  let P' : PHeap := fun z => if z = b then some o else P z
  have hPb : P b = none := P_new I hb
  have hle : P.le P' := fun z q hz => by
    have : z ≠ b := fun e => by rw [e, hPb] at hz; cases hz
    show (if z = b then _ else _) = _
    rw [if_neg this]; exact hz
  have hPb' : P' b = some o := if_pos rfl
  refine ⟨P', hle, hPb', I.step [] (fun _ => False) (by simp) hE hle ?_ ?_ (fun _ _ h => h) (fun c x hc _ => ⟨hc, rfl, by simp⟩) (fun _ _ _ h => h.elim) (fun _ _ _ _ h => h.elim) (fun d w h h' => by rw [h'] at h; cases h)⟩
  · intro z q hz
    by_cases e : z = b
    · subst e; rw [hPb'] at hz; cases hz; exact ho
    · have hz : (if z = b then some o else P z) = some q := hz
      rw [if_neg e] at hz
      exact psub_ext I Held.nil hE z q hz
  · intro z hz
    by_cases e : z = b
    · subst e; exact .inr (.inr hb)
    · have hz : (if z = b then some o else P z) ≠ none := hz
      rw [if_neg e] at hz
      exact .inl hz
theorem one_row (I : Inv cx P ε φ tab W) {t u e : Nat} {d ud ed : TD} (hd : tdOf Pg t = some d) (hk : d.kind = .slice e) (hu : tdOf Pg u = some ud) (huk : ∀ k, ud.kind ≠ .int k) (hed : tdOf Pg e = some ed) {z : Value} (hz : ed.zero = some z) (hzq : z.cells.size = ed.size) (c2 : 1 ≤ ed.size) (c3 : ed.size ≤ 65536) (hb : ed.bytes ≤ 16384)
    {vs r : List S1} {v : Value} (hv : DenV P ε (.agg vs) v) (hr : fillS (fun i => some (i * ed.size, ed.size)) (repL 1 (cellsOfV z)) [(0, .agg vs)] = some r) (hrl : r.length = ed.size) {off c : Nat} (hc : r[off]? = some (.own c)) (a : Option Addr) (ty : Nat) :
    ∃ v1 W1 v2 W2 P', (Instr.buildSlice t 1 #[(0, v)]).run Pg W = .ok v1 W1 ∧ (Builtin.append_ #[t, u] ty #[.slice a 0 0, v1]).run Pg W1 = .ok v2 W2 ∧ P.le P' ∧ Inv cx P' ε φ tab W2 ∧ Den P' ε (.rs1 off c 1) v2 := by
  obtain ⟨cs', b1, b2⟩ := build1_run I hd hk hed hz hzq c2 c3 hv hr
  have hsz : cs'.size = ed.size := by have := b2.length; simp only [Array.length_toList] at this; omega
  let W1 : World := { W with heap := W.heap.push (.cells cs' e) }
  have hblk : W1.heap[W.heap.size]? = some (.cells cs' e (0, 0)) := by simp [W1]
  obtain ⟨N, n1, n2, n3⟩ := append1_run (W := W1) hd hk hu huk hed hz hb hblk hsz a 1 ty
  let o2 : Obj := .cells (cs' ++ Builtin.zeroCells z.cells (N - 1)) e
  let W2 : World := { W1 with drawn := W1.drawn + 1, heap := W1.heap.push o2 }
  have hs1 : W1.heap.size = W.heap.size + 1 := by simp [W1]
  have hE : Ext [] W W2 cx.td := by
    refine ⟨by simp [W2, W1]; omega, fun z hz _ => ?_, rfl, rfl, fun _ => ⟨rfl, Nat.le_succ _⟩⟩
    show (W1.heap.push o2)[z]? = _
    rw [Array.getElem?_push, if_neg (by omega)]
    show (W.heap.push _)[z]? = _
    rw [Array.getElem?_push, if_neg (by omega)]
  have ho2 : W2.heap[W1.heap.size]? = some o2 := by simp [W2]
  obtain ⟨P', p1, p2, p3⟩ := I.frozen hE W1.heap.size o2 (by omega) ho2
  refine ⟨_, W1, _, W2, P', b1, n3, p1, p3, .inr ⟨rfl, W1.heap.size, 0, N, ?_⟩⟩
  have hoff : off < cs'.size := by
    rcases Nat.lt_or_ge off r.length with h | h
    · omega
    · rw [List.getElem?_eq_none h] at hc; cases hc
  obtain ⟨w, hw1, hw2⟩ := DenL.nth b2 hc
  refine ⟨w, rfl, ?_, hw2⟩
  unfold PHeap.cell
  rw [p2]
  show (cs' ++ _)[0 + off]? = some w
  rw [Nat.zero_add, Array.getElem?_append_left hoff]
  simpa using hw1
theorem wpOp_run {ops : Array Oper} {Q : Exit → Act → World → Prop} {i : Nat} {o : Oper} {a : Act} {W W' : World} {v : Value} {K : Act → World → Prop} (ho : ops[i]? = some o) (hg : o.guard = none)
    (hrun : (execOp a.eval o).run Pg W = .ok (.value v) W') (hK : K (a.put o.dst v) W') : wpOp Pg ops Q i K a W := by
  unfold wpOp
  simp only [ho]
  have hw : Region.wanted o (yielded ops a.tmps) = true := by unfold Region.wanted; rw [hg]
  rw [hw]
  simp only [if_true]
  unfold Oper.wp
  rw [hrun]
  exact .inl hK
theorem eval_same {a : Act} {d : Nat} {v : Value} (h : d < a.tmps.size) : (a.put (some d) v).eval (.tmp d) = v := by
  simp only [Act.eval, Act.put_tmps, Array.getD_eq_getD_getElem?]
  rw [Array.getElem?_setIfInBounds_self_of_lt h]; rfl
theorem eval_other {a : Act} {d x : Nat} {v : Value} (h : d ≠ x) : (a.put (some d) v).eval (.tmp x) = a.eval (.tmp x) := by
  simp only [Act.eval, Act.put_tmps, Array.getD_eq_getD_getElem?]
  rw [Array.getElem?_setIfInBounds_ne h]
theorem put_size {a : Act} {d : Option Nat} {v : Value} : (a.put d v).tmps.size = a.tmps.size := by
  rw [Act.put_tmps]; cases d <;> simp
/-- 'out = append(out, x)', out being nil: a slice of one struct. -/
theorem region_rs (htt : TTOK Pg tt) {n : Nat} {s : Slots} {a : Act} (M : Match cx n P ε φ s tab a W) {id : Nat} {p0 p1 p2 p3 p4 : Oper} {x5 x8 d0 d1 d2 d3 tl t u e : Nat}
    (h0 : p0.op = .move (.tmp x5) ∧ p0.dst = some d0 ∧ p0.guard = none) (h1 : p1.op = .load tl (.tmp x8) ∧ p1.dst = some d1 ∧ p1.guard = none)
    (h2 : p2.op = .buildSlice t 1 #[(0, .tmp d1)] ∧ p2.dst = some d2 ∧ p2.guard = none)
    (h3 : p3.op = .call { callee := .builtin .append, args := #[.tmp d0, .tmp d2], argTypes := #[t, u] } ∧ p3.dst = some d3 ∧ p3.guard = none)
    (h4 : p4.op = .assign (.tmp d3) ∧ p4.dst = some x5 ∧ p4.guard = none)
    (hx : d0 ≠ x8 ∧ d0 ≠ d1 ∧ d1 ≠ d2 ∧ d0 ≠ d2 ∧ d1 ≠ d0) (hlt : d0 < n ∧ d1 < n ∧ d2 < n ∧ d3 < n ∧ x5 < n)
    {d ud ed : TD} (hd : tdOf Pg t = some d) (hk : d.kind = .slice e) (hu : tdOf Pg u = some ud) (huk : ∀ k, ud.kind ≠ .int k) (hed : tdOf Pg e = some ed) {z : Value} (hz : ed.zero = some z) (hzq : z.cells.size = ed.size) (c2 : 1 ≤ ed.size) (c3 : ed.size ≤ 65536) (hb : ed.bytes ≤ 16384)
    (h5 : s.at x5 = .one .nils) {y8 : S1} (h8 : s.at x8 = .one y8) {vs r : List S1} (hl : (loadP tt tl y8).run tab = some (.agg vs, tab))
    (hr : fillS (fun i => some (i * ed.size, ed.size)) (repL 1 (cellsOfV z)) [(0, .agg vs)] = some r) (hrl : r.length = ed.size) {off c : Nat} (hc : r[off]? = some (.own c))
    {Q : Exit → Act → World → Prop}
    (hQ : ∀ a' W' P', P.le P' → Match cx n P' ε φ (putS (putS (putS (putS (putS s (some d0) (.one .nils)) (some d1) (.agg vs)) (some d2) (.one .dead)) (some d3) (.one (.rs1 off c 1))) (some x5) (.one (.rs1 off c 1))) tab a' W' → Q .normal a' W') :
    (Code.region id #[p0, p1, p2, p3, p4] false).wp Pg Q a W := by
  obtain ⟨g1, g2, g3, g4, g5⟩ := hx
  obtain ⟨l0, l1, l2, l3, l4⟩ := hlt
  obtain ⟨h0a, h0b, h0c⟩ := h0
  obtain ⟨h1a, h1b, h1c⟩ := h1
  obtain ⟨h2a, h2b, h2c⟩ := h2
  obtain ⟨h3a, h3b, h3c⟩ := h3
  obtain ⟨h4a, h4b, h4c⟩ := h4
  have hsz := M.size
  have v5 : Bare (a.eval (.tmp x5)) := by
    have := ev_den M.slots (.tmp x5)
    have e : ev s (.tmp x5) = .one .nils := h5
    rw [e] at this; exact this
  have v8 : Den P ε y8 (a.eval (.tmp x8)) := by
    have := ev_den M.slots (.tmp x8)
    have e : ev s (.tmp x8) = .one y8 := h8
    rw [e] at this; exact this
  obtain ⟨ad, hv5, _⟩ := v5
  obtain ⟨_, rv, hrun, hrv⟩ := load_sound (Pg := Pg) htt M.inv tl y8 _ v8 _ _ hl
  obtain ⟨w1, W1, w2, W2, P', b1, b2, b3, b4, b5⟩ := one_row (Pg := Pg) M.inv hd hk hu huk hed hz hzq c2 c3 hb hrv hr hrl hc ad p3.type
  let a1 := a.put (some d0) (.slice ad 0 0)
  let a2 := a1.put (some d1) rv
  let a3 := a2.put (some d2) w1
  let a4 := a3.put (some d3) w2
  let a5 := a4.put (some x5) w2
  have s1 : a1.tmps.size = n := put_size.trans hsz
  have s2 : a2.tmps.size = n := put_size.trans s1
  have s3 : a3.tmps.size = n := put_size.trans s2
  have s4 : a4.tmps.size = n := put_size.trans s3
  have e8 : a1.eval (.tmp x8) = a.eval (.tmp x8) := eval_other g1
  have e1 : a2.eval (.tmp d1) = rv := eval_same (by rw [s1]; exact l1)
  have e0 : a3.eval (.tmp d0) = .slice ad 0 0 := by
    show (a2.put _ _).eval _ = _
    rw [eval_other (Ne.symm g4)]
    show (a1.put _ _).eval _ = _
    rw [eval_other g5]
    exact eval_same (by rw [hsz]; exact l0)
  have e2 : a3.eval (.tmp d2) = w1 := eval_same (by rw [s2]; exact l2)
  have e3 : a4.eval (.tmp d3) = w2 := eval_same (by rw [s3]; exact l3)
  refine wp_region ?_
  show wpOps Pg #[p0, p1, p2, p3, p4] _ [0, 1, 2, 3, 4] a W
  rw [wpOps_cons]
  refine wpOp_run (o := p0) (v := .slice ad 0 0) rfl h0c (by simp only [execOp, h0a, hv5]; rfl) ?_
  rw [h0b, wpOps_cons]
  refine wpOp_run (o := p1) (v := rv) (W' := W) rfl h1c ?_ ?_
  · show (execOp a1.eval p1).run Pg W = _
    simp only [execOp, h1a, e8, Sem.run_bind, hrun, Result.andThen_ok, Sem.run_pure]
  rw [h1b, wpOps_cons]
  refine wpOp_run (o := p2) (v := w1) (W' := W1) rfl h2c ?_ ?_
  · show (execOp a2.eval p2).run Pg W = _
    have : (#[(0, Operand.tmp d1)].map fun (i, x) => (i, a2.eval x)) = #[(0, rv)] := by simp [e1]
    simp only [execOp, h2a, this, Sem.run_bind, b1, Result.andThen_ok, Sem.run_pure]
  rw [h2b, wpOps_cons]
  refine wpOp_run (o := p3) (v := w2) (W' := W2) rfl h3c ?_ ?_
  · show (execOp a3.eval p3).run Pg W1 = _
    have hop : ∀ W', (execOp a3.eval p3).run Pg W' = ((do pure (.value (← Builtin.append_ #[t, u] p3.type #[a3.eval (.tmp d0), a3.eval (.tmp d2)]))) : Sem Next).run Pg W' := by
      obtain ⟨dst, op, oty, pos, after, guard⟩ := p3
      simp only at h3a
      subst h3a
      intro W'
      have hb : ∀ cs, builtin .append #[t, u] oty cs #[a3.eval (.tmp d0), a3.eval (.tmp d2)] = (do pure (.value (← Builtin.append_ #[t, u] oty #[a3.eval (.tmp d0), a3.eval (.tmp d2)]))) := fun _ => rfl
      simp only [execOp, resolve, Sem.run_bind, Sem.run_pure, Result.andThen_ok, invoke]
      have e : Array.map a3.eval #[Operand.tmp d0, Operand.tmp d2] = #[a3.eval (.tmp d0), a3.eval (.tmp d2)] := by simp
      rw [e, hb]
      simp only [Sem.run_bind, Sem.run_pure]
    rw [hop, e0, e2]
    simp only [Sem.run_bind, b2, Result.andThen_ok, Sem.run_pure]
  rw [h3b, wpOps_cons]
  refine wpOp_run (o := p4) (v := w2) (W' := W2) rfl h4c ?_ ?_
  · show (execOp a4.eval p4).run Pg W2 = _
    simp only [execOp, h4a, e3]; rfl
  rw [h4b]
  show Q .normal a5 W2
  have sl : ∀ {k : Nat}, k < n → ∀ {b : Act}, b.tmps.size = n → slotsIn b.tmps.size (some k) = true := fun hk _ hb => by
    rw [hb]; exact Nat.ble_eq_true_of_le hk
  have q0 := M.slots.mono b3 (fun _ _ h => h)
  have q1 := slots_put q0 (sl l0 hsz) (sv := .one .nils) (v := .slice ad 0 0) ⟨ad, rfl, fun _ _ h => absurd h (by omega)⟩
  have q2 := slots_put q1 (sl l1 s1) (sv := .agg vs) (v := rv) (DenV.mono b3 (fun _ _ h => h) _ _ hrv)
  have q3 := slots_put q2 (sl l2 s2) (sv := .one .dead) (v := w1) trivial
  have q4 := slots_put q3 (sl l3 s3) (sv := .one (.rs1 off c 1)) (v := w2) b5
  have q5 := slots_put q4 (sl l4 s4) (sv := .one (.rs1 off c 1)) (v := w2) b5
  refine hQ a5 W2 P' b3 ⟨b4, q5, put_size.trans s4, ?_, M.pin⟩
  show (a4.put _ _).defers = []
  rw [Act.put_defers', Act.put_defers', Act.put_defers', Act.put_defers', Act.put_defers']
  exact M.dfs
/-- On, where a piece of code comes to its end. -/
def nxt {R : Type} (K : St → Option R) : X → St → Option R := fun e st => match e with | .normal => K st | _ => none
/-- One piece of code, then another. -/
theorem seq_sx {E : Env} (hE : EnvOK Pg E cx.td) (hgl : Glob Pg cx.P0) (hpin : ∀ c v, cx.pins c = some v → c ∈ E.pins) (hpin' : ∀ c ∈ E.pins, ∃ v, cx.pins c = some v) {R : Type} {x y : Code} {p : Nat} {st : St} {K : St → Option R} {r : R}
    (h : sx E x p st (nxt K) = some r) {a : Act} (M : Match cx E.ntmps P ε φ st.slots st.tab a W) (hf : FreeFrom ε st.next) {Q : Exit → Act → World → Prop}
    (hK : ∀ st a W P ε φ, K st = some r → Match cx E.ntmps P ε φ st.slots st.tab a W → FreeFrom ε st.next → y.wp Pg Q a W) : (Code.seq x y).wp Pg Q a W := by
  refine wp_seq (sx_sound hE hgl hpin hpin' x p st _ r h P ε φ a W M hf _ ?_)
  intro e st' a' W' P' ε' φ' hk M' hf'
  cases e with
  | normal => exact hK st' a' W' P' ε' φ' hk M' hf'
  | exit i => cases hk
  | ret => cases hk
end
end Go.Sx
