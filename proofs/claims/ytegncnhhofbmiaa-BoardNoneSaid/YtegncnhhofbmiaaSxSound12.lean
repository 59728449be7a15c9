/- A walk of Go code by plain functions is sound. -/
import Derived.Test.YtegncnhhofbmiaaSxSound11
namespace Go.Sx
section
variable {Pg : Program} {tt : TT} {cx : Cx} {P : PHeap} {ε : HMap} {φ : Nat → List Nat} {tab : Tab} {W : World}

structure FunOK (Pg : Program) (g : Fun) (td : Bool := false) : Prop where
  spec : CallOK Pg g td
  fn : ∃ fn, Pg.funcs[g.f]? = some fn ∧ (fn.name == "runtime.NumGoroutine") = false ∧ fn.body.isNone = false
theorem onceOf_none {g : Fun} (h : isOnce g.sig = false) : onceOf g = none := by
  unfold onceOf
  split
  · simp [isOnce] at h
  · rfl
theorem bndOf_none {g : Fun} (h : isBnd g.sig = false) : bndOf g = none := by
  unfold bndOf
  split
  · simp [isBnd] at h
  · rfl
theorem srtOf_none {g : Fun} (h : isSrt g.sig = false) : srtOf g = none := by
  unfold srtOf
  split
  · simp [isSrt] at h
  · rfl
theorem plainSig_spec {g : Fun} (h : plainSig g.sig = true) : atomOf g.sig = none ∧ onceOf g = none ∧ bndOf g = none ∧ srtOf g = none := by
  simp only [plainSig, Bool.and_eq_true, Option.isNone_iff_eq_none, Bool.not_eq_true'] at h
  exact ⟨h.1, onceOf_none h.2.1, bndOf_none h.2.2.1, srtOf_none h.2.2.2⟩
theorem CallOK.of {g : Fun} {td : Bool} (h : Contract Pg g td) (ha : plainSig g.sig = true) : CallOK Pg g td := by
  obtain ⟨h1, h2, h3, h4⟩ := plainSig_spec ha
  unfold CallOK; rw [h1]; simp only; rw [h2]; simp only; rw [h3]; simp only; rw [h4]; exact h
theorem FunOK.con {g : Fun} {td : Bool} (h : FunOK Pg g td) (ha : plainSig g.sig = true := by rfl) : Contract Pg g td := by
  obtain ⟨h1, h2, h3, h4⟩ := plainSig_spec ha
  have := h.spec
  unfold CallOK at this; rw [h1] at this; simp only at this; rw [h2] at this; simp only at this; rw [h3] at this; simp only at this; rw [h4] at this; exact this
/-- A function that may be called: with a body, or one whose entry answers at once. -/
structure ExtOK (Pg : Program) (g : Fun) (td : Bool := false) : Prop where
  spec : ContractE Pg g td
  plain : plainSig g.sig = true
def AnyOK (Pg : Program) (g : Fun) (td : Bool := false) : Prop := FunOK Pg g td ∨ ExtOK Pg g td
/-- The functions that may be called keep their contracts, here. -/
def FsAt (Pg : Program) (cx : Cx) (fs : List Fun) : Prop := Glob Pg cx.P0 ∧ ∀ f as g, findFun fs f as = some g → g.f = f ∧ AnyOK Pg g cx.td
theorem ext_callP {g : Fun} (h : plainSig g.sig = true) (ss : List SV) (fresh : Nat) : callP g ss fresh = callF g ss fresh := by
  obtain ⟨h1, h2, h3, h4⟩ := plainSig_spec h
  unfold callP; rw [h1]; simp only; rw [h2]; simp only; rw [h3]; simp only; rw [h4]

/-- What holds behind an operation. -/
def After (cx : Cx) (P : PHeap) (ε : HMap) (fresh : Nat) (tab' : Tab) (sv : SV) (next : Value → World → Prop) : Prop :=
  ∀ v W' P' ε' φ', P.le P' → HMap.le ε ε' → (∀ c, ε' c ≠ none → ε c ≠ none ∨ (fresh ≤ c ∧ c < fresh + stride)) → Inv cx P' ε' φ' tab' W' → DenV P' ε' sv v → next v W'

theorem wp_res {fresh : Nat} {sem : Sem Value} {sv : SV} {tab' : Tab} (h : Res Pg cx P ε fresh W sem sv tab') {o : Oper} {a : Act} (ho : execOp a.eval o = (do pure (.value (← sem))))
    {next : Act → World → Prop} {Q : Exit → Act → World → Prop} (hn : After cx P ε fresh tab' sv (fun v W' => next (a.put o.dst v) W')) : o.wp Pg a W next Q := by
  obtain ⟨r, W', P', ε', φ', h1, h2, h3, h4, h5, h6⟩ := h
  unfold Oper.wp
  rw [ho]
  simp only [Sem.run_bind, h1, Result.andThen_ok, Sem.run_pure]
  exact hn r W' P' ε' φ' h2 h3 h4 h5 h6
theorem wp_val {fresh : Nat} (I : Inv cx P ε φ tab W) {v : Value} {sv : SV} (hd : DenV P ε sv v) {o : Oper} {a : Act} (ho : execOp a.eval o = pure (.value v))
    {next : Act → World → Prop} {Q : Exit → Act → World → Prop} (hn : After cx P ε fresh tab sv (fun v W' => next (a.put o.dst v) W')) : o.wp Pg a W next Q := by
  unfold Oper.wp
  rw [ho]
  exact hn v W P ε φ (PHeap.le_refl P) (fun _ _ h => h) (fun _ h => .inl h) I hd
theorem res_same (I : Inv cx P ε φ tab W) {sem : Sem Value} {sv : SV} {tab' : Tab} (h : tab' = tab ∧ ∃ r, sem.run Pg W = .ok r W ∧ DenV P ε sv r) (fresh : Nat) : Res Pg cx P ε fresh W sem sv tab' := by
  obtain ⟨rfl, r, h1, h2⟩ := h
  exact Res.same I h1 h2 fresh

theorem ofOne_den {s : SV} {v : Value} (h : DenV P ε s v) : Den P ε (ofOne s) v := by
  cases s with
  | one s => exact h
  | agg _ => trivial
  | tup _ => trivial
  | aggA _ _ _ _ _ => trivial

/-! ### Nil or not -/
theorem isNilP_sound (I : Inv cx P ε φ tab W) {c fresh : Nat} (hfr : Fresh ε fresh) {v : Value} (hv : ε c = some v) {r : Bool} {tab' : Tab} (h : (isNilP c fresh).run tab = some (r, tab')) :
    (∃ p : Option Addr, v = .pointer p ∧ r = p.isNone) ∧ ∃ ε' φ', HMap.le ε ε' ∧ (∀ d, ε' d ≠ none → ε d ≠ none ∨ (fresh ≤ d ∧ d < fresh + stride)) ∧ Inv cx P ε' φ' tab' W := by
  obtain ⟨y, hc, h⟩ := run_get_inv h
  obtain ⟨w, e1, e2⟩ := I.chunk c y hc
  rw [hv] at e1; cases e1
  cases y <;> first | exact (run_fail_inv h).elim | skip
  · obtain ⟨h1, h2⟩ := run_pure_inv h
    subst h1; subst h2
    obtain ⟨b, cs, T, f1, _⟩ := e2
    exact ⟨⟨_, f1, rfl⟩, ε, φ, fun _ _ h => h, fun _ h => .inl h, I⟩
  · rename_i e m
    simp only at h
    split at h
    · rename_i hsz
      have hsz := Nat.le_of_ble_eq_true hsz
      cases m with
      | none =>
        have h' : (Prog.pure true).run (tab.set c (.fold e none)) = some (r, tab') := h
        obtain ⟨h1, h2⟩ := run_pure_inv h'
        subst h1; subst h2
        have e3 := e2
        simp only [ChunkOK, OT.Rep] at e3
        rcases e3 with ⟨_, f1, f2⟩ | ⟨x, b, cs, T, fp', f0, _⟩
        · refine ⟨⟨none, f1, rfl⟩, ε, φ, fun _ _ h => h, fun _ h => .inl h, I.sub fun d y hd => ?_⟩
          by_cases ed : c = d
          · subst ed; rw [Map.get_set_same] at hd; rw [hc]; exact hd
          · rwa [Map.get_set_other _ _ ed] at hd
        · cases f0
      | some x =>
        have h' : (Prog.set c (.cells (unfoldCells e x fresh).1) (newAll (unfoldCells e x fresh).2 (.pure false))).run tab = some (r, tab') := h
        obtain ⟨t1, ε', φ', k1, k2, k3, k4, k5, b, k6⟩ := open_sound I hsz hfr hc h'
        obtain ⟨h1, h2⟩ := run_pure_inv k1
        subst h1; subst h2
        rw [hv] at k6
        exact ⟨⟨some ⟨b, 0, none⟩, by injection k6, rfl⟩, ε', φ', k3, k4, k5⟩
    · exact (run_fail_inv h).elim
  · rename_i p t n q m
    simp only at h
    split at h
    · rename_i hsz
      have hsz := Nat.le_of_ble_eq_true hsz
      cases m with
      | none =>
        have h' : (Prog.pure true).run (tab.set c (.foldA p t n q none)) = some (r, tab') := h
        obtain ⟨h1, h2⟩ := run_pure_inv h'
        subst h1; subst h2
        have e3 := e2
        simp only [ChunkOK, OT.Rep] at e3
        rcases e3 with ⟨_, f1, f2⟩ | ⟨x, y, z, b, cs, T, fa, fb, c1, c2, c3, f0, _⟩
        · refine ⟨⟨none, f1, rfl⟩, ε, φ, fun _ _ h => h, fun _ h => .inl h, I.sub fun d y hd => ?_⟩
          by_cases ed : c = d
          · subst ed; rw [Map.get_set_same] at hd; rw [hc]; exact hd
          · rwa [Map.get_set_other _ _ ed] at hd
        · cases f0
      | some x =>
        have h' : (Prog.set c (.cellsA (unfoldCells p x.1 fresh).1 t n x.2.1 (unfoldCells q x.2.2 (fresh + p.size)).1) (newAll ((unfoldCells p x.1 fresh).2 ++ (unfoldCells q x.2.2 (fresh + p.size)).2) (.pure false))).run tab = some (r, tab') := h
        obtain ⟨t1, ε', φ', k1, k2, k3, k4, k5, b, k6⟩ := openA_sound I hsz hfr hc h'
        obtain ⟨h1, h2⟩ := run_pure_inv k1
        subst h1; subst h2
        rw [hv] at k6
        exact ⟨⟨some ⟨b, 0, none⟩, by injection k6, rfl⟩, ε', φ', k3, k4, k5⟩
    · exact (run_fail_inv h).elim
  · obtain ⟨h1, h2⟩ := run_pure_inv h
    subst h1; subst h2
    obtain ⟨b, cs, T, c1, c2, c3, f1, _⟩ := e2
    exact ⟨⟨_, f1, rfl⟩, ε, φ, fun _ _ h => h, fun _ h => .inl h, I⟩

theorem eqGuard_plain (op : BinOp) (t : Nat) (x y : Operand) (v u : Value) (h : v ≠ .nilIface) (h2 : ∀ c, v ≠ .agg c) : (eqGuard op t x y v u).run Pg W = .ok () W := by
  unfold eqGuard
  cases v with
  | nilIface => exact absurd rfl h
  | agg c => exact absurd rfl (h2 c)
  | _ =>
    show (ite _ (pure ()) (pure ()) : Sem Unit).run Pg W = _
    rw [ite_self]; rfl

theorem td_bool {t : Nat} {d : TD} (h : tdOf Pg t = some d) (hk : d.kind = .bool) : Pg.underlying t = some .bool := by
  obtain ⟨i, desc, h1, h2, h3, h4, h5, h6⟩ := td_facts h
  rw [hk] at h3
  cases desc <;> simp only [TK.ofDesc] at h3 <;> first | (cases h3; done) | exact h2
theorem tkind_td (htt : TTOK Pg tt) {t : Nat} {k : TK} (h : tkind tt t = k) (hk : k ≠ .other) : ∃ d, tt.get t = some d ∧ tdOf Pg t = some d ∧ d.kind = k := by
  unfold tkind at h
  cases ht : tt.get t with
  | none => rw [ht] at h; exact absurd h.symm hk
  | some d => rw [ht] at h; exact ⟨d, rfl, htt t d ht, h⟩

theorem rop_nil {e : CTs} {m : Option e.T} {v : Value} (h : (CT.rop e).Rep P m v) : ∃ p : Option Addr, v = .pointer p ∧ p.isNone = m.isNone := by
  simp only [CT.Rep] at h
  rcases h with ⟨rfl, rfl⟩ | ⟨x, ad, rfl, rfl, _⟩
  · exact ⟨none, rfl, rfl⟩
  · exact ⟨some ad, rfl, rfl⟩
theorem firstN_den {P : PHeap} {ε : HMap} (t : CT) : ∀ (n : Nat) (y : List t.T) (z : (repCT t n).T) (c : List Value), firstN t n y = some z → y.length = n → c.length = n → (∀ i (h : i < y.length) (w : Value), c[i]? = some w → t.Rep P y[i] w) →
    DenL P ε ((repCT t n).toS z) c
  | 0, y, z, c, h, hy, hc, hr => by
    cases List.length_eq_zero_iff.1 hc
    rfl
  | n + 1, [], z, c, h, hy, hc, hr => by simp at hy
  | n + 1, x :: xs, z, [], h, hy, hc, hr => by simp at hc
  | n + 1, x :: xs, z, w :: ws, h, hy, hc, hr => by
    simp only [firstN] at h
    split at h
    · rename_i u hu
      have h : CTs.mk t (repCT t n) x u = z := Option.some.inj h
      subst h
      have ih := firstN_den (ε := ε) t n xs u ws hu (by simpa using hy) (by simpa using hc) (fun i hi w hw => hr (i + 1) (by simpa using hi) w (by simpa using hw))
      have e : (repCT t (n + 1)).toS (CTs.mk t (repCT t n) x u) = CT.toS t x :: (repCT t n).toS u := by
        show CTs.toS (.cons t (repCT t n)) (CTs.mk t (repCT t n) x u) = _
        simp only [CTs.toS, CTs.hd_mk, CTs.tl_mk]
      rw [e]
      exact ⟨w, ws, rfl, (CT.toS_den t x w).1 (hr 0 (by simp) w rfl), ih⟩
    · cases h
theorem aggA_agg {t : CT} {n : Nat} {y : List t.T} {v : Value} (h : DenV P ε (.aggA [] t n y []) v) {z : (repCT t n).T} (hz : firstN t n y = some z) : DenV P ε (.agg ((repCT t n).toS z)) v := by
  obtain ⟨cs, c1, c2, c3, rfl, h1, h2, h3, h4⟩ := h
  cases h2
  have h4 : c3 = [] := h4
  subst h4
  refine ⟨cs, rfl, ?_⟩
  rw [h1]
  simp only [List.nil_append, List.append_nil]
  exact firstN_den t n y z c2 hz h3.2.1 h3.1 h3.2.2
theorem eqP_sound (htt : TTOK Pg tt) (I : Inv cx P ε φ tab W) {fresh : Nat} (hfr : Fresh ε fresh) (t : Nat) (x y : SV) (v u : Value) (hx : DenV P ε x v) (hy : DenV P ε y u) (r : Bool) (tab' : Tab)
    (h : (eqP tt t x y fresh).run tab = some (r, tab')) (xo yo : Operand) (op : BinOp) :
    (∃ ε' φ', HMap.le ε ε' ∧ (∀ d, ε' d ≠ none → ε d ≠ none ∨ (fresh ≤ d ∧ d < fresh + stride)) ∧ Inv cx P ε' φ' tab' W) ∧
      (eqGuard op t xo yo v u).run Pg W = .ok () W ∧ (binOp .eql t v u).run Pg W = .ok (.bool r) W ∧ (binOp .neq t v u).run Pg W = .ok (.bool (!r)) W := by
  have stay : ∃ ε' φ', HMap.le ε ε' ∧ (∀ d, ε' d ≠ none → ε d ≠ none ∨ (fresh ≤ d ∧ d < fresh + stride)) ∧ Inv cx P ε' φ' tab W := ⟨ε, φ, fun _ _ h => h, fun _ h => .inl h, I⟩
  have ptr : ∀ e, tkind tt t = .ptr e → ∀ p q : Option Addr, (p = none ∨ q = none) → (binOp .eql t (.pointer p) (.pointer q)).run Pg W = .ok (.bool (p.isNone && q.isNone)) W ∧
      (binOp .neq t (.pointer p) (.pointer q)).run Pg W = .ok (.bool (!(p.isNone && q.isNone))) W := by
    intro e hk p q hpq
    obtain ⟨d, h1, h2, h3⟩ := tkind_td htt hk (by simp)
    have hu := td_ptr h2 h3
    have gen : ∀ D, (Op.equalIn (D + 1) t (.pointer p) (.pointer q)).run Pg W = .ok (p.isNone && q.isNone) W := by
      intro D
      rcases hpq with rfl | rfl
      · simp [Op.equalIn, run_underlying hu]
      · cases p <;> simp [Op.equalIn, run_underlying hu]
    have : (Op.equal t (.pointer p) (.pointer q)).run Pg W = .ok (p.isNone && q.isNone) W := gen 9999
    exact ⟨by simp [binOp, this], by simp [binOp, this]⟩
  unfold eqP at h
  split at h
  · rename_i a b hk
    obtain ⟨d, h1, h2, h3⟩ := tkind_td htt hk (by simp)
    obtain ⟨e1, e2⟩ := run_pure_inv h
    subst e1; subst e2
    cases hx; cases hy
    have : (Op.equal t (.bool a) (.bool b)).run Pg W = .ok (a == b) W := run_equalIn_bool' W 9999 t a b (td_bool h2 h3)
    refine ⟨stay, eqGuard_plain _ _ _ _ _ _ (by simp) (by simp), ?_, ?_⟩
    · simp [binOp, this]
    · simp [binOp, this]
  · rename_i e hk
    obtain ⟨e1, e2⟩ := run_pure_inv h
    subst e1; subst e2
    cases hx; cases hy
    exact ⟨stay, eqGuard_plain _ _ _ _ _ _ (by simp) (by simp), (ptr _ hk none none (.inl rfl)).1, (ptr _ hk none none (.inl rfl)).2⟩
  · rename_i e c hk
    obtain ⟨⟨p, e1, e2⟩, e3⟩ := isNilP_sound I hfr hx h
    subst e1
    cases hy
    subst e2
    have := ptr _ hk p none (.inr rfl)
    simp only [Option.isNone_none, Bool.and_true] at this
    exact ⟨e3, eqGuard_plain _ _ _ _ _ _ (by simp) (by simp), this⟩
  · rename_i e c hk
    obtain ⟨⟨p, e1, e2⟩, e3⟩ := isNilP_sound I hfr hy h
    subst e1
    cases hx
    subst e2
    have := ptr _ hk none p (.inl rfl)
    simp only [Option.isNone_none, Bool.true_and] at this
    exact ⟨e3, eqGuard_plain _ _ _ _ _ _ (by simp) (by simp), this⟩
  · rename_i e e' m hk
    obtain ⟨e1, e2⟩ := run_pure_inv h
    subst e1; subst e2
    cases hy
    obtain ⟨p, q1, q2⟩ := rop_nil hx
    subst q1
    have := ptr _ hk p none (.inr rfl)
    simp only [Option.isNone_none, Bool.and_true, q2] at this
    exact ⟨stay, eqGuard_plain _ _ _ _ _ _ (by simp) (by simp), this⟩
  · rename_i e e' m hk
    obtain ⟨e1, e2⟩ := run_pure_inv h
    subst e1; subst e2
    cases hx
    obtain ⟨p, q1, q2⟩ := rop_nil hy
    subst q1
    have := ptr _ hk none p (.inl rfl)
    simp only [Option.isNone_none, Bool.true_and, q2] at this
    exact ⟨stay, eqGuard_plain _ _ _ _ _ _ (by simp) (by simp), this⟩
  · rename_i e e' x' hk
    obtain ⟨e1, e2⟩ := run_pure_inv h
    subst e1; subst e2
    cases hy
    obtain ⟨p, q1, q2⟩ := rop_nil (m := some x') (pro_rop (ε := ε) hx)
    subst q1
    have := ptr _ hk p none (.inr rfl)
    simp only [Option.isNone_none, Bool.and_true, q2, Option.isNone_some] at this
    exact ⟨stay, eqGuard_plain _ _ _ _ _ _ (by simp) (by simp), this⟩
  · rename_i c n y' c' n' y'' _
    obtain ⟨z, hz, h⟩ := run_bindO_inv h
    obtain ⟨z', hz', h⟩ := run_bindO_inv h
    unfold eqAggP at h
    split at h
    · rename_i d ht
      split at h
      · rename_i ho ha
        split at h
        · rename_i r' hr
          obtain ⟨e1, e2⟩ := run_pure_inv h
          subst e1; subst e2
          exact ⟨stay, eqAgg_sound htt ht ho ha (aggA_agg hx hz) (aggA_agg hy hz') hr xo yo op⟩
        · exact (run_fail_inv h).elim
      · exact (run_fail_inv h).elim
    · exact (run_fail_inv h).elim
  · rename_i a b _
    split at h
    · rename_i d ht
      split at h
      · rename_i ho ha
        split at h
        · rename_i r' hr
          obtain ⟨e1, e2⟩ := run_pure_inv h
          subst e1; subst e2
          exact ⟨stay, eqAgg_sound htt ht ho ha hx hy hr xo yo op⟩
        · exact (run_fail_inv h).elim
      · exact (run_fail_inv h).elim
    · exact (run_fail_inv h).elim
  · exact (run_fail_inv h).elim

theorem binP_sound (htt : TTOK Pg tt) (I : Inv cx P ε φ tab W) {fresh : Nat} (hfr : Fresh ε fresh) (op : BinOp) (t : Nat) (x y : SV) (v u : Value) (hx : DenV P ε x v) (hy : DenV P ε y u) (xo yo : Operand)
    (hyo : ∀ k n, yo = .const (.int k n) → u = .int k n) (sv : SV) (tab' : Tab)
    (h : (binP tt op t x y yo fresh).run tab = some (sv, tab')) : Res Pg cx P ε fresh W (do eqGuard op t xo yo v u; binOp op t v u) sv tab' := by
  have pack : ∀ r, (eqGuard op t xo yo v u).run Pg W = .ok () W → (binOp op t v u).run Pg W = .ok r W → ((do eqGuard op t xo yo v u; binOp op t v u) : Sem Value).run Pg W = .ok r W := by
    intro r h1 h2
    rw [Sem.run_bind, h1]; simpa using h2
  unfold binP at h
  split at h
  · rename_i k a k' b
    cases hx; cases hy
    have hg : ∀ u, (eqGuard op t xo yo (.int k (IK.toInt k a)) u).run Pg W = .ok () W := fun u => eqGuard_plain _ _ _ _ _ _ (by simp) (by simp)
    have shiftS : ∀ z : Prog SV, (binP.shift yo k' b z).run tab = some (sv, tab') → 0 ≤ IK.toInt k' b ∧ z.run tab = some (sv, tab') := by
      intro z hz
      unfold binP.shift at hz
      split at hz
      · rename_i hsig
        have := IK.toInt_range k' b
        refine ⟨?_, hz⟩
        simp only [IntKind.min, hsig] at this
        exact this.1
      · rename_i k2 n _
        split at hz
        · rename_i h0
          have h0 := of_decide_eq_true h0
          have := hyo _ _ rfl
          injection this with e1 e2
          subst e1
          refine ⟨?_, hz⟩
          have hr := IK.toInt_range k' b
          rw [e2] at hr ⊢
          rwa [wrap_id k' n hr] at h0
        · exact (run_fail_inv hz).elim
      · rcases run_ite_inv hz with ⟨h0, hz⟩ | ⟨_, hz⟩
        · exact ⟨of_decide_eq_true h0, hz⟩
        · exact (run_fail_inv hz).elim
    split at h
    · obtain ⟨h0, h⟩ := shiftS _ h
      obtain ⟨e1, e2⟩ := run_pure_inv h
      subst e1; subst e2
      refine Res.same (sv := .one (.int k (IK.shl k a (IK.toInt k' b)))) I (pack (.int k (IK.toInt k (IK.shl k a (IK.toInt k' b)))) (hg _) ?_) rfl fresh
      have : ¬ IK.toInt k' b < 0 := by omega
      simp [binOp, Op.shift, this, IK.shl_toInt]
    · obtain ⟨h0, h⟩ := shiftS _ h
      obtain ⟨e1, e2⟩ := run_pure_inv h
      subst e1; subst e2
      refine Res.same (sv := .one (.int k (IK.shr k a (IK.toInt k' b)))) I (pack (.int k (IK.toInt k (IK.shr k a (IK.toInt k' b)))) (hg _) ?_) rfl fresh
      have : ¬ IK.toInt k' b < 0 := by omega
      simp [binOp, Op.shift, this, IK.shr_toInt]
    · rename_i n1 n2
      split at h
      · rename_i p hp
        subst p
        have gen : (binInt op k' a b).run tab = some (sv, tab') → Res Pg cx P ε fresh W (do eqGuard op t xo yo (.int k' (IK.toInt k' a)) (.int k' (IK.toInt k' b)); binOp op t (.int k' (IK.toInt k' a)) (.int k' (IK.toInt k' b))) sv tab' := by
          intro h
          obtain ⟨e1, r, e2, e3⟩ := binInt_sound (Pg := Pg) I op ⟨n1, n2⟩ k' a b t sv tab' h
          subst e1
          exact Res.same I (pack r (hg _) e2) e3 fresh
        split at h
        · rename_i k2 n
          split at h
          · rename_i z hz
            obtain ⟨e1, e2⟩ := run_pure_inv h
            subst e1; subst e2
            have := hyo _ _ rfl
            injection this with e1 e2
            subst e1
            refine Res.same (sv := .one (.int k' z)) I (pack (.int k' (IK.toInt k' z)) (hg _) (binDiv_sound op k' a n z t hz _ ?_)) rfl fresh
            have hr := IK.toInt_range k' b
            rw [e2] at hr ⊢
            exact (wrap_id k' n hr).symm
          · exact gen h
        · exact gen h
      · exact (run_fail_inv h).elim
  · rename_i a b
    obtain ⟨h1, _⟩ := hx
    obtain ⟨h2, _⟩ := hy
    subst h1; subst h2
    obtain ⟨e1, r, e2, e3⟩ := strCmp_sound (Pg := Pg) I op a b t sv tab' h
    subst e1
    exact Res.same I (pack r (eqGuard_plain _ _ _ _ _ _ (by simp) (by simp)) e2) e3 fresh
  · split at h
    · obtain ⟨r, t1, k1, h⟩ := run_bind_inv h
      obtain ⟨e1, e2⟩ := run_pure_inv h
      subst e1; subst e2
      obtain ⟨⟨ε', φ', g1, g2, g3⟩, g4, g5, g6⟩ := eqP_sound htt I hfr t x y v u hx hy r _ k1 xo yo .eql
      exact ⟨.bool r, W, P, ε', φ', by rw [Sem.run_bind, g4]; simpa using g5, PHeap.le_refl P, g1, g2, g3, rfl⟩
    · obtain ⟨r, t1, k1, h⟩ := run_bind_inv h
      obtain ⟨e1, e2⟩ := run_pure_inv h
      subst e1; subst e2
      obtain ⟨⟨ε', φ', g1, g2, g3⟩, g4, g5, g6⟩ := eqP_sound htt I hfr t x y v u hx hy r _ k1 xo yo .neq
      exact ⟨.bool (!r), W, P, ε', φ', by rw [Sem.run_bind, g4]; simpa using g6, PHeap.le_refl P, g1, g2, g3, rfl⟩
    · exact (run_fail_inv h).elim

theorem takeSrc_slice (I : Inv cx P ε φ tab W) (e : CTs) (s : S1) (u : Value) (hd : Den P ε s u) (hns : ∀ b, s ≠ .str b) (ys : List e.T) (tab' : Tab) (h : (takeSrc e s).run tab = some (ys, tab')) : ∃ a n c, u = .slice a n c ∧ n < 2 ^ 63 := by
  unfold takeSrc at h
  cases s <;> first | exact (run_fail_inv h).elim | skip
  case nils => obtain ⟨a, h1, _⟩ := hd; exact ⟨a, 0, 0, h1, by omega⟩
  case ro e' xs => simp only [Den, CT.Rep] at hd; obtain ⟨a, cap, h1, h2, h3, _⟩ := hd; exact ⟨a, _, cap, h1, by omega⟩
  case own c =>
    obtain ⟨y, hc, h⟩ := run_get_inv h
    obtain ⟨w, e1, e2⟩ := I.chunk c y hc
    have hv : ε c = some u := hd
    rw [hv] at e1; cases e1
    cases y <;> first | exact (run_fail_inv h).elim | skip
    · rcases e2 with ⟨_, ⟨a, h1, _⟩, _⟩ | ⟨b, off, cap, cs, T, fz, h1, _, _, _, h5, h6, _⟩
      · exact ⟨a, 0, 0, h1, by omega⟩
      · exact ⟨_, _, _, h1, by omega⟩
    · have e2 := e2.1; simp only [CT.Rep] at e2; obtain ⟨a, cap, h1, h2, h3, _⟩ := e2; exact ⟨a, _, cap, h1, by omega⟩
  case view c z off len =>
    rcases hd with ⟨b, o, n, cap, cp, _, h2, h3, h4, h5, h6, h7⟩ | ⟨_, a, h2, _⟩
    · exact ⟨_, _, _, h2, by omega⟩
    · exact ⟨_, _, _, h2, by omega⟩
  case str b => exact absurd rfl (hns b)
  case aview c n => obtain ⟨h0, b, _, h2⟩ := hd; exact ⟨_, _, _, h2, by omega⟩

theorem intOf_val {sv : SV} {v : Value} {i : Int} (hd : DenV P ε sv v) (h : intOf? sv = some i) : ∃ k, v = .int k i := by
  unfold intOf? at h
  split at h
  · rename_i k n
    simp only [Option.some.injEq] at h
    subst h
    exact ⟨k, hd⟩
  · cases h
/-- Bytes to bytes: the block is marked. -/
theorem mark_sound (I : Inv cx P ε φ tab W) {c src e : Nat} (hsrc : Pg.underlying src = some (.slice e)) (hek : Pg.underlying e = some (.int .u8)) {v : Value} (hv : ε c = some v) {e' : CTs} {xs : List e'.T}
    (hc : tab.get c = some (.row e' xs)) (hne : 0 < xs.length) (fresh : Nat) : Res Pg cx P ε fresh W (convert src src v) (.one (.own c)) (tab.set c (.row e' xs)) := by
  obtain ⟨hh, e1, e2⟩ := I.chunk c _ hc
  rw [hv] at e1; cases e1
  rcases e2 with ⟨h0, _⟩ | ⟨b, off, cap, cs, T, fz, g1, g2, g3, g4, g5, g6, g7, g8⟩
  · rw [h0] at hne; simp at hne
  have hb : W.heap[b]? = some (.cells cs T fz) := g3
  obtain ⟨fz', hfz⟩ : ∃ fz' : Nat × Nat, fz' = (if fz.1 == fz.2 then (cs.size, cs.size + 1) else (min fz.1 cs.size, max fz.2 (cs.size + 1))) := ⟨_, rfl⟩
  have hth : thawed fz' cs.size := by
    right
    rw [hfz]
    split
    · exact Nat.le_refl _
    · rename_i hne
      rcases g4 with h | h
      · simp [h] at hne
      · simp; omega
  have hW : W.freeze { block := b, off := cs.size } 1 = setArr W b cs T fz' := by
    unfold World.freeze setArr
    rw [if_neg (by decide)]
    congr 1
    apply Array.ext_getElem?
    intro i
    by_cases hi : b = i
    · subst hi
      have hbs : b < W.heap.size := by
        rcases Nat.lt_or_ge b W.heap.size with h' | h'
        · exact h'
        · simp [Array.getElem?_eq_none h'] at hb
      rw [Array.getElem?_modify, if_pos rfl, hb]
      obtain ⟨lo, hi⟩ := fz
      simp only [Option.map_some]
      rw [Array.getElem?_setIfInBounds_self_of_lt hbs, hfz]
    · rw [Array.getElem?_setIfInBounds_ne hi, Array.getElem?_modify]; simp [hi]
  refine ⟨v, setArr W b cs T fz', P, ε, φ, ?_, PHeap.le_refl P, fun _ _ h => h, fun _ h => .inl h, ?_, hv⟩
  · have hshape : (shape b).run Pg W = .ok (some (T, cs.size)) W := by
      have : W.shape? b = some (T, cs.size) := by unfold World.shape?; rw [hb]
      rw [← this]; rfl
    have hmark : (markStringish ⟨b, off, none⟩).run Pg W = .ok () (setArr W b cs T fz') := by
      unfold markStringish
      rw [Sem.run_bind, hshape]
      simp only [Result.andThen_ok]
      rw [← hW]; rfl
    rw [g1]
    simp [convert, run_underlying hsrc, run_underlying hek, hmark]
  · refine I.write hc g2 hb fun h' hh' => ?_
    rw [hv] at hh'; cases hh'
    exact .inr ⟨b, off, cap, cs, T, fz', g1, rfl, setArr_heap hb, hth, g5, g6, g7, g8⟩

theorem convP_sound (htt : TTOK Pg tt) (I : Inv cx P ε φ tab W) {fresh : Nat} (hfr : Fresh ε fresh) (src dst : Nat) (x : SV) (v : Value) (hx : DenV P ε x v) (sv : SV) (tab' : Tab)
    (h : (convP tt src dst x fresh).run tab = some (sv, tab')) : Res Pg cx P ε fresh W (convert src dst v) sv tab' := by
  unfold convP at h
  split at h
  · rename_i s d hs hd
    have hs := htt src s hs
    have hd := htt dst d hd
    split at h
    · rename_i k1 k' k n hk1 hk2
      obtain ⟨e1, e2⟩ := run_pure_inv h
      subst e1; subst e2
      cases hx
      refine Res.same I (r := .int k' (k'.wrap (IK.toInt k n))) ?_ (by simp [DenV, Den, IK.conv_toInt]) fresh
      simp [convert, run_underlying (td_int hs hk1), run_underlying (td_int hd hk2), Conv.intToInt]
    · rename_i b hk1 hk2
      obtain ⟨e1, e2⟩ := run_pure_inv h
      subst e1; subst e2
      obtain ⟨h1, h2⟩ := hx
      subst h1
      refine Res.same (sv := .one (.str b)) I (r := .string ⟨b.toArray⟩) ?_ ⟨rfl, h2⟩ fresh
      simp [convert, run_underlying (td_str hs hk1), run_underlying (td_str hd hk2)]
    · rename_i e w hk1 hk2
      split at h
      · rename_i ed het
        have hed := htt e ed het
        split at h
        · rename_i hek
          obtain ⟨b, t1, k1, h⟩ := run_bind_inv h
          split at h
          · exact (run_fail_inv h).elim
          · rename_i hns
            obtain ⟨e1, e2⟩ := run_pure_inv h
            subst e1; subst e2
            obtain ⟨g1, g2⟩ := takeSrc_sound (Pg := Pg) I u8s w v hx b _ k1
            obtain ⟨a, n, c, hv, hn⟩ := takeSrc_slice I u8s w v hx (fun b hb => hns b hb) b _ k1
            subst g1
            have hrun := bytesToString_sound (Pg := Pg) b v g2 ⟨a, n, c, hv⟩
            have hlen : b.length < 2 ^ 63 := by
              have h1 := g2.1
              rw [hv] at h1
              have : n = b.length := by simpa [Builtin.lenOf] using h1
              omega
            refine Res.same (sv := .one (.str b)) I (r := .string ⟨b.toArray⟩) ?_ ⟨rfl, hlen⟩ fresh
            subst hv
            simp [convert, run_underlying (td_slice hs hk1), run_underlying (td_str hd hk2), run_underlying (td_int hed hek), hrun]
        · exact (run_fail_inv h).elim
      · exact (run_fail_inv h).elim
    · rename_i e e' c hk1 hk2
      split at h
      · rename_i ed hsd hee het
        have hsd := nbeq_true hsd
        have hed := htt e ed het
        subst hsd
        split at h
        · rename_i hek
          obtain ⟨y, hc, h⟩ := run_get_inv h
          cases y <;> first | exact (run_fail_inv h).elim | skip
          rename_i e2 xs
          simp only at h
          rcases run_ite_inv h with ⟨h0, h⟩ | ⟨_, h⟩
          · have h0 : 0 < xs.length := Nat.lt_of_succ_le (Nat.le_of_ble_eq_true h0)
            have h3 : (Prog.pure (SV.one (S1.own c))).run (Map.set tab c (Chunk.row e2 xs)) = some (sv, tab') := h
            obtain ⟨e1, e2⟩ := run_pure_inv h3
            subst e1; subst e2
            exact mark_sound I (td_slice hs hk1) (td_int hed hek) hx hc h0 fresh
          · exact (run_fail_inv h).elim
        · exact (run_fail_inv h).elim
      · exact (run_fail_inv h).elim
    · rename_i e b hk1 hk2
      split at h
      · rename_i ed het
        have hed := htt e ed het
        split at h
        · rename_i hek
          obtain ⟨hn, h⟩ := run_new_inv h
          obtain ⟨e1, e2⟩ := run_pure_inv h
          subst e1; subst e2
          obtain ⟨h1, h2⟩ := hx
          subst h1
          obtain ⟨r, W', ε', φ', g1, g2, g3, g4, g5⟩ := stringToBytes_sound (Pg := Pg) I (hfr fresh (Nat.le_refl _) (by unfold stride; omega)) e b h2
          refine ⟨r, W', P, ε', φ', ?_, PHeap.le_refl P, g2, g3, g4, g5⟩
          simp [convert, run_underlying (td_str hs hk1), run_underlying (td_slice hd hk2), run_underlying (td_int hed hek), g1]
        · exact (run_fail_inv h).elim
      · exact (run_fail_inv h).elim
    · exact (run_fail_inv h).elim
  · exact (run_fail_inv h).elim
end
end Go.Sx
