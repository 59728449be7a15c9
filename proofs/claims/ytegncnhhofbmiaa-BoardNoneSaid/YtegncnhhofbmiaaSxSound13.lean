/- A walk of Go code by plain functions is sound. -/
import Derived.Test.YtegncnhhofbmiaaSxSoundMap
namespace Go.Sx
section
variable {Pg : Program} {tt : TT} {cx : Cx} {P : PHeap} {ε : HMap} {φ : Nat → List Nat} {tab : Tab} {W : World}

theorem denVs_map {s : Slots} {a : Act} (h : SlotsOK P ε s a) : ∀ (l : List Operand), DenVs P ε (l.map fun x => ownV (ev s x)) (l.map a.eval)
  | [] => rfl
  | x :: l => ⟨_, _, rfl, ownV_den (ev_den h x), denVs_map h l⟩
theorem parts_den {s : Slots} {a : Act} (h : SlotsOK P ε s a) (l : List (Nat × Operand)) : ∀ (i : Nat) (p : Nat × SV) (q : Nat × Value),
    (l.map fun p => (p.1, ev s p.2))[i]? = some p → (l.map fun p => (p.1, a.eval p.2))[i]? = some q → p.1 = q.1 ∧ DenV P ε p.2 q.2 := by
  intro i p q hp hq
  simp only [List.getElem?_map, Option.map_eq_some_iff] at hp hq
  obtain ⟨x, hx, rfl⟩ := hp
  obtain ⟨y, hy, rfl⟩ := hq
  rw [hx] at hy; cases hy
  exact ⟨rfl, ev_den h _⟩
theorem arr_parts (parts : Array (Nat × Operand)) (a : Act) : (parts.map fun (i, x) => (i, a.eval x)) = (parts.toList.map fun p => (p.1, a.eval p.2)).toArray := by
  apply Array.ext'; simp
theorem pickBound {s : Slots} {a : Act} (h : SlotsOK P ε s a) (o : Option Operand) : BoundV P ε (o.map (ev s)) (o.map a.eval) := by
  cases o with
  | none => trivial
  | some x => exact ev_den h x
theorem isStr_iff {s : SV} : isStr s = true → ∃ b, s = .one (.str b) := by
  intro h; unfold isStr at h; split at h
  · exact ⟨_, rfl⟩
  · cases h

theorem constIx_eval {ix : Operand} {i : Int} {a : Act} (hi : constIx ix = some i) : ∃ k, a.eval ix = .int k i := by
  unfold constIx at hi
  split at hi
  · rename_i k i'; cases hi; exact ⟨k, rfl⟩
  · cases hi

theorem opP_sound {fs : List Fun} (htt : TTOK Pg tt) (hfs : FsAt Pg cx fs) (I : Inv cx P ε φ tab W) {fresh : Nat} (hfr : Fresh ε fresh) {s : Slots} {a : Act} (hs : SlotsOK P ε s a)
    (o : Oper) (sv : SV) (tab' : Tab) (h : (opP tt fs s o fresh).run tab = some (sv, tab')) {next : Act → World → Prop} {Q : Exit → Act → World → Prop}
    (hn : After cx P ε fresh tab' sv (fun v W' => next (a.put o.dst v) W')) : o.wp Pg a W next Q := by
  obtain ⟨dst, op, ty, pos, after, guard⟩ := o
  cases op <;> simp only [opP] at h <;> first | exact (run_fail_inv h).elim | skip
  case move x =>
    obtain ⟨e1, e2⟩ := run_pure_inv h
    subst e1; subst e2
    exact wp_val I (ev_den hs x) rfl hn
  case assign x =>
    obtain ⟨e1, e2⟩ := run_pure_inv h
    subst e1; subst e2
    exact wp_val I (ev_den hs x) rfl hn
  case pick c x y =>
    split at h
    · rename_i g hg
      have hc := ev_den hs c
      rw [hg] at hc
      have hc : a.eval c = .bool g := hc
      have hrun : (execOp a.eval { dst, op := .pick c x y, type := ty, pos, after, guard }).run Pg W = .ok (.value (if g then a.eval x else a.eval y)) W := by
        simp [execOp, hc, asBool]
      have done : ∀ (v : SV) (t : Tab), v = sv → t = tab' → t = tab → DenV P ε v (if g then a.eval x else a.eval y) → Oper.wp Pg { dst, op := .pick c x y, type := ty, pos, after, guard } a W next Q := by
        intro v t e1 e2 e3 hd
        subst e1; subst e2; subst e3
        unfold Oper.wp
        rw [hrun]
        exact hn _ W P ε φ (PHeap.le_refl P) (fun _ _ h => h) (fun _ h => .inl h) I hd
      split at h
      · rename_i bx b_y hx hy
        obtain ⟨e1, e2⟩ := run_pure_inv h
        have dx := ev_den hs x; rw [hx] at dx
        have dy := ev_den hs y; rw [hy] at dy
        refine done _ _ e1.symm e2.symm rfl ?_
        cases g
        · exact dy
        · exact dx
      · rcases run_ite_inv h with ⟨hg', h⟩ | ⟨hg', h⟩
        · obtain ⟨e1, e2⟩ := run_pure_inv h
          subst hg'
          exact done _ _ e1.symm e2.symm rfl (ev_den hs x)
        · obtain ⟨e1, e2⟩ := run_pure_inv h
          subst hg'
          exact done _ _ e1.symm e2.symm rfl (ev_den hs y)
    · exact (run_fail_inv h).elim
  case alloc t =>
    split at h
    · rename_i d ht
      split at h
      · rename_i z hz
        split at h
        · rename_i off ct n _
          split at h
          · rename_i vs ws hza
            obtain ⟨hnn, h⟩ := run_new_inv h
            obtain ⟨e1, e2⟩ := run_pure_inv h
            subst e1; subst e2
            have hf : ε fresh = none := hfr fresh (Nat.le_refl _) (by unfold stride; omega)
            obtain ⟨c1, c2, c3, d0, d1, d2, d3⟩ := zeroA_den P ε hza
            obtain ⟨W', ε', φ', g1, g2, g3, g4, g5⟩ := newVarA_sound (Pg := Pg) I hf hnn t z d0 d1 d2 d3
            refine wp_res (sv := .one (.own fresh)) (sem := Instr.alloc t true (.tuple #[])) ⟨_, W', P, ε', φ', ?_, PHeap.le_refl P, g2, ?_, g4, g5⟩ rfl hn
            · simp [Instr.alloc, td_zero (htt t d ht) hz, g1]
            · intro c hc; rcases g3 c hc with h | h
              · exact .inl h
              · right; subst h; exact ⟨Nat.le_refl _, by unfold stride; omega⟩
          · exact (run_fail_inv h).elim
        split at h
        · rename_i cs hcs
          obtain ⟨hnn, h⟩ := run_new_inv h
          obtain ⟨e1, e2⟩ := run_pure_inv h
          subst e1; subst e2
          have hf : ε fresh = none := hfr fresh (Nat.le_refl _) (by unfold stride; omega)
          obtain ⟨d1, d2⟩ := cells?_den I hcs (constV_den P ε z)
          obtain ⟨W', ε', φ', g1, g2, g3, g4, g5⟩ := newVar_sound (Pg := Pg) I hf hnn t z cs d1
          refine wp_res (sv := .one (.own fresh)) (sem := Instr.alloc t true (.tuple #[])) ⟨_, W', P, ε', φ', ?_, PHeap.le_refl P, g2, ?_, g4, g5⟩ rfl hn
          · simp [Instr.alloc, td_zero (htt t d ht) hz, g1]
          · intro c hc; rcases g3 c hc with h | h
            · exact .inl h
            · right; subst h; exact ⟨Nat.le_refl _, by unfold stride; omega⟩
        · exact (run_fail_inv h).elim
      · exact (run_fail_inv h).elim
    · exact (run_fail_inv h).elim
  case box t x =>
    split at h
    · rename_i vs ct n y ws hev
      obtain ⟨hnn, h⟩ := run_new_inv h
      obtain ⟨e1, e2⟩ := run_pure_inv h
      subst e1; subst e2
      have hf : ε fresh = none := hfr fresh (Nat.le_refl _) (by unfold stride; omega)
      have hx := ev_den hs x
      rw [hev] at hx
      obtain ⟨us, c1, c2, c3, hu, d0, d1, d2, d3⟩ := hx
      obtain ⟨W', ε', φ', g1, g2, g3, g4, g5⟩ := newVarA_sound (Pg := Pg) I hf hnn t (a.eval x) (by rw [hu]; exact d0) d1 d2 d3
      refine wp_res (sv := .one (.own fresh)) (sem := Instr.box t (a.eval x)) ⟨_, W', P, ε', φ', ?_, PHeap.le_refl P, g2, ?_, g4, g5⟩ rfl hn
      · simp [Instr.box, g1]
      · intro c hc; rcases g3 c hc with h | h
        · exact .inl h
        · right; subst h; exact ⟨Nat.le_refl _, by unfold stride; omega⟩
    split at h
    · rename_i cs hcs
      split at h
      · rename_i off ct n _
        split at h
        · rename_i y hy
          split at h
          · rename_i hyl
            obtain ⟨hnn, h⟩ := run_new_inv h
            obtain ⟨e1, e2⟩ := run_pure_inv h
            subst e1; subst e2
            have hf : ε fresh = none := hfr fresh (Nat.le_refl _) (by unfold stride; omega)
            obtain ⟨d1, d2⟩ := cells?_den I hcs (ev_den hs x)
            have ha := ofSL_rep ct _ y _ hy (DenL.take n (DenL.drop off d1))
            have hlen : ((cs.drop off).take n).length = n := by
              have := ha.2.1
              rw [nbeq_true hyl] at this
              exact this.symm
            rw [hlen] at ha
            obtain ⟨W', ε', φ', g1, g2, g3, g4, g5⟩ := newVarA_sound (Pg := Pg) I hf hnn t (a.eval x) (c1 := (a.eval x).cells.toList.take off) (c2 := ((a.eval x).cells.toList.drop off).take n) (c3 := ((a.eval x).cells.toList.drop off).drop n) (by rw [List.take_append_drop, List.take_append_drop]) (DenL.take off d1) ha (DenL.drop n (DenL.drop off d1))
            refine wp_res (sv := .one (.own fresh)) (sem := Instr.box t (a.eval x)) ⟨_, W', P, ε', φ', ?_, PHeap.le_refl P, g2, ?_, g4, g5⟩ rfl hn
            · simp [Instr.box, g1]
            · intro c hc; rcases g3 c hc with h | h
              · exact .inl h
              · right; subst h; exact ⟨Nat.le_refl _, by unfold stride; omega⟩
          · exact (run_fail_inv h).elim
        · exact (run_fail_inv h).elim
      · obtain ⟨hnn, h⟩ := run_new_inv h
        obtain ⟨e1, e2⟩ := run_pure_inv h
        subst e1; subst e2
        have hf : ε fresh = none := hfr fresh (Nat.le_refl _) (by unfold stride; omega)
        obtain ⟨d1, d2⟩ := cells?_den I hcs (ev_den hs x)
        obtain ⟨W', ε', φ', g1, g2, g3, g4, g5⟩ := newVar_sound (Pg := Pg) I hf hnn t _ cs d1
        refine wp_res (sv := .one (.own fresh)) (sem := Instr.box t (a.eval x)) ⟨_, W', P, ε', φ', ?_, PHeap.le_refl P, g2, ?_, g4, g5⟩ rfl hn
        · simp [Instr.box, g1]
        · intro c hc; rcases g3 c hc with h | h
          · exact .inl h
          · right; subst h; exact ⟨Nat.le_refl _, by unfold stride; omega⟩
    · exact (run_fail_inv h).elim
  case build t parts =>
    have hb := build_sound (Pg := Pg) htt I t _ (parts.toList.map fun p => (p.1, a.eval p.2)) (by simp) (parts_den hs _) sv tab' h
    exact wp_res (sem := Instr.build t (parts.map fun (i, x) => (i, a.eval x))) (by rw [arr_parts]; exact res_same I hb fresh) rfl hn
  case buildSlice t n parts =>
    have hb := buildSlice_sound (Pg := Pg) htt I t n _ (parts.toList.map fun p => (p.1, a.eval p.2)) (by simp) (parts_den hs _) hfr h
    exact wp_res (sem := Instr.buildSlice t n (parts.map fun (i, x) => (i, a.eval x))) (by rw [arr_parts]; exact hb) rfl hn
  case load t x =>
    exact wp_res (sem := Instr.loadAt t (a.eval x)) (res_same I (load_sound htt I t _ _ (ofOne_den (ev_den hs x)) sv tab' h) fresh) rfl hn
  case store t x y =>
    split at h
    · rename_i d vs ct n yy ws ht hev
      have hy := ev_den hs y
      rw [hev] at hy
      obtain ⟨e1, W', g1, g2⟩ := storeA_sound (Pg := Pg) I (htt t d ht) _ _ _ (ofOne_den (ev_den hs x)) hy sv tab' h
      subst e1
      unfold Oper.wp
      simp only [execOp, Sem.run_bind, g1, Result.andThen_ok, Sem.run_pure]
      exact hn undef W' P ε φ (PHeap.le_refl P) (fun _ _ h => h) (fun _ h => .inl h) g2 trivial
    · rename_i d cs ht hcs _
      split at h
      · rename_i hlen
        obtain ⟨d1, d2⟩ := cells?_den I hcs (ev_den hs y)
        have plain : (storeP (ofOne (ev s x)) cs).run tab = some (sv, tab') → Oper.wp Pg { dst, op := .store t x y, type := ty, pos, after, guard } a W next Q := by
          intro h
          obtain ⟨e1, e2, W', g1, g2⟩ := store_sound (Pg := Pg) I (htt t d ht) _ _ _ (ofOne_den (ev_den hs x)) cs d1 d2 (nbeq_true hlen) sv tab' h
          subst e1
          unfold Oper.wp
          simp only [execOp, Sem.run_bind, g1, Result.andThen_ok, Sem.run_pure]
          exact hn undef W' P ε φ (PHeap.le_refl P) (fun _ _ h => h) (fun _ h => .inl h) g2 trivial
        split at h
        · split at h
          · rename_i c z i off hx
            have hxd := ofOne_den (ev_den hs x)
            rw [hx] at hxd
            obtain ⟨e1, W', P', φ', g1, g2, g3⟩ := storeElem_sound (Pg := Pg) I (htt t d ht) _ _ hxd cs d1 d2 (nbeq_true hlen) sv tab' h
            subst e1
            unfold Oper.wp
            simp only [execOp, Sem.run_bind, g1, Result.andThen_ok, Sem.run_pure]
            exact hn undef W' P' ε φ' g2 (fun _ _ h => h) (fun _ h => .inl h) g3 trivial
          · exact plain h
        · exact plain h
      · exact (run_fail_inv h).elim
    · exact (run_fail_inv h).elim
  case nilCheck x =>
    have hx := ev_den hs x
    split at h
    · rename_i c hc
      rw [hc] at hx
      have hx : ε c = some (a.eval x) := hx
      unfold openP at h
      obtain ⟨y, hy, h⟩ := run_get_inv h
      have fin : ∀ (b : Nat) (v : SV) (t : Tab) (ε' : HMap) (φ' : Nat → List Nat), a.eval x = .pointer (some ⟨b, 0, none⟩) → v = sv → t = tab' → HMap.le ε ε' → (∀ c, ε' c ≠ none → ε c ≠ none ∨ (fresh ≤ c ∧ c < fresh + stride)) →
          Inv cx P ε' φ' t W → DenV P ε' v (a.eval x) → Oper.wp Pg { dst, op := .nilCheck x, type := ty, pos, after, guard } a W next Q := by
        intro b v t ε' φ' hv e1 e2 g1 g2 g3 g4
        subst e1; subst e2
        have : (execOp a.eval { dst, op := .nilCheck x, type := ty, pos, after, guard }).run Pg W = .ok (.value (a.eval x)) W := by
          simp [execOp, hv]
        unfold Oper.wp
        rw [this]
        exact hn _ W P ε' φ' (PHeap.le_refl P) g1 g2 g3 g4
      cases y <;> first | exact (run_fail_inv h).elim | skip
      · obtain ⟨e1, e2⟩ := run_pure_inv h
        obtain ⟨w, f1, b, cs, T, f2, _⟩ := I.chunk c _ hy
        rw [hx] at f1; cases f1
        exact fin b _ _ ε φ f2 e1.symm e2.symm (fun _ _ h => h) (fun _ h => .inl h) I hx
      · rename_i e m
        simp only at h
        split at h
        · rename_i hsz
          obtain ⟨z, hz, h⟩ := run_bindO_inv h
          subst hz
          obtain ⟨t1, ε', φ', k1, k2, k3, k4, k5, b, k6⟩ := open_sound I (Nat.le_of_ble_eq_true hsz) hfr hy h
          obtain ⟨e1, e2⟩ := run_pure_inv k1
          rw [hx] at k6
          exact fin b _ _ ε' φ' (by injection k6) e1.symm e2.symm k3 k4 k5 (k3 _ _ hx)
        · exact (run_fail_inv h).elim
      · rename_i p t n q m
        simp only at h
        split at h
        · rename_i hsz
          obtain ⟨z, hz, h⟩ := run_bindO_inv h
          subst hz
          obtain ⟨t1, ε', φ', k1, k2, k3, k4, k5, b, k6⟩ := openA_sound I (Nat.le_of_ble_eq_true hsz) hfr hy h
          obtain ⟨e1, e2⟩ := run_pure_inv k1
          rw [hx] at k6
          exact fin b _ _ ε' φ' (by injection k6) e1.symm e2.symm k3 k4 k5 (k3 _ _ hx)
        · exact (run_fail_inv h).elim
      · obtain ⟨e1, e2⟩ := run_pure_inv h
        obtain ⟨w, f1, b, cs, T, c1, c2, c3, f2, _⟩ := I.chunk c _ hy
        rw [hx] at f1; cases f1
        exact fin b _ _ ε φ f2 e1.symm e2.symm (fun _ _ h => h) (fun _ h => .inl h) I hx
    · rename_i e m hy
      rw [hy] at hx
      obtain ⟨z, hz, h⟩ := run_bindO_inv h
      subst hz
      obtain ⟨e1, e2⟩ := run_pure_inv h
      subst e1; subst e2
      have hx : (CT.rop e).Rep P (some z) (a.eval x) := hx
      simp only [CT.Rep] at hx
      rcases hx with ⟨hx, _⟩ | ⟨z', ad, g1, g2, g3, g4⟩
      · cases hx
      cases g1
      have : (execOp a.eval { dst, op := .nilCheck x, type := ty, pos, after, guard }).run Pg W = .ok (.value (a.eval x)) W := by
        simp [execOp, g2]
      unfold Oper.wp
      rw [this]
      exact hn _ W P ε φ (PHeap.le_refl P) (fun _ _ h => h) (fun _ h => .inl h) I ⟨ad, g2, g3, g4⟩
    · rename_i y hne hne2 hy
      rw [hy] at hx
      split at h
      · rename_i hok
        obtain ⟨e1, e2⟩ := run_pure_inv h
        subst e1; subst e2
        have hp : ∃ p, a.eval x = .pointer (some p) := by
          cases y <;> simp only [pcellOK] at hok <;> first | (cases hok; done) | skip
          case own c => exact absurd rfl (hne c)
          case pcell c off => obtain ⟨b, h1, h2⟩ := hx; exact ⟨_, h2⟩
          case parr c off i => obtain ⟨b, h1, h2⟩ := hx; exact ⟨_, h2⟩
          case pelem c z i off => obtain ⟨b, o, m, cap, h1, h2⟩ := hx; exact ⟨_, h2⟩
          case pro e y => obtain ⟨ad, h1, _⟩ := hx; exact ⟨_, h1⟩
          case rp1 off c => obtain ⟨b, o, w, h1, _⟩ := hx; exact ⟨_, h1⟩
        obtain ⟨p, hp⟩ := hp
        have : (execOp a.eval { dst, op := .nilCheck x, type := ty, pos, after, guard }).run Pg W = .ok (.value (a.eval x)) W := by
          simp [execOp, hp]
        unfold Oper.wp
        rw [this]
        exact hn _ W P ε φ (PHeap.le_refl P) (fun _ _ h => h) (fun _ h => .inl h) I hx
      · exact (run_fail_inv h).elim
    · exact (run_fail_inv h).elim
  case binOp op t x y yt =>
    refine wp_res (sem := do eqGuard op t x y (a.eval x) (a.eval y); binOp op t (a.eval x) (a.eval y)) (binP_sound htt I hfr op t _ _ _ _ (ownV_den (ev_den hs x)) (ownV_den (ev_den hs y)) x y ?_ sv tab' h) rfl hn
    intro k n e; subst e; rfl
  case unOp op t x =>
    exact wp_res (sem := Op.unary op (a.eval x)) (res_same I (unP_sound op _ _ (ev_den hs x) sv tab' h) fresh) rfl hn
  case convert src dst' x =>
    exact wp_res (sem := convert src dst' (a.eval x)) (convP_sound htt I hfr src dst' _ _ (ev_den hs x) sv tab' h) rfl hn
  case slice t x lo hi mx =>
    split at h
    · rename_i d ht
      have hd := htt t d ht
      split at h
      · rename_i hk
        split at h
        · rename_i hst
          refine wp_res (sem := Instr.sliceAt t (a.eval x) (lo.map a.eval) (hi.map a.eval) (mx.map a.eval)) (res_same I (sliceP_sound I t d hd 1 _ _ (ev_den hs x) ?_ _ _ _ _ _ _ (pickBound hs lo) (pickBound hs hi) (pickBound hs mx) sv tab' h) fresh) rfl hn
          rw [hst]; exact hk
        · exact (run_fail_inv h).elim
      · rename_i e hk
        split at h
        · rename_i ed het hst
          refine wp_res (sem := Instr.sliceAt t (a.eval x) (lo.map a.eval) (hi.map a.eval) (mx.map a.eval)) (res_same I (sliceP_sound I t d hd ed.size _ _ (ev_den hs x) ?_ _ _ _ _ _ _ (pickBound hs lo) (pickBound hs hi) (pickBound hs mx) sv tab' h) fresh) rfl hn
          rw [hst]; exact ⟨e, ed, hk, htt e ed het, rfl⟩
        · exact (run_fail_inv h).elim
      · rename_i n e hk
        split at h
        · rename_i ed ct het _
          split at h
          · exact wp_res (sem := Instr.sliceAt t (a.eval x) none none none) (res_same I (sliceArr_sound hd hk (htt e ed het) I _ _ (ofOne_den (ev_den hs x)) h) fresh) rfl hn
          · exact (run_fail_inv h).elim
        · exact (run_fail_inv h).elim
      · exact (run_fail_inv h).elim
    · exact (run_fail_inv h).elim
  case fieldAddr t x f =>
    split at h
    · rename_i d ht
      have hd := htt t d ht
      split at h
      · rename_i fs hk
        split at h
        · rename_i p hp
          split at h
          · rename_i fd hfd
            have hfd' := htt _ fd hfd
            split at h
            · rename_i hsz hok
              have hsz := Nat.le_of_ble_eq_true hsz
              have hx := ofOne_den (ev_den hs x)
              split at h
              · rename_i c hc
                rw [hc] at hx hok
                obtain ⟨y, hy, h⟩ := run_get_inv h
                have hx' : ε c = some (a.eval x) := hx
                cases y <;> first | exact (run_fail_inv h).elim | skip
                · obtain ⟨e1, e2⟩ := run_pure_inv h
                  subst e1; subst e2
                  obtain ⟨w, f1, b, cs, T, f2, _⟩ := I.chunk c _ hy
                  rw [hx'] at f1; cases f1
                  exact wp_res (sem := Instr.fieldAt t (a.eval x) f) (res_same I ⟨rfl, fieldAddr_sound hd hk hp hfd' hsz (.own c) _ hx hok (fun c' e => by cases e; exact ⟨b, f2⟩)⟩ fresh) rfl hn
                · obtain ⟨e1, e2⟩ := run_pure_inv h
                  subst e1; subst e2
                  obtain ⟨w, f1, b, cs, T, c1, c2, c3, f2, _⟩ := I.chunk c _ hy
                  rw [hx'] at f1; cases f1
                  exact wp_res (sem := Instr.fieldAt t (a.eval x) f) (res_same I ⟨rfl, fieldAddr_sound hd hk hp hfd' hsz (.own c) _ hx hok (fun c' e => by cases e; exact ⟨b, f2⟩)⟩ fresh) rfl hn
              · rename_i hne
                obtain ⟨e1, e2⟩ := run_pure_inv h
                subst e1; subst e2
                exact wp_res (sem := Instr.fieldAt t (a.eval x) f) (res_same I ⟨rfl, fieldAddr_sound hd hk hp hfd' hsz _ _ hx hok (fun c e => absurd e (hne c))⟩ fresh) rfl hn
            · exact (run_fail_inv h).elim
          · exact (run_fail_inv h).elim
        · exact (run_fail_inv h).elim
      · exact (run_fail_inv h).elim
    · exact (run_fail_inv h).elim
  case field t x f =>
    split at h
    · rename_i d vs ht hx
      have hd := htt t d ht
      have hv := ev_den hs x
      rw [hx] at hv
      split at h
      · rename_i fs hk
        split at h
        · rename_i p hp
          split at h
          · rename_i fd hfd
            obtain ⟨e1, e2⟩ := run_ret_inv h
            subst e2
            exact wp_res (sem := Instr.field t (a.eval x) f) (res_same I ⟨rfl, field_sound hd hk hp (htt _ fd hfd) _ hv e1⟩ fresh) rfl hn
          · exact (run_fail_inv h).elim
        · exact (run_fail_inv h).elim
      · exact (run_fail_inv h).elim
    · rename_i d vs ct n y ws ht hx
      have hd := htt t d ht
      have hv := ev_den hs x
      rw [hx] at hv
      split at h
      · rename_i fs hk
        split at h
        · rename_i p hp
          split at h
          · rename_i fd hfd
            obtain ⟨e1, e2⟩ := run_ret_inv h
            subst e2
            exact wp_res (sem := Instr.field t (a.eval x) f) (res_same I ⟨rfl, field_soundA hd hk hp (htt _ fd hfd) _ hv e1⟩ fresh) rfl hn
          · exact (run_fail_inv h).elim
        · exact (run_fail_inv h).elim
      · exact (run_fail_inv h).elim
    · exact (run_fail_inv h).elim
  case indexAddr t x ix =>
    split at h
    · rename_i d ht
      have hd := htt t d ht
      split at h
      · rename_i e hk
        split at h
        · rename_i ed i het hi
          obtain ⟨k, hk'⟩ := intOf_run (ev_den hs ix) hi
          refine wp_res (sem := Instr.indexAt t (a.eval x) (a.eval ix)) (res_same I ?_ fresh) rfl hn
          rw [hk']
          exact indexAddr_sound I hd hk (htt e ed het) _ _ (ofOne_den (ev_den hs x)) k i sv tab' h
        · exact (run_fail_inv h).elim
      · rename_i n e hk
        split at h
        · rename_i ed het
          have hed := htt e ed het
          split at h
          · rename_i i ct _ hg hi hcell
            obtain ⟨k, hk'⟩ := intOf_run (ev_den hs ix) hi
            have hx := ofOne_den (ev_den hs x)
            have fin : ∀ (c off : Nat), ((off = 0 ∧ ε c = some (a.eval x)) ∨ ∃ b, ε c = some (.pointer (some ⟨b, 0, none⟩)) ∧ a.eval x = .pointer (some ⟨b, off, none⟩)) →
                (Prog.ite (decide (0 ≤ i)) (arrBig c off i.toNat ed.size n ct) .fail).run tab = some (sv, tab') → Oper.wp Pg { dst, op := .indexAddr t x ix, type := ty, pos, after, guard } a W next Q := by
              intro c off hxx h
              rcases run_ite_inv h with ⟨h0, h⟩ | ⟨_, h⟩
              · have h0 := of_decide_eq_true h0
                obtain ⟨r, g1, g2, g3⟩ := arrBig_sound hd hk hed I _ hxx k sv tab' h
                refine wp_res (sem := Instr.indexAt t (a.eval x) (a.eval ix)) (fresh := fresh) ⟨r, W, P, ε, φ, ?_, PHeap.le_refl P, fun _ _ h => h, fun _ h => .inl h, g2, g3⟩ rfl hn
                rw [hk', ← g1, Int.toNat_of_nonneg h0]
              · exact (run_fail_inv h).elim
            split at h
            · rename_i c hc
              rw [hc] at hx
              exact fin c 0 (.inl ⟨rfl, hx⟩) h
            · rename_i c off hc
              rw [hc] at hx
              rcases run_ite_inv h with ⟨h0, h⟩ | ⟨_, h⟩
              · have h0 := of_decide_eq_true h0
                rcases run_ite_inv h with ⟨h1, h⟩ | ⟨_, h⟩
                · have h1 : i.toNat < n := by simpa [Nat.blt_eq] using h1
                  obtain ⟨g1, g2⟩ := run_pure_inv h
                  subst g1; subst g2
                  obtain ⟨r, g1, g2⟩ := arrPc_sound (W := W) hd hk hed _ hx h1 k
                  refine wp_res (sem := Instr.indexAt t (a.eval x) (a.eval ix)) (res_same I ⟨rfl, r, ?_, g2⟩ fresh) rfl hn
                  rw [hk', ← g1, Int.toNat_of_nonneg h0]
                · exact (run_fail_inv h).elim
              · exact (run_fail_inv h).elim
            · rename_i c off j hc
              rw [hc] at hx
              split at h
              · rename_i h1
                rcases run_ite_inv h with ⟨h0, h⟩ | ⟨_, h⟩
                · rw [Bool.and_eq_true] at h0
                  have h2 := of_decide_eq_true h0.1
                  have h3 : i.toNat < n := by simpa [Nat.blt_eq] using h0.2
                  obtain ⟨g1, g2⟩ := run_pure_inv h
                  subst g1; subst g2
                  obtain ⟨r, g1, g2⟩ := parr_sound hd hk hed (nbeq_true h1) _ hx h3 k
                  refine wp_res (sem := Instr.indexAt t (a.eval x) (a.eval ix)) (res_same I ⟨rfl, r, ?_, g2⟩ fresh) rfl hn
                  rw [hk', ← g1, Int.toNat_of_nonneg h2]
                · exact (run_fail_inv h).elim
              · exact (run_fail_inv h).elim
            · exact (run_fail_inv h).elim
          split at h
          · rename_i hok
            have hx := ofOne_den (ev_den hs x)
            have hcx : ∀ i, constIx ix = some i → ∃ k, a.eval ix = .int k i := fun i hi => constIx_eval hi
            split at h
            · rename_i c hc
              rw [hc] at hx hok
              obtain ⟨y, hy, h⟩ := run_get_inv h
              cases y <;> first | exact (run_fail_inv h).elim | skip
              obtain ⟨w, f1, b, cs, T, f2, _⟩ := I.chunk c _ hy
              have hx' : ε c = some (a.eval x) := hx
              rw [hx'] at f1; cases f1
              exact wp_res (sem := Instr.indexAt t (a.eval x) (a.eval ix)) (res_same I (arrIx_sound hd hk hed (.own c) _ hx hok (fun c' e => by cases e; exact ⟨b, f2⟩) _ _ _ hcx (fun i hi => intOf_run (ev_den hs ix) hi) sv tab' h) fresh) rfl hn
            · rename_i hne
              exact wp_res (sem := Instr.indexAt t (a.eval x) (a.eval ix)) (res_same I (arrIx_sound hd hk hed _ _ hx hok (fun c e => absurd e (hne c)) _ _ _ hcx (fun i hi => intOf_run (ev_den hs ix) hi) sv tab' h) fresh) rfl hn
          · exact (run_fail_inv h).elim
        · exact (run_fail_inv h).elim
      · exact (run_fail_inv h).elim
    · exact (run_fail_inv h).elim
  case index t x ix =>
    split at h
    · rename_i b i hk hx hi
      obtain ⟨d, h1, h2, h3⟩ := tkind_td htt hk (by simp)
      obtain ⟨k, hk'⟩ := intOf_run (ev_den hs ix) hi
      obtain ⟨y, hy, h⟩ := run_bindO_inv h
      obtain ⟨e1, e2⟩ := run_pure_inv h
      subst e1; subst e2
      have hv := ev_den hs x
      rw [hx] at hv
      refine wp_res (sv := .one (.int .u8 y)) (sem := Instr.index t (a.eval x) (a.eval ix)) (res_same (sv := .one (.int .u8 y)) I ⟨rfl, .int .u8 (y.toNat : Int), ?_, rfl⟩ fresh) rfl hn
      rw [hk']
      exact index_sound b _ hv.1 (td_str h2 h3) k i y hy
    · rename_i n e ct m y i hk hx hi
      obtain ⟨d, h1, h2, h3⟩ := tkind_td htt hk (by simp)
      obtain ⟨k, hk'⟩ := intOf_run (ev_den hs ix) hi
      split at h
      · rename_i ed het
        split at h
        · rename_i hb
          simp only [Bool.and_eq_true, Bool.not_eq_true'] at hb
          have hmn := nbeq_true hb.2
          subst hmn
          obtain ⟨z, hz, h⟩ := run_bindO_inv h
          obtain ⟨e1, e2⟩ := run_pure_inv h
          subst e1; subst e2
          have hv := ev_den hs x
          rw [hx] at hv
          obtain ⟨cs, c1, c2, c3, hcs, hc, q1, q2, q3⟩ := hv
          have q1 : c1 = [] := q1
          have q3 : c3 = [] := q3
          subst q1; subst q3
          obtain ⟨r, g1, g2⟩ := indexA_sound (Pg := Pg) (W := W) (ε := ε) h2 h3 (htt e ed het) (nbeq_true hb.1.1) hb.1.2 (by rw [hc]; simpa using q2) k i hz
          exact wp_res (sem := Instr.index t (a.eval x) (a.eval ix)) (res_same I (sv := .one (CT.toS ct z)) ⟨rfl, r, by rw [hk', hcs]; exact g1, g2⟩ fresh) rfl hn
        · exact (run_fail_inv h).elim
      · exact (run_fail_inv h).elim
    · rename_i n e vs i hk hx hi
      obtain ⟨d, h1, h2, h3⟩ := tkind_td htt hk (by simp)
      obtain ⟨k, hk'⟩ := intOf_run (ev_den hs ix) hi
      have hv := ev_den hs x
      rw [hx] at hv
      obtain ⟨cs, hcs, hl⟩ := hv
      split at h
      · rename_i ed het
        split at h
        · rename_i hb
          simp only [Bool.and_eq_true, Bool.not_eq_true'] at hb
          split at h
          · rename_i j hj
            obtain ⟨k2, hk2⟩ := constIx_eval (a := a) hj
            split at h
            · rename_i y hy
              obtain ⟨e1, e2⟩ := run_pure_inv h
              subst e1; subst e2
              obtain ⟨r, g1, g2⟩ := indexL_sound (Pg := Pg) (W := W) h2 h3 (htt e ed het) (nbeq_true hb.1.1) hb.1.2 (nbeq_true hb.2) hl k2 j hy
              exact wp_res (sem := Instr.index t (a.eval x) (a.eval ix)) (res_same I (sv := .one y) ⟨rfl, r, by rw [hk2, hcs]; exact g1, g2⟩ fresh) rfl hn
            · exact (run_fail_inv h).elim
          · split at h
            · split at h
              · rename_i ct _ _ y hy
                obtain ⟨z, hz, h⟩ := run_bindO_inv h
                obtain ⟨e1, e2⟩ := run_pure_inv h
                subst e1; subst e2
                have hrep := ofSL_rep ct vs y cs.toList hy hl
                rw [nbeq_true hb.2] at hrep
                obtain ⟨r, g1, g2⟩ := indexA_sound (Pg := Pg) (W := W) (ε := ε) (ct := ct) h2 h3 (htt e ed het) (nbeq_true hb.1.1) hb.1.2 hrep k i hz
                exact wp_res (sem := Instr.index t (a.eval x) (a.eval ix)) (res_same I (sv := .one (CT.toS ct z)) ⟨rfl, r, by rw [hk', hcs]; exact g1, g2⟩ fresh) rfl hn
              · exact (run_fail_inv h).elim
            · exact (run_fail_inv h).elim
        · exact (run_fail_inv h).elim
      · exact (run_fail_inv h).elim
    · exact (run_fail_inv h).elim
  case range t x =>
    split at h
    · rename_i b hk hx
      obtain ⟨d, h1, h2, h3⟩ := tkind_td htt hk (by simp)
      have hv := ev_den hs x
      rw [hx] at hv
      exact wp_res (sem := Instr.range t (a.eval x)) (range_sound I hfr b _ hv (td_str h2 h3) h) rfl hn
    · rename_i ke ve c hk hx
      split at h
      · rename_i m hm
        have hv := ev_den hs x
        rw [hx] at hv
        exact wp_res (sem := Instr.range t (a.eval x)) (rangeMap_sound htt I hfr hm hv h) rfl hn
      · exact (run_fail_inv h).elim
    · rename_i ke ve k u xs hk hx
      obtain ⟨d, h1, h2, h3⟩ := tkind_td htt hk (by simp)
      have hv := ev_den hs x
      rw [hx] at hv
      exact wp_res (sem := Instr.range t (a.eval x)) (rangeRom_sound I hfr (td_map h2 h3) hv h) rfl hn
    · exact (run_fail_inv h).elim
  case entry it =>
    split at h
    · rename_i c hx
      have hv := ev_den hs it
      rw [hx] at hv
      obtain ⟨y, hy, h⟩ := run_get_inv h
      cases y <;> first | exact (run_fail_inv h).elim | skip
      · rename_i c' k u xs rest cur
        cases cur with
        | none => exact (run_fail_inv h).elim
        | some p =>
          obtain ⟨e1, e2⟩ := run_pure_inv h
          subst e1; subst e2
          exact wp_res (sem := Instr.entry (a.eval it)) (entry_sound I fresh hv hy) rfl hn
      · rename_i k u rest cur
        cases cur with
        | none => exact (run_fail_inv h).elim
        | some p =>
          obtain ⟨e1, e2⟩ := run_pure_inv h
          subst e1; subst e2
          exact wp_res (sem := Instr.entry (a.eval it)) (entryRom_sound I fresh hv hy) rfl hn
    · exact (run_fail_inv h).elim
  case next it str =>
    split at h
    · rename_i c hx
      have hv := ev_den hs it
      rw [hx] at hv
      obtain ⟨y, hy, h⟩ := run_get_inv h
      cases y <;> first | exact (run_fail_inv h).elim | skip
      exact wp_res (sem := Instr.next (a.eval it) true ty) (next_sound I fresh _ ty hv hy h) rfl hn
    · exact (run_fail_inv h).elim
  case makeSlice t l c =>
    split at h
    · rename_i n m hn' hm'
      obtain ⟨kl, e1⟩ := intOf_val (ev_den hs l) hn'
      obtain ⟨kc, e2⟩ := intOf_val (ev_den hs c) hm'
      exact wp_res (sem := Instr.makeSlice t (a.eval l) (a.eval c)) (by rw [e1, e2]; exact makeSlice_sound htt I t kl kc n m hfr h) rfl hn
    · exact (run_fail_inv h).elim
  case makeMap t r =>
    cases hm : mapTy tt t with
    | none => simp only [hm] at h; exact (run_fail_inv h).elim
    | some m =>
      obtain ⟨ke, ve, vd, z, hu, _⟩ := mapTy_ok htt hm
      cases r with
      | none =>
        simp only [hm] at h
        exact wp_res (sem := Instr.makeMap t none) (makeMap_sound I hfr m hu none (fun v hv => by cases hv) h) rfl hn
      | some r' =>
        simp only [hm] at h
        split at h
        · rename_i i hi
          obtain ⟨k, hk⟩ := intOf_run (ev_den hs r') hi
          exact wp_res (sem := Instr.makeMap t (some (a.eval r'))) (makeMap_sound I hfr m hu _ (fun v hv => by cases hv; exact ⟨k, i, hk⟩) h) rfl hn
        · exact (run_fail_inv h).elim
  case lookup t x ix ok =>
    exact wp_res (sem := Instr.lookup t (a.eval x) (a.eval ix) ok) (lookup_sound htt I fresh t _ _ (ofOne_den (ev_den hs x)) _ _ (ev_den hs ix) ok h) rfl hn
  case mapUpdate t x ix y =>
    obtain ⟨e1, W', P', φ', g1, g2, g3⟩ := update_sound (Pg := Pg) htt I t _ _ (ofOne_den (ev_den hs x)) _ _ (ev_den hs ix) _ _ (ev_den hs y) h
    subst e1
    unfold Oper.wp
    simp only [execOp, Sem.run_bind, g1, Result.andThen_ok, Sem.run_pure]
    exact hn undef W' P' ε φ' g2 (fun _ _ h => h) (fun _ h => .inl h) g3 trivial
  case mapEntry t x ix =>
    exact wp_res (sem := Instr.mapEntry t (a.eval x) (a.eval ix)) (mapEntry_sound htt I hfr t _ _ (ofOne_den (ev_den hs x)) _ _ (ev_den hs ix) h) rfl hn
  case entryStore t x st y =>
    obtain ⟨e1, W', P', φ', g1, g2, g3⟩ := entryStore_sound (Pg := Pg) I t _ _ _ _ (ofOne_den (ev_den hs x)) (ofOne_den (ev_den hs st)) _ _ (ev_den hs y) h
    subst e1
    unfold Oper.wp
    simp only [execOp, Sem.run_bind, g1, Result.andThen_ok, Sem.run_pure]
    exact hn undef W' P' ε φ' g2 (fun _ _ h => h) (fun _ h => .inl h) g3 trivial
  case extract t i =>
    split at h
    · rename_i vs hx
      have hv := ev_den hs t
      rw [hx] at hv
      split at h
      · rename_i s' hi
        obtain ⟨e1, e2⟩ := run_pure_inv h
        subst e1; subst e2
        exact wp_res (sem := Instr.extract (a.eval t) i) (res_same I ⟨rfl, extract_sound hv hi⟩ fresh) rfl hn
      · rename_i s' hi
        obtain ⟨e1, e2⟩ := run_pure_inv h
        subst e1; subst e2
        exact wp_res (sem := Instr.extract (a.eval t) i) (res_same I ⟨rfl, extract_sound hv hi⟩ fresh) rfl hn
      · exact (run_fail_inv h).elim
    · exact (run_fail_inv h).elim
  case makeFunc fn first captured =>
    obtain ⟨first⟩ := first
    obtain ⟨captured⟩ := captured
    simp only at h
    split at h
    · rename_i f x
      split at h
      · rename_i d hd hb
        obtain ⟨e1, e2⟩ := run_pure_inv h
        subst e1; subst e2
        have hx := ownV_den (ev_den hs x)
        rw [hd] at hx
        exact wp_val I (v := .func (.func f) #[a.eval x] #[]) (sv := .one (.bnd f d)) (show Den P ε (.bnd f d) _ from ⟨_, hx, by unfold bndVal; rw [hb]⟩) (by simp [execOp, Instr.makeFunc]) hn
      · exact (run_fail_inv h).elim
    · rename_i f x
      split at h
      · rename_i d hd
        obtain ⟨e1, e2⟩ := run_pure_inv h
        subst e1; subst e2
        have hx := ownV_den (ev_den hs x)
        rw [hd] at hx
        exact wp_val I (v := .func (.func f) #[] #[a.eval x]) (sv := .one (.bnd (f + 300) d)) (show Den P ε (.bnd (f + 300) d) _ from ⟨_, hx, by
          have hb : Nat.ble 300 (f + 300) = true := Nat.ble_eq_true_of_le (Nat.le_add_left _ _)
          unfold bndVal; rw [hb]; simp⟩) (by simp [execOp, Instr.makeFunc]) hn
      · exact (run_fail_inv h).elim
    · exact (run_fail_inv h).elim
  case sliceToArrayPointer t x =>
    split at h
    · rename_i d c xs hdt hx0
      have hd := htt t d hdt
      split at h
      · rename_i n e hk
        split at h
        · rename_i h2
          obtain ⟨y, hy, h⟩ := run_bindO_inv h
          obtain ⟨e1, e2⟩ := run_pure_inv h
          subst e1; subst e2
          have hx := ofOne_den (ev_den hs x)
          rw [hx0] at hx
          obtain ⟨r, g1, g2⟩ := arrayAt_sound (W := W) hd hk (Nat.le_of_ble_eq_true h2) hx hy
          exact wp_res (sem := Instr.arrayAt t (a.eval x)) (res_same I (sv := .one (.pro (repCT c n) y)) ⟨rfl, r, g1, g2⟩ fresh) rfl hn
        · exact (run_fail_inv h).elim
      · exact (run_fail_inv h).elim
    · exact (run_fail_inv h).elim
  case call c =>
    obtain ⟨callee, args, ats⟩ := c
    obtain ⟨args⟩ := args
    obtain ⟨ats⟩ := ats
    simp only at h
    cases callee with
    | invoke r m => exact (run_fail_inv h).elim
    | value f =>
      cases f with
      | func f =>
        simp only at h
        split at h
        · rename_i g hg
          obtain ⟨hgf, hok⟩ := hfs.2 f _ g hg
          rcases hok with hok | hok
          rotate_left
          · rw [ext_callP hok.plain] at h
            obtain ⟨v, W', hrun, hq⟩ := enter_sound hok.spec hfs.1 I hfr (denVs_map hs args) h
            rw [hgf] at hrun
            obtain ⟨v', P', ε', φ', e1, g1, g2, g3, g4, g5⟩ := hq
            cases e1
            unfold Oper.wp
            have hrun' : (execOp a.eval { dst, op := .call { callee := .value (.func f), args := ⟨args⟩, argTypes := ⟨ats⟩ }, type := ty, pos, after, guard }).run Pg W = .ok (.value v) W' := by
              have hr : (execOp a.eval { dst, op := .call { callee := .value (.func f), args := ⟨args⟩, argTypes := ⟨ats⟩ }, type := ty, pos, after, guard }) = callFunc f (args.map a.eval).toArray := by
                simp [execOp, resolve, Deferred.ofValue, invoke, Act.eval]
              rw [hr]; exact hrun
            rw [hrun']
            exact hn v W' P' ε' φ' g1 g2 g3 g4 g5
          obtain ⟨fn, hf1, hf2, hf3⟩ := hok.fn
          rw [hgf] at hf1
          have hcall := callok_sound hok.spec hfs.1 I hfr (denVs_map hs args) h
          rw [hgf] at hcall
          unfold Oper.wp
          have hrun : (execOp a.eval { dst, op := .call { callee := .value (.func f), args := ⟨args⟩, argTypes := ⟨ats⟩ }, type := ty, pos, after, guard }).run Pg W = .ok (.enter f (args.map a.eval).toArray) W := by
            have hn1 : ¬ fn.name = "runtime.NumGoroutine" := by simpa using hf2
            have hn2 : ¬ fn.body = none := fun e => by rw [e] at hf3; cases hf3
            have hprog : (program : Sem Program).run Pg W = .ok Pg W := rfl
            simp [execOp, resolve, Deferred.ofValue, invoke, callFunc, Act.eval, hprog, hf1, hn1, hn2]
          rw [hrun]
          exact hcall.mono fun e W' ⟨v, P', ε', φ', e1, g1, g2, g3, g4, g5⟩ => by subst e1; exact hn v W' P' ε' φ' g1 g2 g3 g4 g5
        · exact (run_fail_inv h).elim
      | tmp t =>
        simp only at h
        split at h
        · rename_i f d hev
          split at h
          · rename_i g hb hg
            obtain ⟨w, hw1, hw2⟩ : Den P ε (.bnd f d) (a.eval (.tmp t)) := by have := ev_den hs (.tmp t); rw [hev] at this; exact this
            unfold bndVal at hw2
            rw [hb] at hw2
            simp only at hw2
            obtain ⟨hgf, hok⟩ := hfs.2 f _ g hg
            rcases hok with hok | hok
            rotate_left
            · rw [ext_callP hok.plain] at h
              obtain ⟨v, W', hrun, hq⟩ := enter_sound hok.spec hfs.1 I hfr (ss := .one (.own d) :: args.map fun x => ownV (ev s x)) (vs := w :: args.map a.eval) ⟨_, _, rfl, hw1, denVs_map hs args⟩ h
              rw [hgf] at hrun
              obtain ⟨v', P', ε', φ', e1, g1, g2, g3, g4, g5⟩ := hq
              cases e1
              unfold Oper.wp
              have hrun' : (execOp a.eval { dst, op := .call { callee := .value (.tmp t), args := ⟨args⟩, argTypes := ⟨ats⟩ }, type := ty, pos, after, guard }).run Pg W = .ok (.value v) W' := by
                have hr : (execOp a.eval { dst, op := .call { callee := .value (.tmp t), args := ⟨args⟩, argTypes := ⟨ats⟩ }, type := ty, pos, after, guard }) = callFunc f (w :: args.map a.eval).toArray := by
                  simp [execOp, resolve, hw2, Deferred.ofValue, invoke]
                rw [hr]; exact hrun
              rw [hrun']
              exact hn v W' P' ε' φ' g1 g2 g3 g4 g5
            obtain ⟨fn, hf1, hf2, hf3⟩ := hok.fn
            rw [hgf] at hf1
            have hcall := callok_sound hok.spec hfs.1 I hfr (ss := .one (.own d) :: args.map fun x => ownV (ev s x)) (vs := w :: args.map a.eval) ⟨_, _, rfl, hw1, denVs_map hs args⟩ h
            rw [hgf] at hcall
            unfold Oper.wp
            have hrun : (execOp a.eval { dst, op := .call { callee := .value (.tmp t), args := ⟨args⟩, argTypes := ⟨ats⟩ }, type := ty, pos, after, guard }).run Pg W = .ok (.enter f (w :: args.map a.eval).toArray) W := by
              have hn1 : ¬ fn.name = "runtime.NumGoroutine" := by simpa using hf2
              have hn2 : ¬ fn.body = none := fun e => by rw [e] at hf3; cases hf3
              have hprog : (program : Sem Program).run Pg W = .ok Pg W := rfl
              simp [execOp, resolve, hw2, Deferred.ofValue, invoke, callFunc, hprog, hf1, hn1, hn2]
            rw [hrun]
            exact hcall.mono fun e W' ⟨v, P', ε', φ', e1, g1, g2, g3, g4, g5⟩ => by subst e1; exact hn v W' P' ε' φ' g1 g2 g3 g4 g5
          · exact (run_fail_inv h).elim
        · rename_i v0 hev
          have hv0 : a.eval (.tmp t) = v0 := by have := ev_den hs (.tmp t); rw [hev] at this; exact this
          split at h
          · rename_i f hf0
            have hw2 : a.eval (.tmp t) = .func (.func f) #[] #[] := by
              rw [hv0]
              unfold fnOf at hf0
              split at hf0
              · rename_i g x y
                split at hf0
                · rename_i hsz
                  simp only [Bool.and_eq_true] at hsz
                  cases hf0
                  rw [Array.eq_empty_of_size_eq_zero (nbeq_true hsz.1), Array.eq_empty_of_size_eq_zero (nbeq_true hsz.2)]
                · cases hf0
              · cases hf0
            split at h
            · rename_i g hg
              obtain ⟨hgf, hok⟩ := hfs.2 f _ g hg
              rcases hok with hok | hok
              rotate_left
              · rw [ext_callP hok.plain] at h
                obtain ⟨v, W', hrun, hq⟩ := enter_sound hok.spec hfs.1 I hfr (denVs_map hs args) h
                rw [hgf] at hrun
                obtain ⟨v', P', ε', φ', e1, g1, g2, g3, g4, g5⟩ := hq
                cases e1
                unfold Oper.wp
                have hrun' : (execOp a.eval { dst, op := .call { callee := .value (.tmp t), args := ⟨args⟩, argTypes := ⟨ats⟩ }, type := ty, pos, after, guard }).run Pg W = .ok (.value v) W' := by
                  have hr : (execOp a.eval { dst, op := .call { callee := .value (.tmp t), args := ⟨args⟩, argTypes := ⟨ats⟩ }, type := ty, pos, after, guard }) = callFunc f (args.map a.eval).toArray := by
                    simp [execOp, resolve, hw2, Deferred.ofValue, invoke]
                  rw [hr]; exact hrun
                rw [hrun']
                exact hn v W' P' ε' φ' g1 g2 g3 g4 g5
              obtain ⟨fn, hf1, hf2, hf3⟩ := hok.fn
              rw [hgf] at hf1
              have hcall := callok_sound hok.spec hfs.1 I hfr (denVs_map hs args) h
              rw [hgf] at hcall
              unfold Oper.wp
              have hrun : (execOp a.eval { dst, op := .call { callee := .value (.tmp t), args := ⟨args⟩, argTypes := ⟨ats⟩ }, type := ty, pos, after, guard }).run Pg W = .ok (.enter f (args.map a.eval).toArray) W := by
                have hn1 : ¬ fn.name = "runtime.NumGoroutine" := by simpa using hf2
                have hn2 : ¬ fn.body = none := fun e => by rw [e] at hf3; cases hf3
                have hprog : (program : Sem Program).run Pg W = .ok Pg W := rfl
                simp [execOp, resolve, hw2, Deferred.ofValue, invoke, callFunc, hprog, hf1, hn1, hn2]
              rw [hrun]
              exact hcall.mono fun e W' ⟨v, P', ε', φ', e1, g1, g2, g3, g4, g5⟩ => by subst e1; exact hn v W' P' ε' φ' g1 g2 g3 g4 g5
            · exact (run_fail_inv h).elim
          · exact (run_fail_inv h).elim
        · exact (run_fail_inv h).elim
      | _ => exact (run_fail_inv h).elim
    | builtin b =>
      have run1 : ∀ (sem : Sem Value), (∀ cs, builtin b ⟨ats⟩ ty cs ((args.map a.eval).toArray) = (do pure (.value (← sem)))) → ∀ W', ((execOp a.eval { dst, op := .call { callee := .builtin b, args := ⟨args⟩, argTypes := ⟨ats⟩ }, type := ty, pos, after, guard }).run Pg W') = ((do pure (.value (← sem))) : Sem Next).run Pg W' := by
        intro sem hsem W'
        simp only [execOp, resolve, Sem.run_bind, Sem.run_pure, Result.andThen_ok, invoke]
        have e : Array.map a.eval ⟨args⟩ = (args.map a.eval).toArray := by simp
        rw [e, hsem]
        simp only [Sem.run_bind, Sem.run_pure]
      have fin : ∀ (sem : Sem Value), (∀ cs, builtin b ⟨ats⟩ ty cs ((args.map a.eval).toArray) = (do pure (.value (← sem)))) → Res Pg cx P ε fresh W sem sv tab' → Oper.wp Pg { dst, op := .call { callee := .builtin b, args := ⟨args⟩, argTypes := ⟨ats⟩ }, type := ty, pos, after, guard } a W next Q := by
        intro sem hsem hr
        obtain ⟨r, W', P', ε', φ', h1, h2, h3, h4, h5, h6⟩ := hr
        unfold Oper.wp
        rw [run1 sem hsem]
        simp only [Sem.run_bind, h1, Result.andThen_ok, Sem.run_pure]
        exact hn r W' P' ε' φ' h2 h3 h4 h5 h6
      cases b <;> first | exact (run_fail_inv h).elim | skip
      case len =>
        simp only at h
        split at h
        · rename_i x t
          split at h
          · rename_i hk hst
            obtain ⟨d, h1, h2, h3⟩ := tkind_td htt hk (by simp)
            obtain ⟨bb, hb⟩ := isStr_iff hst
            refine fin (Builtin.len_ #[t] ty #[a.eval x]) (fun cs => rfl) (res_same I (lenP_sound I t _ _ (ofOne_den (ev_den hs x)) sv tab' h d h2 ?_ ty) fresh)
            rw [hb]; exact h3
          · rename_i e hk hst
            obtain ⟨d, h1, h2, h3⟩ := tkind_td htt hk (by simp)
            refine fin (Builtin.len_ #[t] ty #[a.eval x]) (fun cs => rfl) (res_same I (lenP_sound I t _ _ (ofOne_den (ev_den hs x)) sv tab' h d h2 ?_ ty) fresh)
            cases hx : ev s x with
            | one s' => rw [hx] at hst; cases s' <;> first | exact ⟨e, h3⟩ | cases hst
            | agg l => exact ⟨e, h3⟩
            | tup l => exact ⟨e, h3⟩
            | aggA _ _ _ _ _ => exact ⟨e, h3⟩
          · rename_i ke ve hk hst
            split at h
            · rename_i m c hm hc
              have hx := ofOne_den (ev_den hs x)
              rw [hc] at hx
              exact fin (Builtin.len_ #[t] ty #[a.eval x]) (fun cs => rfl) (maplen_sound htt I fresh t ty c hm _ hx h)
            · rename_i m k u xs hm hc
              have hx := ofOne_den (ev_den hs x)
              rw [hc] at hx
              split at h
              · exact fin (Builtin.len_ #[t] ty #[a.eval x]) (fun cs => rfl) (len_mapVal htt I fresh t ty hm (rom_val I hx) h)
              · exact (run_fail_inv h).elim
            · exact (run_fail_inv h).elim
          · exact (run_fail_inv h).elim
        · exact (run_fail_inv h).elim
      case delete =>
        simp only at h
        split at h
        · rename_i x y t u
          exact fin (Builtin.delete_ #[t, u] ty #[a.eval x, a.eval y]) (fun cs => rfl) (delete_sound htt I fresh t u ty _ _ (ofOne_den (ev_den hs x)) _ _ (ev_den hs y) h)
        · exact (run_fail_inv h).elim
      case clear =>
        simp only at h
        split at h
        · rename_i x t
          split at h
          · exact fin (Builtin.clear_ #[t] ty #[a.eval x]) (fun cs => rfl) (clear_sound htt I fresh t ty _ _ (ofOne_den (ev_den hs x)) h)
          · exact (run_fail_inv h).elim
        · exact (run_fail_inv h).elim
      case min =>
        simp only at h
        split at h
        · rename_i x y
          obtain ⟨e1, r, e2, e3⟩ := minmaxP_sound (Pg := Pg) (W := W) false _ _ _ _ (ev_den hs x) (ev_den hs y) sv tab' h
          subst e1
          exact fin (Builtin.min_ ⟨ats⟩ ty #[a.eval x, a.eval y]) (fun cs => rfl) (res_same I ⟨rfl, r, by simpa using e2 ⟨ats⟩ ty, e3⟩ fresh)
        · exact (run_fail_inv h).elim
      case max =>
        simp only at h
        split at h
        · rename_i x y
          obtain ⟨e1, r, e2, e3⟩ := minmaxP_sound (Pg := Pg) (W := W) true _ _ _ _ (ev_den hs x) (ev_den hs y) sv tab' h
          subst e1
          exact fin (Builtin.max_ ⟨ats⟩ ty #[a.eval x, a.eval y]) (fun cs => rfl) (res_same I ⟨rfl, r, by simpa using e2 ⟨ats⟩ ty, e3⟩ fresh)
        · exact (run_fail_inv h).elim
      case append =>
        simp only at h
        split at h
        · rename_i x y t u
          split at h
          · rename_i d ud ht hu
            split at h
            · exact (run_fail_inv h).elim
            · rename_i e hk hnk
              split at h
              · rename_i ed c het hct
                split at h
                · rename_i z hz hchk
                  split at h
                  · rename_i hzs
                    simp only [Bool.and_eq_true] at hchk
                    refine fin (Builtin.append_ #[t, u] ty #[a.eval x, a.eval y]) (fun cs => rfl) (appendP_sound I (htt t d ht) hk (htt u ud hu) ?_ (htt e ed het) (nbeq_true hchk.1) hz (nbeq_true hzs) (ofOne_den (ev_den hs x)) (ofOne_den (ev_den hs y)) hfr h ty)
                    intro k hk2; exact hnk k hk2
                  · exact (run_fail_inv h).elim
                · exact (run_fail_inv h).elim
              · exact (run_fail_inv h).elim
            · exact (run_fail_inv h).elim
          · exact (run_fail_inv h).elim
        · exact (run_fail_inv h).elim
end
end Go.Sx
