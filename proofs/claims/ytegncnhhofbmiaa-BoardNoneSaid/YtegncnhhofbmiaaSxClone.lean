/- A walk of Go code by plain functions is sound. -/
import Derived.Test.YtegncnhhofbmiaaSxFun
import Derived.Lib.SliceRun
namespace Go.Sx

/-! ### slices.Clone: whether the slice is nil is asked, and both ways come to the same -/
section
variable {Pg : Program} {n : Nat} {cx : Cx}
theorem wpOp_val {ops : Array Oper} {Q : Exit → Act → World → Prop} {i : Nat} {o : Oper} {a : Act} {W : World} {v : Value} {K : Act → World → Prop} (ho : ops[i]? = some o) (hg : o.guard = none)
    (hrun : (execOp a.eval o).run Pg W = .ok (.value v) W) (hK : K (a.put o.dst v) W) : wpOp Pg ops Q i K a W := by
  unfold wpOp
  simp only [ho]
  have hw : Region.wanted o (yielded ops a.tmps) = true := by unfold Region.wanted; rw [hg]
  rw [hw]
  simp only [if_true]
  unfold Oper.wp
  rw [hrun]
  exact .inl hK

def cloneS (e : CTs) (b : Bool) (xs : List e.T) : St := ⟨[(4, .one (.bool b)), (3, .one (.ro e xs)), (2, .one .nils), (0, .one (.ro e xs))], [], 1⟩
noncomputable def cloneK (E : Env) (sig : Sig) (rs : List ResultVar) (y : Code) : X → St → Option sig.Out := fun e st => match e with
  | .normal => sx E y 7 st (lastK E sig rs)
  | .exit i => lastK E sig rs (.exit i) st
  | .ret => lastK E sig rs .ret st
def cloneSig (e : CTs) : Sig := ⟨.cons (.one (.c (.ro e))) .nil, .cons (.one (.row e)) .nil⟩
def cloneF (e : CTs) (xs : List e.T) : Option (List e.T × Unit) := oite (Nat.ble (List.length xs) maxCells) (some (xs, ())) none

theorem clone_ok {td : Bool} {tt : TT} (htt : TTOK Pg tt) (hmix : Pg.follows .mixedOrders = true) {f : Nat} {fn : Func} {c : Code} {e : CTs} {rs : List ResultVar}
    (hf : Pg.funcs[f]? = some fn) (hname : (fn.name == "runtime.NumGoroutine") = false) (hb : fn.body = some c) (hn : fn.ntmps = 8) (hrs : fn.results.toList = rs)
    {i0 i1 ty : Nat} {p0 p1 p2 : Oper} {cnd y : Code} {yt : TypeId}
    (hc : c = .seq (.region i0 #[p0] false) (.seq (.seq (.region i1 #[p1, p2] false) cnd) y))
    (h0 : p0.op = .assign (.const (.slice none 0 0)) ∧ p0.dst = some 2 ∧ p0.guard = none)
    (h1 : p1.op = .move (.tmp 0) ∧ p1.dst = some 3 ∧ p1.guard = none)
    (h2 : p2.op = .binOp .eql ty (.tmp 3) (.const (.slice none 0 0)) yt ∧ p2.dst = some 4 ∧ p2.guard = none)
    (hty : (match Pg.underlying ty with | some (.slice _) => true | _ => false) = true)
    (hT : sx ⟨tt, [], 8, [], ⟨[], []⟩, 0⟩ cnd 13 (cloneS e true []) (cloneK ⟨tt, [], 8, [], ⟨[], []⟩, 0⟩ (cloneSig e) rs y) = some ([], ()))
    (hF : ∀ xs, sx ⟨tt, [], 8, [], ⟨[], []⟩, 0⟩ cnd 13 (cloneS e false xs) (cloneK ⟨tt, [], 8, [], ⟨[], []⟩, 0⟩ (cloneSig e) rs y) = oite (Nat.ble (0 + List.length xs) maxCells) (some ([] ++ xs, ())) none) :
    FunOK Pg ⟨f, cloneSig e, cloneF e⟩ td := by
  refine ⟨CallOK.of ?_ rfl, fn, hf, hname, by rw [hb]; rfl⟩
  obtain ⟨et, hty⟩ : ∃ et, Pg.underlying ty = some (.slice et) := by
    split at hty
    · rename_i et h; exact ⟨et, h⟩
    · cases hty
  let E : Env := ⟨tt, [], 8, [], ⟨[], []⟩, 0⟩
  have hE : EnvOK Pg E td := ⟨htt, FsOK.nil, hmix⟩
  refine fun_sound_wp hE (sig := cloneSig e) (F := cloneF e) hf hb hn (by rfl) fun xs r hr cx htd hgl hp1 hp2 P ε φ a W M hfr Q hQ => ?_
  subst htd
  rw [hrs] at hQ
  subst hc
  obtain ⟨h0a, h0b, h0c⟩ := h0
  obtain ⟨h1a, h1b, h1c⟩ := h1
  obtain ⟨h2a, h2b, h2c⟩ := h2
  have hsz : a.tmps.size = 8 := M.size
  have hv0 : (CT.ro e).Rep P xs (a.tmps.getD 0 undef) := M.slots 0
  have hv0' := hv0
  simp only [CT.Rep] at hv0'
  obtain ⟨ad, cap, hv, hle, hcap, hnil, _⟩ := hv0'
  have M1 : SlotsOK P ε [(2, .one .nils), (0, .one (.ro e xs))] (a.put (some 2) (.slice none 0 0)) := fun t => by
    have := slots_put M.slots (dst := some 2) (show slotsIn a.tmps.size (some 2) = true by rw [hsz]; rfl) (sv := .one .nils) (v := .slice none 0 0) ⟨none, rfl, fun ad h => by cases h⟩ t
    exact this
  have e1 : (a.put (some 2) (.slice none 0 0)).eval (.tmp 0) = a.tmps.getD 0 undef := by
    simp [Act.eval, Act.put, Array.getD_eq_getD_getElem?]
  refine wp_seq (wp_region ?_)
  show wpOps Pg #[p0] _ [0] a W
  rw [wpOps_cons]
  refine wpOp_val (o := p0) (v := .slice none 0 0) rfl h0c (by simp only [execOp, h0a]; rfl) ?_
  rw [h0b]
  refine wp_seq (wp_seq (wp_region ?_))
  show wpOps Pg #[p1, p2] _ [0, 1] _ W
  rw [wpOps_cons]
  refine wpOp_val (o := p1) (v := a.tmps.getD 0 undef) rfl h1c (by simp only [execOp, h1a, e1]; rfl) ?_
  rw [h1b]
  have hsz1 : (a.put (some 2) (.slice none 0 0)).tmps.size = 8 := by simp [Act.put, hsz]
  have M2 : SlotsOK P ε [(3, .one (.ro e xs)), (2, .one .nils), (0, .one (.ro e xs))] ((a.put (some 2) (.slice none 0 0)).put (some 3) (a.tmps.getD 0 undef)) := fun t => by
    have := slots_put M1 (dst := some 3) (show slotsIn (a.put (some 2) (.slice none 0 0)).tmps.size (some 3) = true by rw [hsz1]; rfl) (sv := .one (.ro e xs)) hv0 t
    exact this
  have hsz2 : ((a.put (some 2) (.slice none 0 0)).put (some 3) (a.tmps.getD 0 undef)).tmps.size = 8 := by simp [Act.put, hsz]
  have e2 : ((a.put (some 2) (.slice none 0 0)).put (some 3) (a.tmps.getD 0 undef)).eval (.tmp 3) = .slice ad (List.length xs) cap := by
    rw [← hv]
    simp only [Act.eval, Act.put, Array.getD_eq_getD_getElem?]
    rw [Array.getElem?_setIfInBounds_self_of_lt (by simp [hsz])]
    rfl
  have hrun : (execOp ((a.put (some 2) (.slice none 0 0)).put (some 3) (a.tmps.getD 0 undef)).eval p2).run Pg W = .ok (.value (.bool ad.isNone)) W := by
    have g1 := eqGuard_plain (W := W) (Pg := Pg) .eql ty (.tmp 3) (.const (.slice none 0 0)) (.slice ad (List.length xs) cap) (.slice none 0 0) (by simp) (by simp)
    have g2 := Go.Lib.run_eql_slice_nil (P := Pg) W ty et ad (List.length xs) cap 0 0 hty
    have e3 : ((a.put (some 2) (.slice none 0 0)).put (some 3) (a.tmps.getD 0 undef)).eval (.const (.slice none 0 0)) = .slice none 0 0 := rfl
    obtain ⟨dst, op, oty, pos, after, guard⟩ := p2
    simp only at h2a
    subst h2a
    simp only [execOp, e2, e3, Sem.run_bind, g1, g2, Result.andThen_ok, Sem.run_pure]
  rw [wpOps_cons]
  refine wpOp_val (o := p2) (v := .bool ad.isNone) rfl h2c hrun ?_
  rw [h2b]
  have M3 : Match cx 8 P ε φ (cloneS e ad.isNone xs).slots [] (((a.put (some 2) (.slice none 0 0)).put (some 3) (a.tmps.getD 0 undef)).put (some 4) (.bool ad.isNone)) W := by
    refine ⟨M.inv, fun t => ?_, by simp [Act.put, hsz], by simp [Act.put, M.dfs], M.pin⟩
    exact slots_put M2 (dst := some 4) (show slotsIn ((a.put (some 2) (.slice none 0 0)).put (some 3) (a.tmps.getD 0 undef)).tmps.size (some 4) = true by rw [hsz2]; rfl) (sv := .one (.bool ad.isNone)) (v := .bool ad.isNone) rfl t
  have hsx : sx E cnd 13 (cloneS e ad.isNone xs) (cloneK E (cloneSig e) rs y) = some r := by
    have hr : oite (Nat.ble (List.length xs) maxCells) (some (xs, ())) none = some r := hr
    cases hn' : ad with
    | none =>
      have : xs = [] := by
        have := hnil hn'
        exact List.length_eq_zero_iff.1 (by omega)
      subst this
      have e0 : r = ([], ()) := by
        have : (some (([], ()) : List e.T × Unit)) = some r := hr
        exact (Option.some.inj this).symm
      rw [e0]; exact hT
    | some q =>
      have h1 := hF xs
      have h2 : ∀ l : List e.T, oite (Nat.ble (List.length l) maxCells) (some ((l, ()) : List e.T × Unit)) none = some r → oite (Nat.ble (0 + List.length l) maxCells) (some (([] ++ l, ()) : List e.T × Unit)) none = some r := fun l h => by
        rw [Nat.zero_add]; exact h
      exact h1.trans (h2 xs hr)
  refine sx_sound hE (cx := cx) hgl hp1 hp2 cnd 13 _ _ r hsx P ε φ _ W M3 hfr _ ?_
  intro ex st a' W' P' ε' φ' hk M' hf'
  cases ex with
  | normal => exact sx_sound hE (cx := cx) hgl hp1 hp2 y 7 st _ r hk P' ε' φ' a' W' M' hf' Q hQ
  | exit i => cases hk
  | ret => exact hQ .ret st a' W' P' ε' φ' hk M' hf'

/-! ### The same, of a slice that is lent -/
def cloneSR (e : CTs) (b : Bool) (xs : List e.T) : St := ⟨[(4, .one (.bool b)), (3, .one (.own 0)), (2, .one .nils), (0, .one (.own 0))], [(0, .row e xs)], 1⟩
def cloneSigR (e : CTs) : Sig := ⟨.cons (.one (.row e)) .nil, .cons (.one (.row e)) .nil⟩
def cloneFR (e : CTs) (xs : List e.T) : Option (List e.T × List e.T) := oite (Nat.ble (List.length xs) maxCells) (some (xs, xs)) none

theorem clone_row_ok {td : Bool} {tt : TT} (htt : TTOK Pg tt) (hmix : Pg.follows .mixedOrders = true) {f : Nat} {fn : Func} {c : Code} {e : CTs} {rs : List ResultVar}
    (hf : Pg.funcs[f]? = some fn) (hname : (fn.name == "runtime.NumGoroutine") = false) (hb : fn.body = some c) (hn : fn.ntmps = 8) (hrs : fn.results.toList = rs)
    {i0 i1 ty : Nat} {p0 p1 p2 : Oper} {cnd y : Code} {yt : TypeId}
    (hc : c = .seq (.region i0 #[p0] false) (.seq (.seq (.region i1 #[p1, p2] false) cnd) y))
    (h0 : p0.op = .assign (.const (.slice none 0 0)) ∧ p0.dst = some 2 ∧ p0.guard = none)
    (h1 : p1.op = .move (.tmp 0) ∧ p1.dst = some 3 ∧ p1.guard = none)
    (h2 : p2.op = .binOp .eql ty (.tmp 3) (.const (.slice none 0 0)) yt ∧ p2.dst = some 4 ∧ p2.guard = none)
    (hty : (match Pg.underlying ty with | some (.slice _) => true | _ => false) = true)
    (hT : sx ⟨tt, [], 8, [0], ⟨[], []⟩, 0⟩ cnd 13 (cloneSR e true []) (cloneK ⟨tt, [], 8, [0], ⟨[], []⟩, 0⟩ (cloneSigR e) rs y) = some ([], []))
    (hF : ∀ xs, sx ⟨tt, [], 8, [0], ⟨[], []⟩, 0⟩ cnd 13 (cloneSR e false xs) (cloneK ⟨tt, [], 8, [0], ⟨[], []⟩, 0⟩ (cloneSigR e) rs y) = oite (Nat.ble (0 + List.length xs) maxCells) (some ([] ++ xs, xs)) none) :
    FunOK Pg ⟨f, cloneSigR e, cloneFR e⟩ td := by
  refine ⟨CallOK.of ?_ rfl, fn, hf, hname, by rw [hb]; rfl⟩
  obtain ⟨et, hty⟩ : ∃ et, Pg.underlying ty = some (.slice et) := by
    split at hty
    · rename_i et h; exact ⟨et, h⟩
    · cases hty
  let E : Env := ⟨tt, [], 8, [0], ⟨[], []⟩, 0⟩
  have hE : EnvOK Pg E td := ⟨htt, FsOK.nil, hmix⟩
  refine fun_sound_wp hE (sig := cloneSigR e) (F := cloneFR e) hf hb hn (by rfl) fun xs r hr cx htd hgl hp1 hp2 P ε φ a W M hfr Q hQ => ?_
  subst htd
  rw [hrs] at hQ
  subst hc
  obtain ⟨h0a, h0b, h0c⟩ := h0
  obtain ⟨h1a, h1b, h1c⟩ := h1
  obtain ⟨h2a, h2b, h2c⟩ := h2
  have hsz : a.tmps.size = 8 := M.size
  have hv0 : ε 0 = some (a.tmps.getD 0 undef) := M.slots 0
  obtain ⟨ad, cap, hv, hnil⟩ : ∃ (ad : Option Addr) (cap : Nat), a.tmps.getD 0 undef = .slice ad xs.length cap ∧ (ad = none → xs = []) := by
    obtain ⟨h, q1, q2⟩ := M.inv.chunk 0 (.row e xs) rfl
    rw [hv0] at q1; cases q1
    rcases q2 with ⟨q3, ⟨a0, q4, _⟩, _⟩ | ⟨b, off, cap, cs, T, fz, q3, _⟩
    · exact ⟨a0, 0, by rw [q4, q3]; rfl, fun _ => q3⟩
    · exact ⟨_, cap, q3, fun h => by cases h⟩
  have M1 : SlotsOK P ε [(2, .one .nils), (0, .one (.own 0))] (a.put (some 2) (.slice none 0 0)) := fun t => by
    have := slots_put M.slots (dst := some 2) (show slotsIn a.tmps.size (some 2) = true by rw [hsz]; rfl) (sv := .one .nils) (v := .slice none 0 0) ⟨none, rfl, fun ad h => by cases h⟩ t
    exact this
  have e1 : (a.put (some 2) (.slice none 0 0)).eval (.tmp 0) = a.tmps.getD 0 undef := by
    simp [Act.eval, Act.put, Array.getD_eq_getD_getElem?]
  refine wp_seq (wp_region ?_)
  show wpOps Pg #[p0] _ [0] a W
  rw [wpOps_cons]
  refine wpOp_val (o := p0) (v := .slice none 0 0) rfl h0c (by simp only [execOp, h0a]; rfl) ?_
  rw [h0b]
  refine wp_seq (wp_seq (wp_region ?_))
  show wpOps Pg #[p1, p2] _ [0, 1] _ W
  rw [wpOps_cons]
  refine wpOp_val (o := p1) (v := a.tmps.getD 0 undef) rfl h1c (by simp only [execOp, h1a, e1]; rfl) ?_
  rw [h1b]
  have hsz1 : (a.put (some 2) (.slice none 0 0)).tmps.size = 8 := by simp [Act.put, hsz]
  have M2 : SlotsOK P ε [(3, .one (.own 0)), (2, .one .nils), (0, .one (.own 0))] ((a.put (some 2) (.slice none 0 0)).put (some 3) (a.tmps.getD 0 undef)) := fun t => by
    have := slots_put M1 (dst := some 3) (show slotsIn (a.put (some 2) (.slice none 0 0)).tmps.size (some 3) = true by rw [hsz1]; rfl) (sv := .one (.own 0)) hv0 t
    exact this
  have hsz2 : ((a.put (some 2) (.slice none 0 0)).put (some 3) (a.tmps.getD 0 undef)).tmps.size = 8 := by simp [Act.put, hsz]
  have e2 : ((a.put (some 2) (.slice none 0 0)).put (some 3) (a.tmps.getD 0 undef)).eval (.tmp 3) = .slice ad (List.length xs) cap := by
    rw [← hv]
    simp only [Act.eval, Act.put, Array.getD_eq_getD_getElem?]
    rw [Array.getElem?_setIfInBounds_self_of_lt (by simp [hsz])]
    rfl
  have hrun : (execOp ((a.put (some 2) (.slice none 0 0)).put (some 3) (a.tmps.getD 0 undef)).eval p2).run Pg W = .ok (.value (.bool ad.isNone)) W := by
    have g1 := eqGuard_plain (W := W) (Pg := Pg) .eql ty (.tmp 3) (.const (.slice none 0 0)) (.slice ad (List.length xs) cap) (.slice none 0 0) (by simp) (by simp)
    have g2 := Go.Lib.run_eql_slice_nil (P := Pg) W ty et ad (List.length xs) cap 0 0 hty
    have e3 : ((a.put (some 2) (.slice none 0 0)).put (some 3) (a.tmps.getD 0 undef)).eval (.const (.slice none 0 0)) = .slice none 0 0 := rfl
    obtain ⟨dst, op, oty, pos, after, guard⟩ := p2
    simp only at h2a
    subst h2a
    simp only [execOp, e2, e3, Sem.run_bind, g1, g2, Result.andThen_ok, Sem.run_pure]
  rw [wpOps_cons]
  refine wpOp_val (o := p2) (v := .bool ad.isNone) rfl h2c hrun ?_
  rw [h2b]
  have M3 : Match cx 8 P ε φ (cloneSR e ad.isNone xs).slots [(0, .row e xs)] (((a.put (some 2) (.slice none 0 0)).put (some 3) (a.tmps.getD 0 undef)).put (some 4) (.bool ad.isNone)) W := by
    refine ⟨M.inv, fun t => ?_, by simp [Act.put, hsz], by simp [Act.put, M.dfs], M.pin⟩
    exact slots_put M2 (dst := some 4) (show slotsIn ((a.put (some 2) (.slice none 0 0)).put (some 3) (a.tmps.getD 0 undef)).tmps.size (some 4) = true by rw [hsz2]; rfl) (sv := .one (.bool ad.isNone)) (v := .bool ad.isNone) rfl t
  have hsx : sx E cnd 13 (cloneSR e ad.isNone xs) (cloneK E (cloneSigR e) rs y) = some r := by
    have hr : oite (Nat.ble (List.length xs) maxCells) (some (xs, xs)) none = some r := hr
    cases hn' : ad with
    | none =>
      have : xs = [] := hnil hn'
      subst this
      have e0 : r = ([], []) := by
        have : (some (([], []) : List e.T × List e.T)) = some r := hr
        exact (Option.some.inj this).symm
      rw [e0]; exact hT
    | some q =>
      have h1 := hF xs
      have h2 : ∀ l : List e.T, oite (Nat.ble (List.length l) maxCells) (some ((l, l) : List e.T × List e.T)) none = some r → oite (Nat.ble (0 + List.length l) maxCells) (some (([] ++ l, l) : List e.T × List e.T)) none = some r := fun l h => by
        rw [Nat.zero_add]; exact h
      exact h1.trans (h2 xs hr)
  refine sx_sound hE (cx := cx) hgl hp1 hp2 cnd 13 _ _ r hsx P ε φ _ W M3 hfr _ ?_
  intro ex st a' W' P' ε' φ' hk M' hf'
  cases ex with
  | normal => exact sx_sound hE (cx := cx) hgl hp1 hp2 y 7 st _ r hk P' ε' φ' a' W' M' hf' Q hQ
  | exit i => cases hk
  | ret => exact hQ .ret st a' W' P' ε' φ' hk M' hf'
end
end Go.Sx
