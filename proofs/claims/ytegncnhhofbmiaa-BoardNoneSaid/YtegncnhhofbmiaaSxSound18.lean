/- A walk of Go code by plain functions is sound. -/
import Derived.Test.YtegncnhhofbmiaaSxSound17
import Derived.LoopN
namespace Go.Sx

def X.exitOf : X → Exit
  | .normal => .normal
  | .exit id => .exit id
  | .ret => .ret

structure EnvOK (Pg : Program) (E : Env) (td : Bool := false) : Prop where
  tt : TTOK Pg E.tt
  fs : ∀ f as g, findFun E.fs f as = some g → g.f = f ∧ AnyOK Pg g td
  mix : Pg.follows .mixedOrders = true

/-- What is to be shown where code ends. -/
def Ends {R : Type} (cx : Cx) (n : Nat) (K : X → St → Option R) (r : R) (Q : Exit → Act → World → Prop) : Prop :=
  ∀ e st a W P ε φ, K e st = some r → Match cx n P ε φ st.slots st.tab a W → FreeFrom ε st.next → Q e.exitOf a W

theorem preOpen_sound {cx : Cx} {n : Nat} {P : PHeap} {slots : Slots} {a : Act} {W : World} : ∀ (l : List Nat) (nx nx' : Nat) (tab tab' : Tab) (ε : HMap) (φ : Nat → List Nat), (preOpen l nx).run tab = some (nx', tab') →
    Match cx n P ε φ slots tab a W → FreeFrom ε nx → ∃ ε' φ', Match cx n P ε' φ' slots tab' a W ∧ FreeFrom ε' nx'
  | [], nx, nx', tab, tab', ε, φ, h, M, hf => by
    obtain ⟨e1, e2⟩ := run_pure_inv h
    subst e1; subst e2
    exact ⟨ε, φ, M, hf⟩
  | c :: l, nx, nx', tab, tab', ε, φ, h, M, hf => by
    simp only [preOpen] at h
    obtain ⟨y, hc, h⟩ := run_get_inv h
    have skip : (preOpen l nx).run tab = some (nx', tab') → ∃ ε' φ', Match cx n P ε' φ' slots tab' a W ∧ FreeFrom ε' nx' := fun h => preOpen_sound l nx nx' tab tab' ε φ h M hf
    cases y with
    | fold e m =>
      simp only at h
      split at h
      · rename_i hsz
        obtain ⟨z, hz, h⟩ := run_bindO_inv h
        subst hz
        obtain ⟨t1, ε1, φ1, k1, k2, k3, k4, k5, _⟩ := open_sound M.inv (Nat.le_of_ble_eq_true hsz) (fun d h1 _ => hf d h1) hc h
        refine preOpen_sound l (nx + stride) nx' t1 tab' ε1 φ1 k1 ⟨k5, M.slots.mono (PHeap.le_refl _) k3, M.size, M.dfs, fun d v hv => k3 d v (M.pin d v hv)⟩ fun d hd => ?_
        cases he : ε1 d with
        | none => rfl
        | some w =>
          rcases k4 d (by rw [he]; simp) with h | h
          · exact absurd (hf d (by omega)) h
          · omega
      · exact skip h
    | cells vs => exact skip h
    | row e xs => exact skip h
    | sealed e xs => exact skip h
    | iter s p => exact skip h
    | map k v xs => exact skip h
    | foldA p t k q m =>
      simp only at h
      split at h
      · rename_i hsz
        obtain ⟨z, hz, h⟩ := run_bindO_inv h
        subst hz
        obtain ⟨t1, ε1, φ1, k1, k2, k3, k4, k5, _⟩ := openA_sound M.inv (Nat.le_of_ble_eq_true hsz) (fun d h1 _ => hf d h1) hc h
        refine preOpen_sound l (nx + stride) nx' t1 tab' ε1 φ1 k1 ⟨k5, M.slots.mono (PHeap.le_refl _) k3, M.size, M.dfs, fun d v hv => k3 d v (M.pin d v hv)⟩ fun d hd => ?_
        cases he : ε1 d with
        | none => rfl
        | some w =>
          rcases k4 d (by rw [he]; simp) with h | h
          · exact absurd (hf d (by omega)) h
          · omega
      · exact skip h
    | cellsA vs t n y ws => exact skip h
    | pre d e xs => exact skip h
    | miter c' k v xs rest cur => exact skip h
    | ranged d => exact skip h
    | sealedM k v xs => exact skip h
    | mapO c k v xs key => exact skip h
    | riter k v rest cur => exact skip h

theorem mapSlots_at (g : SV → SV) (hg : ∀ t, g (Slots.at [] t) = Slots.at [] t) : ∀ (s : Slots) (t : Nat), (mapSlots g s).at t = g (s.at t)
  | [], t => (hg t).symm
  | (u, v) :: r, t => by
    have ih := mapSlots_at g hg r t
    simp only [mapSlots, Slots.at, Map.get] at ih ⊢
    cases Nat.beq u t with
    | true => rfl
    | false => exact ih
theorem pcSlots_match {cx : Cx} {n : Nat} {P : PHeap} {ε : HMap} {φ : Nat → List Nat} {s : Slots} {tab : Tab} {a : Act} {W : World} (M : Match cx n P ε φ s tab a W) (names : List Nat) : Match cx n P ε φ (pcSlots names tab s) tab a W := by
  refine ⟨M.inv, ?_, M.size, M.dfs, M.pin⟩
  cases names with
  | nil => exact M.slots
  | cons m r =>
    intro u
    simp only [pcSlots]
    rw [mapSlots_at _ (fun t => rfl)]
    have h := M.slots u
    unfold pcV
    split
    · rename_i c hc
      rw [hc] at h
      have h : ε c = some _ := h
      split
      · split
        · rename_i vs hv
          obtain ⟨w, e1, b, cs, T, f1, _⟩ := M.inv.chunk c _ hv
          rw [h] at e1; cases e1
          exact ⟨b, by rw [h, f1], f1⟩
        · rename_i vs t k y ws hv
          obtain ⟨w, e1, b, cs, T, c1, c2, c3, f1, _⟩ := M.inv.chunk c _ hv
          rw [h] at e1; cases e1
          exact ⟨b, by rw [h, f1], f1⟩
        · exact h
      · exact h
    · exact h
theorem owSlots_match {cx : Cx} {n : Nat} {P : PHeap} {ε : HMap} {φ : Nat → List Nat} {s : Slots} {tab : Tab} {a : Act} {W : World} (M : Match cx n P ε φ s tab a W) (names : List Nat) : Match cx n P ε φ (owSlots names s) tab a W := by
  refine ⟨M.inv, ?_, M.size, M.dfs, M.pin⟩
  cases names with
  | nil => exact M.slots
  | cons m r =>
    intro u
    simp only [owSlots]
    rw [mapSlots_at _ (fun t => rfl)]
    exact ownV_den (M.slots u)
theorem mapNext_inv {draw : Bool} {ops : List Oper} {s : Slots} {t : Tab} {dst : Option Nat} {it : MIter} (h : mapNext draw ops s t = some (dst, it)) :
    draw = false ∧ ∃ o rest x cur, ops = o :: rest ∧ o.op = .next x false ∧ o.guard = none ∧ o.dst = dst ∧ ev s x = .one (.own it.d) ∧ t.get it.d = some (it.chunk it.rest cur) ∧ (it.c = none → ∃ a b, it.k = .agg a ∧ it.v = .agg b) := by
  unfold mapNext at h
  split at h
  · rename_i o rest
    split at h
    · rename_i x hop hg
      split at h
      · rename_i d hd
        split at h
        · rename_i c k v xs rs cur ht
          cases h
          exact ⟨rfl, o, rest, x, cur, rfl, hop, hg, rfl, hd, ht, fun h => by cases h⟩
        · rename_i k v rs cur ht
          cases h
          exact ⟨rfl, o, rest, x, cur, rfl, hop, hg, rfl, hd, ht, fun _ => ⟨k, v, rfl, rfl⟩⟩
        · cases h
      · cases h
    · cases h
  · cases h
/-- The next entry of a map, whichever it is; or the range is over. -/
theorem nextAny_sound {Pg : Program} {cx : Cx} {P : PHeap} {ε : HMap} {φ : Nat → List Nat} {tab : Tab} {W : World} (I : Inv cx P ε φ tab W) (it : MIter) {v : Value} (hv : ε it.d = some v) {cur : Option (it.k.T × it.v.T)} (hd : tab.get it.d = some (it.chunk it.rest cur))
    (hc : it.c = none → ∃ a b, it.k = .agg a ∧ it.v = .agg b) (ty : Nat) :
    (it.rest.length = 0 ∧ ∃ ε' φ', (Instr.next v false ty).run Pg W = .ok (.tuple #[.bool false]) W ∧ HMap.le ε ε' ∧ (∀ e, ε' e ≠ none → ε e ≠ none) ∧ Inv cx P ε' φ' (it.over tab) W) ∨
    ∃ j p r W', it.rest[j]? = some p ∧ j < it.rest.length ∧ (Instr.next v false ty).run Pg W = .ok r W' ∧ DenV P ε (.tup [.inl (.bool true), it.k.toS p.1, it.v.toS p.2]) r ∧ Inv cx P ε φ (tab.set it.d (it.chunk (it.rest.eraseIdx j) (some p))) W' := by
  obtain ⟨d, c, k, u, xs, rest⟩ := it
  cases c with
  | some c => exact nextMap_sound I hv hd ty
  | none =>
    obtain ⟨a, b, h1, h2⟩ := hc rfl
    simp only at h1 h2
    subst h1; subst h2
    exact nextRom_sound I hv hd ty
theorem putS_match {cx : Cx} {n : Nat} {P : PHeap} {ε : HMap} {φ : Nat → List Nat} {s : Slots} {tab : Tab} {a : Act} {W : World} (hs : SlotsOK P ε s a) (I : Inv cx P ε φ tab W) (hsz : a.tmps.size = n) (hdf : a.defers = []) (hpin : ∀ c v, cx.pins c = some v → ε c = some v)
    {dst : Option Nat} (hin : slotsIn n dst = true) {sv : SV} {v : Value} (hv : DenV P ε sv v) : Match cx n P ε φ (putS s dst sv) tab (a.put dst v) W :=
  ⟨I, slots_put hs (by rw [hsz]; exact hin) hv, by rw [Act.put_tmps]; cases dst <;> simp [hsz], by rw [Act.put_defers']; exact hdf, hpin⟩
theorem sx_sound {Pg : Program} {E : Env} {cx : Cx} (hE : EnvOK Pg E cx.td) (hgl : Glob Pg cx.P0) (hpin : ∀ c v, cx.pins c = some v → c ∈ E.pins) (hpin' : ∀ c ∈ E.pins, ∃ v, cx.pins c = some v) {R : Type} (c : Code) : ∀ (p : Nat) (st : St) (K : X → St → Option R) (r : R), sx E c p st K = some r →
    ∀ (P : PHeap) (ε : HMap) (φ : Nat → List Nat) (a : Act) (W : World), Match cx E.ntmps P ε φ st.slots st.tab a W → FreeFrom ε st.next →
    ∀ Q : Exit → Act → World → Prop, Ends cx E.ntmps K r Q → c.wp Pg Q a W := by
  induction c with
  | skip =>
    intro p st K r h P ε φ a W M hf Q hQ
    simp only [sx] at h
    exact wp_skip (hQ .normal st a W P ε φ h M hf)
  | region id ops draw =>
    intro p st K r h P ε φ a W M hf Q hQ
    simp only [sx, slotsG_eq] at h
    cases hm : mapNext draw ops.toList st.slots st.tab with
    | some q =>
      obtain ⟨dst, it⟩ := q
      rw [hm] at h
      simp only [stF_eq] at h
      obtain ⟨rfl, o, rest, x, cur, ho, hop, hg, hdst, hx, ht, hagg⟩ := mapNext_inv hm
      cases hin : slotsIn E.ntmps dst with
      | false => rw [hin] at h; cases h
      | true =>
      rw [hin] at h
      simp only at h
      have hsz : ops.size = rest.length + 1 := by rw [← Array.length_toList, ho]; rfl
      have ho0 : ops[0]? = some o := by rw [← Array.getElem?_toList, ho]; rfl
      have hv := ev_den M.slots x
      rw [hx] at hv
      have hv : ε it.d = some (a.eval x) := hv
      refine wp_region ?_
      have hr0 : List.range ops.size = 0 :: List.range' 1 (ops.size - 1) := by
        rw [hsz, List.range_eq_range', List.range'_succ]; simp
      rw [hr0, wpOps_cons]
      have hstep : ∀ (r : Value) (W' : World), (Instr.next (a.eval x) false o.type).run Pg W = .ok r W' → wpOps Pg ops Q (List.range' 1 (ops.size - 1)) (a.put o.dst r) W' →
          wpOp Pg ops Q 0 (fun a W => wpOps Pg ops Q (List.range' 1 (ops.size - 1)) a W) a W := by
        intro r W' hrun hrest
        unfold wpOp
        simp only [ho0]
        have hw : Region.wanted o (yielded ops a.tmps) = true := by unfold Region.wanted; rw [hg]
        rw [hw]
        simp only [if_true]
        left
        unfold Oper.wp
        have he : execOp a.eval o = (do pure (.value (← Instr.next (a.eval x) false o.type))) := by
          obtain ⟨dst', op', ty', pos', after', guard'⟩ := o
          simp only at hop
          subst hop
          rfl
        rw [he]
        simp only [Sem.run_bind, hrun, Result.andThen_ok, Sem.run_pure]
        exact hrest
      rcases nextAny_sound (Pg := Pg) M.inv it hv ht hagg o.type with ⟨h0, ε', φ', g1, g2, g3, g4⟩ | ⟨j, p, rv, W', g0, g1, g2, g3, g4⟩
      · refine hstep _ _ g1 ?_
        have hb : Nat.blt 0 it.rest.length = false := by rw [h0]; rfl
        rw [hb] at h
        have h : (regionK E.tt E.fs E.ntmps ops.toList (number 1 (ops.toList.drop 1)) (nextOver st dst it) [] fun st' _ => K .normal st') = some r := h
        rw [hdst]
        exact region_tail hE.tt ⟨hgl, hE.fs⟩ (next0 := st.next) rfl h (putS_match (M.slots.mono (PHeap.le_refl P) g2) g4 M.size M.dfs (fun c v hp => g2 _ _ (M.pin c v hp)) hin ⟨_, rfl, .bool false, [], rfl, rfl, rfl⟩)
          (fun c hc => by
            cases he : ε' c with
            | none => rfl
            | some w => exact absurd (hf c (by have : (nextOver st dst it).next = st.next + stride := rfl; omega)) (g3 c (by rw [he]; simp)))
          fun st' a' W' P' ε' φ' hk M' hf' => hQ .normal _ a' W' P' ε' φ' hk M' hf'
      · refine hstep _ _ g2 ?_
        have hb : Nat.blt 0 it.rest.length = true := by rw [Nat.blt_eq]; omega
        rw [hb] at h
        have h1 := (oallN_some h).2 j g1
        rw [g0] at h1
        have h1 : (regionK E.tt E.fs E.ntmps ops.toList (number 1 (ops.toList.drop 1)) (nextIn st dst it p j) [] fun st' _ => K .normal st') = some r := h1
        rw [hdst]
        exact region_tail hE.tt ⟨hgl, hE.fs⟩ (next0 := st.next) rfl h1 (putS_match M.slots g4 M.size M.dfs M.pin hin g3)
          (fun c hc => hf c (by have : (nextIn st dst it p j).next = st.next + stride := rfl; omega))
          fun st' a' W' P' ε' φ' hk M' hf' => hQ .normal _ a' W' P' ε' φ' hk M' hf'
    | none =>
    rw [hm] at h
    simp only at h
    rw [Prog.runK_eq] at h
    cases hr : (preOpen (preNames draw ops.toList st.slots) st.next).run st.tab with
    | none => rw [hr] at h; cases h
    | some q =>
    rw [hr] at h
    simp only [Option.bind_some] at h
    obtain ⟨ε0, φ0, M0, hf0⟩ := preOpen_sound _ _ q.1 _ q.2 ε φ hr M hf
    exact region_sound hE.tt ⟨hgl, hE.fs⟩ hE.mix (st := { slots := pcSlots (preNames draw ops.toList st.slots) q.2 st.slots, tab := q.2, next := q.1 })
      (K := fun st' => K .normal { slots := owSlots (preNames draw ops.toList st.slots) st'.slots, tab := st'.tab, next := st'.next }) h (pcSlots_match M0 _) hf0
      fun st' a' W' P' ε' φ' hk M' hf' => hQ .normal _ a' W' P' ε' φ' hk (owSlots_match M' _) hf'
  | seq x y ihx ihy =>
    intro p st K r h P ε φ a W M hf Q hQ
    simp only [sx] at h
    split at h
    · refine wp_seq (ihx _ _ _ _ h P ε φ a W M hf _ ?_)
      intro e st' a' W' P' ε' φ' hk M' hf'
      cases e with
      | normal => exact ihy _ _ _ _ hk P' ε' φ' a' W' M' hf' Q hQ
      | exit i => exact hQ (.exit i) st' a' W' P' ε' φ' hk M' hf'
      | ret => exact hQ .ret st' a' W' P' ε' φ' hk M' hf'
    · rename_i k _
      unfold ojoinA at h
      refine wp_seq (ihx _ _ _ _ h P ε φ a W M hf _ ?_)
      intro e st' a' W' P' ε' φ' hk M' hf'
      cases e with
      | normal =>
        simp only at hk
        obtain ⟨x, P2, ε2, φ2, hk, M2, hf2⟩ := intoK_sound hpin hpin' hk M' hf'
        rw [Arr.app_lam, stF_eq] at hk
        exact ihy _ _ _ _ hk P2 ε2 φ2 a' W' M2 hf2 Q hQ
      | exit i => exact hQ (.exit i) st' a' W' P' ε' φ' hk M' hf'
      | ret => exact hQ .ret st' a' W' P' ε' φ' hk M' hf'
  | cond o x y ihx ihy =>
    intro p st K r h P ε φ a W M hf Q hQ
    simp only [sx] at h
    split at h
    · rename_i b hb
      have hv := ev_den M.slots o
      rw [hb] at hv
      have hv : a.eval o = .bool b := hv
      refine wp_cond hv ?_
      unfold oite at h
      cases b with
      | true => exact ihx _ _ _ _ h P ε φ a W M hf Q hQ
      | false => exact ihy _ _ _ _ h P ε φ a W M hf Q hQ
    · cases h
  | block id c ih =>
    intro p st K r h P ε φ a W M hf Q hQ
    simp only [sx] at h
    refine wp_block (ih _ _ _ _ h P ε φ a W M hf _ ?_)
    intro e st' a' W' P' ε' φ' hk M' hf'
    cases e with
    | normal => exact hQ .normal st' a' W' P' ε' φ' hk M' hf'
    | exit i =>
      simp only at hk
      simp only [X.exitOf, Exit.inBlock]
      cases hb : Nat.beq i id with
      | true =>
        rw [hb] at hk
        rw [if_pos (nbeq_true hb)]
        exact hQ .normal st' a' W' P' ε' φ' hk M' hf'
      | false =>
        rw [hb] at hk
        rw [if_neg (nbeq_false hb)]
        exact hQ (.exit i) st' a' W' P' ε' φ' hk M' hf'
    | ret => exact hQ .ret st' a' W' P' ε' φ' hk M' hf'
  | loop c ih =>
    intro p st K r h P ε φ a W M hf Q hQ
    simp only [sx] at h
    split at h
    · cases h
    · rename_i k _
      obtain ⟨x0, P2, ε2, φ2, h, M2, hf2⟩ := intoK_sound hpin hpin' h M hf
      refine wp_loop_rounds E.fuel ?_
      simp only [stF_eq] at h
      clear M hf
      generalize E.fuel = f at h ⊢
      induction f generalizing x0 P2 ε2 φ2 a W with
      | zero => simp only [ofixA, Arr.app_const] at h; cases h
      | succ f ihf =>
        simp only [ofixA, Arr.app_lam] at h
        rw [rounds_succ]
        refine ih _ _ _ _ h P2 ε2 φ2 a W M2 hf2 _ ?_
        intro e st' a' W' P' ε' φ' hk M' hf'
        cases e with
        | normal =>
          simp only at hk
          obtain ⟨x, P3, ε3, φ3, hk, M3, hf3⟩ := intoK_sound hpin hpin' hk M' hf'
          exact ihf _ _ _ _ _ _ M3 hf3 hk
        | exit i => exact hQ (.exit i) st' a' W' P' ε' φ' hk M' hf'
        | ret => exact hQ .ret st' a' W' P' ε' φ' hk M' hf'
  | exit id =>
    intro p st K r h P ε φ a W M hf Q hQ
    simp only [sx] at h
    exact wp_exit (hQ (.exit id) st a W P ε φ h M hf)
  | ret =>
    intro p st K r h P ε φ a W M hf Q hQ
    simp only [sx] at h
    exact wp_ret (hQ .ret st a W P ε φ h M hf)
  | _ => intro p st K r h; simp only [sx] at h; cases h
end Go.Sx
