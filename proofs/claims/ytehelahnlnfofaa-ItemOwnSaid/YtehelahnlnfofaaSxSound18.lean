/- A part of the proof: a walk of Go code by plain functions, and that it is sound. -/
import Derived.Test.YtehelahnlnfofaaSxSound17
import Derived.LoopN
namespace Go.Sx

def X.exitOf : X → Exit
  | .normal => .normal
  | .exit id => .exit id
  | .ret => .ret

structure EnvOK (Pg : Program) (E : Env) : Prop where
  tt : TTOK Pg E.tt
  fs : ∀ f g, findFun E.fs f = some g → g.f = f ∧ FunOK Pg g
  mix : Pg.follows .mixedOrders = true

/-- What is to be shown where code ends. -/
def Ends {R : Type} (cx : Cx) (n : Nat) (K : X → St → Option R) (r : R) (Q : Exit → Act → World → Prop) : Prop :=
  ∀ e st a W P ε φ, K e st = some r → Match cx n P ε φ st.slots st.tab a W → FreeFrom ε st.next → Q e.exitOf a W

theorem sx_sound {Pg : Program} {E : Env} (hE : EnvOK Pg E) {cx : Cx} (hpin : ∀ c v, cx.pins c = some v → c ∈ E.pins) (hpin' : ∀ c ∈ E.pins, ∃ v, cx.pins c = some v) {R : Type} (c : Code) : ∀ (p : Nat) (st : St) (K : X → St → Option R) (r : R), sx E c p st K = some r →
    ∀ (P : PHeap) (ε : HMap) (φ : Nat → List Nat) (a : Act) (W : World), Match cx E.ntmps P ε φ st.slots st.tab a W → FreeFrom ε st.next →
    ∀ Q : Exit → Act → World → Prop, Ends cx E.ntmps K r Q → c.wp Pg Q a W := by
  induction c with
  | skip =>
    intro p st K r h P ε φ a W M hf Q hQ
    simp only [sx] at h
    exact wp_skip (hQ .normal st a W P ε φ h M hf)
  | region id ops draw =>
    intro p st K r h P ε φ a W M hf Q hQ
    simp only [sx] at h
    exact region_sound hE.tt hE.fs hE.mix (K := K .normal) h M hf fun st' a' W' P' ε' φ' hk M' hf' => hQ .normal st' a' W' P' ε' φ' hk M' hf'
  | seq x y ihx ihy =>
    intro p st K r h P ε φ a W M hf Q hQ
    simp only [sx] at h
    split at h
    · refine wp_seq (ihx _ _ _ _ h P ε φ a W M hf _ ?_)
      intro e st' a' W' P' ε' φ' hk M' hf'
      cases e with
      | normal => exact ihy _ _ _ _ hk P' ε' φ' a' W' M' hf' Q hQ
      | exit i => exact hQ (.exit i) st' a' W' P' ε' φ' hk M' hf'
      | ret => exact hQ .ret st' a' W' P' ε' φ' hk M' hf'
    · rename_i k _
      unfold ojoinA at h
      refine wp_seq (ihx _ _ _ _ h P ε φ a W M hf _ ?_)
      intro e st' a' W' P' ε' φ' hk M' hf'
      cases e with
      | normal =>
        simp only at hk
        obtain ⟨x, P2, ε2, φ2, hk, M2, hf2⟩ := intoK_sound hpin hpin' hk M' hf'
        rw [Arr.app_lam, stF_eq] at hk
        exact ihy _ _ _ _ hk P2 ε2 φ2 a' W' M2 hf2 Q hQ
      | exit i => exact hQ (.exit i) st' a' W' P' ε' φ' hk M' hf'
      | ret => exact hQ .ret st' a' W' P' ε' φ' hk M' hf'
  | cond o x y ihx ihy =>
    intro p st K r h P ε φ a W M hf Q hQ
    simp only [sx] at h
    split at h
    · rename_i b hb
      have hv := ev_den M.slots o
      rw [hb] at hv
      have hv : a.eval o = .bool b := hv
      refine wp_cond hv ?_
      unfold oite at h
      cases b with
      | true => exact ihx _ _ _ _ h P ε φ a W M hf Q hQ
      | false => exact ihy _ _ _ _ h P ε φ a W M hf Q hQ
    · cases h
  | block id c ih =>
    intro p st K r h P ε φ a W M hf Q hQ
    simp only [sx] at h
    refine wp_block (ih _ _ _ _ h P ε φ a W M hf _ ?_)
    intro e st' a' W' P' ε' φ' hk M' hf'
    cases e with
    | normal => exact hQ .normal st' a' W' P' ε' φ' hk M' hf'
    | exit i =>
      simp only at hk
      simp only [X.exitOf, Exit.inBlock]
      cases hb : Nat.beq i id with
      | true =>
        rw [hb] at hk
        rw [if_pos (nbeq_true hb)]
        exact hQ .normal st' a' W' P' ε' φ' hk M' hf'
      | false =>
        rw [hb] at hk
        rw [if_neg (nbeq_false hb)]
        exact hQ (.exit i) st' a' W' P' ε' φ' hk M' hf'
    | ret => exact hQ .ret st' a' W' P' ε' φ' hk M' hf'
  | loop c ih =>
    intro p st K r h P ε φ a W M hf Q hQ
    simp only [sx] at h
    split at h
    · cases h
    · rename_i k _
      obtain ⟨x0, P2, ε2, φ2, h, M2, hf2⟩ := intoK_sound hpin hpin' h M hf
      refine wp_loop_rounds E.fuel ?_
      simp only [stF_eq] at h
      clear M hf
      generalize E.fuel = f at h ⊢
      induction f generalizing x0 P2 ε2 φ2 a W with
      | zero => simp only [ofixA, Arr.app_const] at h; cases h
      | succ f ihf =>
        simp only [ofixA, Arr.app_lam] at h
        rw [rounds_succ]
        refine ih _ _ _ _ h P2 ε2 φ2 a W M2 hf2 _ ?_
        intro e st' a' W' P' ε' φ' hk M' hf'
        cases e with
        | normal =>
          simp only at hk
          obtain ⟨x, P3, ε3, φ3, hk, M3, hf3⟩ := intoK_sound hpin hpin' hk M' hf'
          exact ihf _ _ _ _ _ _ M3 hf3 hk
        | exit i => exact hQ (.exit i) st' a' W' P' ε' φ' hk M' hf'
        | ret => exact hQ .ret st' a' W' P' ε' φ' hk M' hf'
  | exit id =>
    intro p st K r h P ε φ a W M hf Q hQ
    simp only [sx] at h
    exact wp_exit (hQ (.exit id) st a W P ε φ h M hf)
  | ret =>
    intro p st K r h P ε φ a W M hf Q hQ
    simp only [sx] at h
    exact wp_ret (hQ .ret st a W P ε φ h M hf)
  | _ => intro p st K r h; simp only [sx] at h; cases h
end Go.Sx
