/- A walk of Go code by plain functions is sound. -/
import Derived.Test.YtegncnhhofbmiaaSxSound2
namespace Go.Sx

/-- An operation's computation has come off as the small program says. -/
def Res (Pg : Program) (cx : Cx) (P : PHeap) (ε : HMap) (fresh : Nat) (W : World) (s : Sem Value) (sv : SV) (tab' : Tab) : Prop :=
  ∃ r W' P' ε' φ', s.run Pg W = .ok r W' ∧ P.le P' ∧ HMap.le ε ε' ∧ (∀ c, ε' c ≠ none → ε c ≠ none ∨ (fresh ≤ c ∧ c < fresh + stride)) ∧
    Inv cx P' ε' φ' tab' W' ∧ DenV P' ε' sv r
/-- Numbers that were not given yet. -/
def Fresh (ε : HMap) (fresh : Nat) : Prop := ∀ c, fresh ≤ c → c < fresh + stride → ε c = none

theorem Res.same {Pg : Program} {cx : Cx} {P : PHeap} {ε : HMap} {φ : Nat → List Nat} {tab : Tab} {W : World} (I : Inv cx P ε φ tab W) {s : Sem Value} {sv : SV} {r : Value}
    (h : s.run Pg W = .ok r W) (hd : DenV P ε sv r) (fresh : Nat) : Res Pg cx P ε fresh W s sv tab :=
  ⟨r, W, P, ε, φ, h, PHeap.le_refl P, fun _ _ h => h, fun _ h => .inl h, I, hd⟩

section
variable {Pg : Program} {tt : TT} {cx : Cx} {P : PHeap} {ε : HMap} {φ : Nat → List Nat} {tab : Tab} {W : World}

theorem run_pure_inv {β : Type} {x y : β} {t t' : Tab} (h : (Prog.pure x).run t = some (y, t')) : y = x ∧ t' = t := by
  simp only [Prog.run, Option.some.injEq, Prod.mk.injEq] at h; exact ⟨h.1.symm, h.2.symm⟩
theorem run_fail_inv {β : Type} {y : β} {t t' : Tab} (h : (Prog.fail : Prog β).run t = some (y, t')) : False := by simp [Prog.run] at h
theorem run_ite_inv {β : Type} {b : Bool} {p q : Prog β} {y : β} {t t' : Tab} (h : (Prog.ite b p q).run t = some (y, t')) :
    (b = true ∧ p.run t = some (y, t')) ∨ (b = false ∧ q.run t = some (y, t')) := by
  cases b
  · exact .inr ⟨rfl, h⟩
  · exact .inl ⟨rfl, h⟩
theorem run_get_inv {β : Type} {c : Nat} {k : Chunk → Prog β} {y : β} {t t' : Tab} (h : (Prog.get c k).run t = some (y, t')) :
    ∃ x, t.get c = some x ∧ (k x).run t = some (y, t') := by
  simp only [Prog.run] at h
  cases hc : t.get c with
  | none => rw [hc] at h; cases h
  | some x => rw [hc] at h; exact ⟨x, rfl, h⟩
theorem run_new_inv {β : Type} {c : Nat} {x : Chunk} {k : Prog β} {y : β} {t t' : Tab} (h : (Prog.new c x k).run t = some (y, t')) :
    t.get c = none ∧ k.run (t.set c x) = some (y, t') := by
  simp only [Prog.run] at h
  cases hc : t.get c with
  | none => rw [hc] at h; exact ⟨rfl, h⟩
  | some x => rw [hc] at h; cases h
theorem run_bindO_inv {α β : Type} {m : Option α} {k : α → Prog β} {y : β} {t t' : Tab} (h : (Prog.bindO m k).run t = some (y, t')) :
    ∃ x, m = some x ∧ (k x).run t = some (y, t') := by
  cases m with
  | none => rw [Prog.run_bindO_none] at h; cases h
  | some x => exact ⟨x, rfl, h⟩
theorem run_ret_inv {α : Type} {m : Option α} {y : α} {t t' : Tab} (h : (ret m).run t = some (y, t')) : m = some y ∧ t' = t := by
  cases m with
  | none => exact (run_fail_inv h).elim
  | some x => obtain ⟨h1, h2⟩ := run_pure_inv h; exact ⟨by rw [h1], h2⟩
theorem run_bind_inv {α β : Type} {p : Prog α} {f : α → Prog β} {y : β} {t t' : Tab} (h : (p.bind f).run t = some (y, t')) :
    ∃ x t1, p.run t = some (x, t1) ∧ (f x).run t1 = some (y, t') := by
  rw [Prog.run_bind] at h
  cases hp : p.run t with
  | none => rw [hp] at h; cases h
  | some r => rw [hp] at h; exact ⟨r.1, r.2, rfl, h⟩

/-! ### Integers -/
theorem den_int {k : IntKind} {x : IK k} {v : Value} (h : DenV P ε (.one (.int k x)) v) : v = .int k (IK.toInt k x) := h
theorem ik_zero (k : IntKind) (y : IK k) : IK.eqb k y (IK.ofInt k 0) = decide (IK.toInt k y = 0) := by
  rw [IK.eqb_eq, IK.toInt_ofInt]
  have : k.wrap 0 = 0 := by cases k <;> simp [IntKind.wrap, IntKind.bits, IntKind.signed]
  rw [this]; rfl

theorem binInt_sound (I : Inv cx P ε φ tab W) (op : BinOp) (hop : op ≠ .shl ∧ op ≠ .shr) (k : IntKind) (x y : IK k) (t : Nat) (sv : SV) (tab' : Tab)
    (h : (binInt op k x y).run tab = some (sv, tab')) : tab' = tab ∧ ∃ r, (binOp op t (.int k (IK.toInt k x)) (.int k (IK.toInt k y))).run Pg W = .ok r W ∧ DenV P ε sv r := by
  cases op <;> simp only [binInt] at h
  case shl => exact absurd rfl hop.1
  case shr => exact absurd rfl hop.2
  case add => obtain ⟨rfl, rfl⟩ := run_pure_inv h; refine ⟨rfl, _, by simp [binOp, Op.intArith]; rfl, ?_⟩; simp [DenV, Den, IK.add_toInt]
  case sub => obtain ⟨rfl, rfl⟩ := run_pure_inv h; refine ⟨rfl, _, by simp [binOp, Op.intArith]; rfl, ?_⟩; simp [DenV, Den, IK.sub_toInt]
  case mul => obtain ⟨rfl, rfl⟩ := run_pure_inv h; refine ⟨rfl, _, by simp [binOp, Op.intArith]; rfl, ?_⟩; simp [DenV, Den, IK.mul_toInt]
  case quo =>
    rcases run_ite_inv h with ⟨_, h⟩ | ⟨hz, h⟩
    · exact (run_fail_inv h).elim
    · obtain ⟨rfl, rfl⟩ := run_pure_inv h
      rw [ik_zero] at hz
      have hz := of_decide_eq_false hz
      refine ⟨rfl, _, by simp [binOp, Op.intDiv, hz]; rfl, ?_⟩; simp [DenV, Den, IK.quo_toInt]
  case rem =>
    rcases run_ite_inv h with ⟨_, h⟩ | ⟨hz, h⟩
    · exact (run_fail_inv h).elim
    · obtain ⟨rfl, rfl⟩ := run_pure_inv h
      rw [ik_zero] at hz
      have hz := of_decide_eq_false hz
      refine ⟨rfl, _, by simp [binOp, Op.intDiv, hz]; rfl, ?_⟩; simp [DenV, Den, IK.rem_toInt]
  case and => obtain ⟨rfl, rfl⟩ := run_pure_inv h; refine ⟨rfl, _, by simp [binOp, Op.intBits]; rfl, ?_⟩; simp [DenV, Den, IK.and_toInt]
  case or => obtain ⟨rfl, rfl⟩ := run_pure_inv h; refine ⟨rfl, _, by simp [binOp, Op.intBits]; rfl, ?_⟩; simp [DenV, Den, IK.or_toInt]
  case xor => obtain ⟨rfl, rfl⟩ := run_pure_inv h; refine ⟨rfl, _, by simp [binOp, Op.intBits]; rfl, ?_⟩; simp [DenV, Den, IK.xor_toInt]
  case andNot => obtain ⟨rfl, rfl⟩ := run_pure_inv h; refine ⟨rfl, _, by simp [binOp, Op.intBits]; rfl, ?_⟩; simp [DenV, Den, IK.andNot_toInt]
  case eql => obtain ⟨rfl, rfl⟩ := run_pure_inv h; refine ⟨rfl, _, by simp [binOp, Op.intCmp]; rfl, ?_⟩; simp [DenV, Den, IK.eqb_eq]
  case neq => obtain ⟨rfl, rfl⟩ := run_pure_inv h; refine ⟨rfl, _, by simp [binOp, Op.intCmp]; rfl, ?_⟩; simp [DenV, Den, IK.eqb_eq, bne]
  case lss => obtain ⟨rfl, rfl⟩ := run_pure_inv h; refine ⟨rfl, _, by simp [binOp, Op.intCmp]; rfl, ?_⟩; simp [DenV, Den, IK.ltb_eq]
  case leq => obtain ⟨rfl, rfl⟩ := run_pure_inv h; refine ⟨rfl, _, by simp [binOp, Op.intCmp]; rfl, ?_⟩; simp [DenV, Den, IK.leb_eq]
  case gtr => obtain ⟨rfl, rfl⟩ := run_pure_inv h; refine ⟨rfl, _, by simp [binOp, Op.intCmp]; rfl, ?_⟩; simp [DenV, Den, IK.ltb_eq]
  case geq => obtain ⟨rfl, rfl⟩ := run_pure_inv h; refine ⟨rfl, _, by simp [binOp, Op.intCmp]; rfl, ?_⟩; simp [DenV, Den, IK.leb_eq]
  all_goals exact (run_fail_inv h).elim

theorem binDiv_sound (op : BinOp) (k : IntKind) (x : IK k) (n : Int) (z : IK k) (t : Nat) (h : binDiv op k x n = some z) (y : Int) (hy : y = k.wrap n) :
    (binOp op t (.int k (IK.toInt k x)) (.int k y)).run Pg W = .ok (.int k (IK.toInt k z)) W := by
  unfold binDiv at h
  split at h
  · cases h
  · rename_i hz
    have hz := of_decide_eq_false hz
    rw [← hy] at hz
    cases op <;> simp only [Option.some.injEq] at h <;> first | (cases h; done) | skip
    · subst h; simp [binOp, Op.intDiv, hz, IK.quo_toInt, IK.toInt_ofInt, ← hy]
    · subst h; simp [binOp, Op.intDiv, hz, IK.rem_toInt, IK.toInt_ofInt, ← hy]

theorem ba_toList (l : List UInt8) : (⟨l.toArray⟩ : ByteArray).toList = l := by
  rw [ByteArray.toList_eq]
theorem ba_append (a b : List UInt8) : (⟨a.toArray⟩ : ByteArray) ++ ⟨b.toArray⟩ = ⟨(a ++ b).toArray⟩ := by
  apply ByteArray.ext
  simp
theorem strCmp_sound (I : Inv cx P ε φ tab W) (op : BinOp) (a b : List UInt8) (t : Nat) (sv : SV) (tab' : Tab)
    (h : (strCmp op a b).run tab = some (sv, tab')) : tab' = tab ∧ ∃ r, (binOp op t (.string ⟨a.toArray⟩) (.string ⟨b.toArray⟩)).run Pg W = .ok r W ∧ DenV P ε sv r := by
  have beq_list : ∀ x y : List UInt8, (x == y) = decide (x = y) := fun x y => by rw [Bool.eq_iff_iff]; simp
  cases op <;> simp only [strCmp] at h
  case add =>
    rcases run_ite_inv h with ⟨hz, h⟩ | ⟨_, h⟩
    · obtain ⟨rfl, rfl⟩ := run_pure_inv h
      have hz := Nat.le_of_ble_eq_true hz
      unfold maxCells at hz
      have hn : ¬ (((⟨a.toArray⟩ : ByteArray).size + (⟨b.toArray⟩ : ByteArray).size : Nat) : Int) > IntKind.i64.max := by
        simp [ByteArray.size, IntKind.max, IntKind.signed, IntKind.bits]; omega
      refine ⟨rfl, .string ⟨(a ++ b).toArray⟩, ?_, rfl, by simp; omega⟩
      simp only [binOp, Op.stringOp]
      rw [if_neg hn, ba_append]; rfl
    · exact (run_fail_inv h).elim
  all_goals first | exact (run_fail_inv h).elim | skip
  all_goals
    obtain ⟨rfl, rfl⟩ := run_pure_inv h
    refine ⟨rfl, _, by simp only [binOp, Op.stringOp, ba_toList]; rfl, ?_⟩
    simp [DenV, Den, bytesLt]
end
end Go.Sx
