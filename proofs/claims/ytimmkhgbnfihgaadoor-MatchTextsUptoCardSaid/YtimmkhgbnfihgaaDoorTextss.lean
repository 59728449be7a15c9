/- The statement MatchTextsUptoCardSaid is proved: for every input of a bulk of at most 1048576 the law MatchTexts returns true, and its arguments read as before; the listed variables tied to the program's text. -/
import Derived.Test.YtimmkhgbnfihgaaDoorCards
import Derived.Test.YtimmkhgbnfihgaaDoorTie
import Derived.WalkKit
import Derived.ProofKit
import Derived.OpenShut
import Derived.Deep.DeepHandedRow
import Derived.Lib.LaidU8
import Derived.Test.YtimmkhgbnfihgaaDoorTexts
namespace Go.Proofs.YtimmkhgbnfihgaaDoor.matchTextsUpto
set_option maxRecDepth 100000
open Go.ChangeShapes Go.WideShapes Go.ChangeAt Go.RowKit Go.Sx

theorem own : ownKnob Tryd.prog.godebug = none := by kernel_rfl
theorem laid : laidOutB Tryd.prog = true := by kernel_rfl
theorem bulky (H : Type) : BulkFn (H := H) Rows.uptoBulk Rows.uptoBulkAll where
  str := fun s => by simp [Rows.uptoBulk]
  lit := fun l => by cases l <;> simp [Rows.uptoBulk]
  nil := by simp [Rows.uptoBulk]
  slice := fun es rest => by simp [Rows.uptoBulk]
  agg := fun ps => by simp [Rows.uptoBulk]
  cons := fun d r => by simp [Rows.uptoBulkAll]

/-- A world for the witness: the settled one, the listed variables holding what their initialisers lay. -/
noncomputable def laidWorld (os : Os) : World :=
  let w0 := World.holding Tryd.prog os ⟨#[], #[], []⟩
  let put (h : Array Obj) (g : Nat) (cs : Array Value) : Array Obj := h.modify g fun
    | .cells _ t frozen => .cells cs t frozen
    | o => o
  let h0 := w0.heap
  let h1 := put h0 1 (Lib.firstTab.map fun z => Value.int .u8 z).toArray
  let h2 := put h1 2 ((List.range 16).flatMap fun i => [Value.int .u8 (Lib.accLo i), Value.int .u8 (Lib.accHi i)]).toArray
  { w0 with heap := h2 }
theorem laid_met (os : Os) : laidMet Tryd.prog Rows.matchTextsUptoRow.laid ((laidWorld os).forCall (fun _ _ => 0) ⟨#[], #[.string ⟨#[]⟩, .slice none 0 0, .slice none 0 0], []⟩).memory :=
  laidMet_of_run' 8 (by kernel_rfl) (by kernel_rfl)
theorem reads (os : Os) {H : Type} (enc : TypeId × Value → H) : ∃ d places, DataW.whole enc Tryd.prog ((laidWorld os).forCall (fun _ _ => 0) ⟨#[], #[.string ⟨#[]⟩, .slice none 0 0, .slice none 0 0], []⟩).memory Tryd.f5.params.toList Rows.matchTextsSpec.vars false (#[.string ⟨#[]⟩, .slice none 0 0, .slice none 0 0] : Array Value).toList 8 = some (d, [], places) ∧ Rows.uptoSmall H (d ++ []) = true := by
  have h : (DataW.whole enc Tryd.prog ((laidWorld os).forCall (fun _ _ => 0) ⟨#[], #[.string ⟨#[]⟩, .slice none 0 0, .slice none 0 0], []⟩).memory Tryd.f5.params.toList Rows.matchTextsSpec.vars false (#[.string ⟨#[]⟩, .slice none 0 0, .slice none 0 0] : Array Value).toList 8).map (fun x => (x.2.1.length, Rows.uptoSmall H (x.1 ++ x.2.1))) = some (0, true) := by kernel_rfl
  revert h
  cases DataW.whole enc Tryd.prog ((laidWorld os).forCall (fun _ _ => 0) ⟨#[], #[.string ⟨#[]⟩, .slice none 0 0, .slice none 0 0], []⟩).memory Tryd.f5.params.toList Rows.matchTextsSpec.vars false (#[.string ⟨#[]⟩, .slice none 0 0, .slice none 0 0] : Array Value).toList 8 with
  | none => exact fun h => by cases h
  | some x =>
    intro h
    have h1 := List.length_eq_zero_iff.1 (Prod.mk.inj (Option.some.inj h)).1
    have h2 := (Prod.mk.inj (Option.some.inj h)).2
    rw [h1] at h2
    exact ⟨x.1, x.2.2, by rw [show x = (x.1, x.2.1, x.2.2) from rfl, h1], h2⟩

theorem lifted (os : Os) (started : os.Started) (H : Type) (enc : TypeId × Value → H) (F : Stop.Interp) :
    ReturnsInHanded {} Tryd.checked os 5 .any ((Rows.OpenSpec.upto Rows.matchTextsSpec).preRow enc Tryd.prog Tryd.f5 Rows.matchTextsUptoRow.domain false Rows.matchTextsUptoRow.laid) (((Rows.OpenSpec.upto Rows.matchTextsSpec).at F).post enc Tryd.prog Tryd.f5 false true false false) := by
  obtain ⟨d, places, hx, hsm⟩ := reads os enc
  refine returnsInHanded_of_row (C := Tryd.checked) (s := Rows.OpenSpec.upto Rows.matchTextsSpec) own started (by kernel_rfl) Tryd.func5
    (witness_row_at (enc := enc) (C := Tryd.checked) false (laidWorld os) #[.string ⟨#[]⟩, .slice none 0 0, .slice none 0 0] rfl (by kernel_rfl) (by kernel_rfl) (by kernel_rfl)
      (OpenSpec.preRow_of_cond 8 hx rfl (fun k hk => by cases hk; exact hsm) (by kernel_rfl) (laid_met os))) ?_
  intro W base args ds gs before hval0 hW _ hk _ _ hsh _
  have hgs : gs = [] := by
    obtain ⟨_, q, _, hV, _⟩ := hW
    cases gs with
    | nil => rfl
    | cons g gs => exact hV.elim
  subst hgs
  have hk := hk _ rfl
  rw [List.append_nil] at hk
  exact law_calls_upto (P := Tryd.prog) (fun n => (ok5 n).con) (bulky H) matchTexts_true (by kernel_rfl) Tryd.underlying4 (by kernel_rfl) laid (by kernel_rfl) rfl
    (fun ds hd => match ds, hd.trans (show Tryd.f5.params.toList.length = 3 by kernel_rfl) with | [_, _, _], _ => rfl) W base args ds [] before hval0 hW (of_decide_eq_true hk) (Glob.shaped hsh (by kernel_rfl))

theorem said : Rows.MatchTextsUptoSaid :=
  OpenClaim.holds_of_cond 5 Tryd.f5 rfl rfl rfl rfl rfl rfl rfl ⟨rfl, rfl, rfl, rfl, rfl⟩ rfl rfl rfl rfl rfl (by kernel_rfl) Tryd.func5 (by kernel_rfl)
    (of_decide_eq_true (by kernel_rfl)) (by unfold Func.isWrapper; first | (rw [if_pos (by decide +kernel)]; kernel_rfl) | (rw [if_neg (by decide +kernel)]; exact ⟨rfl, rfl⟩))
    (fun os started H enc _ F => by rw [OpenClaim.pre_eq_preRow]; exact lifted os started H enc F)

theorem wants : Tryd.f5.params.toList.all (fun t => !Tryd.prog.wantsStandIn t) = true := by kernel_rfl
theorem plain (f : FuncId) (fn : Func) (hf : Tryd.pinned.checked.prog.funcNamed Rows.matchTextsUptoRow.func = some f) (hfn : Tryd.pinned.checked.prog.funcs[f]? = some fn) :
    false = Tryd.pinned.checked.prog.looks [] ∧ ∀ (j : Nat) t, fn.params[j]? = some t → Tryd.pinned.checked.prog.wantsStandIn t = false := by
  obtain rfl : f = 5 := Option.some.inj ((show Tryd.prog.funcNamed Rows.matchTextsUptoRow.func = some 5 by kernel_rfl).symm.trans hf) |>.symm
  obtain rfl : fn = Tryd.f5 := (Option.some.inj (Tryd.func5.symm.trans hfn)).symm
  refine ⟨by kernel_rfl, fun j t ht => ?_⟩
  have := List.all_eq_true.1 wants t (Array.mem_toList_iff.2 (Array.mem_of_getElem? ht))
  exact (Bool.not_eq_true' _).mp this

theorem proved : Rows.MatchTextsUptoCardSaid :=
  Claim7.holds_tied_plain_at .later [] _ _ _ _ said (fun _ h => by cases h) (by kernel_rfl) (fun _ h => by cases h) matchTextsUpto_row_tie rfl ⟨rfl, rfl⟩ (by kernel_rfl) rfl plain (by kernel_rfl)
#print axioms proved
end Go.Proofs.YtimmkhgbnfihgaaDoor.matchTextsUpto
