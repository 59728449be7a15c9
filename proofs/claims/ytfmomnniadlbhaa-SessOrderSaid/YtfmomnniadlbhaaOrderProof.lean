/- The statement SessOrderSaid is proved: for every input the law SessOrder returns true, and its arguments read as before. -/
import Derived.Test.YtfmomnniadlbhaaRows
import Derived.WalkKit
import Derived.ProofKit
import Derived.OpenShut
import Derived.HandedShaped
import Derived.Test.YtfmomnniadlbhaaOrder
namespace Go.Proofs.Ytfmomnniadlbhaa.sessOrder
set_option maxRecDepth 100000
open Go.ChangeShapes Go.WideShapes Go.ChangeAt Go.RowKit Go.Sx

theorem own : ownKnob Try.prog.godebug = none := by kernel_rfl
theorem laid : laidOutB Try.prog = true := by kernel_rfl

theorem lifted (os : Os) (started : os.Started) (H : Type) (enc : TypeId × Value → H) :
    ReturnsInHanded {} Try.checked os 6 .any (Rows.sessOrderSpec.pre6 enc Try.prog Try.f6 Rows.sessOrderRow.domain false) (Rows.sessOrderSpec.post enc Try.prog Try.f6 false true false false) := by
  refine returnsInHanded_of_change_shaped (C := Try.checked) own started (by kernel_rfl) Try.func6
    (ChangeSpec.witness6 (enc := enc) (C := Try.checked) false ⟨#[], #[.int .u8 0, .int .u16 0, .slice none 0 0], []⟩ 8 (by kernel_rfl) (by kernel_rfl) (by kernel_rfl) (by kernel_rfl)) ?_
  intro W base args ds gs before hval0 hW hcnd _ hsh _
  exact law_calls_any (P := Try.prog) (fun n => (ok6 n).con) order_true (by kernel_rfl) Try.underlying4 (by kernel_rfl) laid (by kernel_rfl) rfl
    (fun ds hd => match ds, hd.trans (show Try.f6.params.toList.length = 3 by kernel_rfl) with | [_, _, _], _ => rfl) W base args ds gs before hval0 hW (Glob.shaped hsh (by kernel_rfl))

theorem over : Rows.sessOrderRow.holds Try.pinned (OpenSpec.ofChange Rows.sessOrderSpec) :=
  OpenClaim.holds_of_wide 6 Try.f6 rfl rfl rfl rfl rfl rfl rfl ⟨rfl, rfl, rfl, rfl, rfl⟩ rfl rfl rfl rfl rfl (by kernel_rfl) Try.func6 (by kernel_rfl)
    (of_decide_eq_true (by kernel_rfl)) (by unfold Func.isWrapper; first | (rw [if_pos (by decide +kernel)]; kernel_rfl) | (rw [if_neg (by decide +kernel)]; exact ⟨rfl, rfl⟩))
    (fun os started H enc _ => lifted os started H enc)

theorem proved : Rows.SessOrderSaid := over
#print axioms proved
end Go.Proofs.Ytfmomnniadlbhaa.sessOrder
