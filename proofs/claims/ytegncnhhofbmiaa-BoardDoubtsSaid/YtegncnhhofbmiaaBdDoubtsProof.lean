/- The statement BoardDoubtsSaid is proved: for every input the law BoardDoubts returns true, and its arguments read as before. -/
import Derived.Test.YtegncnhhofbmiaaRows
import Derived.WalkKit
import Derived.ProofKit
import Derived.OpenShut
import Derived.HandedShaped
import Derived.Test.YtegncnhhofbmiaaBdLaw
namespace Go.Proofs.Ytegncnhhofbmiaa.boardDoubts
set_option maxRecDepth 100000
open Go.ChangeShapes Go.WideShapes Go.ChangeAt Go.RowKit Go.Sx

theorem own : ownKnob Try.prog.godebug = none := by kernel_rfl
theorem laid : laidOutB Try.prog = true := by kernel_rfl

theorem lifted (os : Os) (started : os.Started) (H : Type) (enc : TypeId × Value → H) :
    ReturnsInHanded {} Try.checked os 3 .any (Rows.boardDoubtsSpec.pre6 enc Try.prog Try.f3 Rows.boardDoubtsRow.domain false) (Rows.boardDoubtsSpec.post enc Try.prog Try.f3 false true false false) := by
  refine returnsInHanded_of_change_shaped (C := Try.checked) own started (by kernel_rfl) Try.func3
    (ChangeSpec.witness6 (enc := enc) (C := Try.checked) false ⟨#[], #[.slice none 0 0, .int .u8 0, .agg #[.bool false, .int .u8 0, .int .u8 0, .int .u8 0, .int .u16 0, .int .u16 0, .int .u16 0, .int .u8 0, .int .u8 0, .int .u8 0, .bool false]], []⟩ 8 (by kernel_rfl) (by kernel_rfl) (by kernel_rfl) (by kernel_rfl)) ?_
  intro W base args ds gs before hval0 hW hcnd _ hsh _
  exact law_calls_any (P := Try.prog) (fun n => (ok3 n).con) boardDoubts_true (by kernel_rfl) Try.underlying4 (by kernel_rfl) laid (by kernel_rfl) rfl
    (fun ds hd => match ds, hd.trans (show Try.f3.params.toList.length = 3 by kernel_rfl) with | [_, _, _], _ => rfl) W base args ds gs before hval0 hW (Glob.shaped hsh (by kernel_rfl))

theorem over : Rows.boardDoubtsRow.holds Try.pinned (OpenSpec.ofChange Rows.boardDoubtsSpec) :=
  OpenClaim.holds_of_wide 3 Try.f3 rfl rfl rfl rfl rfl rfl rfl ⟨rfl, rfl, rfl, rfl, rfl⟩ rfl rfl rfl rfl rfl (by kernel_rfl) Try.func3 (by kernel_rfl)
    (of_decide_eq_true (by kernel_rfl)) (by unfold Func.isWrapper; first | (rw [if_pos (by decide +kernel)]; kernel_rfl) | (rw [if_neg (by decide +kernel)]; exact ⟨rfl, rfl⟩))
    (fun os started H enc _ => lifted os started H enc)

theorem proved : Rows.BoardDoubtsSaid := over
#print axioms proved
end Go.Proofs.Ytegncnhhofbmiaa.boardDoubts
