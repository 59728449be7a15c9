/- The statement GroupTellsSaid is proved: for every input the law GroupTells returns true, and its arguments read as before. -/
import Derived.Test.YtcfckkmiaeegpaaRows
import Derived.WalkKit
import Derived.ProofKit
import Derived.OpenShut
import Derived.HandedShaped
import Derived.Test.YtcfckkmiaeegpaaTells2
namespace Go.Proofs.Ytcfckkmiaeegpaa.groupTells
set_option maxRecDepth 100000
open Go.ChangeShapes Go.WideShapes Go.ChangeAt Go.RowKit Go.Sx

theorem own : ownKnob Try.prog.godebug = none := by kernel_rfl
theorem laid : laidOutB Try.prog = true := by kernel_rfl

theorem lifted (os : Os) (started : os.Started) (H : Type) (enc : TypeId × Value → H) :
    ReturnsInHanded {} Try.checked os 4 .any (Rows.groupTellsSpec.pre6 enc Try.prog Try.f4 Rows.groupTellsRow.domain false) (Rows.groupTellsSpec.post enc Try.prog Try.f4 false true false false) := by
  refine returnsInHanded_of_change_shaped (C := Try.checked) own started (by kernel_rfl) Try.func4
    (ChangeSpec.witness6 (enc := enc) (C := Try.checked) false ⟨#[], #[.int .u8 0, .int .u8 0, .int .u8 0, .agg #[.int .u8 0, .int .u8 0, .int .u8 0, .int .u8 0, .int .u8 0, .int .u8 0], .int .u8 0, .int .u8 0], []⟩ 8 (by kernel_rfl) (by kernel_rfl) (by kernel_rfl) (by kernel_rfl)) ?_
  intro W base args ds gs before hval0 hW hcnd _ hsh _
  exact law_calls_any (P := Try.prog) (fun n => (ok4 n).con) groupTells_true (by kernel_rfl) Try.underlying4 (by kernel_rfl) laid (by kernel_rfl) rfl
    (fun ds hd => match ds, hd.trans (show Try.f4.params.toList.length = 6 by kernel_rfl) with | [_, _, _, _, _, _], _ => rfl) W base args ds gs before hval0 hW (Glob.shaped hsh (by kernel_rfl))

theorem over : Rows.groupTellsRow.holds Try.pinned (OpenSpec.ofChange Rows.groupTellsSpec) :=
  OpenClaim.holds_of_wide 4 Try.f4 rfl rfl rfl rfl rfl rfl rfl ⟨rfl, rfl, rfl, rfl, rfl⟩ rfl rfl rfl rfl rfl (by kernel_rfl) Try.func4 (by kernel_rfl)
    (of_decide_eq_true (by kernel_rfl)) (by unfold Func.isWrapper; first | (rw [if_pos (by decide +kernel)]; kernel_rfl) | (rw [if_neg (by decide +kernel)]; exact ⟨rfl, rfl⟩))
    (fun os started H enc _ => lifted os started H enc)

theorem proved : Rows.GroupTellsSaid := over
#print axioms proved
end Go.Proofs.Ytcfckkmiaeegpaa.groupTells
