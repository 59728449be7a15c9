/- The statement SessFramesSaid is proved: for every input the law SessFrames returns true, and its arguments read as before. -/
import Derived.Test.YtfmomnniadlbhaaRows
import Derived.WalkKit
import Derived.ProofKit
import Derived.OpenShut
import Derived.HandedShaped
import Derived.Test.YtfmomnniadlbhaaFrames
namespace Go.Proofs.Ytfmomnniadlbhaa.sessFrames
set_option maxRecDepth 100000
open Go.ChangeShapes Go.WideShapes Go.ChangeAt Go.RowKit Go.Sx

theorem own : ownKnob Try.prog.godebug = none := by kernel_rfl
theorem laid : laidOutB Try.prog = true := by kernel_rfl

theorem lifted (os : Os) (started : os.Started) (H : Type) (enc : TypeId × Value → H) :
    ReturnsInHanded {} Try.checked os 7 .any (Rows.sessFramesSpec.pre6 enc Try.prog Try.f7 Rows.sessFramesRow.domain false) (Rows.sessFramesSpec.post enc Try.prog Try.f7 false true false false) := by
  refine returnsInHanded_of_change_shaped (C := Try.checked) own started (by kernel_rfl) Try.func7
    (ChangeSpec.witness6 (enc := enc) (C := Try.checked) false ⟨#[], #[.int .u8 0, .int .u16 0, .slice none 0 0], []⟩ 8 (by kernel_rfl) (by kernel_rfl) (by kernel_rfl) (by kernel_rfl)) ?_
  intro W base args ds gs before hval0 hW hcnd _ hsh _
  exact law_calls_any (P := Try.prog) (fun n => (ok7 n).con) frames_true (by kernel_rfl) Try.underlying4 (by kernel_rfl) laid (by kernel_rfl) rfl
    (fun ds hd => match ds, hd.trans (show Try.f7.params.toList.length = 3 by kernel_rfl) with | [_, _, _], _ => rfl) W base args ds gs before hval0 hW (Glob.shaped hsh (by kernel_rfl))

theorem over : Rows.sessFramesRow.holds Try.pinned (OpenSpec.ofChange Rows.sessFramesSpec) :=
  OpenClaim.holds_of_wide 7 Try.f7 rfl rfl rfl rfl rfl rfl rfl ⟨rfl, rfl, rfl, rfl, rfl⟩ rfl rfl rfl rfl rfl (by kernel_rfl) Try.func7 (by kernel_rfl)
    (of_decide_eq_true (by kernel_rfl)) (by unfold Func.isWrapper; first | (rw [if_pos (by decide +kernel)]; kernel_rfl) | (rw [if_neg (by decide +kernel)]; exact ⟨rfl, rfl⟩))
    (fun os started H enc _ => lifted os started H enc)

theorem proved : Rows.SessFramesSaid := over
#print axioms proved
end Go.Proofs.Ytfmomnniadlbhaa.sessFrames
