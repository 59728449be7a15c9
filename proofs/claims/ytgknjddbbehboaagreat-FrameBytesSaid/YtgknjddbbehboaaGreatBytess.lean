/- The statement FrameBytesSaid is proved: for every input the law FrameBytes returns true, and its arguments read as before. -/
import Derived.Test.YtgknjddbbehboaaGreatRows
import Derived.WalkKit
import Derived.ProofKit
import Derived.OpenShut
import Derived.Test.YtgknjddbbehboaaGreatEnd
namespace Go.Proofs.YtgknjddbbehboaaGreat.frameBytes
set_option maxRecDepth 100000
open Go.ChangeShapes Go.WideShapes Go.ChangeAt Go.RowKit Go.Sx

theorem own : ownKnob Tryz.prog.godebug = none := by kernel_rfl
theorem laid : laidOutB Tryz.prog = true := by kernel_rfl

theorem lifted (os : Os) (started : os.Started) (H : Type) (enc : TypeId × Value → H) :
    ReturnsInHanded {} Tryz.checked os 3 .any (Rows.frameBytesSpec.pre6 enc Tryz.prog Tryz.f3 Rows.frameBytesRow.domain false) (Rows.frameBytesSpec.post enc Tryz.prog Tryz.f3 false true false false) := by
  refine returnsInHanded_of_change (C := Tryz.checked) own started (by kernel_rfl) Tryz.func3
    (ChangeSpec.witness6 (enc := enc) (C := Tryz.checked) false ⟨#[], #[.slice none 0 0, .agg #[.int .u8 0, .int .u8 0, .int .u8 0, .int .u16 0, .int .u16 0, .int .u16 0, .int .u16 0, .int .u64 0, .bool false, .int .u8 0, .int .u8 0, .int .u8 0, .int .u16 0, .int .u16 0, .int .u16 0, .int .u8 0, .int .u8 0, .int .u8 0, .bool false], .int .u8 0, .int .u8 0, .int .u8 0], []⟩ 8 (by kernel_rfl) (by kernel_rfl) (by kernel_rfl) (by kernel_rfl)) ?_
  intro W base args ds gs before hval0 hW hcnd _
  exact law_calls_any (P := Tryz.prog) (fun n => (ok3 n).con) truth3 (by kernel_rfl) Tryz.underlying4 (by kernel_rfl) laid (by kernel_rfl) rfl
    (fun ds hd => match ds, hd.trans (show Tryz.f3.params.toList.length = 5 by kernel_rfl) with | [_, _, _, _, _], _ => rfl) W base args ds gs before hval0 hW

theorem over : Rows.frameBytesRow.holds Tryz.pinned (OpenSpec.ofChange Rows.frameBytesSpec) :=
  OpenClaim.holds_of_wide 3 Tryz.f3 rfl rfl rfl rfl rfl rfl rfl ⟨rfl, rfl, rfl, rfl, rfl⟩ rfl rfl rfl rfl rfl (by kernel_rfl) Tryz.func3 (by kernel_rfl)
    (of_decide_eq_true (by kernel_rfl)) (by unfold Func.isWrapper; first | (rw [if_pos (by decide +kernel)]; kernel_rfl) | (rw [if_neg (by decide +kernel)]; exact ⟨rfl, rfl⟩))
    (fun os started H enc _ => lifted os started H enc)

theorem proved : Rows.FrameBytesSaid := over
#print axioms proved
end Go.Proofs.YtgknjddbbehboaaGreat.frameBytes
