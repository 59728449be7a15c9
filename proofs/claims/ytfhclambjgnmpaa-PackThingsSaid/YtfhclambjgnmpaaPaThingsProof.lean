/- The statement PackThingsSaid is proved: for every input the law PackThings returns true, and its arguments read as before. -/
import Derived.Test.YtfhclambjgnmpaaRows
import Derived.WalkKit
import Derived.ProofKit
import Derived.OpenShut
import Derived.Test.YtfhclambjgnmpaaPaThings
namespace Go.Proofs.Ytfhclambjgnmpaa.packThings
open Go.ChangeShapes Go.WideShapes Go.ChangeAt Go.RowKit Go.Sx

theorem own : ownKnob Try.prog.godebug = none := by kernel_rfl
theorem laid : laidOutB Try.prog = true := by kernel_rfl

theorem lifted (os : Os) (started : os.Started) (H : Type) (enc : TypeId × Value → H) :
    ReturnsInHanded {} Try.checked os 7 .any (Rows.packThingsSpec.pre6 enc Try.prog Try.f7 Rows.packThingsRow.domain false) (Rows.packThingsSpec.post enc Try.prog Try.f7 false true false false) := by
  refine returnsInHanded_of_change (C := Try.checked) own started (by kernel_rfl) Try.func7
    (ChangeSpec.witness6 (enc := enc) (C := Try.checked) false ⟨#[], #[.slice none 0 0, .slice none 0 0], []⟩ 8 (by kernel_rfl) (by kernel_rfl) (by kernel_rfl) (by kernel_rfl)) ?_
  intro W base args ds gs before hval0 hW hcnd _
  exact law_calls_fits (P := Try.prog) (ok7 200).con things_true (by kernel_rfl) Try.underlying4 (by kernel_rfl) laid (by kernel_rfl) rfl
    (fun ds hd => match ds, hd.trans (show Try.f7.params.toList.length = 2 by kernel_rfl) with | [_, _], _ => rfl) W base args ds gs before hval0 hW

theorem over : Rows.packThingsRow.holds Try.pinned (OpenSpec.ofChange Rows.packThingsSpec) :=
  OpenClaim.holds_of_wide 7 Try.f7 rfl rfl rfl rfl rfl rfl rfl ⟨rfl, rfl, rfl, rfl, rfl⟩ rfl rfl rfl rfl rfl (by kernel_rfl) Try.func7 (by kernel_rfl)
    (of_decide_eq_true (by kernel_rfl)) (by unfold Func.isWrapper; first | (rw [if_pos (by decide +kernel)]; kernel_rfl) | (rw [if_neg (by decide +kernel)]; exact ⟨rfl, rfl⟩))
    (fun os started H enc _ => lifted os started H enc)

theorem proved : Rows.PackThingsSaid := over
#print axioms proved
end Go.Proofs.Ytfhclambjgnmpaa.packThings
