/- The statement ItemBytesUptoSaid is proved: for every input of a bulk of at most 1048576 the law ItemBytes returns true, and its arguments read as before. -/
import Derived.Test.YtehelahnlnfofaaRows
import Derived.WalkKit
import Derived.ProofKit
import Derived.OpenShut
import Derived.JoinedCond
import Derived.Test.YtehelahnlnfofaaItBytes
namespace Go.Proofs.Ytehelahnlnfofaa.itemBytesUpto
set_option maxRecDepth 100000
open Go.ChangeShapes Go.WideShapes Go.ChangeAt Go.RowKit Go.Sx

theorem own : ownKnob Try.prog.godebug = none := by kernel_rfl
theorem laid : laidOutB Try.prog = true := by kernel_rfl
theorem bulky (H : Type) : BulkFn (H := H) Rows.uptoBulk Rows.uptoBulkAll where
  str := fun s => by simp [Rows.uptoBulk]
  lit := fun l => by cases l <;> simp [Rows.uptoBulk]
  nil := by simp [Rows.uptoBulk]
  slice := fun es rest => by simp [Rows.uptoBulk]
  agg := fun ps => by simp [Rows.uptoBulk]
  cons := fun d r => by simp [Rows.uptoBulkAll]

theorem lifted (os : Os) (started : os.Started) (H : Type) (enc : TypeId × Value → H) (F : Stop.Interp) :
    ReturnsInHanded {} Try.checked os 7 .any ((Rows.OpenSpec.upto Rows.itemBytesSpec).pre6 enc Try.prog Try.f7 Rows.itemBytesUptoRow.domain false) (((Rows.OpenSpec.upto Rows.itemBytesSpec).at F).post enc Try.prog Try.f7 false true false false) := by
  refine returnsInHanded_of_cond (C := Try.checked) (s := Rows.OpenSpec.upto Rows.itemBytesSpec) (k := Rows.uptoSmall) rfl own started (by kernel_rfl) Try.func7
    (OpenSpec.witness (enc := enc) (C := Try.checked) (s := Rows.OpenSpec.upto Rows.itemBytesSpec) (k := Rows.uptoSmall) rfl false ⟨#[], #[.agg #[.bool false, .int .u8 0, .int .u64 0, .int .u64 0, .string ⟨#[]⟩, .slice none 0 0, .int .u8 0, .int .u8 0, .int .i64 0, .int .u8 0, .int .u8 0, .int .u64 0, .int .u64 0], .agg #[.bool false, .int .u8 0, .int .u8 0, .int .u8 0, .int .u16 0, .int .u16 0, .int .u16 0, .int .u8 0, .int .u8 0, .int .u8 0, .bool false], .slice none 0 0], []⟩ 8 (by kernel_rfl) (by kernel_rfl) (by kernel_rfl)
      (x := ([.agg [.lit (.bool false), .agg [.lit (.int .u8 0), .lit (.int .u64 0), .lit (.int .u64 0), .lit (.string []), .nil, .lit (.int .u8 0), .lit (.int .u8 0), .lit (.int .i64 0), .lit (.int .u8 0)], .agg [.lit (.int .u8 0), .lit (.int .u64 0), .lit (.int .u64 0)]], .agg [.lit (.bool false), .lit (.int .u8 0), .lit (.int .u8 0), .lit (.int .u8 0), .lit (.int .u16 0), .lit (.int .u16 0), .lit (.int .u16 0), .lit (.int .u8 0), .lit (.int .u8 0), .lit (.int .u8 0), .lit (.bool false)], .nil], [], [])) (by kernel_rfl) rfl (by kernel_rfl)) ?_
  intro W base args ds gs before hval0 hW hcnd hk _
  have hgs : gs = [] := by
    obtain ⟨_, q, _, hV, _⟩ := hW
    cases gs with
    | nil => rfl
    | cons g gs => exact hV.elim
  subst hgs
  rw [List.append_nil] at hk
  exact law_calls_upto (P := Try.prog) (fun n => (ok7 n).con) (bulky H) bytes_true (by kernel_rfl) Try.underlying4 (by kernel_rfl) laid (by kernel_rfl) rfl
    (fun ds hd => match ds, hd.trans (show Try.f7.params.toList.length = 3 by kernel_rfl) with | [_, _, _], _ => rfl) W base args ds [] before hval0 hW (of_decide_eq_true hk)

theorem over : Rows.itemBytesUptoRow.holds Try.pinned (Rows.OpenSpec.upto Rows.itemBytesSpec) :=
  OpenClaim.holds_of_cond 7 Try.f7 rfl rfl rfl rfl rfl rfl rfl ⟨rfl, rfl, rfl, rfl, rfl⟩ rfl rfl rfl rfl rfl (by kernel_rfl) Try.func7 (by kernel_rfl)
    (of_decide_eq_true (by kernel_rfl)) (by unfold Func.isWrapper; first | (rw [if_pos (by decide +kernel)]; kernel_rfl) | (rw [if_neg (by decide +kernel)]; exact ⟨rfl, rfl⟩))
    (fun os started H enc _ F => lifted os started H enc F)

theorem proved : Rows.ItemBytesUptoSaid := over
#print axioms proved
end Go.Proofs.Ytehelahnlnfofaa.itemBytesUpto
