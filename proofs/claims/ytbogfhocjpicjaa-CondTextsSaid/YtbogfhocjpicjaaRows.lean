/-
  No cell of these rows narrows 'for every input' (looked for: loops, veiled, ifaces, maps, wideKeys, modest, calm, conditions, laid).
  DERIVED. THE GIVEN ROWS OF THIS SEAT. 4 by the template 'for every input the law returns true; each argument reads behind the call as it read before'; 0 by the template 'total and deterministic' (their statements: YtbogfhocjpicjaaTotals.lean).
  GIVEN WITH THE SEED: the statements are not yours to turn. If you find one false, say at which input.
  Laid BY PROGRAM, IN A SANDBOX (cutbox-rows.mjs): the forced cells as the released guide's own fill.sh prints them over the translation d4159ce34ab6bc2c… (all of the seat's roots in one cut). By AI agents, Wed Nov 11 2026. No macro, syntax, notation, axiom, sorry.
-/
import Derived.Test.YtbogfhocjpicjaaChecked
import GoSem.Claim
import GoSem.ClaimJoined
import GoSem.ClaimMapViews
import Derived.JoinedTies
import Derived.KernelRfl
namespace Go.Proofs.Ytbogfhocjpicjaa
/- THE CELL 'sum', in the pinned program and in every row, IS THE sha256 OF THE DUMP (.gsa) THAT YtbogfhocjpicjaaProg.lean LOADS. Nothing in Lean hashes anything: it is a label: what it is worth is what the hold of that sum in a sandbox is worth. -/
noncomputable def Try.pinned : Pinned := { name := "ytbogfhocjpicjaa", sum := "d4159ce34ab6bc2c98d6ea17c82b20811cf96f59819a942d6ccb021729875835", checked := Try.checked }
namespace Rows
def none {H : Type} : Left H := { results := [], args := [] }

/-- 'watchfirelaw13.CondHolds': WHATEVER THE INPUT: true; the input reads as it did. -/
def condHoldsSpec : ChangeSpec := { name := "condHolds", fn := fun _ => fun
  | [d1, d2, d3, d4] => { results := [.lit (.bool true)], args := [d1, d2, d3, d4] }
  | _ => none }
def condHoldsRow : OpenClaim := { program := "ytbogfhocjpicjaa", sum := "d4159ce34ab6bc2c98d6ea17c82b20811cf96f59819a942d6ccb021729875835", func := "watchfire/watchfirelaw13.CondHolds", spec := "condHolds", apart := false }
def CondHoldsSaid : Prop := condHoldsRow.holds Try.pinned (OpenSpec.ofChange condHoldsSpec)

/-- ITS FALSE NEIGHBOUR: 'it returns false'. Refute it at one input. -/
def condHoldsWrong : ChangeSpec := { name := "condHolds", fn := fun _ => fun
  | [d1, d2, d3, d4] => { results := [.lit (.bool false)], args := [d1, d2, d3, d4] }
  | _ => none }
def CondHoldsWrongFalsely : Prop := condHoldsRow.holds Try.pinned (OpenSpec.ofChange condHoldsWrong)

/-- 'watchfirelaw13.CondOrder': WHATEVER THE INPUT: true; the input reads as it did. -/
def condOrderSpec : ChangeSpec := { name := "condOrder", fn := fun _ => fun
  | [d1, d2] => { results := [.lit (.bool true)], args := [d1, d2] }
  | _ => none }
def condOrderRow : OpenClaim := { program := "ytbogfhocjpicjaa", sum := "d4159ce34ab6bc2c98d6ea17c82b20811cf96f59819a942d6ccb021729875835", func := "watchfire/watchfirelaw13.CondOrder", spec := "condOrder", apart := false }
def CondOrderSaid : Prop := condOrderRow.holds Try.pinned (OpenSpec.ofChange condOrderSpec)

/-- ITS FALSE NEIGHBOUR: 'it returns false'. Refute it at one input. -/
def condOrderWrong : ChangeSpec := { name := "condOrder", fn := fun _ => fun
  | [d1, d2] => { results := [.lit (.bool false)], args := [d1, d2] }
  | _ => none }
def CondOrderWrongFalsely : Prop := condOrderRow.holds Try.pinned (OpenSpec.ofChange condOrderWrong)

/-- 'watchfirelaw13.CondNumbers': WHATEVER THE INPUT: true; the input reads as it did. -/
def condNumbersSpec : ChangeSpec := { name := "condNumbers", fn := fun _ => fun
  | [d1, d2] => { results := [.lit (.bool true)], args := [d1, d2] }
  | _ => none }
def condNumbersRow : OpenClaim := { program := "ytbogfhocjpicjaa", sum := "d4159ce34ab6bc2c98d6ea17c82b20811cf96f59819a942d6ccb021729875835", func := "watchfire/watchfirelaw13.CondNumbers", spec := "condNumbers", apart := false }
def CondNumbersSaid : Prop := condNumbersRow.holds Try.pinned (OpenSpec.ofChange condNumbersSpec)

/-- ITS FALSE NEIGHBOUR: 'it returns false'. Refute it at one input. -/
def condNumbersWrong : ChangeSpec := { name := "condNumbers", fn := fun _ => fun
  | [d1, d2] => { results := [.lit (.bool false)], args := [d1, d2] }
  | _ => none }
def CondNumbersWrongFalsely : Prop := condNumbersRow.holds Try.pinned (OpenSpec.ofChange condNumbersWrong)

/-- 'watchfirelaw13.CondTexts': WHATEVER THE INPUT: true; the input reads as it did. -/
def condTextsSpec : ChangeSpec := { name := "condTexts", fn := fun _ => fun
  | [d1, d2, d3] => { results := [.lit (.bool true)], args := [d1, d2, d3] }
  | _ => none }
def condTextsRow : OpenClaim := { program := "ytbogfhocjpicjaa", sum := "d4159ce34ab6bc2c98d6ea17c82b20811cf96f59819a942d6ccb021729875835", func := "watchfire/watchfirelaw13.CondTexts", spec := "condTexts", recurses := true, apart := false }
def CondTextsSaid : Prop := condTextsRow.holds Try.pinned (OpenSpec.ofChange condTextsSpec)

/-- ITS FALSE NEIGHBOUR: 'it returns false'. Refute it at one input. -/
def condTextsWrong : ChangeSpec := { name := "condTexts", fn := fun _ => fun
  | [d1, d2, d3] => { results := [.lit (.bool false)], args := [d1, d2, d3] }
  | _ => none }
def CondTextsWrongFalsely : Prop := condTextsRow.holds Try.pinned (OpenSpec.ofChange condTextsWrong)

/- THE SECOND FORM. 'bulk': how many values and letters a reading holds, each counted each time it is reached (what is shared counts as often as it is met; a slice's spare places count too). A statement '..UptoSaid' is the law's where the arguments, and the package variables that the reading takes, are together of bulk at most 1048576: NARROWER than '..Said'. Prove '..Said' where nothing that the law and all that it calls make is longer than what came in: it says more and counts as full. Else prove '..UptoSaid'. A law counts once. -/
mutual
def uptoBulk {H : Type} : DataW H → Nat
  | .lit (.string bytes) => bytes.length + 1
  | .lit _ => 1
  | .nil => 1
  | .ptr d => uptoBulk d + 1
  | .slice elems spare => uptoBulkAll elems + uptoBulkAll spare + 1
  | .agg parts => uptoBulkAll parts + 1
  | .iface _ d => uptoBulk d + 1
  | .map entries => uptoBulkEntries entries + 1
  | .held _ => 1
def uptoBulkAll {H : Type} : List (DataW H) → Nat
  | [] => 0
  | d :: r => uptoBulk d + uptoBulkAll r
def uptoBulkEntries {H : Type} : List (Lit × DataW H) → Nat
  | [] => 0
  | x :: r => uptoBulkEntry x + uptoBulkEntries r
def uptoBulkEntry {H : Type} : Lit × DataW H → Nat
  | (.string bytes, d) => bytes.length + uptoBulk d + 1
  | (_, d) => uptoBulk d + 1
 end
def uptoSmall : (H : Type) → List (DataW H) → Bool := fun _ ds => decide (uptoBulkAll ds ≤ 1048576)
def OpenSpec.upto (s : _root_.Go.ChangeSpec) : _root_.Go.OpenSpec := { _root_.Go.OpenSpec.ofChange s with cond := some uptoSmall }

/-- 'watchfirelaw13.CondHolds', WHERE WHAT IT READS IS OF BULK AT MOST 1048576: true; the input reads as it did. -/
def condHoldsUptoRow : OpenClaim := { program := "ytbogfhocjpicjaa", sum := "d4159ce34ab6bc2c98d6ea17c82b20811cf96f59819a942d6ccb021729875835", func := "watchfire/watchfirelaw13.CondHolds", spec := "condHolds", apart := false, narrowed := true }
def CondHoldsUptoSaid : Prop := condHoldsUptoRow.holds Try.pinned (OpenSpec.upto condHoldsSpec)

/-- 'watchfirelaw13.CondOrder', WHERE WHAT IT READS IS OF BULK AT MOST 1048576: true; the input reads as it did. -/
def condOrderUptoRow : OpenClaim := { program := "ytbogfhocjpicjaa", sum := "d4159ce34ab6bc2c98d6ea17c82b20811cf96f59819a942d6ccb021729875835", func := "watchfire/watchfirelaw13.CondOrder", spec := "condOrder", apart := false, narrowed := true }
def CondOrderUptoSaid : Prop := condOrderUptoRow.holds Try.pinned (OpenSpec.upto condOrderSpec)

/-- 'watchfirelaw13.CondNumbers', WHERE WHAT IT READS IS OF BULK AT MOST 1048576: true; the input reads as it did. -/
def condNumbersUptoRow : OpenClaim := { program := "ytbogfhocjpicjaa", sum := "d4159ce34ab6bc2c98d6ea17c82b20811cf96f59819a942d6ccb021729875835", func := "watchfire/watchfirelaw13.CondNumbers", spec := "condNumbers", apart := false, narrowed := true }
def CondNumbersUptoSaid : Prop := condNumbersUptoRow.holds Try.pinned (OpenSpec.upto condNumbersSpec)

/-- 'watchfirelaw13.CondTexts', WHERE WHAT IT READS IS OF BULK AT MOST 1048576: true; the input reads as it did. -/
def condTextsUptoRow : OpenClaim := { program := "ytbogfhocjpicjaa", sum := "d4159ce34ab6bc2c98d6ea17c82b20811cf96f59819a942d6ccb021729875835", func := "watchfire/watchfirelaw13.CondTexts", spec := "condTexts", recurses := true, apart := false, narrowed := true }
def CondTextsUptoSaid : Prop := condTextsUptoRow.holds Try.pinned (OpenSpec.upto condTextsSpec)

end Rows
end Go.Proofs.Ytbogfhocjpicjaa
