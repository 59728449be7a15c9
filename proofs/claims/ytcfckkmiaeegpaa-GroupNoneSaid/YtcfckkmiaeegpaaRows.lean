/-
  No cell of these rows narrows 'for every input' (looked for: loops, veiled, ifaces, maps, wideKeys, modest, calm, conditions, laid).
  DERIVED. THE GIVEN ROWS OF THIS SEAT. 3 by the template 'for every input the law returns true; each argument reads behind the call as it read before'; 0 by the template 'total and deterministic' (their statements: YtcfckkmiaeegpaaTotals.lean).
  GIVEN WITH THE SEED: the statements are not yours to turn. If you find one false, say at which input.
  Laid BY PROGRAM, IN A SANDBOX (cutbox-rows.mjs): the forced cells as the released guide's own fill.sh prints them over the translation ad1c850440ca5aef… (all of the seat's roots in one cut). By AI agents, Wed Nov 11 2026. No macro, syntax, notation, axiom, sorry.
-/
import Derived.Test.YtcfckkmiaeegpaaChecked
import GoSem.Claim
import GoSem.ClaimJoined
import GoSem.ClaimMapViews
import Derived.JoinedTies
import Derived.KernelRfl
namespace Go.Proofs.Ytcfckkmiaeegpaa
/- THE CELL 'sum', in the pinned program and in every row, IS THE sha256 OF THE DUMP (.gsa) THAT YtcfckkmiaeegpaaProg.lean LOADS. Nothing in Lean hashes anything: it is a label: what it is worth is what the hold of that sum in a sandbox is worth. -/
noncomputable def Try.pinned : Pinned := { name := "ytcfckkmiaeegpaa", sum := "ad1c850440ca5aeffe7726887cbc834c886be980a962a413ada2fb1dc4eaf716", checked := Try.checked }
namespace Rows
def none {H : Type} : Left H := { results := [], args := [] }

/-- 'watchfirelaw21.GroupOrder': WHATEVER THE INPUT: true; the input reads as it did. -/
def groupOrderSpec : ChangeSpec := { name := "groupOrder", fn := fun _ => fun
  | [d1, d2, d3, d4] => { results := [.lit (.bool true)], args := [d1, d2, d3, d4] }
  | _ => none }
def groupOrderRow : OpenClaim := { program := "ytcfckkmiaeegpaa", sum := "ad1c850440ca5aeffe7726887cbc834c886be980a962a413ada2fb1dc4eaf716", func := "watchfire/watchfirelaw21.GroupOrder", spec := "groupOrder", inPlace := ["internal/abi.NoEscape"], unfollowed := true, recurses := true, plainKeys := false, apart := false }
def GroupOrderSaid : Prop := groupOrderRow.holds Try.pinned (OpenSpec.ofChange groupOrderSpec)

/-- ITS FALSE NEIGHBOUR: 'it returns false'. Refute it at one input. -/
def groupOrderWrong : ChangeSpec := { name := "groupOrder", fn := fun _ => fun
  | [d1, d2, d3, d4] => { results := [.lit (.bool false)], args := [d1, d2, d3, d4] }
  | _ => none }
def GroupOrderWrongFalsely : Prop := groupOrderRow.holds Try.pinned (OpenSpec.ofChange groupOrderWrong)

/-- 'watchfirelaw21.GroupTells': WHATEVER THE INPUT: true; the input reads as it did. -/
def groupTellsSpec : ChangeSpec := { name := "groupTells", fn := fun _ => fun
  | [d1, d2, d3, d4, d5, d6] => { results := [.lit (.bool true)], args := [d1, d2, d3, d4, d5, d6] }
  | _ => none }
def groupTellsRow : OpenClaim := { program := "ytcfckkmiaeegpaa", sum := "ad1c850440ca5aeffe7726887cbc834c886be980a962a413ada2fb1dc4eaf716", func := "watchfire/watchfirelaw21.GroupTells", spec := "groupTells", inPlace := ["internal/abi.NoEscape"], unfollowed := true, recurses := true, plainKeys := false, apart := false }
def GroupTellsSaid : Prop := groupTellsRow.holds Try.pinned (OpenSpec.ofChange groupTellsSpec)

/-- ITS FALSE NEIGHBOUR: 'it returns false'. Refute it at one input. -/
def groupTellsWrong : ChangeSpec := { name := "groupTells", fn := fun _ => fun
  | [d1, d2, d3, d4, d5, d6] => { results := [.lit (.bool false)], args := [d1, d2, d3, d4, d5, d6] }
  | _ => none }
def GroupTellsWrongFalsely : Prop := groupTellsRow.holds Try.pinned (OpenSpec.ofChange groupTellsWrong)

/-- 'watchfirelaw21.GroupNone': WHATEVER THE INPUT: true; the input reads as it did. -/
def groupNoneSpec : ChangeSpec := { name := "groupNone", fn := fun _ => fun
  | [d1, d2, d3] => { results := [.lit (.bool true)], args := [d1, d2, d3] }
  | _ => none }
def groupNoneRow : OpenClaim := { program := "ytcfckkmiaeegpaa", sum := "ad1c850440ca5aeffe7726887cbc834c886be980a962a413ada2fb1dc4eaf716", func := "watchfire/watchfirelaw21.GroupNone", spec := "groupNone", inPlace := ["internal/abi.NoEscape"], unfollowed := true, recurses := true, plainKeys := false, apart := false }
def GroupNoneSaid : Prop := groupNoneRow.holds Try.pinned (OpenSpec.ofChange groupNoneSpec)

/-- ITS FALSE NEIGHBOUR: 'it returns false'. Refute it at one input. -/
def groupNoneWrong : ChangeSpec := { name := "groupNone", fn := fun _ => fun
  | [d1, d2, d3] => { results := [.lit (.bool false)], args := [d1, d2, d3] }
  | _ => none }
def GroupNoneWrongFalsely : Prop := groupNoneRow.holds Try.pinned (OpenSpec.ofChange groupNoneWrong)

/- THE SECOND FORM. 'bulk': how many values and letters a reading holds, each counted each time it is reached (what is shared counts as often as it is met; a slice's spare places count too). A statement '..UptoSaid' is the law's where the arguments, and the package variables that the reading takes, are together of bulk at most 1048576: NARROWER than '..Said'. Prove '..Said' where nothing that the law and all that it calls make is longer than what came in: it says more and counts as full. Else prove '..UptoSaid'. A law counts once. -/
mutual
def uptoBulk {H : Type} : DataW H → Nat
  | .lit (.string bytes) => bytes.length + 1
  | .lit _ => 1
  | .nil => 1
  | .ptr d => uptoBulk d + 1
  | .slice elems spare => uptoBulkAll elems + uptoBulkAll spare + 1
  | .agg parts => uptoBulkAll parts + 1
  | .iface _ d => uptoBulk d + 1
  | .map entries => uptoBulkEntries entries + 1
  | .held _ => 1
def uptoBulkAll {H : Type} : List (DataW H) → Nat
  | [] => 0
  | d :: r => uptoBulk d + uptoBulkAll r
def uptoBulkEntries {H : Type} : List (Lit × DataW H) → Nat
  | [] => 0
  | x :: r => uptoBulkEntry x + uptoBulkEntries r
def uptoBulkEntry {H : Type} : Lit × DataW H → Nat
  | (.string bytes, d) => bytes.length + uptoBulk d + 1
  | (_, d) => uptoBulk d + 1
 end
def uptoSmall : (H : Type) → List (DataW H) → Bool := fun _ ds => decide (uptoBulkAll ds ≤ 1048576)
def OpenSpec.upto (s : _root_.Go.ChangeSpec) : _root_.Go.OpenSpec := { _root_.Go.OpenSpec.ofChange s with cond := some uptoSmall }

/-- 'watchfirelaw21.GroupOrder', WHERE WHAT IT READS IS OF BULK AT MOST 1048576: true; the input reads as it did. -/
def groupOrderUptoRow : OpenClaim := { program := "ytcfckkmiaeegpaa", sum := "ad1c850440ca5aeffe7726887cbc834c886be980a962a413ada2fb1dc4eaf716", func := "watchfire/watchfirelaw21.GroupOrder", spec := "groupOrder", inPlace := ["internal/abi.NoEscape"], unfollowed := true, recurses := true, plainKeys := false, apart := false, narrowed := true }
def GroupOrderUptoSaid : Prop := groupOrderUptoRow.holds Try.pinned (OpenSpec.upto groupOrderSpec)

/-- 'watchfirelaw21.GroupTells', WHERE WHAT IT READS IS OF BULK AT MOST 1048576: true; the input reads as it did. -/
def groupTellsUptoRow : OpenClaim := { program := "ytcfckkmiaeegpaa", sum := "ad1c850440ca5aeffe7726887cbc834c886be980a962a413ada2fb1dc4eaf716", func := "watchfire/watchfirelaw21.GroupTells", spec := "groupTells", inPlace := ["internal/abi.NoEscape"], unfollowed := true, recurses := true, plainKeys := false, apart := false, narrowed := true }
def GroupTellsUptoSaid : Prop := groupTellsUptoRow.holds Try.pinned (OpenSpec.upto groupTellsSpec)

/-- 'watchfirelaw21.GroupNone', WHERE WHAT IT READS IS OF BULK AT MOST 1048576: true; the input reads as it did. -/
def groupNoneUptoRow : OpenClaim := { program := "ytcfckkmiaeegpaa", sum := "ad1c850440ca5aeffe7726887cbc834c886be980a962a413ada2fb1dc4eaf716", func := "watchfire/watchfirelaw21.GroupNone", spec := "groupNone", inPlace := ["internal/abi.NoEscape"], unfollowed := true, recurses := true, plainKeys := false, apart := false, narrowed := true }
def GroupNoneUptoSaid : Prop := groupNoneUptoRow.holds Try.pinned (OpenSpec.upto groupNoneSpec)

end Rows
end Go.Proofs.Ytcfckkmiaeegpaa
