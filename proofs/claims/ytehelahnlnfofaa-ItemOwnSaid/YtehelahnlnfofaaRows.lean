/-
  No cell of these rows narrows 'for every input' (looked for: loops, veiled, ifaces, maps, wideKeys, modest, calm, conditions, laid).
  DERIVED. THE GIVEN ROWS OF THIS SEAT. 5 by the template 'for every input the law returns true; each argument reads behind the call as it read before'; 0 by the template 'total and deterministic' (their statements: YtehelahnlnfofaaTotals.lean).
  GIVEN WITH THE SEED: the statements are not yours to turn. If you find one false, say at which input.
  Laid BY PROGRAM, IN A SANDBOX (cutbox-rows.mjs): the forced cells as the released guide's own fill.sh prints them over the translation ad1bc4323c11fde9… (all of the seat's roots in one cut). By AI agents, Wed Nov 11 2026. No macro, syntax, notation, axiom, sorry.
-/
import Derived.Test.YtehelahnlnfofaaChecked
import GoSem.Claim
import GoSem.ClaimJoined
import GoSem.ClaimMapViews
import Derived.JoinedTies
import Derived.KernelRfl
namespace Go.Proofs.Ytehelahnlnfofaa
/- THE CELL 'sum', in the pinned program and in every row, IS THE sha256 OF THE DUMP (.gsa) THAT YtehelahnlnfofaaProg.lean LOADS. Nothing in Lean hashes anything: it is a label: what it is worth is what the hold of that sum in a sandbox is worth. -/
noncomputable def Try.pinned : Pinned := { name := "ytehelahnlnfofaa", sum := "ad1bc4323c11fde96986f59423e2a5e7c3d5f47f77f6437a45fe9c3b84ddad5e", checked := Try.checked }
namespace Rows
def none {H : Type} : Left H := { results := [], args := [] }

/-- 'watchfirelaw04.ItemOwn': WHATEVER THE INPUT: true; the input reads as it did. -/
def itemOwnSpec : ChangeSpec := { name := "itemOwn", fn := fun _ => fun
  | [d1, d2, d3] => { results := [.lit (.bool true)], args := [d1, d2, d3] }
  | _ => none }
def itemOwnRow : OpenClaim := { program := "ytehelahnlnfofaa", sum := "ad1bc4323c11fde96986f59423e2a5e7c3d5f47f77f6437a45fe9c3b84ddad5e", func := "watchfire/watchfirelaw04.ItemOwn", spec := "itemOwn", apart := false }
def ItemOwnSaid : Prop := itemOwnRow.holds Try.pinned (OpenSpec.ofChange itemOwnSpec)

/-- ITS FALSE NEIGHBOUR: 'it returns false'. Refute it at one input. -/
def itemOwnWrong : ChangeSpec := { name := "itemOwn", fn := fun _ => fun
  | [d1, d2, d3] => { results := [.lit (.bool false)], args := [d1, d2, d3] }
  | _ => none }
def ItemOwnWrongFalsely : Prop := itemOwnRow.holds Try.pinned (OpenSpec.ofChange itemOwnWrong)

/-- 'watchfirelaw04.ItemParts': WHATEVER THE INPUT: true; the input reads as it did. -/
def itemPartsSpec : ChangeSpec := { name := "itemParts", fn := fun _ => fun
  | [d1, d2, d3, d4, d5, d6] => { results := [.lit (.bool true)], args := [d1, d2, d3, d4, d5, d6] }
  | _ => none }
def itemPartsRow : OpenClaim := { program := "ytehelahnlnfofaa", sum := "ad1bc4323c11fde96986f59423e2a5e7c3d5f47f77f6437a45fe9c3b84ddad5e", func := "watchfire/watchfirelaw04.ItemParts", spec := "itemParts", apart := false }
def ItemPartsSaid : Prop := itemPartsRow.holds Try.pinned (OpenSpec.ofChange itemPartsSpec)

/-- ITS FALSE NEIGHBOUR: 'it returns false'. Refute it at one input. -/
def itemPartsWrong : ChangeSpec := { name := "itemParts", fn := fun _ => fun
  | [d1, d2, d3, d4, d5, d6] => { results := [.lit (.bool false)], args := [d1, d2, d3, d4, d5, d6] }
  | _ => none }
def ItemPartsWrongFalsely : Prop := itemPartsRow.holds Try.pinned (OpenSpec.ofChange itemPartsWrong)

/-- 'watchfirelaw04.ItemChecks': WHATEVER THE INPUT: true; the input reads as it did. -/
def itemChecksSpec : ChangeSpec := { name := "itemChecks", fn := fun _ => fun
  | [d1, d2] => { results := [.lit (.bool true)], args := [d1, d2] }
  | _ => none }
def itemChecksRow : OpenClaim := { program := "ytehelahnlnfofaa", sum := "ad1bc4323c11fde96986f59423e2a5e7c3d5f47f77f6437a45fe9c3b84ddad5e", func := "watchfire/watchfirelaw04.ItemChecks", spec := "itemChecks", apart := false }
def ItemChecksSaid : Prop := itemChecksRow.holds Try.pinned (OpenSpec.ofChange itemChecksSpec)

/-- ITS FALSE NEIGHBOUR: 'it returns false'. Refute it at one input. -/
def itemChecksWrong : ChangeSpec := { name := "itemChecks", fn := fun _ => fun
  | [d1, d2] => { results := [.lit (.bool false)], args := [d1, d2] }
  | _ => none }
def ItemChecksWrongFalsely : Prop := itemChecksRow.holds Try.pinned (OpenSpec.ofChange itemChecksWrong)

/-- 'watchfirelaw04.ItemStreams': WHATEVER THE INPUT: true; the input reads as it did. -/
def itemStreamsSpec : ChangeSpec := { name := "itemStreams", fn := fun _ => fun
  | [d1, d2] => { results := [.lit (.bool true)], args := [d1, d2] }
  | _ => none }
def itemStreamsRow : OpenClaim := { program := "ytehelahnlnfofaa", sum := "ad1bc4323c11fde96986f59423e2a5e7c3d5f47f77f6437a45fe9c3b84ddad5e", func := "watchfire/watchfirelaw04.ItemStreams", spec := "itemStreams", apart := false }
def ItemStreamsSaid : Prop := itemStreamsRow.holds Try.pinned (OpenSpec.ofChange itemStreamsSpec)

/-- ITS FALSE NEIGHBOUR: 'it returns false'. Refute it at one input. -/
def itemStreamsWrong : ChangeSpec := { name := "itemStreams", fn := fun _ => fun
  | [d1, d2] => { results := [.lit (.bool false)], args := [d1, d2] }
  | _ => none }
def ItemStreamsWrongFalsely : Prop := itemStreamsRow.holds Try.pinned (OpenSpec.ofChange itemStreamsWrong)

/-- 'watchfirelaw04.ItemBytes': WHATEVER THE INPUT: true; the input reads as it did. -/
def itemBytesSpec : ChangeSpec := { name := "itemBytes", fn := fun _ => fun
  | [d1, d2, d3] => { results := [.lit (.bool true)], args := [d1, d2, d3] }
  | _ => none }
def itemBytesRow : OpenClaim := { program := "ytehelahnlnfofaa", sum := "ad1bc4323c11fde96986f59423e2a5e7c3d5f47f77f6437a45fe9c3b84ddad5e", func := "watchfire/watchfirelaw04.ItemBytes", spec := "itemBytes", apart := false }
def ItemBytesSaid : Prop := itemBytesRow.holds Try.pinned (OpenSpec.ofChange itemBytesSpec)

/-- ITS FALSE NEIGHBOUR: 'it returns false'. Refute it at one input. -/
def itemBytesWrong : ChangeSpec := { name := "itemBytes", fn := fun _ => fun
  | [d1, d2, d3] => { results := [.lit (.bool false)], args := [d1, d2, d3] }
  | _ => none }
def ItemBytesWrongFalsely : Prop := itemBytesRow.holds Try.pinned (OpenSpec.ofChange itemBytesWrong)

/- THE SECOND FORM. 'bulk': how many values and letters a reading holds, each counted each time it is reached (what is shared counts as often as it is met; a slice's spare places count too). A statement '..UptoSaid' is the law's where the arguments, and the package variables that the reading takes, are together of bulk at most 1048576: NARROWER than '..Said'. Prove '..Said' where nothing that the law and all that it calls make is longer than what came in: it says more and counts as full. Else prove '..UptoSaid'. A law counts once. -/
mutual
def uptoBulk {H : Type} : DataW H → Nat
  | .lit (.string bytes) => bytes.length + 1
  | .lit _ => 1
  | .nil => 1
  | .ptr d => uptoBulk d + 1
  | .slice elems spare => uptoBulkAll elems + uptoBulkAll spare + 1
  | .agg parts => uptoBulkAll parts + 1
  | .iface _ d => uptoBulk d + 1
  | .map entries => uptoBulkEntries entries + 1
  | .held _ => 1
def uptoBulkAll {H : Type} : List (DataW H) → Nat
  | [] => 0
  | d :: r => uptoBulk d + uptoBulkAll r
def uptoBulkEntries {H : Type} : List (Lit × DataW H) → Nat
  | [] => 0
  | x :: r => uptoBulkEntry x + uptoBulkEntries r
def uptoBulkEntry {H : Type} : Lit × DataW H → Nat
  | (.string bytes, d) => bytes.length + uptoBulk d + 1
  | (_, d) => uptoBulk d + 1
 end
def uptoSmall : (H : Type) → List (DataW H) → Bool := fun _ ds => decide (uptoBulkAll ds ≤ 1048576)
def OpenSpec.upto (s : _root_.Go.ChangeSpec) : _root_.Go.OpenSpec := { _root_.Go.OpenSpec.ofChange s with cond := some uptoSmall }

/-- 'watchfirelaw04.ItemOwn', WHERE WHAT IT READS IS OF BULK AT MOST 1048576: true; the input reads as it did. -/
def itemOwnUptoRow : OpenClaim := { program := "ytehelahnlnfofaa", sum := "ad1bc4323c11fde96986f59423e2a5e7c3d5f47f77f6437a45fe9c3b84ddad5e", func := "watchfire/watchfirelaw04.ItemOwn", spec := "itemOwn", apart := false, narrowed := true }
def ItemOwnUptoSaid : Prop := itemOwnUptoRow.holds Try.pinned (OpenSpec.upto itemOwnSpec)

/-- 'watchfirelaw04.ItemParts', WHERE WHAT IT READS IS OF BULK AT MOST 1048576: true; the input reads as it did. -/
def itemPartsUptoRow : OpenClaim := { program := "ytehelahnlnfofaa", sum := "ad1bc4323c11fde96986f59423e2a5e7c3d5f47f77f6437a45fe9c3b84ddad5e", func := "watchfire/watchfirelaw04.ItemParts", spec := "itemParts", apart := false, narrowed := true }
def ItemPartsUptoSaid : Prop := itemPartsUptoRow.holds Try.pinned (OpenSpec.upto itemPartsSpec)

/-- 'watchfirelaw04.ItemChecks', WHERE WHAT IT READS IS OF BULK AT MOST 1048576: true; the input reads as it did. -/
def itemChecksUptoRow : OpenClaim := { program := "ytehelahnlnfofaa", sum := "ad1bc4323c11fde96986f59423e2a5e7c3d5f47f77f6437a45fe9c3b84ddad5e", func := "watchfire/watchfirelaw04.ItemChecks", spec := "itemChecks", apart := false, narrowed := true }
def ItemChecksUptoSaid : Prop := itemChecksUptoRow.holds Try.pinned (OpenSpec.upto itemChecksSpec)

/-- 'watchfirelaw04.ItemStreams', WHERE WHAT IT READS IS OF BULK AT MOST 1048576: true; the input reads as it did. -/
def itemStreamsUptoRow : OpenClaim := { program := "ytehelahnlnfofaa", sum := "ad1bc4323c11fde96986f59423e2a5e7c3d5f47f77f6437a45fe9c3b84ddad5e", func := "watchfire/watchfirelaw04.ItemStreams", spec := "itemStreams", apart := false, narrowed := true }
def ItemStreamsUptoSaid : Prop := itemStreamsUptoRow.holds Try.pinned (OpenSpec.upto itemStreamsSpec)

/-- 'watchfirelaw04.ItemBytes', WHERE WHAT IT READS IS OF BULK AT MOST 1048576: true; the input reads as it did. -/
def itemBytesUptoRow : OpenClaim := { program := "ytehelahnlnfofaa", sum := "ad1bc4323c11fde96986f59423e2a5e7c3d5f47f77f6437a45fe9c3b84ddad5e", func := "watchfire/watchfirelaw04.ItemBytes", spec := "itemBytes", apart := false, narrowed := true }
def ItemBytesUptoSaid : Prop := itemBytesUptoRow.holds Try.pinned (OpenSpec.upto itemBytesSpec)

end Rows
end Go.Proofs.Ytehelahnlnfofaa
