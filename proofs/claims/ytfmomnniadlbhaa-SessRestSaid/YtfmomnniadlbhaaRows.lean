/-
  No cell of these rows narrows 'for every input' (looked for: loops, veiled, ifaces, maps, wideKeys, modest, calm, conditions, laid).
  DERIVED. THE GIVEN ROWS OF THIS SEAT. 5 by the template 'for every input the law returns true; each argument reads behind the call as it read before'; 0 by the template 'total and deterministic' (their statements: YtfmomnniadlbhaaTotals.lean).
  GIVEN WITH THE SEED: the statements are not yours to turn. If you find one false, say at which input.
  Laid BY PROGRAM, IN A SANDBOX (cutbox-rows.mjs): the forced cells as the released guide's own fill.sh prints them over the translation c2edcd6c1df24b01… (all of the seat's roots in one cut). By AI agents, Wed Nov 11 2026. No macro, syntax, notation, axiom, sorry.
-/
import Derived.Test.YtfmomnniadlbhaaChecked
import GoSem.Claim
import GoSem.ClaimJoined
import GoSem.ClaimMapViews
import Derived.JoinedTies
import Derived.KernelRfl
namespace Go.Proofs.Ytfmomnniadlbhaa
/- THE CELL 'sum', in the pinned program and in every row, IS THE sha256 OF THE DUMP (.gsa) THAT YtfmomnniadlbhaaProg.lean LOADS. Nothing in Lean hashes anything: it is a label: what it is worth is what the hold of that sum in a sandbox is worth. -/
noncomputable def Try.pinned : Pinned := { name := "ytfmomnniadlbhaa", sum := "c2edcd6c1df24b018e7faea620d20884f34f815e1fad4d5abf1c076eaae9aa24", checked := Try.checked }
namespace Rows
def none {H : Type} : Left H := { results := [], args := [] }

/-- 'watchfirelaw12.SessAcks': WHATEVER THE INPUT: true; the input reads as it did. -/
def sessAcksSpec : ChangeSpec := { name := "sessAcks", fn := fun _ => fun
  | [d1, d2, d3] => { results := [.lit (.bool true)], args := [d1, d2, d3] }
  | _ => none }
def sessAcksRow : OpenClaim := { program := "ytfmomnniadlbhaa", sum := "c2edcd6c1df24b018e7faea620d20884f34f815e1fad4d5abf1c076eaae9aa24", func := "watchfire/watchfirelaw12.SessAcks", spec := "sessAcks", apart := false }
def SessAcksSaid : Prop := sessAcksRow.holds Try.pinned (OpenSpec.ofChange sessAcksSpec)

/-- ITS FALSE NEIGHBOUR: 'it returns false'. Refute it at one input. -/
def sessAcksWrong : ChangeSpec := { name := "sessAcks", fn := fun _ => fun
  | [d1, d2, d3] => { results := [.lit (.bool false)], args := [d1, d2, d3] }
  | _ => none }
def SessAcksWrongFalsely : Prop := sessAcksRow.holds Try.pinned (OpenSpec.ofChange sessAcksWrong)

/-- 'watchfirelaw12.SessNone': WHATEVER THE INPUT: true; the input reads as it did. -/
def sessNoneSpec : ChangeSpec := { name := "sessNone", fn := fun _ => fun
  | [d1, d2, d3, d4, d5] => { results := [.lit (.bool true)], args := [d1, d2, d3, d4, d5] }
  | _ => none }
def sessNoneRow : OpenClaim := { program := "ytfmomnniadlbhaa", sum := "c2edcd6c1df24b018e7faea620d20884f34f815e1fad4d5abf1c076eaae9aa24", func := "watchfire/watchfirelaw12.SessNone", spec := "sessNone", apart := false }
def SessNoneSaid : Prop := sessNoneRow.holds Try.pinned (OpenSpec.ofChange sessNoneSpec)

/-- ITS FALSE NEIGHBOUR: 'it returns false'. Refute it at one input. -/
def sessNoneWrong : ChangeSpec := { name := "sessNone", fn := fun _ => fun
  | [d1, d2, d3, d4, d5] => { results := [.lit (.bool false)], args := [d1, d2, d3, d4, d5] }
  | _ => none }
def SessNoneWrongFalsely : Prop := sessNoneRow.holds Try.pinned (OpenSpec.ofChange sessNoneWrong)

/-- 'watchfirelaw12.SessRest': WHATEVER THE INPUT: true; the input reads as it did. -/
def sessRestSpec : ChangeSpec := { name := "sessRest", fn := fun _ => fun
  | [d1, d2, d3] => { results := [.lit (.bool true)], args := [d1, d2, d3] }
  | _ => none }
def sessRestRow : OpenClaim := { program := "ytfmomnniadlbhaa", sum := "c2edcd6c1df24b018e7faea620d20884f34f815e1fad4d5abf1c076eaae9aa24", func := "watchfire/watchfirelaw12.SessRest", spec := "sessRest", unfollowed := true, recurses := true, apart := false }
def SessRestSaid : Prop := sessRestRow.holds Try.pinned (OpenSpec.ofChange sessRestSpec)

/-- ITS FALSE NEIGHBOUR: 'it returns false'. Refute it at one input. -/
def sessRestWrong : ChangeSpec := { name := "sessRest", fn := fun _ => fun
  | [d1, d2, d3] => { results := [.lit (.bool false)], args := [d1, d2, d3] }
  | _ => none }
def SessRestWrongFalsely : Prop := sessRestRow.holds Try.pinned (OpenSpec.ofChange sessRestWrong)

/-- 'watchfirelaw12.SessOrder': WHATEVER THE INPUT: true; the input reads as it did. -/
def sessOrderSpec : ChangeSpec := { name := "sessOrder", fn := fun _ => fun
  | [d1, d2, d3] => { results := [.lit (.bool true)], args := [d1, d2, d3] }
  | _ => none }
def sessOrderRow : OpenClaim := { program := "ytfmomnniadlbhaa", sum := "c2edcd6c1df24b018e7faea620d20884f34f815e1fad4d5abf1c076eaae9aa24", func := "watchfire/watchfirelaw12.SessOrder", spec := "sessOrder", unfollowed := true, recurses := true, apart := false }
def SessOrderSaid : Prop := sessOrderRow.holds Try.pinned (OpenSpec.ofChange sessOrderSpec)

/-- ITS FALSE NEIGHBOUR: 'it returns false'. Refute it at one input. -/
def sessOrderWrong : ChangeSpec := { name := "sessOrder", fn := fun _ => fun
  | [d1, d2, d3] => { results := [.lit (.bool false)], args := [d1, d2, d3] }
  | _ => none }
def SessOrderWrongFalsely : Prop := sessOrderRow.holds Try.pinned (OpenSpec.ofChange sessOrderWrong)

/-- 'watchfirelaw12.SessFrames': WHATEVER THE INPUT: true; the input reads as it did. -/
def sessFramesSpec : ChangeSpec := { name := "sessFrames", fn := fun _ => fun
  | [d1, d2, d3] => { results := [.lit (.bool true)], args := [d1, d2, d3] }
  | _ => none }
def sessFramesRow : OpenClaim := { program := "ytfmomnniadlbhaa", sum := "c2edcd6c1df24b018e7faea620d20884f34f815e1fad4d5abf1c076eaae9aa24", func := "watchfire/watchfirelaw12.SessFrames", spec := "sessFrames", unfollowed := true, recurses := true, apart := false }
def SessFramesSaid : Prop := sessFramesRow.holds Try.pinned (OpenSpec.ofChange sessFramesSpec)

/-- ITS FALSE NEIGHBOUR: 'it returns false'. Refute it at one input. -/
def sessFramesWrong : ChangeSpec := { name := "sessFrames", fn := fun _ => fun
  | [d1, d2, d3] => { results := [.lit (.bool false)], args := [d1, d2, d3] }
  | _ => none }
def SessFramesWrongFalsely : Prop := sessFramesRow.holds Try.pinned (OpenSpec.ofChange sessFramesWrong)

/- THE SECOND FORM. 'bulk': how many values and letters a reading holds, each counted each time it is reached (what is shared counts as often as it is met; a slice's spare places count too). A statement '..UptoSaid' is the law's where the arguments, and the package variables that the reading takes, are together of bulk at most 1048576: NARROWER than '..Said'. Prove '..Said' where nothing that the law and all that it calls make is longer than what came in: it says more and counts as full. Else prove '..UptoSaid'. A law counts once. -/
mutual
def uptoBulk {H : Type} : DataW H → Nat
  | .lit (.string bytes) => bytes.length + 1
  | .lit _ => 1
  | .nil => 1
  | .ptr d => uptoBulk d + 1
  | .slice elems spare => uptoBulkAll elems + uptoBulkAll spare + 1
  | .agg parts => uptoBulkAll parts + 1
  | .iface _ d => uptoBulk d + 1
  | .map entries => uptoBulkEntries entries + 1
  | .held _ => 1
def uptoBulkAll {H : Type} : List (DataW H) → Nat
  | [] => 0
  | d :: r => uptoBulk d + uptoBulkAll r
def uptoBulkEntries {H : Type} : List (Lit × DataW H) → Nat
  | [] => 0
  | x :: r => uptoBulkEntry x + uptoBulkEntries r
def uptoBulkEntry {H : Type} : Lit × DataW H → Nat
  | (.string bytes, d) => bytes.length + uptoBulk d + 1
  | (_, d) => uptoBulk d + 1
 end
def uptoSmall : (H : Type) → List (DataW H) → Bool := fun _ ds => decide (uptoBulkAll ds ≤ 1048576)
def OpenSpec.upto (s : _root_.Go.ChangeSpec) : _root_.Go.OpenSpec := { _root_.Go.OpenSpec.ofChange s with cond := some uptoSmall }

/-- 'watchfirelaw12.SessAcks', WHERE WHAT IT READS IS OF BULK AT MOST 1048576: true; the input reads as it did. -/
def sessAcksUptoRow : OpenClaim := { program := "ytfmomnniadlbhaa", sum := "c2edcd6c1df24b018e7faea620d20884f34f815e1fad4d5abf1c076eaae9aa24", func := "watchfire/watchfirelaw12.SessAcks", spec := "sessAcks", apart := false, narrowed := true }
def SessAcksUptoSaid : Prop := sessAcksUptoRow.holds Try.pinned (OpenSpec.upto sessAcksSpec)

/-- 'watchfirelaw12.SessNone', WHERE WHAT IT READS IS OF BULK AT MOST 1048576: true; the input reads as it did. -/
def sessNoneUptoRow : OpenClaim := { program := "ytfmomnniadlbhaa", sum := "c2edcd6c1df24b018e7faea620d20884f34f815e1fad4d5abf1c076eaae9aa24", func := "watchfire/watchfirelaw12.SessNone", spec := "sessNone", apart := false, narrowed := true }
def SessNoneUptoSaid : Prop := sessNoneUptoRow.holds Try.pinned (OpenSpec.upto sessNoneSpec)

/-- 'watchfirelaw12.SessRest', WHERE WHAT IT READS IS OF BULK AT MOST 1048576: true; the input reads as it did. -/
def sessRestUptoRow : OpenClaim := { program := "ytfmomnniadlbhaa", sum := "c2edcd6c1df24b018e7faea620d20884f34f815e1fad4d5abf1c076eaae9aa24", func := "watchfire/watchfirelaw12.SessRest", spec := "sessRest", unfollowed := true, recurses := true, apart := false, narrowed := true }
def SessRestUptoSaid : Prop := sessRestUptoRow.holds Try.pinned (OpenSpec.upto sessRestSpec)

/-- 'watchfirelaw12.SessOrder', WHERE WHAT IT READS IS OF BULK AT MOST 1048576: true; the input reads as it did. -/
def sessOrderUptoRow : OpenClaim := { program := "ytfmomnniadlbhaa", sum := "c2edcd6c1df24b018e7faea620d20884f34f815e1fad4d5abf1c076eaae9aa24", func := "watchfire/watchfirelaw12.SessOrder", spec := "sessOrder", unfollowed := true, recurses := true, apart := false, narrowed := true }
def SessOrderUptoSaid : Prop := sessOrderUptoRow.holds Try.pinned (OpenSpec.upto sessOrderSpec)

/-- 'watchfirelaw12.SessFrames', WHERE WHAT IT READS IS OF BULK AT MOST 1048576: true; the input reads as it did. -/
def sessFramesUptoRow : OpenClaim := { program := "ytfmomnniadlbhaa", sum := "c2edcd6c1df24b018e7faea620d20884f34f815e1fad4d5abf1c076eaae9aa24", func := "watchfire/watchfirelaw12.SessFrames", spec := "sessFrames", unfollowed := true, recurses := true, apart := false, narrowed := true }
def SessFramesUptoSaid : Prop := sessFramesUptoRow.holds Try.pinned (OpenSpec.upto sessFramesSpec)

end Rows
end Go.Proofs.Ytfmomnniadlbhaa
