/-
  No cell of these rows narrows 'for every input' (looked for: loops, veiled, ifaces, maps, wideKeys, modest, calm, conditions, laid).
  DERIVED. THE GIVEN ROWS OF THIS SEAT. 5 by the template 'for every input the law returns true; each argument reads behind the call as it read before'; 0 by the template 'total and deterministic' (their statements: YtfhclambjgnmpaaTotals.lean).
  GIVEN WITH THE SEED: the statements are not yours to turn. If you find one false, say at which input.
  Laid BY PROGRAM, IN A SANDBOX (cutbox-rows.mjs): the forced cells as the released guide's own fill.sh prints them over the translation 525e9550b14c787c… (all of the seat's roots in one cut). By AI agents, Wed Nov 11 2026. No macro, syntax, notation, axiom, sorry.
-/
import Derived.Test.YtfhclambjgnmpaaChecked
import GoSem.Claim
import GoSem.ClaimJoined
import GoSem.ClaimMapViews
import Derived.JoinedTies
import Derived.KernelRfl
namespace Go.Proofs.Ytfhclambjgnmpaa
/- THE CELL 'sum', in the pinned program and in every row, IS THE sha256 OF THE DUMP (.gsa) THAT YtfhclambjgnmpaaProg.lean LOADS. Nothing in Lean hashes anything: it is a label: what it is worth is what the hold of that sum in a sandbox is worth. -/
noncomputable def Try.pinned : Pinned := { name := "ytfhclambjgnmpaa", sum := "525e9550b14c787cb25d05b681314183f69af4f10a635dad812102227248d1b4", checked := Try.checked }
namespace Rows
def none {H : Type} : Left H := { results := [], args := [] }

/-- 'watchfirelaw03.PackBytes': WHATEVER THE INPUT: true; the input reads as it did. -/
def packBytesSpec : ChangeSpec := { name := "packBytes", fn := fun _ => fun
  | [d] => { results := [.lit (.bool true)], args := [d] }
  | _ => none }
def packBytesRow : OpenClaim := { program := "ytfhclambjgnmpaa", sum := "525e9550b14c787cb25d05b681314183f69af4f10a635dad812102227248d1b4", func := "watchfire/watchfirelaw03.PackBytes", spec := "packBytes", apart := false }
def PackBytesSaid : Prop := packBytesRow.holds Try.pinned (OpenSpec.ofChange packBytesSpec)

/-- ITS FALSE NEIGHBOUR: 'it returns false'. Refute it at one input. -/
def packBytesWrong : ChangeSpec := { name := "packBytes", fn := fun _ => fun
  | [d] => { results := [.lit (.bool false)], args := [d] }
  | _ => none }
def PackBytesWrongFalsely : Prop := packBytesRow.holds Try.pinned (OpenSpec.ofChange packBytesWrong)

/-- 'watchfirelaw03.PackLimits': WHATEVER THE INPUT: true; the input reads as it did. -/
def packLimitsSpec : ChangeSpec := { name := "packLimits", fn := fun _ => fun
  | [d1, d2, d3, d4, d5] => { results := [.lit (.bool true)], args := [d1, d2, d3, d4, d5] }
  | _ => none }
def packLimitsRow : OpenClaim := { program := "ytfhclambjgnmpaa", sum := "525e9550b14c787cb25d05b681314183f69af4f10a635dad812102227248d1b4", func := "watchfire/watchfirelaw03.PackLimits", spec := "packLimits", apart := false }
def PackLimitsSaid : Prop := packLimitsRow.holds Try.pinned (OpenSpec.ofChange packLimitsSpec)

/-- ITS FALSE NEIGHBOUR: 'it returns false'. Refute it at one input. -/
def packLimitsWrong : ChangeSpec := { name := "packLimits", fn := fun _ => fun
  | [d1, d2, d3, d4, d5] => { results := [.lit (.bool false)], args := [d1, d2, d3, d4, d5] }
  | _ => none }
def PackLimitsWrongFalsely : Prop := packLimitsRow.holds Try.pinned (OpenSpec.ofChange packLimitsWrong)

/-- 'watchfirelaw03.PackFails': WHATEVER THE INPUT: true; the input reads as it did. -/
def packFailsSpec : ChangeSpec := { name := "packFails", fn := fun _ => fun
  | [d1, d2, d3] => { results := [.lit (.bool true)], args := [d1, d2, d3] }
  | _ => none }
def packFailsRow : OpenClaim := { program := "ytfhclambjgnmpaa", sum := "525e9550b14c787cb25d05b681314183f69af4f10a635dad812102227248d1b4", func := "watchfire/watchfirelaw03.PackFails", spec := "packFails", apart := false }
def PackFailsSaid : Prop := packFailsRow.holds Try.pinned (OpenSpec.ofChange packFailsSpec)

/-- ITS FALSE NEIGHBOUR: 'it returns false'. Refute it at one input. -/
def packFailsWrong : ChangeSpec := { name := "packFails", fn := fun _ => fun
  | [d1, d2, d3] => { results := [.lit (.bool false)], args := [d1, d2, d3] }
  | _ => none }
def PackFailsWrongFalsely : Prop := packFailsRow.holds Try.pinned (OpenSpec.ofChange packFailsWrong)

/-- 'watchfirelaw03.PackNone': WHATEVER THE INPUT: true; the input reads as it did. -/
def packNoneSpec : ChangeSpec := { name := "packNone", fn := fun _ => fun
  | [d1, d2] => { results := [.lit (.bool true)], args := [d1, d2] }
  | _ => none }
def packNoneRow : OpenClaim := { program := "ytfhclambjgnmpaa", sum := "525e9550b14c787cb25d05b681314183f69af4f10a635dad812102227248d1b4", func := "watchfire/watchfirelaw03.PackNone", spec := "packNone", apart := false }
def PackNoneSaid : Prop := packNoneRow.holds Try.pinned (OpenSpec.ofChange packNoneSpec)

/-- ITS FALSE NEIGHBOUR: 'it returns false'. Refute it at one input. -/
def packNoneWrong : ChangeSpec := { name := "packNone", fn := fun _ => fun
  | [d1, d2] => { results := [.lit (.bool false)], args := [d1, d2] }
  | _ => none }
def PackNoneWrongFalsely : Prop := packNoneRow.holds Try.pinned (OpenSpec.ofChange packNoneWrong)

/-- 'watchfirelaw03.PackThings': WHATEVER THE INPUT: true; the input reads as it did. -/
def packThingsSpec : ChangeSpec := { name := "packThings", fn := fun _ => fun
  | [d1, d2] => { results := [.lit (.bool true)], args := [d1, d2] }
  | _ => none }
def packThingsRow : OpenClaim := { program := "ytfhclambjgnmpaa", sum := "525e9550b14c787cb25d05b681314183f69af4f10a635dad812102227248d1b4", func := "watchfire/watchfirelaw03.PackThings", spec := "packThings", apart := false }
def PackThingsSaid : Prop := packThingsRow.holds Try.pinned (OpenSpec.ofChange packThingsSpec)

/-- ITS FALSE NEIGHBOUR: 'it returns false'. Refute it at one input. -/
def packThingsWrong : ChangeSpec := { name := "packThings", fn := fun _ => fun
  | [d1, d2] => { results := [.lit (.bool false)], args := [d1, d2] }
  | _ => none }
def PackThingsWrongFalsely : Prop := packThingsRow.holds Try.pinned (OpenSpec.ofChange packThingsWrong)

/- THE SECOND FORM. 'bulk': how many values and letters a reading holds, each counted each time it is reached (what is shared counts as often as it is met; a slice's spare places count too). A statement '..UptoSaid' is the law's where the arguments, and the package variables that the reading takes, are together of bulk at most 1048576: NARROWER than '..Said'. Prove '..Said' where nothing that the law and all that it calls make is longer than what came in: it says more and counts as full. Else prove '..UptoSaid'. A law counts once. -/
mutual
def uptoBulk {H : Type} : DataW H → Nat
  | .lit (.string bytes) => bytes.length + 1
  | .lit _ => 1
  | .nil => 1
  | .ptr d => uptoBulk d + 1
  | .slice elems spare => uptoBulkAll elems + uptoBulkAll spare + 1
  | .agg parts => uptoBulkAll parts + 1
  | .iface _ d => uptoBulk d + 1
  | .map entries => uptoBulkEntries entries + 1
  | .held _ => 1
def uptoBulkAll {H : Type} : List (DataW H) → Nat
  | [] => 0
  | d :: r => uptoBulk d + uptoBulkAll r
def uptoBulkEntries {H : Type} : List (Lit × DataW H) → Nat
  | [] => 0
  | x :: r => uptoBulkEntry x + uptoBulkEntries r
def uptoBulkEntry {H : Type} : Lit × DataW H → Nat
  | (.string bytes, d) => bytes.length + uptoBulk d + 1
  | (_, d) => uptoBulk d + 1
 end
def uptoSmall : (H : Type) → List (DataW H) → Bool := fun _ ds => decide (uptoBulkAll ds ≤ 1048576)
def OpenSpec.upto (s : _root_.Go.ChangeSpec) : _root_.Go.OpenSpec := { _root_.Go.OpenSpec.ofChange s with cond := some uptoSmall }

/-- 'watchfirelaw03.PackBytes', WHERE WHAT IT READS IS OF BULK AT MOST 1048576: true; the input reads as it did. -/
def packBytesUptoRow : OpenClaim := { program := "ytfhclambjgnmpaa", sum := "525e9550b14c787cb25d05b681314183f69af4f10a635dad812102227248d1b4", func := "watchfire/watchfirelaw03.PackBytes", spec := "packBytes", apart := false, narrowed := true }
def PackBytesUptoSaid : Prop := packBytesUptoRow.holds Try.pinned (OpenSpec.upto packBytesSpec)

/-- 'watchfirelaw03.PackLimits', WHERE WHAT IT READS IS OF BULK AT MOST 1048576: true; the input reads as it did. -/
def packLimitsUptoRow : OpenClaim := { program := "ytfhclambjgnmpaa", sum := "525e9550b14c787cb25d05b681314183f69af4f10a635dad812102227248d1b4", func := "watchfire/watchfirelaw03.PackLimits", spec := "packLimits", apart := false, narrowed := true }
def PackLimitsUptoSaid : Prop := packLimitsUptoRow.holds Try.pinned (OpenSpec.upto packLimitsSpec)

/-- 'watchfirelaw03.PackFails', WHERE WHAT IT READS IS OF BULK AT MOST 1048576: true; the input reads as it did. -/
def packFailsUptoRow : OpenClaim := { program := "ytfhclambjgnmpaa", sum := "525e9550b14c787cb25d05b681314183f69af4f10a635dad812102227248d1b4", func := "watchfire/watchfirelaw03.PackFails", spec := "packFails", apart := false, narrowed := true }
def PackFailsUptoSaid : Prop := packFailsUptoRow.holds Try.pinned (OpenSpec.upto packFailsSpec)

/-- 'watchfirelaw03.PackNone', WHERE WHAT IT READS IS OF BULK AT MOST 1048576: true; the input reads as it did. -/
def packNoneUptoRow : OpenClaim := { program := "ytfhclambjgnmpaa", sum := "525e9550b14c787cb25d05b681314183f69af4f10a635dad812102227248d1b4", func := "watchfire/watchfirelaw03.PackNone", spec := "packNone", apart := false, narrowed := true }
def PackNoneUptoSaid : Prop := packNoneUptoRow.holds Try.pinned (OpenSpec.upto packNoneSpec)

/-- 'watchfirelaw03.PackThings', WHERE WHAT IT READS IS OF BULK AT MOST 1048576: true; the input reads as it did. -/
def packThingsUptoRow : OpenClaim := { program := "ytfhclambjgnmpaa", sum := "525e9550b14c787cb25d05b681314183f69af4f10a635dad812102227248d1b4", func := "watchfire/watchfirelaw03.PackThings", spec := "packThings", apart := false, narrowed := true }
def PackThingsUptoSaid : Prop := packThingsUptoRow.holds Try.pinned (OpenSpec.upto packThingsSpec)

end Rows
end Go.Proofs.Ytfhclambjgnmpaa
