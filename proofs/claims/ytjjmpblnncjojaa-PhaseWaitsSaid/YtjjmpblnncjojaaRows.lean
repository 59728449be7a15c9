/-
  No cell of these rows narrows 'for every input' (looked for: loops, veiled, ifaces, maps, wideKeys, modest, calm, conditions, laid).
  DERIVED. THE GIVEN ROWS OF THIS SEAT. 4 by the template 'for every input the law returns true; each argument reads behind the call as it read before'; 0 by the template 'total and deterministic' (their statements: YtjjmpblnncjojaaTotals.lean).
  GIVEN WITH THE SEED: the statements are not yours to turn. If you find one false, say at which input.
  Laid BY PROGRAM, IN A SANDBOX (cutbox-rows.mjs): the forced cells as the released guide's own fill.sh prints them over the translation 485ffa56534aa8f0… (all of the seat's roots in one cut). By AI agents, Wed Nov 11 2026. No macro, syntax, notation, axiom, sorry.
-/
import Derived.Test.YtjjmpblnncjojaaChecked
import GoSem.Claim
import GoSem.ClaimJoined
import GoSem.ClaimMapViews
import Derived.JoinedTies
import Derived.KernelRfl
namespace Go.Proofs.Ytjjmpblnncjojaa
/- THE CELL 'sum', in the pinned program and in every row, IS THE sha256 OF THE DUMP (.gsa) THAT YtjjmpblnncjojaaProg.lean LOADS. Nothing in Lean hashes anything: it is a label: what it is worth is what the hold of that sum in a sandbox is worth. -/
noncomputable def Try.pinned : Pinned := { name := "ytjjmpblnncjojaa", sum := "485ffa56534aa8f014698c74b6c885c87b05a93f5ac113909eee4a12341a0921", checked := Try.checked }
namespace Rows
def none {H : Type} : Left H := { results := [], args := [] }

/-- 'watchfirelaw14.PhaseWaits': WHATEVER THE INPUT: true; the input reads as it did. -/
def phaseWaitsSpec : ChangeSpec := { name := "phaseWaits", fn := fun _ => fun
  | [d1, d2, d3] => { results := [.lit (.bool true)], args := [d1, d2, d3] }
  | _ => none }
def phaseWaitsRow : OpenClaim := { program := "ytjjmpblnncjojaa", sum := "485ffa56534aa8f014698c74b6c885c87b05a93f5ac113909eee4a12341a0921", func := "watchfire/watchfirelaw14.PhaseWaits", spec := "phaseWaits", apart := false }
def PhaseWaitsSaid : Prop := phaseWaitsRow.holds Try.pinned (OpenSpec.ofChange phaseWaitsSpec)

/-- ITS FALSE NEIGHBOUR: 'it returns false'. Refute it at one input. -/
def phaseWaitsWrong : ChangeSpec := { name := "phaseWaits", fn := fun _ => fun
  | [d1, d2, d3] => { results := [.lit (.bool false)], args := [d1, d2, d3] }
  | _ => none }
def PhaseWaitsWrongFalsely : Prop := phaseWaitsRow.holds Try.pinned (OpenSpec.ofChange phaseWaitsWrong)

/-- 'watchfirelaw14.PhasePlays': WHATEVER THE INPUT: true; the input reads as it did. -/
def phasePlaysSpec : ChangeSpec := { name := "phasePlays", fn := fun _ => fun
  | [d1, d2, d3, d4, d5] => { results := [.lit (.bool true)], args := [d1, d2, d3, d4, d5] }
  | _ => none }
def phasePlaysRow : OpenClaim := { program := "ytjjmpblnncjojaa", sum := "485ffa56534aa8f014698c74b6c885c87b05a93f5ac113909eee4a12341a0921", func := "watchfire/watchfirelaw14.PhasePlays", spec := "phasePlays", apart := false }
def PhasePlaysSaid : Prop := phasePlaysRow.holds Try.pinned (OpenSpec.ofChange phasePlaysSpec)

/-- ITS FALSE NEIGHBOUR: 'it returns false'. Refute it at one input. -/
def phasePlaysWrong : ChangeSpec := { name := "phasePlays", fn := fun _ => fun
  | [d1, d2, d3, d4, d5] => { results := [.lit (.bool false)], args := [d1, d2, d3, d4, d5] }
  | _ => none }
def PhasePlaysWrongFalsely : Prop := phasePlaysRow.holds Try.pinned (OpenSpec.ofChange phasePlaysWrong)

/-- 'watchfirelaw14.PhaseKept': WHATEVER THE INPUT: true; the input reads as it did. -/
def phaseKeptSpec : ChangeSpec := { name := "phaseKept", fn := fun _ => fun
  | [d1, d2, d3, d4, d5] => { results := [.lit (.bool true)], args := [d1, d2, d3, d4, d5] }
  | _ => none }
def phaseKeptRow : OpenClaim := { program := "ytjjmpblnncjojaa", sum := "485ffa56534aa8f014698c74b6c885c87b05a93f5ac113909eee4a12341a0921", func := "watchfire/watchfirelaw14.PhaseKept", spec := "phaseKept", apart := false }
def PhaseKeptSaid : Prop := phaseKeptRow.holds Try.pinned (OpenSpec.ofChange phaseKeptSpec)

/-- ITS FALSE NEIGHBOUR: 'it returns false'. Refute it at one input. -/
def phaseKeptWrong : ChangeSpec := { name := "phaseKept", fn := fun _ => fun
  | [d1, d2, d3, d4, d5] => { results := [.lit (.bool false)], args := [d1, d2, d3, d4, d5] }
  | _ => none }
def PhaseKeptWrongFalsely : Prop := phaseKeptRow.holds Try.pinned (OpenSpec.ofChange phaseKeptWrong)

/-- 'watchfirelaw14.PhaseAny': WHATEVER THE INPUT: true; the input reads as it did. -/
def phaseAnySpec : ChangeSpec := { name := "phaseAny", fn := fun _ => fun
  | [d1, d2, d3, d4, d5] => { results := [.lit (.bool true)], args := [d1, d2, d3, d4, d5] }
  | _ => none }
def phaseAnyRow : OpenClaim := { program := "ytjjmpblnncjojaa", sum := "485ffa56534aa8f014698c74b6c885c87b05a93f5ac113909eee4a12341a0921", func := "watchfire/watchfirelaw14.PhaseAny", spec := "phaseAny", apart := false }
def PhaseAnySaid : Prop := phaseAnyRow.holds Try.pinned (OpenSpec.ofChange phaseAnySpec)

/-- ITS FALSE NEIGHBOUR: 'it returns false'. Refute it at one input. -/
def phaseAnyWrong : ChangeSpec := { name := "phaseAny", fn := fun _ => fun
  | [d1, d2, d3, d4, d5] => { results := [.lit (.bool false)], args := [d1, d2, d3, d4, d5] }
  | _ => none }
def PhaseAnyWrongFalsely : Prop := phaseAnyRow.holds Try.pinned (OpenSpec.ofChange phaseAnyWrong)

/- THE SECOND FORM. 'bulk': how many values and letters a reading holds, each counted each time it is reached (what is shared counts as often as it is met; a slice's spare places count too). A statement '..UptoSaid' is the law's where the arguments, and the package variables that the reading takes, are together of bulk at most 1048576: NARROWER than '..Said'. Prove '..Said' where nothing that the law and all that it calls make is longer than what came in: it says more and counts as full. Else prove '..UptoSaid'. A law counts once. -/
mutual
def uptoBulk {H : Type} : DataW H → Nat
  | .lit (.string bytes) => bytes.length + 1
  | .lit _ => 1
  | .nil => 1
  | .ptr d => uptoBulk d + 1
  | .slice elems spare => uptoBulkAll elems + uptoBulkAll spare + 1
  | .agg parts => uptoBulkAll parts + 1
  | .iface _ d => uptoBulk d + 1
  | .map entries => uptoBulkEntries entries + 1
  | .held _ => 1
def uptoBulkAll {H : Type} : List (DataW H) → Nat
  | [] => 0
  | d :: r => uptoBulk d + uptoBulkAll r
def uptoBulkEntries {H : Type} : List (Lit × DataW H) → Nat
  | [] => 0
  | x :: r => uptoBulkEntry x + uptoBulkEntries r
def uptoBulkEntry {H : Type} : Lit × DataW H → Nat
  | (.string bytes, d) => bytes.length + uptoBulk d + 1
  | (_, d) => uptoBulk d + 1
 end
def uptoSmall : (H : Type) → List (DataW H) → Bool := fun _ ds => decide (uptoBulkAll ds ≤ 1048576)
def OpenSpec.upto (s : _root_.Go.ChangeSpec) : _root_.Go.OpenSpec := { _root_.Go.OpenSpec.ofChange s with cond := some uptoSmall }

/-- 'watchfirelaw14.PhaseWaits', WHERE WHAT IT READS IS OF BULK AT MOST 1048576: true; the input reads as it did. -/
def phaseWaitsUptoRow : OpenClaim := { program := "ytjjmpblnncjojaa", sum := "485ffa56534aa8f014698c74b6c885c87b05a93f5ac113909eee4a12341a0921", func := "watchfire/watchfirelaw14.PhaseWaits", spec := "phaseWaits", apart := false, narrowed := true }
def PhaseWaitsUptoSaid : Prop := phaseWaitsUptoRow.holds Try.pinned (OpenSpec.upto phaseWaitsSpec)

/-- 'watchfirelaw14.PhasePlays', WHERE WHAT IT READS IS OF BULK AT MOST 1048576: true; the input reads as it did. -/
def phasePlaysUptoRow : OpenClaim := { program := "ytjjmpblnncjojaa", sum := "485ffa56534aa8f014698c74b6c885c87b05a93f5ac113909eee4a12341a0921", func := "watchfire/watchfirelaw14.PhasePlays", spec := "phasePlays", apart := false, narrowed := true }
def PhasePlaysUptoSaid : Prop := phasePlaysUptoRow.holds Try.pinned (OpenSpec.upto phasePlaysSpec)

/-- 'watchfirelaw14.PhaseKept', WHERE WHAT IT READS IS OF BULK AT MOST 1048576: true; the input reads as it did. -/
def phaseKeptUptoRow : OpenClaim := { program := "ytjjmpblnncjojaa", sum := "485ffa56534aa8f014698c74b6c885c87b05a93f5ac113909eee4a12341a0921", func := "watchfire/watchfirelaw14.PhaseKept", spec := "phaseKept", apart := false, narrowed := true }
def PhaseKeptUptoSaid : Prop := phaseKeptUptoRow.holds Try.pinned (OpenSpec.upto phaseKeptSpec)

/-- 'watchfirelaw14.PhaseAny', WHERE WHAT IT READS IS OF BULK AT MOST 1048576: true; the input reads as it did. -/
def phaseAnyUptoRow : OpenClaim := { program := "ytjjmpblnncjojaa", sum := "485ffa56534aa8f014698c74b6c885c87b05a93f5ac113909eee4a12341a0921", func := "watchfire/watchfirelaw14.PhaseAny", spec := "phaseAny", apart := false, narrowed := true }
def PhaseAnyUptoSaid : Prop := phaseAnyUptoRow.holds Try.pinned (OpenSpec.upto phaseAnySpec)

end Rows
end Go.Proofs.Ytjjmpblnncjojaa
