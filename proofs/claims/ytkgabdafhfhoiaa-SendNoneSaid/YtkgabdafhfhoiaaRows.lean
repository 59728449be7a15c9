/-
  No cell of these rows narrows 'for every input' (looked for: loops, veiled, ifaces, maps, wideKeys, modest, calm, conditions, laid).
  DERIVED. THE GIVEN ROWS OF THIS SEAT. 3 by the template 'for every input the law returns true; each argument reads behind the call as it read before'; 0 by the template 'total and deterministic' (their statements: YtkgabdafhfhoiaaTotals.lean).
  GIVEN WITH THE SEED: the statements are not yours to turn. If you find one false, say at which input.
  Laid BY PROGRAM, IN A SANDBOX (cutbox-rows.mjs): the forced cells as the released guide's own fill.sh prints them over the translation f59dca2e174ede92… (all of the seat's roots in one cut). By AI agents, Wed Nov 11 2026. No macro, syntax, notation, axiom, sorry.
-/
import Derived.Test.YtkgabdafhfhoiaaChecked
import GoSem.Claim
import GoSem.ClaimJoined
import GoSem.ClaimMapViews
import Derived.JoinedTies
import Derived.KernelRfl
namespace Go.Proofs.Ytkgabdafhfhoiaa
/- THE CELL 'sum', in the pinned program and in every row, IS THE sha256 OF THE DUMP (.gsa) THAT YtkgabdafhfhoiaaProg.lean LOADS. Nothing in Lean hashes anything: it is a label: what it is worth is what the hold of that sum in a sandbox is worth. -/
noncomputable def Try.pinned : Pinned := { name := "ytkgabdafhfhoiaa", sum := "f59dca2e174ede9282b74618f2db8f0e1dd39158170d6fb17fd32670b898aaa7", checked := Try.checked }
namespace Rows
def none {H : Type} : Left H := { results := [], args := [] }

/-- 'watchfirelaw10.SendWaits': WHATEVER THE INPUT: true; the input reads as it did. -/
def sendWaitsSpec : ChangeSpec := { name := "sendWaits", fn := fun _ => fun
  | [d1, d2, d3, d4] => { results := [.lit (.bool true)], args := [d1, d2, d3, d4] }
  | _ => none }
def sendWaitsRow : OpenClaim := { program := "ytkgabdafhfhoiaa", sum := "f59dca2e174ede9282b74618f2db8f0e1dd39158170d6fb17fd32670b898aaa7", func := "watchfire/watchfirelaw10.SendWaits", spec := "sendWaits", apart := false }
def SendWaitsSaid : Prop := sendWaitsRow.holds Try.pinned (OpenSpec.ofChange sendWaitsSpec)

/-- ITS FALSE NEIGHBOUR: 'it returns false'. Refute it at one input. -/
def sendWaitsWrong : ChangeSpec := { name := "sendWaits", fn := fun _ => fun
  | [d1, d2, d3, d4] => { results := [.lit (.bool false)], args := [d1, d2, d3, d4] }
  | _ => none }
def SendWaitsWrongFalsely : Prop := sendWaitsRow.holds Try.pinned (OpenSpec.ofChange sendWaitsWrong)

/-- 'watchfirelaw10.SendWindow': WHATEVER THE INPUT: true; the input reads as it did. -/
def sendWindowSpec : ChangeSpec := { name := "sendWindow", fn := fun _ => fun
  | [d1, d2] => { results := [.lit (.bool true)], args := [d1, d2] }
  | _ => none }
def sendWindowRow : OpenClaim := { program := "ytkgabdafhfhoiaa", sum := "f59dca2e174ede9282b74618f2db8f0e1dd39158170d6fb17fd32670b898aaa7", func := "watchfire/watchfirelaw10.SendWindow", spec := "sendWindow", apart := false }
def SendWindowSaid : Prop := sendWindowRow.holds Try.pinned (OpenSpec.ofChange sendWindowSpec)

/-- ITS FALSE NEIGHBOUR: 'it returns false'. Refute it at one input. -/
def sendWindowWrong : ChangeSpec := { name := "sendWindow", fn := fun _ => fun
  | [d1, d2] => { results := [.lit (.bool false)], args := [d1, d2] }
  | _ => none }
def SendWindowWrongFalsely : Prop := sendWindowRow.holds Try.pinned (OpenSpec.ofChange sendWindowWrong)

/-- 'watchfirelaw10.SendNone': WHATEVER THE INPUT: true; the input reads as it did. -/
def sendNoneSpec : ChangeSpec := { name := "sendNone", fn := fun _ => fun
  | [d1, d2, d3, d4] => { results := [.lit (.bool true)], args := [d1, d2, d3, d4] }
  | _ => none }
def sendNoneRow : OpenClaim := { program := "ytkgabdafhfhoiaa", sum := "f59dca2e174ede9282b74618f2db8f0e1dd39158170d6fb17fd32670b898aaa7", func := "watchfire/watchfirelaw10.SendNone", spec := "sendNone", apart := false }
def SendNoneSaid : Prop := sendNoneRow.holds Try.pinned (OpenSpec.ofChange sendNoneSpec)

/-- ITS FALSE NEIGHBOUR: 'it returns false'. Refute it at one input. -/
def sendNoneWrong : ChangeSpec := { name := "sendNone", fn := fun _ => fun
  | [d1, d2, d3, d4] => { results := [.lit (.bool false)], args := [d1, d2, d3, d4] }
  | _ => none }
def SendNoneWrongFalsely : Prop := sendNoneRow.holds Try.pinned (OpenSpec.ofChange sendNoneWrong)

/- THE SECOND FORM. 'bulk': how many values and letters a reading holds, each counted each time it is reached (what is shared counts as often as it is met; a slice's spare places count too). A statement '..UptoSaid' is the law's where the arguments, and the package variables that the reading takes, are together of bulk at most 1048576: NARROWER than '..Said'. Prove '..Said' where nothing that the law and all that it calls make is longer than what came in: it says more and counts as full. Else prove '..UptoSaid'. A law counts once. -/
mutual
def uptoBulk {H : Type} : DataW H → Nat
  | .lit (.string bytes) => bytes.length + 1
  | .lit _ => 1
  | .nil => 1
  | .ptr d => uptoBulk d + 1
  | .slice elems spare => uptoBulkAll elems + uptoBulkAll spare + 1
  | .agg parts => uptoBulkAll parts + 1
  | .iface _ d => uptoBulk d + 1
  | .map entries => uptoBulkEntries entries + 1
  | .held _ => 1
def uptoBulkAll {H : Type} : List (DataW H) → Nat
  | [] => 0
  | d :: r => uptoBulk d + uptoBulkAll r
def uptoBulkEntries {H : Type} : List (Lit × DataW H) → Nat
  | [] => 0
  | x :: r => uptoBulkEntry x + uptoBulkEntries r
def uptoBulkEntry {H : Type} : Lit × DataW H → Nat
  | (.string bytes, d) => bytes.length + uptoBulk d + 1
  | (_, d) => uptoBulk d + 1
 end
def uptoSmall : (H : Type) → List (DataW H) → Bool := fun _ ds => decide (uptoBulkAll ds ≤ 1048576)
def OpenSpec.upto (s : _root_.Go.ChangeSpec) : _root_.Go.OpenSpec := { _root_.Go.OpenSpec.ofChange s with cond := some uptoSmall }

/-- 'watchfirelaw10.SendWaits', WHERE WHAT IT READS IS OF BULK AT MOST 1048576: true; the input reads as it did. -/
def sendWaitsUptoRow : OpenClaim := { program := "ytkgabdafhfhoiaa", sum := "f59dca2e174ede9282b74618f2db8f0e1dd39158170d6fb17fd32670b898aaa7", func := "watchfire/watchfirelaw10.SendWaits", spec := "sendWaits", apart := false, narrowed := true }
def SendWaitsUptoSaid : Prop := sendWaitsUptoRow.holds Try.pinned (OpenSpec.upto sendWaitsSpec)

/-- 'watchfirelaw10.SendWindow', WHERE WHAT IT READS IS OF BULK AT MOST 1048576: true; the input reads as it did. -/
def sendWindowUptoRow : OpenClaim := { program := "ytkgabdafhfhoiaa", sum := "f59dca2e174ede9282b74618f2db8f0e1dd39158170d6fb17fd32670b898aaa7", func := "watchfire/watchfirelaw10.SendWindow", spec := "sendWindow", apart := false, narrowed := true }
def SendWindowUptoSaid : Prop := sendWindowUptoRow.holds Try.pinned (OpenSpec.upto sendWindowSpec)

/-- 'watchfirelaw10.SendNone', WHERE WHAT IT READS IS OF BULK AT MOST 1048576: true; the input reads as it did. -/
def sendNoneUptoRow : OpenClaim := { program := "ytkgabdafhfhoiaa", sum := "f59dca2e174ede9282b74618f2db8f0e1dd39158170d6fb17fd32670b898aaa7", func := "watchfire/watchfirelaw10.SendNone", spec := "sendNone", apart := false, narrowed := true }
def SendNoneUptoSaid : Prop := sendNoneUptoRow.holds Try.pinned (OpenSpec.upto sendNoneSpec)

end Rows
end Go.Proofs.Ytkgabdafhfhoiaa
