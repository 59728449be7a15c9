/-
  No cell of these rows narrows 'for every input' (looked for: loops, veiled, ifaces, maps, wideKeys, modest, calm, conditions, laid).
  DERIVED. THE GIVEN ROWS OF THIS SEAT. 4 by the template 'for every input the law returns true; each argument reads behind the call as it read before'; 0 by the template 'total and deterministic' (their statements: YtblldmpkljcnjaaTotals.lean).
  GIVEN WITH THE SEED: the statements are not yours to turn. If you find one false, say at which input.
  Laid BY PROGRAM, IN A SANDBOX (cutbox-rows.mjs): the forced cells as the released guide's own fill.sh prints them over the translation aa02b4de2a3ce2e3… (all of the seat's roots in one cut). By AI agents, Wed Nov 11 2026. No macro, syntax, notation, axiom, sorry.
-/
import Derived.Test.YtblldmpkljcnjaaChecked
import GoSem.Claim
import GoSem.ClaimJoined
import GoSem.ClaimMapViews
import Derived.JoinedTies
import Derived.KernelRfl
namespace Go.Proofs.Ytblldmpkljcnjaa
/- THE CELL 'sum', in the pinned program and in every row, IS THE sha256 OF THE DUMP (.gsa) THAT YtblldmpkljcnjaaProg.lean LOADS. Nothing in Lean hashes anything: it is a label: what it is worth is what the hold of that sum in a sandbox is worth. -/
noncomputable def Try.pinned : Pinned := { name := "ytblldmpkljcnjaa", sum := "aa02b4de2a3ce2e30c9530393629687fe1df185048f75181dbe788398525b0eb", checked := Try.checked }
namespace Rows
def none {H : Type} : Left H := { results := [], args := [] }

/-- 'watchfirelaw08.SpoolFinds': WHATEVER THE INPUT: true; the input reads as it did. -/
def spoolFindsSpec : ChangeSpec := { name := "spoolFinds", fn := fun _ => fun
  | [d1, d2, d3, d4] => { results := [.lit (.bool true)], args := [d1, d2, d3, d4] }
  | _ => none }
def spoolFindsRow : OpenClaim := { program := "ytblldmpkljcnjaa", sum := "aa02b4de2a3ce2e30c9530393629687fe1df185048f75181dbe788398525b0eb", func := "watchfire/watchfirelaw08.SpoolFinds", spec := "spoolFinds", unfollowed := true, recurses := true, apart := false }
def SpoolFindsSaid : Prop := spoolFindsRow.holds Try.pinned (OpenSpec.ofChange spoolFindsSpec)

/-- ITS FALSE NEIGHBOUR: 'it returns false'. Refute it at one input. -/
def spoolFindsWrong : ChangeSpec := { name := "spoolFinds", fn := fun _ => fun
  | [d1, d2, d3, d4] => { results := [.lit (.bool false)], args := [d1, d2, d3, d4] }
  | _ => none }
def SpoolFindsWrongFalsely : Prop := spoolFindsRow.holds Try.pinned (OpenSpec.ofChange spoolFindsWrong)

/-- 'watchfirelaw08.SpoolCovers': WHATEVER THE INPUT: true; the input reads as it did. -/
def spoolCoversSpec : ChangeSpec := { name := "spoolCovers", fn := fun _ => fun
  | [d1, d2, d3] => { results := [.lit (.bool true)], args := [d1, d2, d3] }
  | _ => none }
def spoolCoversRow : OpenClaim := { program := "ytblldmpkljcnjaa", sum := "aa02b4de2a3ce2e30c9530393629687fe1df185048f75181dbe788398525b0eb", func := "watchfire/watchfirelaw08.SpoolCovers", spec := "spoolCovers", unfollowed := true, recurses := true, apart := false }
def SpoolCoversSaid : Prop := spoolCoversRow.holds Try.pinned (OpenSpec.ofChange spoolCoversSpec)

/-- ITS FALSE NEIGHBOUR: 'it returns false'. Refute it at one input. -/
def spoolCoversWrong : ChangeSpec := { name := "spoolCovers", fn := fun _ => fun
  | [d1, d2, d3] => { results := [.lit (.bool false)], args := [d1, d2, d3] }
  | _ => none }
def SpoolCoversWrongFalsely : Prop := spoolCoversRow.holds Try.pinned (OpenSpec.ofChange spoolCoversWrong)

/-- 'watchfirelaw08.SpoolBases': WHATEVER THE INPUT: true; the input reads as it did. -/
def spoolBasesSpec : ChangeSpec := { name := "spoolBases", fn := fun _ => fun
  | [d1, d2, d3, d4, d5] => { results := [.lit (.bool true)], args := [d1, d2, d3, d4, d5] }
  | _ => none }
def spoolBasesRow : OpenClaim := { program := "ytblldmpkljcnjaa", sum := "aa02b4de2a3ce2e30c9530393629687fe1df185048f75181dbe788398525b0eb", func := "watchfire/watchfirelaw08.SpoolBases", spec := "spoolBases", unfollowed := true, recurses := true, apart := false }
def SpoolBasesSaid : Prop := spoolBasesRow.holds Try.pinned (OpenSpec.ofChange spoolBasesSpec)

/-- ITS FALSE NEIGHBOUR: 'it returns false'. Refute it at one input. -/
def spoolBasesWrong : ChangeSpec := { name := "spoolBases", fn := fun _ => fun
  | [d1, d2, d3, d4, d5] => { results := [.lit (.bool false)], args := [d1, d2, d3, d4, d5] }
  | _ => none }
def SpoolBasesWrongFalsely : Prop := spoolBasesRow.holds Try.pinned (OpenSpec.ofChange spoolBasesWrong)

/-- 'watchfirelaw08.SpoolNone': WHATEVER THE INPUT: true; the input reads as it did. -/
def spoolNoneSpec : ChangeSpec := { name := "spoolNone", fn := fun _ => fun
  | [d1, d2, d3] => { results := [.lit (.bool true)], args := [d1, d2, d3] }
  | _ => none }
def spoolNoneRow : OpenClaim := { program := "ytblldmpkljcnjaa", sum := "aa02b4de2a3ce2e30c9530393629687fe1df185048f75181dbe788398525b0eb", func := "watchfire/watchfirelaw08.SpoolNone", spec := "spoolNone", unfollowed := true, recurses := true, apart := false }
def SpoolNoneSaid : Prop := spoolNoneRow.holds Try.pinned (OpenSpec.ofChange spoolNoneSpec)

/-- ITS FALSE NEIGHBOUR: 'it returns false'. Refute it at one input. -/
def spoolNoneWrong : ChangeSpec := { name := "spoolNone", fn := fun _ => fun
  | [d1, d2, d3] => { results := [.lit (.bool false)], args := [d1, d2, d3] }
  | _ => none }
def SpoolNoneWrongFalsely : Prop := spoolNoneRow.holds Try.pinned (OpenSpec.ofChange spoolNoneWrong)

/- THE SECOND FORM. 'bulk': how many values and letters a reading holds, each counted each time it is reached (what is shared counts as often as it is met; a slice's spare places count too). A statement '..UptoSaid' is the law's where the arguments, and the package variables that the reading takes, are together of bulk at most 1048576: NARROWER than '..Said'. Prove '..Said' where nothing that the law and all that it calls make is longer than what came in: it says more and counts as full. Else prove '..UptoSaid'. A law counts once. -/
mutual
def uptoBulk {H : Type} : DataW H → Nat
  | .lit (.string bytes) => bytes.length + 1
  | .lit _ => 1
  | .nil => 1
  | .ptr d => uptoBulk d + 1
  | .slice elems spare => uptoBulkAll elems + uptoBulkAll spare + 1
  | .agg parts => uptoBulkAll parts + 1
  | .iface _ d => uptoBulk d + 1
  | .map entries => uptoBulkEntries entries + 1
  | .held _ => 1
def uptoBulkAll {H : Type} : List (DataW H) → Nat
  | [] => 0
  | d :: r => uptoBulk d + uptoBulkAll r
def uptoBulkEntries {H : Type} : List (Lit × DataW H) → Nat
  | [] => 0
  | x :: r => uptoBulkEntry x + uptoBulkEntries r
def uptoBulkEntry {H : Type} : Lit × DataW H → Nat
  | (.string bytes, d) => bytes.length + uptoBulk d + 1
  | (_, d) => uptoBulk d + 1
 end
def uptoSmall : (H : Type) → List (DataW H) → Bool := fun _ ds => decide (uptoBulkAll ds ≤ 1048576)
def OpenSpec.upto (s : _root_.Go.ChangeSpec) : _root_.Go.OpenSpec := { _root_.Go.OpenSpec.ofChange s with cond := some uptoSmall }

/-- 'watchfirelaw08.SpoolFinds', WHERE WHAT IT READS IS OF BULK AT MOST 1048576: true; the input reads as it did. -/
def spoolFindsUptoRow : OpenClaim := { program := "ytblldmpkljcnjaa", sum := "aa02b4de2a3ce2e30c9530393629687fe1df185048f75181dbe788398525b0eb", func := "watchfire/watchfirelaw08.SpoolFinds", spec := "spoolFinds", unfollowed := true, recurses := true, apart := false, narrowed := true }
def SpoolFindsUptoSaid : Prop := spoolFindsUptoRow.holds Try.pinned (OpenSpec.upto spoolFindsSpec)

/-- 'watchfirelaw08.SpoolCovers', WHERE WHAT IT READS IS OF BULK AT MOST 1048576: true; the input reads as it did. -/
def spoolCoversUptoRow : OpenClaim := { program := "ytblldmpkljcnjaa", sum := "aa02b4de2a3ce2e30c9530393629687fe1df185048f75181dbe788398525b0eb", func := "watchfire/watchfirelaw08.SpoolCovers", spec := "spoolCovers", unfollowed := true, recurses := true, apart := false, narrowed := true }
def SpoolCoversUptoSaid : Prop := spoolCoversUptoRow.holds Try.pinned (OpenSpec.upto spoolCoversSpec)

/-- 'watchfirelaw08.SpoolBases', WHERE WHAT IT READS IS OF BULK AT MOST 1048576: true; the input reads as it did. -/
def spoolBasesUptoRow : OpenClaim := { program := "ytblldmpkljcnjaa", sum := "aa02b4de2a3ce2e30c9530393629687fe1df185048f75181dbe788398525b0eb", func := "watchfire/watchfirelaw08.SpoolBases", spec := "spoolBases", unfollowed := true, recurses := true, apart := false, narrowed := true }
def SpoolBasesUptoSaid : Prop := spoolBasesUptoRow.holds Try.pinned (OpenSpec.upto spoolBasesSpec)

/-- 'watchfirelaw08.SpoolNone', WHERE WHAT IT READS IS OF BULK AT MOST 1048576: true; the input reads as it did. -/
def spoolNoneUptoRow : OpenClaim := { program := "ytblldmpkljcnjaa", sum := "aa02b4de2a3ce2e30c9530393629687fe1df185048f75181dbe788398525b0eb", func := "watchfire/watchfirelaw08.SpoolNone", spec := "spoolNone", unfollowed := true, recurses := true, apart := false, narrowed := true }
def SpoolNoneUptoSaid : Prop := spoolNoneUptoRow.holds Try.pinned (OpenSpec.upto spoolNoneSpec)

end Rows
end Go.Proofs.Ytblldmpkljcnjaa
