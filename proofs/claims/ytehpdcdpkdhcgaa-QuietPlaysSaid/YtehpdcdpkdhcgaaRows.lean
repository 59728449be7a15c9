/-
  No cell of these rows narrows 'for every input' (looked for: loops, veiled, ifaces, maps, wideKeys, modest, calm, conditions, laid).
  DERIVED. THE GIVEN ROWS OF THIS SEAT. 4 by the template 'for every input the law returns true; each argument reads behind the call as it read before'; 0 by the template 'total and deterministic' (their statements: YtehpdcdpkdhcgaaTotals.lean).
  GIVEN WITH THE SEED: the statements are not yours to turn. If you find one false, say at which input.
  Laid BY PROGRAM, IN A SANDBOX (cutbox-rows.mjs): the forced cells as the released guide's own fill.sh prints them over the translation df7323b70f92aaeb… (all of the seat's roots in one cut). By AI agents, Wed Nov 11 2026. No macro, syntax, notation, axiom, sorry.
-/
import Derived.Test.YtehpdcdpkdhcgaaChecked
import GoSem.Claim
import GoSem.ClaimJoined
import GoSem.ClaimMapViews
import Derived.JoinedTies
import Derived.KernelRfl
namespace Go.Proofs.Ytehpdcdpkdhcgaa
/- THE CELL 'sum', in the pinned program and in every row, IS THE sha256 OF THE DUMP (.gsa) THAT YtehpdcdpkdhcgaaProg.lean LOADS. Nothing in Lean hashes anything: it is a label: what it is worth is what the hold of that sum in a sandbox is worth. -/
noncomputable def Try.pinned : Pinned := { name := "ytehpdcdpkdhcgaa", sum := "df7323b70f92aaeb5a0d4ed761f85096fc6001a148643d7590e09f65650d7d36", checked := Try.checked }
namespace Rows
def none {H : Type} : Left H := { results := [], args := [] }

/-- 'watchfirelaw18.QuietCovers': WHATEVER THE INPUT: true; the input reads as it did. -/
def quietCoversSpec : ChangeSpec := { name := "quietCovers", fn := fun _ => fun
  | [d1, d2, d3, d4] => { results := [.lit (.bool true)], args := [d1, d2, d3, d4] }
  | _ => none }
def quietCoversRow : OpenClaim := { program := "ytehpdcdpkdhcgaa", sum := "df7323b70f92aaeb5a0d4ed761f85096fc6001a148643d7590e09f65650d7d36", func := "watchfire/watchfirelaw18.QuietCovers", spec := "quietCovers", recurses := true, apart := false }
def QuietCoversSaid : Prop := quietCoversRow.holds Try.pinned (OpenSpec.ofChange quietCoversSpec)

/-- ITS FALSE NEIGHBOUR: 'it returns false'. Refute it at one input. -/
def quietCoversWrong : ChangeSpec := { name := "quietCovers", fn := fun _ => fun
  | [d1, d2, d3, d4] => { results := [.lit (.bool false)], args := [d1, d2, d3, d4] }
  | _ => none }
def QuietCoversWrongFalsely : Prop := quietCoversRow.holds Try.pinned (OpenSpec.ofChange quietCoversWrong)

/-- 'watchfirelaw18.QuietMany': WHATEVER THE INPUT: true; the input reads as it did. -/
def quietManySpec : ChangeSpec := { name := "quietMany", fn := fun _ => fun
  | [d1, d2] => { results := [.lit (.bool true)], args := [d1, d2] }
  | _ => none }
def quietManyRow : OpenClaim := { program := "ytehpdcdpkdhcgaa", sum := "df7323b70f92aaeb5a0d4ed761f85096fc6001a148643d7590e09f65650d7d36", func := "watchfire/watchfirelaw18.QuietMany", spec := "quietMany", recurses := true, apart := false }
def QuietManySaid : Prop := quietManyRow.holds Try.pinned (OpenSpec.ofChange quietManySpec)

/-- ITS FALSE NEIGHBOUR: 'it returns false'. Refute it at one input. -/
def quietManyWrong : ChangeSpec := { name := "quietMany", fn := fun _ => fun
  | [d1, d2] => { results := [.lit (.bool false)], args := [d1, d2] }
  | _ => none }
def QuietManyWrongFalsely : Prop := quietManyRow.holds Try.pinned (OpenSpec.ofChange quietManyWrong)

/-- 'watchfirelaw18.QuietPlays': WHATEVER THE INPUT: true; the input reads as it did. -/
def quietPlaysSpec : ChangeSpec := { name := "quietPlays", fn := fun _ => fun
  | [d] => { results := [.lit (.bool true)], args := [d] }
  | _ => none }
def quietPlaysRow : OpenClaim := { program := "ytehpdcdpkdhcgaa", sum := "df7323b70f92aaeb5a0d4ed761f85096fc6001a148643d7590e09f65650d7d36", func := "watchfire/watchfirelaw18.QuietPlays", spec := "quietPlays", recurses := true, apart := false }
def QuietPlaysSaid : Prop := quietPlaysRow.holds Try.pinned (OpenSpec.ofChange quietPlaysSpec)

/-- ITS FALSE NEIGHBOUR: 'it returns false'. Refute it at one input. -/
def quietPlaysWrong : ChangeSpec := { name := "quietPlays", fn := fun _ => fun
  | [d] => { results := [.lit (.bool false)], args := [d] }
  | _ => none }
def QuietPlaysWrongFalsely : Prop := quietPlaysRow.holds Try.pinned (OpenSpec.ofChange quietPlaysWrong)

/-- 'watchfirelaw18.QuietNone': WHATEVER THE INPUT: true; the input reads as it did. -/
def quietNoneSpec : ChangeSpec := { name := "quietNone", fn := fun _ => fun
  | [d1, d2, d3, d4] => { results := [.lit (.bool true)], args := [d1, d2, d3, d4] }
  | _ => none }
def quietNoneRow : OpenClaim := { program := "ytehpdcdpkdhcgaa", sum := "df7323b70f92aaeb5a0d4ed761f85096fc6001a148643d7590e09f65650d7d36", func := "watchfire/watchfirelaw18.QuietNone", spec := "quietNone", recurses := true, apart := false }
def QuietNoneSaid : Prop := quietNoneRow.holds Try.pinned (OpenSpec.ofChange quietNoneSpec)

/-- ITS FALSE NEIGHBOUR: 'it returns false'. Refute it at one input. -/
def quietNoneWrong : ChangeSpec := { name := "quietNone", fn := fun _ => fun
  | [d1, d2, d3, d4] => { results := [.lit (.bool false)], args := [d1, d2, d3, d4] }
  | _ => none }
def QuietNoneWrongFalsely : Prop := quietNoneRow.holds Try.pinned (OpenSpec.ofChange quietNoneWrong)

/- THE SECOND FORM. 'bulk': how many values and letters a reading holds, each counted each time it is reached (what is shared counts as often as it is met; a slice's spare places count too). A statement '..UptoSaid' is the law's where the arguments, and the package variables that the reading takes, are together of bulk at most 1048576: NARROWER than '..Said'. Prove '..Said' where nothing that the law and all that it calls make is longer than what came in: it says more and counts as full. Else prove '..UptoSaid'. A law counts once. -/
mutual
def uptoBulk {H : Type} : DataW H → Nat
  | .lit (.string bytes) => bytes.length + 1
  | .lit _ => 1
  | .nil => 1
  | .ptr d => uptoBulk d + 1
  | .slice elems spare => uptoBulkAll elems + uptoBulkAll spare + 1
  | .agg parts => uptoBulkAll parts + 1
  | .iface _ d => uptoBulk d + 1
  | .map entries => uptoBulkEntries entries + 1
  | .held _ => 1
def uptoBulkAll {H : Type} : List (DataW H) → Nat
  | [] => 0
  | d :: r => uptoBulk d + uptoBulkAll r
def uptoBulkEntries {H : Type} : List (Lit × DataW H) → Nat
  | [] => 0
  | x :: r => uptoBulkEntry x + uptoBulkEntries r
def uptoBulkEntry {H : Type} : Lit × DataW H → Nat
  | (.string bytes, d) => bytes.length + uptoBulk d + 1
  | (_, d) => uptoBulk d + 1
 end
def uptoSmall : (H : Type) → List (DataW H) → Bool := fun _ ds => decide (uptoBulkAll ds ≤ 1048576)
def OpenSpec.upto (s : _root_.Go.ChangeSpec) : _root_.Go.OpenSpec := { _root_.Go.OpenSpec.ofChange s with cond := some uptoSmall }

/-- 'watchfirelaw18.QuietCovers', WHERE WHAT IT READS IS OF BULK AT MOST 1048576: true; the input reads as it did. -/
def quietCoversUptoRow : OpenClaim := { program := "ytehpdcdpkdhcgaa", sum := "df7323b70f92aaeb5a0d4ed761f85096fc6001a148643d7590e09f65650d7d36", func := "watchfire/watchfirelaw18.QuietCovers", spec := "quietCovers", recurses := true, apart := false, narrowed := true }
def QuietCoversUptoSaid : Prop := quietCoversUptoRow.holds Try.pinned (OpenSpec.upto quietCoversSpec)

/-- 'watchfirelaw18.QuietMany', WHERE WHAT IT READS IS OF BULK AT MOST 1048576: true; the input reads as it did. -/
def quietManyUptoRow : OpenClaim := { program := "ytehpdcdpkdhcgaa", sum := "df7323b70f92aaeb5a0d4ed761f85096fc6001a148643d7590e09f65650d7d36", func := "watchfire/watchfirelaw18.QuietMany", spec := "quietMany", recurses := true, apart := false, narrowed := true }
def QuietManyUptoSaid : Prop := quietManyUptoRow.holds Try.pinned (OpenSpec.upto quietManySpec)

/-- 'watchfirelaw18.QuietPlays', WHERE WHAT IT READS IS OF BULK AT MOST 1048576: true; the input reads as it did. -/
def quietPlaysUptoRow : OpenClaim := { program := "ytehpdcdpkdhcgaa", sum := "df7323b70f92aaeb5a0d4ed761f85096fc6001a148643d7590e09f65650d7d36", func := "watchfire/watchfirelaw18.QuietPlays", spec := "quietPlays", recurses := true, apart := false, narrowed := true }
def QuietPlaysUptoSaid : Prop := quietPlaysUptoRow.holds Try.pinned (OpenSpec.upto quietPlaysSpec)

/-- 'watchfirelaw18.QuietNone', WHERE WHAT IT READS IS OF BULK AT MOST 1048576: true; the input reads as it did. -/
def quietNoneUptoRow : OpenClaim := { program := "ytehpdcdpkdhcgaa", sum := "df7323b70f92aaeb5a0d4ed761f85096fc6001a148643d7590e09f65650d7d36", func := "watchfire/watchfirelaw18.QuietNone", spec := "quietNone", recurses := true, apart := false, narrowed := true }
def QuietNoneUptoSaid : Prop := quietNoneUptoRow.holds Try.pinned (OpenSpec.upto quietNoneSpec)

end Rows
end Go.Proofs.Ytehpdcdpkdhcgaa
