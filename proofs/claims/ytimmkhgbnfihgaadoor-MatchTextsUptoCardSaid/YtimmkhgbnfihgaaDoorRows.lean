/-
  NARROWER THAN 'FOR EVERY INPUT', by the rows' own cells (each row's printed sentence says how): MatchNames: laid · MatchHolds: laid · MatchTexts: laid · MatchBack: laid.
  DERIVED. THE GIVEN ROWS OF THIS SEAT. 4 by the template 'for every input the law returns true; each argument reads behind the call as it read before'; 0 by the template 'total and deterministic' (their statements: YtimmkhgbnfihgaaDoorTotals.lean).
  GIVEN WITH THE SEED: the statements are not yours to turn. If you find one false, say at which input.
  Laid BY PROGRAM, IN A SANDBOX (cutbox-rows.mjs): the forced cells as the released guide's own fill.sh prints them over the translation d1c7a0c0beb265fa… (all of the seat's roots in one cut). By AI agents, Wed Nov 11 2026. No macro, syntax, notation, axiom, sorry.
-/
import Derived.Test.YtimmkhgbnfihgaaDoorChecked
import GoSem.PinnedTables
import GoSem.Claim
import GoSem.ClaimJoined
import GoSem.ClaimMapViews
import Derived.JoinedTies
import Derived.KernelRfl
namespace Go.Proofs.YtimmkhgbnfihgaaDoor
/- THE CELL 'sum', in the pinned program and in every row, IS THE sha256 OF THE DUMP (.gsa) THAT YtimmkhgbnfihgaaDoorProg.lean LOADS. Nothing in Lean hashes anything: it is a label: what it is worth is what the hold of that sum in a sandbox is worth. -/
noncomputable def Tryd.pinned : Pinned := { name := "ytimmkhgbnfihgaadoor", sum := "d1c7a0c0beb265fad706b2c416bf212235ad2004eea8b334ca613362398ec765", checked := Tryd.checked }
namespace Rows
def none {H : Type} : Left H := { results := [], args := [] }

/- WHAT THE LISTED PACKAGE-LEVEL VARIABLES READ AS WHEN THE CALL BEGINS. Each datum BY PROGRAM (the guide's laid-datum.mjs) off the statement by which the dump's own 'gosem.cut.vars' lays the variable. In a bare row this is a premise. The card (YtimmkhgbnfihgaaDoorCards.lean) ties it to the program's text. -/
def laid_unicode_utf8_acceptRanges {H : Type} : DataW H := .agg [.agg [.lit (.int .u8 128), .lit (.int .u8 191)], .agg [.lit (.int .u8 160), .lit (.int .u8 191)], .agg [.lit (.int .u8 128), .lit (.int .u8 159)], .agg [.lit (.int .u8 144), .lit (.int .u8 191)], .agg [.lit (.int .u8 128), .lit (.int .u8 143)], .agg [.lit (.int .u8 0), .lit (.int .u8 0)], .agg [.lit (.int .u8 0), .lit (.int .u8 0)], .agg [.lit (.int .u8 0), .lit (.int .u8 0)], .agg [.lit (.int .u8 0), .lit (.int .u8 0)], .agg [.lit (.int .u8 0), .lit (.int .u8 0)], .agg [.lit (.int .u8 0), .lit (.int .u8 0)], .agg [.lit (.int .u8 0), .lit (.int .u8 0)], .agg [.lit (.int .u8 0), .lit (.int .u8 0)], .agg [.lit (.int .u8 0), .lit (.int .u8 0)], .agg [.lit (.int .u8 0), .lit (.int .u8 0)], .agg [.lit (.int .u8 0), .lit (.int .u8 0)]]
/-- One of Go's own tables, pinned by name: the form's constant. -/
def laid_unicode_utf8_first : DataW Unit := Go.Pinned.utf8First

/-- 'watchfirelaw17.MatchNames': WHATEVER THE INPUT: true; the input reads as it did. -/
def matchNamesSpec : ChangeSpec := { name := "matchNames", fn := fun _ => fun
  | [d1, d2, d3] => { results := [.lit (.bool true)], args := [d1, d2, d3] }
  | _ => none }
def matchNamesRow : OpenClaim := { program := "ytimmkhgbnfihgaadoor", sum := "d1c7a0c0beb265fad706b2c416bf212235ad2004eea8b334ca613362398ec765", func := "watchfire/watchfirelaw17.MatchNames", spec := "matchNames", inPlace := ["internal/bytealg.CountString", "internal/bytealg.IndexByteString", "internal/bytealg.IndexString"], recurses := true, named := ["unicode/utf8.first", "unicode/utf8.acceptRanges", "internal/bytealg.MaxLen"], apart := false, laid := [("unicode/utf8.acceptRanges", laid_unicode_utf8_acceptRanges), ("unicode/utf8.first", laid_unicode_utf8_first)] }
def MatchNamesSaid : Prop := matchNamesRow.holds Tryd.pinned (OpenSpec.ofChange matchNamesSpec)

/-- ITS FALSE NEIGHBOUR: 'it returns false'. Refute it at one input. -/
def matchNamesWrong : ChangeSpec := { name := "matchNames", fn := fun _ => fun
  | [d1, d2, d3] => { results := [.lit (.bool false)], args := [d1, d2, d3] }
  | _ => none }
def MatchNamesWrongFalsely : Prop := matchNamesRow.holds Tryd.pinned (OpenSpec.ofChange matchNamesWrong)

/-- 'watchfirelaw17.MatchHolds': WHATEVER THE INPUT: true; the input reads as it did. -/
def matchHoldsSpec : ChangeSpec := { name := "matchHolds", fn := fun _ => fun
  | [d1, d2, d3] => { results := [.lit (.bool true)], args := [d1, d2, d3] }
  | _ => none }
def matchHoldsRow : OpenClaim := { program := "ytimmkhgbnfihgaadoor", sum := "d1c7a0c0beb265fad706b2c416bf212235ad2004eea8b334ca613362398ec765", func := "watchfire/watchfirelaw17.MatchHolds", spec := "matchHolds", inPlace := ["internal/bytealg.CountString", "internal/bytealg.IndexByteString", "internal/bytealg.IndexString"], named := ["unicode/utf8.first", "unicode/utf8.acceptRanges", "internal/bytealg.MaxLen"], apart := false, laid := [("unicode/utf8.acceptRanges", laid_unicode_utf8_acceptRanges), ("unicode/utf8.first", laid_unicode_utf8_first)] }
def MatchHoldsSaid : Prop := matchHoldsRow.holds Tryd.pinned (OpenSpec.ofChange matchHoldsSpec)

/-- ITS FALSE NEIGHBOUR: 'it returns false'. Refute it at one input. -/
def matchHoldsWrong : ChangeSpec := { name := "matchHolds", fn := fun _ => fun
  | [d1, d2, d3] => { results := [.lit (.bool false)], args := [d1, d2, d3] }
  | _ => none }
def MatchHoldsWrongFalsely : Prop := matchHoldsRow.holds Tryd.pinned (OpenSpec.ofChange matchHoldsWrong)

/-- 'watchfirelaw17.MatchTexts': WHATEVER THE INPUT: true; the input reads as it did. -/
def matchTextsSpec : ChangeSpec := { name := "matchTexts", fn := fun _ => fun
  | [d1, d2, d3] => { results := [.lit (.bool true)], args := [d1, d2, d3] }
  | _ => none }
def matchTextsRow : OpenClaim := { program := "ytimmkhgbnfihgaadoor", sum := "d1c7a0c0beb265fad706b2c416bf212235ad2004eea8b334ca613362398ec765", func := "watchfire/watchfirelaw17.MatchTexts", spec := "matchTexts", inPlace := ["internal/bytealg.CountString", "internal/bytealg.IndexByteString", "internal/bytealg.IndexString", "internal/abi.NoEscape", "internal/bytealg.MakeNoZero"], named := ["unicode/utf8.first", "unicode/utf8.acceptRanges", "internal/bytealg.MaxLen"], apart := false, laid := [("unicode/utf8.acceptRanges", laid_unicode_utf8_acceptRanges), ("unicode/utf8.first", laid_unicode_utf8_first)] }
def MatchTextsSaid : Prop := matchTextsRow.holds Tryd.pinned (OpenSpec.ofChange matchTextsSpec)

/-- ITS FALSE NEIGHBOUR: 'it returns false'. Refute it at one input. -/
def matchTextsWrong : ChangeSpec := { name := "matchTexts", fn := fun _ => fun
  | [d1, d2, d3] => { results := [.lit (.bool false)], args := [d1, d2, d3] }
  | _ => none }
def MatchTextsWrongFalsely : Prop := matchTextsRow.holds Tryd.pinned (OpenSpec.ofChange matchTextsWrong)

/-- 'watchfirelaw17.MatchBack': WHATEVER THE INPUT: true; the input reads as it did. -/
def matchBackSpec : ChangeSpec := { name := "matchBack", fn := fun _ => fun
  | [d] => { results := [.lit (.bool true)], args := [d] }
  | _ => none }
def matchBackRow : OpenClaim := { program := "ytimmkhgbnfihgaadoor", sum := "d1c7a0c0beb265fad706b2c416bf212235ad2004eea8b334ca613362398ec765", func := "watchfire/watchfirelaw17.MatchBack", spec := "matchBack", inPlace := ["internal/bytealg.CountString", "internal/bytealg.IndexByteString", "internal/bytealg.IndexString", "internal/abi.NoEscape", "internal/bytealg.MakeNoZero"], named := ["unicode/utf8.first", "unicode/utf8.acceptRanges", "internal/bytealg.MaxLen"], apart := false, laid := [("unicode/utf8.acceptRanges", laid_unicode_utf8_acceptRanges), ("unicode/utf8.first", laid_unicode_utf8_first)] }
def MatchBackSaid : Prop := matchBackRow.holds Tryd.pinned (OpenSpec.ofChange matchBackSpec)

/-- ITS FALSE NEIGHBOUR: 'it returns false'. Refute it at one input. -/
def matchBackWrong : ChangeSpec := { name := "matchBack", fn := fun _ => fun
  | [d] => { results := [.lit (.bool false)], args := [d] }
  | _ => none }
def MatchBackWrongFalsely : Prop := matchBackRow.holds Tryd.pinned (OpenSpec.ofChange matchBackWrong)

/- THE SECOND FORM. 'bulk': how many values and letters a reading holds, each counted each time it is reached (what is shared counts as often as it is met; a slice's spare places count too). A statement '..UptoSaid' is the law's where the arguments, and the package variables that the reading takes, are together of bulk at most 1048576: NARROWER than '..Said'. Prove '..Said' where nothing that the law and all that it calls make is longer than what came in: it says more and counts as full. Else prove '..UptoSaid'. A law counts once. -/
mutual
def uptoBulk {H : Type} : DataW H → Nat
  | .lit (.string bytes) => bytes.length + 1
  | .lit _ => 1
  | .nil => 1
  | .ptr d => uptoBulk d + 1
  | .slice elems spare => uptoBulkAll elems + uptoBulkAll spare + 1
  | .agg parts => uptoBulkAll parts + 1
  | .iface _ d => uptoBulk d + 1
  | .map entries => uptoBulkEntries entries + 1
  | .held _ => 1
def uptoBulkAll {H : Type} : List (DataW H) → Nat
  | [] => 0
  | d :: r => uptoBulk d + uptoBulkAll r
def uptoBulkEntries {H : Type} : List (Lit × DataW H) → Nat
  | [] => 0
  | x :: r => uptoBulkEntry x + uptoBulkEntries r
def uptoBulkEntry {H : Type} : Lit × DataW H → Nat
  | (.string bytes, d) => bytes.length + uptoBulk d + 1
  | (_, d) => uptoBulk d + 1
 end
def uptoSmall : (H : Type) → List (DataW H) → Bool := fun _ ds => decide (uptoBulkAll ds ≤ 1048576)
def OpenSpec.upto (s : _root_.Go.ChangeSpec) : _root_.Go.OpenSpec := { _root_.Go.OpenSpec.ofChange s with cond := some uptoSmall }

/-- 'watchfirelaw17.MatchNames', WHERE WHAT IT READS IS OF BULK AT MOST 1048576: true; the input reads as it did. -/
def matchNamesUptoRow : OpenClaim := { program := "ytimmkhgbnfihgaadoor", sum := "d1c7a0c0beb265fad706b2c416bf212235ad2004eea8b334ca613362398ec765", func := "watchfire/watchfirelaw17.MatchNames", spec := "matchNames", inPlace := ["internal/bytealg.CountString", "internal/bytealg.IndexByteString", "internal/bytealg.IndexString"], recurses := true, named := ["unicode/utf8.first", "unicode/utf8.acceptRanges", "internal/bytealg.MaxLen"], apart := false, laid := [("unicode/utf8.acceptRanges", laid_unicode_utf8_acceptRanges), ("unicode/utf8.first", laid_unicode_utf8_first)], narrowed := true }
def MatchNamesUptoSaid : Prop := matchNamesUptoRow.holds Tryd.pinned (OpenSpec.upto matchNamesSpec)

/-- 'watchfirelaw17.MatchHolds', WHERE WHAT IT READS IS OF BULK AT MOST 1048576: true; the input reads as it did. -/
def matchHoldsUptoRow : OpenClaim := { program := "ytimmkhgbnfihgaadoor", sum := "d1c7a0c0beb265fad706b2c416bf212235ad2004eea8b334ca613362398ec765", func := "watchfire/watchfirelaw17.MatchHolds", spec := "matchHolds", inPlace := ["internal/bytealg.CountString", "internal/bytealg.IndexByteString", "internal/bytealg.IndexString"], named := ["unicode/utf8.first", "unicode/utf8.acceptRanges", "internal/bytealg.MaxLen"], apart := false, laid := [("unicode/utf8.acceptRanges", laid_unicode_utf8_acceptRanges), ("unicode/utf8.first", laid_unicode_utf8_first)], narrowed := true }
def MatchHoldsUptoSaid : Prop := matchHoldsUptoRow.holds Tryd.pinned (OpenSpec.upto matchHoldsSpec)

/-- 'watchfirelaw17.MatchTexts', WHERE WHAT IT READS IS OF BULK AT MOST 1048576: true; the input reads as it did. -/
def matchTextsUptoRow : OpenClaim := { program := "ytimmkhgbnfihgaadoor", sum := "d1c7a0c0beb265fad706b2c416bf212235ad2004eea8b334ca613362398ec765", func := "watchfire/watchfirelaw17.MatchTexts", spec := "matchTexts", inPlace := ["internal/bytealg.CountString", "internal/bytealg.IndexByteString", "internal/bytealg.IndexString", "internal/abi.NoEscape", "internal/bytealg.MakeNoZero"], named := ["unicode/utf8.first", "unicode/utf8.acceptRanges", "internal/bytealg.MaxLen"], apart := false, laid := [("unicode/utf8.acceptRanges", laid_unicode_utf8_acceptRanges), ("unicode/utf8.first", laid_unicode_utf8_first)], narrowed := true }
def MatchTextsUptoSaid : Prop := matchTextsUptoRow.holds Tryd.pinned (OpenSpec.upto matchTextsSpec)

/-- 'watchfirelaw17.MatchBack', WHERE WHAT IT READS IS OF BULK AT MOST 1048576: true; the input reads as it did. -/
def matchBackUptoRow : OpenClaim := { program := "ytimmkhgbnfihgaadoor", sum := "d1c7a0c0beb265fad706b2c416bf212235ad2004eea8b334ca613362398ec765", func := "watchfire/watchfirelaw17.MatchBack", spec := "matchBack", inPlace := ["internal/bytealg.CountString", "internal/bytealg.IndexByteString", "internal/bytealg.IndexString", "internal/abi.NoEscape", "internal/bytealg.MakeNoZero"], named := ["unicode/utf8.first", "unicode/utf8.acceptRanges", "internal/bytealg.MaxLen"], apart := false, laid := [("unicode/utf8.acceptRanges", laid_unicode_utf8_acceptRanges), ("unicode/utf8.first", laid_unicode_utf8_first)], narrowed := true }
def MatchBackUptoSaid : Prop := matchBackUptoRow.holds Tryd.pinned (OpenSpec.upto matchBackSpec)

end Rows
end Go.Proofs.YtimmkhgbnfihgaaDoor
