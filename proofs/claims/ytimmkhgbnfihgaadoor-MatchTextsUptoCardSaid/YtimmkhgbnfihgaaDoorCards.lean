/-
  DERIVED. GIVEN WITH THE SEED: THE CARDS: each row of YtimmkhgbnfihgaaDoorRows.lean that lists a variable, with what it lists TIED to the program's text (the seventh form; the later family's looks); each row that meets fmt, with fmt's text TOLD by the authors' own Lean function (tested against real Go, not proved from fmt's source: count such statements apart). THE CARD IS WHAT COUNTS. Prove the row's statement (the work); the ties are given (YtimmkhgbnfihgaaDoorTie.lean); close each card by the builder's one call (the guide's Derived/Test/ToyasCard.lean, 'card_holds'). Laid BY PROGRAM, IN A SANDBOX (cutbox-door.mjs). By AI agents, Wed Nov 11 2026. No macro, syntax, notation, axiom, sorry.
-/
import Derived.Test.YtimmkhgbnfihgaaDoorRows
import GoSem.ClaimSeven
namespace Go.Proofs.YtimmkhgbnfihgaaDoor
namespace Rows

/-- THE TIED CARD OF 'watchfirelaw17.MatchNames'. -/
def matchNamesCard : Claim7 := { stood := { row := matchNamesRow, standIns := [], harness := (true, "1f5acf8af5b6e9a8768629fed806df0c51e54135220234cac3c264af12d53b3f"), looks := false }, kinds := [], alts := [], laidByText := true, laidKinds := [.data, .pinned], laidTests := true, laidLooks := .later }
def MatchNamesCardSaid : Prop := Claim7.holds Tryd.pinned (.plain (OpenSpec.ofChange matchNamesSpec)) matchNamesCard

/-- THE TIED CARD OF 'watchfirelaw17.MatchHolds'. -/
def matchHoldsCard : Claim7 := { stood := { row := matchHoldsRow, standIns := [], harness := (true, "1f5acf8af5b6e9a8768629fed806df0c51e54135220234cac3c264af12d53b3f"), looks := false }, kinds := [], alts := [], laidByText := true, laidKinds := [.data, .pinned], laidTests := true, laidLooks := .later }
def MatchHoldsCardSaid : Prop := Claim7.holds Tryd.pinned (.plain (OpenSpec.ofChange matchHoldsSpec)) matchHoldsCard

/-- THE TIED CARD OF 'watchfirelaw17.MatchTexts'. -/
def matchTextsCard : Claim7 := { stood := { row := matchTextsRow, standIns := [], harness := (true, "1f5acf8af5b6e9a8768629fed806df0c51e54135220234cac3c264af12d53b3f"), looks := false }, kinds := [], alts := [], laidByText := true, laidKinds := [.data, .pinned], laidTests := true, laidLooks := .later }
def MatchTextsCardSaid : Prop := Claim7.holds Tryd.pinned (.plain (OpenSpec.ofChange matchTextsSpec)) matchTextsCard

/-- THE TIED CARD OF 'watchfirelaw17.MatchBack'. -/
def matchBackCard : Claim7 := { stood := { row := matchBackRow, standIns := [], harness := (true, "1f5acf8af5b6e9a8768629fed806df0c51e54135220234cac3c264af12d53b3f"), looks := false }, kinds := [], alts := [], laidByText := true, laidKinds := [.data, .pinned], laidTests := true, laidLooks := .later }
def MatchBackCardSaid : Prop := Claim7.holds Tryd.pinned (.plain (OpenSpec.ofChange matchBackSpec)) matchBackCard

/-- THE SECOND FORM's CARD OF 'watchfirelaw17.MatchNames'. -/
def matchNamesUptoCard : Claim7 := { stood := { row := matchNamesUptoRow, standIns := [], harness := (true, "1f5acf8af5b6e9a8768629fed806df0c51e54135220234cac3c264af12d53b3f"), looks := false }, kinds := [], alts := [], laidByText := true, laidKinds := [.data, .pinned], laidTests := true, laidLooks := .later }
def MatchNamesUptoCardSaid : Prop := Claim7.holds Tryd.pinned (.plain (OpenSpec.upto matchNamesSpec)) matchNamesUptoCard

/-- THE SECOND FORM's CARD OF 'watchfirelaw17.MatchHolds'. -/
def matchHoldsUptoCard : Claim7 := { stood := { row := matchHoldsUptoRow, standIns := [], harness := (true, "1f5acf8af5b6e9a8768629fed806df0c51e54135220234cac3c264af12d53b3f"), looks := false }, kinds := [], alts := [], laidByText := true, laidKinds := [.data, .pinned], laidTests := true, laidLooks := .later }
def MatchHoldsUptoCardSaid : Prop := Claim7.holds Tryd.pinned (.plain (OpenSpec.upto matchHoldsSpec)) matchHoldsUptoCard

/-- THE SECOND FORM's CARD OF 'watchfirelaw17.MatchTexts'. -/
def matchTextsUptoCard : Claim7 := { stood := { row := matchTextsUptoRow, standIns := [], harness := (true, "1f5acf8af5b6e9a8768629fed806df0c51e54135220234cac3c264af12d53b3f"), looks := false }, kinds := [], alts := [], laidByText := true, laidKinds := [.data, .pinned], laidTests := true, laidLooks := .later }
def MatchTextsUptoCardSaid : Prop := Claim7.holds Tryd.pinned (.plain (OpenSpec.upto matchTextsSpec)) matchTextsUptoCard

/-- THE SECOND FORM's CARD OF 'watchfirelaw17.MatchBack'. -/
def matchBackUptoCard : Claim7 := { stood := { row := matchBackUptoRow, standIns := [], harness := (true, "1f5acf8af5b6e9a8768629fed806df0c51e54135220234cac3c264af12d53b3f"), looks := false }, kinds := [], alts := [], laidByText := true, laidKinds := [.data, .pinned], laidTests := true, laidLooks := .later }
def MatchBackUptoCardSaid : Prop := Claim7.holds Tryd.pinned (.plain (OpenSpec.upto matchBackSpec)) matchBackUptoCard
end Rows
end Go.Proofs.YtimmkhgbnfihgaaDoor
