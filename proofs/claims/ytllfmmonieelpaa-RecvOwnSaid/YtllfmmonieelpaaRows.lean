/-
  No cell of these rows narrows 'for every input' (looked for: loops, veiled, ifaces, maps, wideKeys, modest, calm, conditions, laid).
  DERIVED. THE GIVEN ROWS OF THIS SEAT. 4 by the template 'for every input the law returns true; each argument reads behind the call as it read before'; 0 by the template 'total and deterministic' (their statements: YtllfmmonieelpaaTotals.lean).
  GIVEN WITH THE SEED: the statements are not yours to turn. If you find one false, say at which input.
  Laid BY PROGRAM, IN A SANDBOX (cutbox-rows.mjs): the forced cells as the released guide's own fill.sh prints them over the translation e60b9efa2d53e397… (all of the seat's roots in one cut). By AI agents, Wed Nov 11 2026. No macro, syntax, notation, axiom, sorry.
-/
import Derived.Test.YtllfmmonieelpaaChecked
import GoSem.Claim
import GoSem.ClaimJoined
import GoSem.ClaimMapViews
import Derived.JoinedTies
import Derived.KernelRfl
namespace Go.Proofs.Ytllfmmonieelpaa
/- THE CELL 'sum', in the pinned program and in every row, IS THE sha256 OF THE DUMP (.gsa) THAT YtllfmmonieelpaaProg.lean LOADS. Nothing in Lean hashes anything: it is a label: what it is worth is what the hold of that sum in a sandbox is worth. -/
noncomputable def Try.pinned : Pinned := { name := "ytllfmmonieelpaa", sum := "e60b9efa2d53e397a68a404b82e219942e10cfc4f0ade6754941b637ae981e13", checked := Try.checked }
namespace Rows
def none {H : Type} : Left H := { results := [], args := [] }

/-- 'watchfirelaw11.RecvOwn': WHATEVER THE INPUT: true; the input reads as it did. -/
def recvOwnSpec : ChangeSpec := { name := "recvOwn", fn := fun _ => fun
  | [d] => { results := [.lit (.bool true)], args := [d] }
  | _ => none }
def recvOwnRow : OpenClaim := { program := "ytllfmmonieelpaa", sum := "e60b9efa2d53e397a68a404b82e219942e10cfc4f0ade6754941b637ae981e13", func := "watchfire/watchfirelaw11.RecvOwn", spec := "recvOwn", apart := false }
def RecvOwnSaid : Prop := recvOwnRow.holds Try.pinned (OpenSpec.ofChange recvOwnSpec)

/-- ITS FALSE NEIGHBOUR: 'it returns false'. Refute it at one input. -/
def recvOwnWrong : ChangeSpec := { name := "recvOwn", fn := fun _ => fun
  | [d] => { results := [.lit (.bool false)], args := [d] }
  | _ => none }
def RecvOwnWrongFalsely : Prop := recvOwnRow.holds Try.pinned (OpenSpec.ofChange recvOwnWrong)

/-- 'watchfirelaw11.RecvPlays': WHATEVER THE INPUT: true; the input reads as it did. -/
def recvPlaysSpec : ChangeSpec := { name := "recvPlays", fn := fun _ => fun
  | [d1, d2] => { results := [.lit (.bool true)], args := [d1, d2] }
  | _ => none }
def recvPlaysRow : OpenClaim := { program := "ytllfmmonieelpaa", sum := "e60b9efa2d53e397a68a404b82e219942e10cfc4f0ade6754941b637ae981e13", func := "watchfire/watchfirelaw11.RecvPlays", spec := "recvPlays", apart := false }
def RecvPlaysSaid : Prop := recvPlaysRow.holds Try.pinned (OpenSpec.ofChange recvPlaysSpec)

/-- ITS FALSE NEIGHBOUR: 'it returns false'. Refute it at one input. -/
def recvPlaysWrong : ChangeSpec := { name := "recvPlays", fn := fun _ => fun
  | [d1, d2] => { results := [.lit (.bool false)], args := [d1, d2] }
  | _ => none }
def RecvPlaysWrongFalsely : Prop := recvPlaysRow.holds Try.pinned (OpenSpec.ofChange recvPlaysWrong)

/-- 'watchfirelaw11.RecvOrder': WHATEVER THE INPUT: true; the input reads as it did. -/
def recvOrderSpec : ChangeSpec := { name := "recvOrder", fn := fun _ => fun
  | [d1, d2] => { results := [.lit (.bool true)], args := [d1, d2] }
  | _ => none }
def recvOrderRow : OpenClaim := { program := "ytllfmmonieelpaa", sum := "e60b9efa2d53e397a68a404b82e219942e10cfc4f0ade6754941b637ae981e13", func := "watchfire/watchfirelaw11.RecvOrder", spec := "recvOrder", apart := false }
def RecvOrderSaid : Prop := recvOrderRow.holds Try.pinned (OpenSpec.ofChange recvOrderSpec)

/-- ITS FALSE NEIGHBOUR: 'it returns false'. Refute it at one input. -/
def recvOrderWrong : ChangeSpec := { name := "recvOrder", fn := fun _ => fun
  | [d1, d2] => { results := [.lit (.bool false)], args := [d1, d2] }
  | _ => none }
def RecvOrderWrongFalsely : Prop := recvOrderRow.holds Try.pinned (OpenSpec.ofChange recvOrderWrong)

/-- 'watchfirelaw11.RecvNone': WHATEVER THE INPUT: true; the input reads as it did. -/
def recvNoneSpec : ChangeSpec := { name := "recvNone", fn := fun _ => fun
  | [d1, d2, d3] => { results := [.lit (.bool true)], args := [d1, d2, d3] }
  | _ => none }
def recvNoneRow : OpenClaim := { program := "ytllfmmonieelpaa", sum := "e60b9efa2d53e397a68a404b82e219942e10cfc4f0ade6754941b637ae981e13", func := "watchfire/watchfirelaw11.RecvNone", spec := "recvNone", apart := false }
def RecvNoneSaid : Prop := recvNoneRow.holds Try.pinned (OpenSpec.ofChange recvNoneSpec)

/-- ITS FALSE NEIGHBOUR: 'it returns false'. Refute it at one input. -/
def recvNoneWrong : ChangeSpec := { name := "recvNone", fn := fun _ => fun
  | [d1, d2, d3] => { results := [.lit (.bool false)], args := [d1, d2, d3] }
  | _ => none }
def RecvNoneWrongFalsely : Prop := recvNoneRow.holds Try.pinned (OpenSpec.ofChange recvNoneWrong)

/- THE SECOND FORM. 'bulk': how many values and letters a reading holds, each counted each time it is reached (what is shared counts as often as it is met; a slice's spare places count too). A statement '..UptoSaid' is the law's where the arguments, and the package variables that the reading takes, are together of bulk at most 1048576: NARROWER than '..Said'. Prove '..Said' where nothing that the law and all that it calls make is longer than what came in: it says more and counts as full. Else prove '..UptoSaid'. A law counts once. -/
mutual
def uptoBulk {H : Type} : DataW H → Nat
  | .lit (.string bytes) => bytes.length + 1
  | .lit _ => 1
  | .nil => 1
  | .ptr d => uptoBulk d + 1
  | .slice elems spare => uptoBulkAll elems + uptoBulkAll spare + 1
  | .agg parts => uptoBulkAll parts + 1
  | .iface _ d => uptoBulk d + 1
  | .map entries => uptoBulkEntries entries + 1
  | .held _ => 1
def uptoBulkAll {H : Type} : List (DataW H) → Nat
  | [] => 0
  | d :: r => uptoBulk d + uptoBulkAll r
def uptoBulkEntries {H : Type} : List (Lit × DataW H) → Nat
  | [] => 0
  | x :: r => uptoBulkEntry x + uptoBulkEntries r
def uptoBulkEntry {H : Type} : Lit × DataW H → Nat
  | (.string bytes, d) => bytes.length + uptoBulk d + 1
  | (_, d) => uptoBulk d + 1
 end
def uptoSmall : (H : Type) → List (DataW H) → Bool := fun _ ds => decide (uptoBulkAll ds ≤ 1048576)
def OpenSpec.upto (s : _root_.Go.ChangeSpec) : _root_.Go.OpenSpec := { _root_.Go.OpenSpec.ofChange s with cond := some uptoSmall }

/-- 'watchfirelaw11.RecvOwn', WHERE WHAT IT READS IS OF BULK AT MOST 1048576: true; the input reads as it did. -/
def recvOwnUptoRow : OpenClaim := { program := "ytllfmmonieelpaa", sum := "e60b9efa2d53e397a68a404b82e219942e10cfc4f0ade6754941b637ae981e13", func := "watchfire/watchfirelaw11.RecvOwn", spec := "recvOwn", apart := false, narrowed := true }
def RecvOwnUptoSaid : Prop := recvOwnUptoRow.holds Try.pinned (OpenSpec.upto recvOwnSpec)

/-- 'watchfirelaw11.RecvPlays', WHERE WHAT IT READS IS OF BULK AT MOST 1048576: true; the input reads as it did. -/
def recvPlaysUptoRow : OpenClaim := { program := "ytllfmmonieelpaa", sum := "e60b9efa2d53e397a68a404b82e219942e10cfc4f0ade6754941b637ae981e13", func := "watchfire/watchfirelaw11.RecvPlays", spec := "recvPlays", apart := false, narrowed := true }
def RecvPlaysUptoSaid : Prop := recvPlaysUptoRow.holds Try.pinned (OpenSpec.upto recvPlaysSpec)

/-- 'watchfirelaw11.RecvOrder', WHERE WHAT IT READS IS OF BULK AT MOST 1048576: true; the input reads as it did. -/
def recvOrderUptoRow : OpenClaim := { program := "ytllfmmonieelpaa", sum := "e60b9efa2d53e397a68a404b82e219942e10cfc4f0ade6754941b637ae981e13", func := "watchfire/watchfirelaw11.RecvOrder", spec := "recvOrder", apart := false, narrowed := true }
def RecvOrderUptoSaid : Prop := recvOrderUptoRow.holds Try.pinned (OpenSpec.upto recvOrderSpec)

/-- 'watchfirelaw11.RecvNone', WHERE WHAT IT READS IS OF BULK AT MOST 1048576: true; the input reads as it did. -/
def recvNoneUptoRow : OpenClaim := { program := "ytllfmmonieelpaa", sum := "e60b9efa2d53e397a68a404b82e219942e10cfc4f0ade6754941b637ae981e13", func := "watchfire/watchfirelaw11.RecvNone", spec := "recvNone", apart := false, narrowed := true }
def RecvNoneUptoSaid : Prop := recvNoneUptoRow.holds Try.pinned (OpenSpec.upto recvNoneSpec)

end Rows
end Go.Proofs.Ytllfmmonieelpaa
