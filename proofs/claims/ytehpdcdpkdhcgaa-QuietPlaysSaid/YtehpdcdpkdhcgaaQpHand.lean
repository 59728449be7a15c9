/- slices.Sort of ints: its contract, as the walk takes it. -/
import Derived.Test.YtehpdcdpkdhcgaaSxSort
import Derived.Test.YtehpdcdpkdhcgaaQpShelf
open Go Go.Sx
namespace Go.Proofs.Ytehpdcdpkdhcgaa
def sig31 : Sig := sortSig
def F31 (_ : Nat) : List Int64 → Option (Unit × List Int64) := sortF
theorem ok31 (n : Nat) : FunOK Try.prog ⟨31, sig31, F31 n⟩ :=
  sort_ok Try.func31 (by kernel_rfl) (by kernel_rfl) (fun p cap w => Try.slices_Sort_int_none p cap w) fun blk off cap zs w h1 h2 h3 => Try.slices_Sort_int blk off cap zs w h1 h2 h3
end Go.Proofs.Ytehpdcdpkdhcgaa
