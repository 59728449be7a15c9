/- strings.Cut, Split, Join: their contracts, as the walk takes them. -/
import Derived.Test.YtimmkhgbnfihgaaDoorSxShelf
import Derived.Test.YtimmkhgbnfihgaaDoorShelf
open Go Go.Sx
namespace Go.Proofs.YtimmkhgbnfihgaaDoor
def sig52 : Sig := cutSig
noncomputable def F52 (_ : Nat) : List UInt8 × List UInt8 → Option ((List UInt8 × List UInt8 × Bool) × Unit) := cutF
theorem ok52 (n : Nat) : FunOK Tryd.prog ⟨52, sig52, F52 n⟩ :=
  cut_ok (g := 0) Tryd.func52 (by kernel_rfl) (by kernel_rfl) (by kernel_rfl) fun s sep m w hs hm => Tryd.strings_Cut s sep m w hs hm
def sig39 : Sig := splitSig
noncomputable def F39 (_ : Nat) : List UInt8 × List UInt8 → Option (List (List UInt8) × Unit) := splitF
theorem ok39 (n : Nat) : FunOK Tryd.prog ⟨39, sig39, F39 n⟩ :=
  split_ok (g := 0) (t := 9) Tryd.func39 (by kernel_rfl) (by kernel_rfl) (by kernel_rfl) fun s sep m w hs hm h1 => Tryd.strings_Split s sep m w hs hm h1
def sig38 : Sig := joinSig
noncomputable def F38 (_ : Nat) : List (List UInt8) × List UInt8 → Option (List UInt8 × Unit) := joinF
theorem ok38 (n : Nat) : FunOK Tryd.prog ⟨38, sig38, F38 n⟩ :=
  join_ok Tryd.func38 (by kernel_rfl) (by kernel_rfl) (fun a c sep w => Tryd.strings_Join_none a c sep w) fun bk o c xs sep w h1 h2 h3 h4 h5 => Tryd.strings_Join bk o c xs sep w h1 h2 h3 h4 h5
end Go.Proofs.YtimmkhgbnfihgaaDoor
