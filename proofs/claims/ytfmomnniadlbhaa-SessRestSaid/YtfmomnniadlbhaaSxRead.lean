/- A walk of Go code by plain functions is sound. -/
import Derived.Test.YtfmomnniadlbhaaSxCodec
import Derived.Test.YtfmomnniadlbhaaSxZig
namespace Go.Sx
abbrev RS := List UInt8 × Int64
abbrev Rd (α : Type) := RS → α × RS
section
variable {α β : Type}
structure RdOf (r : Rd α) (w : List UInt8) (v : α) : Prop where
 full : ∀ rest, r (w ++ rest, 0) = (v, (rest, 0))
 cut : ∀ k, k < w.length → (r (w.take k, 0)).2.2 = 3
def encT (s : List UInt8) : List UInt8 := enc (UInt64.ofNat s.length) ++ s
end
end Go.Sx
