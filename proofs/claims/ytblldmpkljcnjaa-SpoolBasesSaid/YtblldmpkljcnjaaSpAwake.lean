import Derived.Test.YtblldmpkljcnjaaSpFns3
import Derived.Test.YtblldmpkljcnjaaSxPlain
open Go Go.Sx
namespace Go.Proofs.Ytblldmpkljcnjaa
set_option maxRecDepth 100000
theorem awake (m : Nat) : F7 (m + 100) () = some (true, ()) := by kernel_rfl
end Go.Proofs.Ytblldmpkljcnjaa
