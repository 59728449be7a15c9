/- Atomic operations of one goroutine: each turns, or reads, one cell. Printed by a program of this repo's. -/
import Derived.Test.YtfmomnniadlbhaaProg
import Derived.KernelRfl
import Derived.Tactics
import Derived.Tactics2
import Derived.Laws.Pointers
import Derived.Laws.LoneSync
import Derived.WalkKit
import Derived.Deep.RegionLaw
import Derived.Shelf.RegionOpenPlain
import Derived.Test.YtfmomnniadlbhaaSxClone
open Go Go.Sx
namespace Go.Proofs.Ytfmomnniadlbhaa
theorem cell_of {W : World} {b o T : Nat} {cs : Array Value} {v : Value} (h : W.heap[b]? = some (.cells cs T (0, 0))) (ho : cs[o]? = some v) : W.cell? ⟨b, o, none⟩ = some v ∧ W.frozen? ⟨b, o, none⟩ = false := by
  constructor
  · simp [World.cell?, h, ho]
  · simp [World.frozen?, h]
theorem atom11 : AtomOK Try.prog 11 (.pair20 5 6) := by
  intro W b cs T x y hb hx hy
  obtain ⟨hc, hz⟩ := cell_of hb hx
  obtain ⟨hc', hz'⟩ := cell_of hb hy
  have mixed : Try.prog.follows .mixedOrders = true := by kernel_rfl
  go_enter Try.func11, Try.ntmps11
  go_wp2
  go_region
  go_wp2
  go_ret
  refine ⟨?_, _, rfl⟩
  rw [IK.or_toInt, IK.shl_toInt]
  rfl
theorem atom23 : AtomOK Try.prog 23 (.field 8) := by
  intro W b cs T v hb ho
  obtain ⟨hc, hz⟩ := cell_of hb ho
  go_enter Try.func23, Try.ntmps23
  go_wp2
  go_ret
  exact ⟨rfl, rfl⟩
theorem atom24 : AtomOK Try.prog 24 (.field 5) := by
  intro W b cs T v hb ho
  obtain ⟨hc, hz⟩ := cell_of hb ho
  go_enter Try.func24, Try.ntmps24
  go_wp2
  go_ret
  exact ⟨rfl, rfl⟩
end Go.Proofs.Ytfmomnniadlbhaa
