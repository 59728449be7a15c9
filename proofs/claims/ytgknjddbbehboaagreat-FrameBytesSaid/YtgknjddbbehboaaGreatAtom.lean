/- Atomic operations of one goroutine: each turns, or reads, one cell. Printed by a program of this repo's. -/
import Derived.Test.YtgknjddbbehboaaGreatProg
import Derived.KernelRfl
import Derived.Tactics
import Derived.Tactics2
import Derived.Laws.Pointers
import Derived.Laws.LoneSync
import Derived.Test.YtgknjddbbehboaaGreatSxClone
open Go Go.Sx
namespace Go.Proofs.YtgknjddbbehboaaGreat
theorem cell_of {W : World} {b o T : Nat} {cs : Array Value} {v : Value} (h : W.heap[b]? = some (.cells cs T (0, 0))) (ho : cs[o]? = some v) : W.cell? ⟨b, o, none⟩ = some v ∧ W.frozen? ⟨b, o, none⟩ = false := by
  constructor
  · simp [World.cell?, h, ho]
  · simp [World.frozen?, h]
theorem atom39 : AtomOK Tryz.prog 39 (.add .u64) := by
  intro W b o cs T x y hb ho
  obtain ⟨hc, hz⟩ := cell_of hb ho
  rw [← setCell_setArr _ hb]
  have hadd := run_call_add (P := Tryz.prog) Tryz.func60 (by kernel_rfl) (by kernel_rfl) (by kernel_rfl) .u64 (by kernel_rfl) (y := y) (s := IntKind.wrap .u64 (x + y)) hc hz (by simp [go_sem])
  go_enter Tryz.func39, Tryz.ntmps39
  go_wp2
  go_ret
  refine ⟨?_, ?_⟩ <;> first | rfl | (rw [IntKind.wrap_u64]; rfl) | rw [IntKind.wrap_u64]
end Go.Proofs.YtgknjddbbehboaaGreat
