/- Atomic operations of one goroutine: each turns, or reads, one cell. Printed by a program of this repo's. -/
import Derived.Test.YtkpolfffcdocnaaProg
import Derived.KernelRfl
import Derived.Tactics
import Derived.Tactics2
import Derived.Laws.Pointers
import Derived.Laws.LoneSync
import Derived.Test.YtkpolfffcdocnaaSxClone
open Go Go.Sx
namespace Go.Proofs.Ytkpolfffcdocnaa
theorem cell_of {W : World} {b o T : Nat} {cs : Array Value} {v : Value} (h : W.heap[b]? = some (.cells cs T (0, 0))) (ho : cs[o]? = some v) : W.cell? ⟨b, o, none⟩ = some v ∧ W.frozen? ⟨b, o, none⟩ = false := by
  constructor
  · simp [World.cell?, h, ho]
  · simp [World.frozen?, h]
theorem atom21 : AtomOK Try.prog 21 (.add .i64) := by
  intro W b o cs T x y hb ho
  obtain ⟨hc, hz⟩ := cell_of hb ho
  rw [← setCell_setArr _ hb]
  have hadd := run_call_add (P := Try.prog) Try.func26 (by kernel_rfl) (by kernel_rfl) (by kernel_rfl) .i64 (by kernel_rfl) (y := y) (s := IntKind.wrap .i64 (x + y)) hc hz (by simp [go_sem])
  go_enter Try.func21, Try.ntmps21
  go_wp2
  go_ret
  refine ⟨?_, ?_⟩ <;> first | rfl | (rw [IntKind.wrap_i64]; rfl) | (rw [IntKind.wrap_i64]; unfold RowKit.wrap64; rfl) | (unfold RowKit.wrap64; rw [IntKind.wrap_i64]) | rw [IntKind.wrap_i64]
theorem atom25 : AtomOK Try.prog 25 (.load .i64) := by
  intro W b o cs T x hb ho
  obtain ⟨hc, hz⟩ := cell_of hb ho
  have hl := run_call_load (P := Try.prog) Try.func27 (by kernel_rfl) (by kernel_rfl) (by kernel_rfl) .i64 (by kernel_rfl) hc
  go_enter Try.func25, Try.ntmps25
  go_wp2
  go_ret
  exact ⟨rfl, rfl⟩
end Go.Proofs.Ytkpolfffcdocnaa
