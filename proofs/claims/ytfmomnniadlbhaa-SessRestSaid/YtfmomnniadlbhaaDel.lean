/- slices.Delete over a spool's entries: a walk of its code, and its contract. -/
import Derived.Test.YtfmomnniadlbhaaSxDelete
import Derived.Test.YtfmomnniadlbhaaProg
import Derived.KernelRfl
import Derived.WalkKit
import Derived.Deep.RegionLaw
import Derived.Lib.Walk
import Derived.Lib.SliceRun
import Derived.Shelf.RegionOpenPlain
import Derived.Deep.LoopGhost
open Go Go.Sx
namespace Go.Proofs.Ytfmomnniadlbhaa
open Go.RowKit Go.Lib
abbrev entryE : CTs := .cons (.int .u64) (.cons .bool (.cons (.int .u8) (.cons (.int .u64) (.cons (.int .u64) (.cons .str (.cons (.ro (.cons .str (.cons .str .nil))) (.cons (.int .u8) (.cons (.int .u8) (.cons (.int .i64) (.cons (.int .u8) (.cons (.int .u8) (.cons (.int .u64) (.cons (.int .u64) .nil)))))))))))))
abbrev zeroEntry : Array Value := #[Value.int IntKind.u64 0, Value.bool false, Value.int IntKind.u8 0, Value.int IntKind.u64 0,
          Value.int IntKind.u64 0, Value.string { data := #[] }, Value.slice none 0 0, Value.int IntKind.u8 0,
          Value.int IntKind.u8 0, Value.int IntKind.i64 0, Value.int IntKind.u8 0, Value.int IntKind.u8 0,
          Value.int IntKind.u64 0, Value.int IntKind.u64 0]
theorem zeros_len (n : Nat) : (Builtin.zeroCells zeroEntry n).toList.length = n * 14 := by
  simp [Builtin.zeroCells]
theorem zeros_one (n : Nat) : ∀ v ∈ (Builtin.zeroCells zeroEntry n).toList, v.oneCell' = true := by
  intro v hv
  have hv := Array.mem_toList_iff.1 hv
  unfold Builtin.zeroCells at hv
  obtain ⟨i, _, rfl⟩ := Array.mem_map.1 hv
  have h : i % zeroEntry.size < 14 := Nat.mod_lt _ (by decide)
  have key : ∀ k, k < 14 → (zeroEntry[k]!).oneCell' = true := by decide
  exact key _ h
theorem run_clear_entries (w : World) (ty : TypeId) (b o n c : Nat) (hn : 0 < n)
    (hc : ∀ j, j < n * 14 → (w.cell? ⟨b, o + j, none⟩).isSome = true) (hf : ∀ j, j < n * 14 → w.frozen? ⟨b, o + j, none⟩ = false) :
    (Builtin.clear_ #[90] ty #[.slice (some ⟨b, o, none⟩) n c]).run Try.prog w = .ok (.tuple #[]) (w.setCells b o (Builtin.zeroCells zeroEntry n).toList) := by
  have hst := run_storeCells_cells (P := Try.prog) b o (Builtin.zeroCells zeroEntry n).toList 0 w (by rw [zeros_len]; simpa using hc) (by rw [zeros_len]; simpa using hf) (zeros_one n)
  simp only [Nat.add_zero] at hst
  obtain ⟨m, rfl⟩ : ∃ m, n = m + 1 := ⟨n - 1, by omega⟩
  have hz : (Value.agg zeroEntry).cells = zeroEntry := rfl
  simp [Builtin.clear_, run_underlying Try.underlying90, Try.zeroValue93, hz, hst]
theorem entry_info : (Try.prog.info? 93).map (fun i => i.size) = some 14 := by kernel_rfl
theorem info93 : ∃ i, Try.prog.info? 93 = some i ∧ i.size = 14 := by
  have h := entry_info
  cases hi : Try.prog.info? 93 with
  | none => rw [hi] at h; cases h
  | some i => rw [hi] at h; exact ⟨i, rfl, Option.some.inj h⟩
set_option maxHeartbeats 1000000 in
theorem del_same (p : Option Addr) (n cap i : Nat) (w : World) (h1 : i ≤ n) (h2 : n ≤ cap) (_ : cap < 2 ^ 63) :
    Calls Try.prog 82 #[.slice p n cap, .int .i64 i, .int .i64 i] w fun e w' => e = .returned (.slice p n cap) ∧ w' = w := by
  go_enter Try.func82, Try.ntmps82
  go_wp2
  all_goals (go_ret; exact ⟨rfl, rfl⟩)
set_option maxHeartbeats 4000000 in
set_option maxRecDepth 1000000 in
theorem del_some (blk off n cap i j : Nat) (w : World) (news : List Value) (hij : i < j) (hj : j ≤ n) (hcap : n ≤ cap) (_ : cap < 2 ^ 63) (hlen : news.length = (n - j) * 14)
    (hget : ∀ t u, news[t]? = some u → w.cell? ⟨blk, off + j * 14 + t, none⟩ = some u) (h1c : ∀ u ∈ news, u.oneCell' = true)
    (hold : ∀ t, t < n * 14 → (w.cell? ⟨blk, off + t, none⟩).isSome = true ∧ w.frozen? ⟨blk, off + t, none⟩ = false) :
    Calls Try.prog 82 #[.slice (some ⟨blk, off, none⟩) n cap, .int .i64 i, .int .i64 j] w fun x w' => x = .returned (.slice (some ⟨blk, off, none⟩) (n - (j - i)) cap) ∧
        ∃ q zs, List.length (α := Value) zs = (j - i) * 14 ∧ w' = ((Sort.ahead w q).setCells blk (off + i * 14) news).setCells blk (off + (n - (j - i)) * 14) zs := by
  have mixed : Try.prog.follows .mixedOrders = true := by kernel_rfl
  obtain ⟨i0, hi0, hz1⟩ := info93
  obtain ⟨A, hA, hsrc⟩ : ∃ A : Addr, (if cap = j then some (⟨blk, off, none⟩ : Addr) else some ⟨blk, off + j * 14, none⟩) = some A ∧ Hid (∀ t u, news[t]? = some u → w.drew.cell? (A.add t) = some u) := by
    by_cases h : cap = j
    · refine ⟨⟨blk, off, none⟩, by simp [h], fun t u hu => ?_⟩
      have h0 : news.length = 0 := by rw [hlen, show n - j = 0 from by omega]
      rw [List.length_eq_zero_iff.1 h0] at hu
      simp at hu
    · refine ⟨⟨blk, off + j * 14, none⟩, by simp [h], fun t u hu => ?_⟩
      rw [Addr.add_lit]
      exact hget t u hu
  have s1 : Hid (news.length = (n - j) * 14) := hlen
  have s2 : Hid (∀ u ∈ news, u.oneCell' = true) := h1c
  have s3 : Hid (∀ t, t < news.length → (w.drew.cell? ⟨blk, off + i * 14 + t, none⟩).isSome = true ∧ w.drew.frozen? ⟨blk, off + i * 14 + t, none⟩ = false) := by
    intro t ht
    rw [hlen] at ht
    rw [Nat.add_assoc]
    have := hold (i * 14 + t) (by omega)
    exact this
  obtain ⟨W1, hW1⟩ : ∃ W1, W1 = w.drew.setCells blk (off + i * 14) news := ⟨_, rfl⟩
  have hcl : ∀ ty, (Builtin.clear_ #[90] ty #[.slice (some ⟨blk, off + (i + (n - j)) * 14, none⟩) (n - (i + (n - j))) (cap - (i + (n - j)))]).run Try.prog W1 = .ok (.tuple #[]) (W1.setCells blk (off + (i + (n - j)) * 14) (Builtin.zeroCells zeroEntry (n - (i + (n - j)))).toList) := by
    intro ty
    have hk : ∀ t, t < n * 14 → (W1.cell? ⟨blk, off + t, none⟩).isSome = true ∧ W1.frozen? ⟨blk, off + t, none⟩ = false := by
      intro t ht
      have h0 := hold t ht
      rw [hW1]
      refine ⟨?_, by rw [World.frozen?_setCells]; exact h0.2⟩
      by_cases hin : i * 14 ≤ t ∧ t < i * 14 + news.length
      · have := World.cell?_setCells_in blk news (off + i * 14) w.drew (fun k hk => by rw [Nat.add_assoc]; exact (hold (i * 14 + k) (by omega)).1) (t - i * 14) (by omega)
        rw [show off + i * 14 + (t - i * 14) = off + t from by omega] at this
        rw [this]; rfl
      · rw [World.cell?_setCells_out blk news (off + i * 14) w.drew ⟨blk, off + t, none⟩ (fun _ _ => by simp only; omega)]
        exact h0.1
    refine run_clear_entries W1 ty blk _ _ _ (by omega) (fun t ht => ?_) (fun t ht => ?_)
    · have := (hk ((i + (n - j)) * 14 + t) (by omega)).1
      rwa [← Nat.add_assoc] at this
    · have := (hk ((i + (n - j)) * 14 + t) (by omega)).2
      rwa [← Nat.add_assoc] at this
  have hW : Hid (W1 = w.drew.setCells blk (off + i * 14) news) := hW1
  have hic : i ≤ cap := by omega
  have hjc : j ≤ cap := by omega
  clear hW1 hget hlen hold h1c
  go_enter Try.func82, Try.ntmps82
  go_wp2_with fail
  go_region_law_o (refine step_append_room rfl (.tmp 22) (.tmp 25) 90 rfl 93 i0 14 Try.underlying90 hi0 hz1 blk off i cap (by simp [Act.eval, Act.put]) A (n - j) (cap - j) news (by simp [Act.eval, Act.put]) s1.out hsrc.out s2.out (by omega) s3.out ?_; rw [← hW.out])
  go_wp2
  go_ret
  refine ⟨by rw [show n - (j - i) = i + (n - j) by omega]; rfl, 1, (Builtin.zeroCells zeroEntry (n - (i + (n - j)))).toList, ?_, ?_⟩
  · rw [zeros_len]; omega
  · rw [show n - (j - i) = i + (n - j) by omega, hW.out]; rfl
/-! ### The contract, as the walk takes it -/
def sig82 : Sig := delSig entryE
def F82 (_ : Nat) : List entryE.T × Int64 × Int64 → Option (List entryE.T × Unit) := delF entryE
theorem ok82 (n : Nat) : FunOK Try.prog ⟨82, sig82, F82 n⟩ :=
  del_ok Try.func82 (by kernel_rfl) (by kernel_rfl) (by decide) del_same fun blk off n cap i j w news h1 h2 h3 h4 h5 h6 h7 h8 => del_some blk off n cap i j w news h1 h2 h3 h4 h5 h6 h7 h8
end Go.Proofs.Ytfmomnniadlbhaa
