/- The law RecvPlays: from the input to the rounds. -/
import Derived.Test.YtllfmmonieelpaaRePlays3
open Go Go.Sx
namespace Go.Proofs.Ytllfmmonieelpaa
def gA (a : ActT) : Nat := (anyA a).2.2.2.2.1.length + sumL (anyA a).2.2.2.2.2.1
theorem gA_le : ∀ (t : List ActT) (a : ActT), a ∈ t → gA a ≤ (t.map gA).sum
  | b :: t, a, h => by
    rw [List.map_cons, List.sum_cons]
    rcases List.mem_cons.1 h with rfl | h
    · omega
    · have := gA_le t a h; omega
theorem act_fit (b : ActT) (hf : CTs.fits (.cons (.int .u8) (.cons (.int .u64) (.cons .bool (.cons (.int .u8) (.cons (.int .u8) (.cons (.int .u8) (.cons (.int .u16) (.cons (.int .u16) (.cons (.int .u16) (.cons (.int .u8) (.cons (.int .u8) (.cons (.int .u8) (.cons .bool (.cons .bool (.cons (.int .u8) (.cons (.int .u64) (.cons (.int .u64) (.cons .str (.cons (.ro (.cons .str (.cons .str .nil))) (.cons (.int .u8) (.cons (.int .u8) (.cons (.int .i64) (.cons (.int .u8) (.cons (.int .u8) (.cons (.int .u64) (.cons (.int .u64) (.cons .bool .nil))))))))))))))))))))))))))) b) (k : Nat) : FitI (anyA b) (gA b + k + 30) := by
  obtain ⟨a0, a1, a2, a3, a4, a5, a6, a7, a8, a9, a10, a11, a12, a13, a14, a15, a16, a17, a18, a19, a20, a21, a22, a23, a24, a25, a26⟩ := b
  simp only [CTs.fits, CT.fits] at hf
  have h17 := hf.2.2.2.2.2.2.2.2.2.2.2.2.2.2.2.2.2.1
  have h18 := hf.2.2.2.2.2.2.2.2.2.2.2.2.2.2.2.2.2.2.1
  exact fit_of (a13, a14, a15, a16, a17, a18, a19, a20, a21, a22, a23, a24, a25) h17 h18.1 (fun i hi => ⟨(h18.2 i hi).1, (h18.2 i hi).2.1⟩) k
theorem plays_law (n : Nat) (hn : 3000 < n) (x : UInt8) (t : List ActT) (ht : t.length < 2 ^ 63) (hnt : t.length < n) (hfit : ∀ a ∈ t, FitI (anyA a) (n + 100)) : F4 (n + 100) (x, t) = some (true, ()) := by
  unfold F4
  dsimp only
  rw [awakeR, obind_s]
  simp only [Bool.not_true, oite_f]
  have hw : ((1 : Int64) + Int64.ofInt ↑(UInt8.toNat (x % 64))) = I64 (1 + (x % 64).toNat) := by
    show I64 1 + I64 _ = _
    rw [i64_add]
  have h64 : (x % 64).toNat < 64 := by rw [UInt8.toNat_mod]; exact Nat.mod_lt _ (by decide)
  rw [hw]
  generalize (x % 64).toNat = c at h64
  have hi : (I64 (1 + c)).toInt = ((1 + c : Nat) : Int) := i64_toInt (by omega)
  rw [new_eq, if_pos (by omega), obind_s]
  dsimp only
  exact plays_loop (n + 100) (by omega) t ht hfit (I64 (1 + c)) (by omega) (by omega) (n + 100) 0 1 [] 0 (by omega) (by omega) ⟨by simp, by simp, by simp⟩ (by decide) (by omega)
theorem plays_true : ∀ x : sig4.In, PTys.fits sig4.ps x → ∃ n y, F4 n x = some y ∧ PTys.hd (.one (.c .bool)) .nil y.1 = true := by
  rintro ⟨x, t⟩ h
  have ht := h.2.1
  simp only [PTy.fits, CT.fits] at ht
  obtain ⟨h1, h2⟩ := ht
  refine ⟨_, _, plays_law ((List.map gA t).sum + t.length + 3030) (by omega) x t h1 (by omega) ?_, rfl⟩
  intro a ha
  have hg := gA_le t a ha
  obtain ⟨i, hi, rfl⟩ := List.getElem_of_mem ha
  have hf := act_fit t[i] (h2 i hi) ((List.map gA t).sum + t.length + 3100 - gA t[i])
  have e : (List.map gA t).sum + t.length + 3030 + 100 = gA t[i] + ((List.map gA t).sum + t.length + 3100 - gA t[i]) + 30 := by omega
  rw [e]
  exact hf
end Go.Proofs.Ytllfmmonieelpaa
