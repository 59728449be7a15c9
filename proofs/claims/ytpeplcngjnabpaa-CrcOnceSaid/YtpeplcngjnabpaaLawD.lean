/- CrcOnce: what a table was asked ahead changes nothing; a nil one. -/
import Derived.Test.YtpeplcngjnabpaaLawC
open Go Go.Sx Go.Sx.Crc
namespace Go.Proofs.Ytpeplcngjnabpaa
set_option maxRecDepth 100000
theorem f15 (n : Nat) (x : Option TabT) (s c : UInt64) (hx : IsTab x s c) : F15 n x = some ((s, c), x) := by
  rcases hx with rfl | rfl <;> rfl
theorem f15_nil (n : Nat) : F15 n none = some ((0, 0), none) := rfl
theorem once_loop (n0 : Nat) (hn : 1000 ≤ n0) (b : List UInt8) (hb : b.length ≤ 300) (l : List (List UInt8)) (hl : l.length ≤ 10) (hf : ∀ x ∈ l, x.length < 2 ^ 63) : ∀ (m k : Nat) (s c : UInt64) (x : Option TabT), IsTab x s c → k ≤ l.length → l.length - k < m →
    F6_R253 n0 m b s l (I64 l.length) (I64 k) x = some (true, ()) := by
  intro m
  induction m with
  | zero => intro k s c x _ _ h; omega
  | succ m ih =>
    intro k s c x hx hk hm
    have hs : F6_R253 n0 (m + 1) = F6_L253 n0 (F6_R253 n0 m) := rfl
    rw [hs]
    unfold F6_L253
    by_cases h : k < l.length
    · have e1 : decide (I64 k < I64 l.length) = true := dec_t ((i64_lt (by omega) (by omega)).2 h)
      rw [e1, oite_t, at_i64_lt (by omega) h, obind_s]
      have hx63 := hf l[k] (List.getElem_mem h)
      by_cases hlen : 300 < (l[k]).length
      · have e : decide ((300 : Int64) < I64 (List.length l[k])) = true := dec_t ((i64_lt (a := 300) (b := (l[k]).length) (by omega) hx63).2 hlen)
        rw [e, oite_t]
      · have e : decide ((300 : Int64) < I64 (List.length l[k])) = false := dec_f (fun h => hlen ((i64_lt (a := 300) (b := (l[k]).length) (by omega) hx63).1 h))
        rw [e, oite_f, f12 n0 x s c hx l[k] (by omega) (by omega), obind_s]
        simp only
        have hxl : (l[k] ++ l4 (b4 (Crc.sum l[k]))).length = (l[k]).length + 4 := by simp [l4]
        obtain ⟨z, c1, g1, t1⟩ := f14 n0 (used (s + 1) (cnt c l[k])) (s + 1) (cnt c l[k]) (used_tab _ _) (l[k] ++ l4 (b4 (Crc.sum l[k]))) (by omega) (by omega)
        rw [if_neg (by omega)] at t1
        rw [g1, obind_s, i64_succ]
        have e2 : s + 1 + 1 = s + 2 := by rw [UInt64.add_assoc]; rfl
        rw [e2] at t1
        exact ih (k + 1) (s + 2) c1 z t1 (by omega) (by omega)
    · have hk : k = l.length := by omega
      subst hk
      have e1 : decide (I64 l.length < I64 l.length) = false := dec_f (fun h => by have := (i64_lt (by omega) (by omega)).1 h; omega)
      rw [e1, oite_f, f15 n0 x s c hx, obind_s, f15_nil, obind_s, f14_nil, obind_s]
      simp only [decide_true]
      rw [oite_t, f16 n0 x s c hx b (by omega) (by omega), obind_s]
      obtain ⟨y, hy, ht⟩ := f11 n0
      rw [hy, obind_s, f16 n0 y 0 0 ht b (by omega) (by omega), obind_s]
      simp only [decide_true]
      rw [oite_t, f16_nil, obind_s]
      have e3 : decide ((0 : UInt32) = 0) = true := rfl
      rw [e3, oite_t, f17_nil, obind_s, e3, oite_t]
      have e4 : decide ((0 : UInt64) + 0 = 0) = true := rfl
      rw [e4, oite_t, Bool.not_false, oite_t, f12_nil n0 b (by omega), obind_s]
      have e5 : Nat.ble (List.length b + List.length ([0, 0, 0, 0] : List UInt8)) 4294967296 = true := ble_t (by simp; omega)
      rw [e5, oite_t]
      have e6 : ((b ++ [0, 0, 0, 0]) == b ++ [0, 0, 0, 0]) = true := by simp
      rw [e6]
theorem once (n : Nat) (hn : 1000 ≤ n) (l : List (List UInt8)) (b : List UInt8) (h1 : l.length < 2 ^ 63) (h2 : ∀ x ∈ l, x.length < 2 ^ 63) (h3 : b.length < 2 ^ 63) : F6 n (l, b) = some (true, ()) := by
  unfold F6
  rw [f7 n (by omega), obind_s]
  simp only [Bool.not_true]
  rw [oite_f]
  by_cases a1 : 10 < l.length
  · have e : decide ((10 : Int64) < I64 (List.length l)) = true := dec_t ((i64_lt (a := 10) (b := l.length) (by omega) h1).2 a1)
    rw [e, oite_t]
  · have e : decide ((10 : Int64) < I64 (List.length l)) = false := dec_f (fun h => a1 ((i64_lt (a := 10) (b := l.length) (by omega) h1).1 h))
    rw [e, oite_f]
    by_cases a2 : 300 < b.length
    · have e : decide ((300 : Int64) < I64 (List.length b)) = true := dec_t ((i64_lt (a := 300) (b := b.length) (by omega) h3).2 a2)
      rw [e, oite_t]
    · have e : decide ((300 : Int64) < I64 (List.length b)) = false := dec_f (fun h => a2 ((i64_lt (a := 300) (b := b.length) (by omega) h3).1 h))
      obtain ⟨y, hy, ht⟩ := f11 n
      rw [e, oite_f, hy, obind_s]
      have := once_loop n hn b (by omega) l (by omega) h2 n 0 0 0 y ht (by omega) (by omega)
      exact this
theorem truth6 : ∀ x, PTys.fits sig6.ps x → ∃ n y, F6 n x = some y ∧ PTys.hd (.one (.c .bool)) .nil y.1 = true := by
  intro x hx
  obtain ⟨l, b⟩ := x
  obtain ⟨h1, h2, _⟩ := hx
  simp only [PTy.fits, CT.fits] at h1 h2
  refine ⟨1000, _, once 1000 (by omega) l b h1.1 (fun x hx => ?_) h2.1, rfl⟩
  obtain ⟨i, hi, rfl⟩ := List.mem_iff_getElem.1 hx
  have := h1.2 i hi
  simp only [CTs.fits, CT.fits] at this
  exact this.1.1
end Go.Proofs.Ytpeplcngjnabpaa
