/- What is on its way stays as it was sent, whatever is done with what was handed in, or answered. -/
import Derived.Test.YtkpolfffcdocnaaNoFns1
import Derived.Test.YtkpolfffcdocnaaSxPlain
open Go Go.Sx
namespace Go.Proofs.Ytkpolfffcdocnaa
abbrev Net := List (UInt8 × UInt8 × List UInt8 × Bool) × List ((UInt8 × UInt8) × Bool) × Int64 × Int64 × Int64
abbrev Ent := UInt8 × UInt8 × List UInt8 × Bool
theorem awake (n : Nat) : F7 n () = some (true, ()) := by kernel_rfl
theorem has_at (n : Nat) (L : List Ent) (r : List ((UInt8 × UInt8) × Bool) × Int64 × Int64 × Int64) (k : Nat) (hk : k < L.length) (h : L.length < 2 ^ 60) : F23 n (some (L, r), I64 k) = some (true, some (L, r)) := by
  unfold F23
  dsimp only
  have e0 : decide ((0 : Int64) ≤ I64 k) = true := dec_t ((i64_le (a := 0) (b := k) (by omega) (by omega)).2 (by omega))
  rw [e0]
  show some (decide (I64 k < I64 L.length), some (L, r)) = _
  rw [dec_t ((i64_lt (by omega) (by omega)).2 hk)]
theorem peek_at (n : Nat) (L : List Ent) (r : List ((UInt8 × UInt8) × Bool) × Int64 × Int64 × Int64) (k : Nat) (hk : k < L.length) (h : L.length < 2 ^ 60) (hs : L[k].2.2.1.length ≤ 1000) :
    F12 n (some (L, r), I64 k) = some (((L[k].1, L[k].2.1, L[k].2.2.1), true), some (L, r)) := by
  obtain ⟨h1, h2⟩ := idx_i64 hk (show k < 2 ^ 63 by omega)
  unfold F12
  dsimp only
  rw [has_at n L r k hk h, obind_s]
  dsimp only
  rw [Bool.not_true, oite_f, obind_s]
  dsimp only
  rw [h1, oite_t, h2, obind_s, ble_t (by omega), oite_t]
  rfl
section
variable (n : Nat) (b : List UInt8) (hb : b.length ≤ 100)
def one (b : List UInt8) : Option Net := some ([(0, 1, b, false)], [], 1, 0, 0)
include hb
theorem send_one : F9 n (some ([], [], 0, 0, 0), 0, 1, [] ++ b) = some (0, one b, b) := by
  unfold F9
  show oite (decide ((65536 : Int64) < Int64.ofInt ↑(List.length b))) _ _ = _
  have e : decide ((65536 : Int64) < Int64.ofInt ↑(List.length b)) = false := dec_f (fun h => by have := (i64_lt (a := 65536) (b := b.length) (by omega) (by omega)).1 h; omega)
  rw [e]
  show oite (Nat.ble (0 + ([] ++ b).length) 4294967296) _ none = _
  rw [ble_t (by simp; omega)]
  rfl
theorem double_one : F10 n (one b, 0) = some (true, some ([(0, 1, b, false), (0, 1, b, false)], [], 1, 0, 0)) := by
  unfold F10 one
  dsimp only
  have h := peek_at n [((0, 1, b, false) : Ent)] ([], 1, 0, 0) 0 (by simp) (by simp) (by simp; omega)
  rw [show F12 n (some ([((0, 1, b, false) : Ent)], [], 1, 0, 0), 0) = _ from h]
  rfl
theorem spoil_two : ∃ x : Bool × Ent, F13 n (some ([(0, 1, b, false), (0, 1, b, false)], [], 1, 0, 0), 1, 0) = some (x.1, some ([(0, 1, b, false), x.2], [], 1, 0, 0)) := by
  have h := peek_at n [((0, 1, b, false) : Ent), (0, 1, b, false)] ([], 1, 0, 0) 1 (by simp) (by simp) (by simp; omega)
  unfold F13
  dsimp only
  rw [show F12 n (some ([((0, 1, b, false) : Ent), (0, 1, b, false)], [], 1, 0, 0), 1) = _ from h, obind_s]
  cases b with
  | nil => exact ⟨(false, (0, 1, [], false)), rfl⟩
  | cons c t =>
    refine ⟨(true, (0, 1, List.set (c :: t) 0 (c ^^^ IK.shl IntKind.u8 1 0), true)), ?_⟩
    show oite (decide (8 * Int64.ofInt ↑(List.length (c :: t)) ≤ (0 : Int64))) _ _ = _
    have e : decide (8 * Int64.ofInt ↑(List.length (c :: t)) ≤ (0 : Int64)) = false := by
      have e8 : (8 : Int64) * Int64.ofInt ↑(List.length (c :: t)) = I64 (8 * (c :: t).length) := by
        show Int64.ofInt 8 * Int64.ofInt _ = _
        rw [← Int64.ofInt_mul]; rfl
      rw [e8]
      exact dec_f (fun h => by have := (i64_le (a := 8 * (c :: t).length) (b := 0) (by simp at hb ⊢; omega) (by omega)).1 h; simp at this)
    have z1 : Int64.toInt ((0 : Int64) / 8) = 0 := by decide
    have z2 : Int64.toInt ((0 : Int64) % 8) = 0 := by decide
    have z3 : Int64.toInt (1 : Int64) = 1 := by decide
    rw [e]
    simp only [z1, z2, z3]
    rfl
omit hb in
theorem deliver_first (x : Ent) : ∃ st, F14 n (some ([(0, 1, b, false), x], [], 1, 0, 0), 0) = some (((0, 1, b), true), st) := by
  have h := has_at n [((0, 1, b, false) : Ent), x] ([], 1, 0, 0) 0 (by simp) (by simp)
  unfold F14
  dsimp only
  rw [show F23 n (some ([((0, 1, b, false) : Ent), x], [], 1, 0, 0), 0) = _ from h, obind_s]
  exact ⟨_, rfl⟩
theorem own_end : (obind (F10 n (one b, 0)) fun x_5 => obind (F13 n (x_5.2, 1, 0)) fun x_6 => obind (F14 n (x_6.2, 0)) fun x_7 =>
    oite (decide ((0 : Int64) = 0)) (oite x_7.1.2 (some (x_7.1.1.2.2 == b, ())) (some (false, ()))) (some (false, ()))) = some (true, ()) := by
  rw [double_one n b hb, obind_s]
  obtain ⟨x, hx⟩ := spoil_two n b hb
  dsimp only
  rw [hx, obind_s]
  dsimp only
  obtain ⟨st, hs⟩ := deliver_first n b x.2
  rw [hs, obind_s]
  dsimp only
  rw [dec_t rfl, oite_t, oite_t, beq_self_eq_true]
theorem own_loop2 (u v : UInt8) : ∀ (m k : Nat) (l : List UInt8), l.length ≤ 100 → k ≤ l.length → l.length - k < m →
    F4_R2045 n m b 0 (I64 l.length) (I64 k) (one b) u v l = some (true, ())
  | 0, k, l, _, _, h => by omega
  | m + 1, k, l, hl, hk, h => by
    rw [F4_R2045_s]
    unfold F4_L2045
    by_cases hlt : k < l.length
    · obtain ⟨h1, h2⟩ := idx_i64 hlt (by omega)
      rw [dec_t ((i64_lt (by omega) (by omega)).2 hlt), oite_t, h1, oite_t, h2, obind_s, i64_succ, i64_toInt (by omega)]
      have ih := own_loop2 u v m (k + 1) (l.set k (l[k] + 1)) (by simpa using hl) (by simp; omega) (by simp; omega)
      rw [List.length_set] at ih
      exact ih
    · rw [dec_f (fun h => hlt ((i64_lt (by omega) (by omega)).1 h)), oite_f]
      exact own_end n b hb
theorem own_loop1 (hn : 100 < n) : ∀ (m k : Nat) (l : List UInt8), l.length ≤ 100 → k ≤ l.length → l.length - k < m →
    F4_R509 n m b 0 (I64 l.length) (I64 k) (one b) l = some (true, ())
  | 0, k, l, _, _, h => by omega
  | m + 1, k, l, hl, hk, h => by
    rw [F4_R509_s]
    unfold F4_L509
    by_cases hlt : k < l.length
    · obtain ⟨h1, h2⟩ := idx_i64 hlt (by omega)
      rw [dec_t ((i64_lt (by omega) (by omega)).2 hlt), oite_t, h1, oite_t, h2, obind_s, i64_succ, i64_toInt (by omega)]
      have ih := own_loop1 hn m (k + 1) (l.set k (l[k] + 1)) (by simpa using hl) (by simp; omega) (by simp; omega)
      rw [List.length_set] at ih
      exact ih
    · rw [dec_f (fun h => hlt ((i64_lt (by omega) (by omega)).1 h)), oite_f]
      have h := peek_at n [((0, 1, b, false) : Ent)] ([], 1, 0, 0) 0 (by simp) (by simp) (by simp; omega)
      rw [show F12 n (one b, 0) = _ from h, obind_s]
      exact own_loop2 n b hb 0 1 n 0 b (by omega) (by omega) (by omega)
end
theorem own_some (n : Nat) (hn : 100 < n) (b : List UInt8) (hl : b.length < 2 ^ 63) : F4 n b = some (true, ()) := by
  unfold F4
  rw [awake, obind_s]
  dsimp only
  rw [Bool.not_true, oite_f]
  by_cases h : 100 < b.length
  · have e : decide ((100 : Int64) < Int64.ofInt ↑(List.length b)) = true := dec_t ((i64_lt (a := 100) (b := b.length) (by omega) (by omega)).2 h)
    rw [e, oite_t]
  · have e : decide ((100 : Int64) < Int64.ofInt ↑(List.length b)) = false := dec_f (fun q => h ((i64_lt (a := 100) (b := b.length) (by omega) (by omega)).1 q))
    rw [e, oite_f]
    show oite (Nat.ble (0 + List.length b) 4294967296) (obind (F9 n (some ([], [], 0, 0, 0), 0, 1, [] ++ b)) _) none = _
    rw [ble_t (by omega), oite_t, send_one n b (by omega), obind_s]
    exact own_loop1 n b (by omega) hn n 0 b (by omega) (by omega) (by omega)
theorem own_true : ∀ x : sig4.In, PTys.fits sig4.ps x → ∃ y, F4 200 x = some y ∧ PTys.hd (.one (.c .bool)) .nil y.1 = true := by
  intro b hfit
  have h : (CT.ro (.cons (.int .u8) .nil)).fits b := hfit.1
  simp only [CT.fits] at h
  exact ⟨(true, ()), own_some 200 (by omega) b h.1, rfl⟩
end Go.Proofs.Ytkpolfffcdocnaa
