/- The law SendNone: nil ones; windows, waits that can't be. -/
import Derived.Test.YtkgabdafhfhoiaaSeFns2
import Derived.Test.YtkgabdafhfhoiaaSxPlain
open Go Go.Sx
namespace Go.Proofs.Ytkgabdafhfhoiaa
abbrev SndT := Int64 × UInt64 × UInt64 × UInt64 × UInt64 × List (UInt64 × UInt64 × UInt64 × UInt64 × Bool × Bool) × UInt64 × UInt64
def T0 : SndT := (1, 1, 1, 0, 1, [], 0, 0)
theorem mod5 (n : UInt64) : (1099511627776 : UInt64) < 1099511627777 + n % 5 := by
  rw [UInt64.lt_iff_toNat_lt, UInt64.toNat_add, UInt64.toNat_mod]
  have := Nat.mod_lt n.toNat (show 5 > 0 by decide)
  show 1099511627776 < (1099511627777 + n.toNat % 5) % 2 ^ 64
  omega
theorem offer_late (n : Nat) (m : UInt64) : F8 n (some T0, 1, 1099511627777 + m % 5) = some ((0, 6), some T0) := by
  have h := mod5 m
  generalize 1099511627777 + m % 5 = t at h
  have e : F8 n (some T0, 1, t) = oite (decide ((1099511627776 : UInt64) < t)) (some ((0, 6), some T0)) (some ((1, 0), some (1, 1, 1, 0, 2, [(1, 1, t, 1, false, false)], 0, 0))) := by kernel_rfl
  rw [e, dec_t h, oite_t]
theorem due_late (n : Nat) : F9 n (some T0, 1099511627777) = some ([], some T0) := by kernel_rfl
theorem tail_none (n : Nat) (m : UInt64) (e : Int64) (s : Option SndT) (h : s.isSome = decide (e = 0)) : F5_J31 n m e e s = some (true, ()) := by
  have h1 : F8 n (none, m, m) = some ((0, 1), none) := rfl
  have h2 : F10 n (none, m, m) = some ((0, 1), none) := rfl
  have h3 : F13 n none = some ((0, false), none) := rfl
  have h4 : F14 n none = some ((0, 0, 0, 0), none) := rfl
  have h5 : F7 n (1, 1, 1) = some ((some T0, 0), ()) := by kernel_rfl
  have h6 : F15 n none = some (0, none) := rfl
  have h7 : F9 n (none, m) = some ([], none) := rfl
  have h8 : F11 n none = some ([], none) := rfl
  have h9 : F12 n none = some (0, none) := rfl
  unfold F5_J31
  rw [h1, obind_s, h2, obind_s, h3, obind_s, h4, obind_s, h5, obind_s, offer_late, obind_s]
  simp only [decide_true, oite_t]
  cases s with
  | none =>
    have h : decide (e = 0) = false := h.symm
    dsimp only [oelim]
    rw [h, h6, obind_s, h7, obind_s, h8, obind_s, h9, obind_s, due_late, obind_s]
    rfl
  | some s =>
    have h : decide (e = 0) = true := h.symm
    dsimp only [oelim]
    rw [h, h6, obind_s, h7, obind_s, h8, obind_s, h9, obind_s, due_late, obind_s]
    rfl
theorem awakeN (n : Nat) : F6 (n + 20) () = some (true, ()) := by kernel_rfl
theorem zero_lt1 (x : UInt64) : (x < 1) ↔ x = 0 := by
  rw [UInt64.lt_iff_toNat_lt]
  constructor
  · intro h
    apply UInt64.toNat_inj.1
    have : (1 : UInt64).toNat = 1 := rfl
    show x.toNat = 0
    omega
  · intro h; rw [h]; decide
theorem none_law (n : Nat) (w : Int64) (fi mo m : UInt64) : F5 (n + 20) (w, fi, mo, m) = some (true, ()) := by
  have hz : decide (fi < 1) = decide (fi = 0) := by
    by_cases h : fi = 0
    · rw [dec_t h, dec_t ((zero_lt1 fi).2 h)]
    · rw [dec_f h, dec_f (fun q => h ((zero_lt1 fi).1 q))]
  unfold F5
  dsimp only
  rw [awakeN, obind_s]
  simp only [Bool.not_true, oite_f]
  unfold F7
  dsimp only
  rw [hz]
  cases decide (w < 1)
  case true => exact tail_none _ m 19 none rfl
  cases decide ((64 : Int64) < w)
  case true => exact tail_none _ m 19 none rfl
  cases decide (fi = 0)
  case true => exact tail_none _ m 6 none rfl
  cases decide (mo < fi)
  case true => exact tail_none _ m 6 none rfl
  cases decide ((1048576 : UInt64) < mo)
  case true => exact tail_none _ m 6 none rfl
  exact tail_none _ m 0 (some (w, fi, mo, 0, 1, [], 0, 0)) rfl
theorem none_true : ∀ x : sig5.In, PTys.fits sig5.ps x → ∃ y, F5 (80 + 20) x = some y ∧ PTys.hd (.one (.c .bool)) .nil y.1 = true := by
  rintro ⟨w, fi, mo, m⟩ _
  exact ⟨_, none_law 80 w fi mo m, rfl⟩
end Go.Proofs.Ytkgabdafhfhoiaa
