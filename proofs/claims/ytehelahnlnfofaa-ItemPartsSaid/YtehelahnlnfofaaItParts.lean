/- The law ItemParts, its parts: counts, what lies above one, two as one. -/
import Derived.Test.YtehelahnlnfofaaItFns4
import Derived.Test.YtehelahnlnfofaaItBytes
open Go Go.Sx
namespace Go.Proofs.Ytehelahnlnfofaa
theorem same_self (n : Nat) (x : ItT) (hl : x.2.2.2.2.2.1.length < 2 ^ 63) (hn : x.2.2.2.2.2.1.length < n) : F16 n (x, x) = some (true, ()) := by
  obtain ⟨g, o, seq, time, rule, labels, state, prio, v, own, go, ga, gb⟩ := x
  dsimp only at hl hn
  cases g with
  | true =>
    unfold F16
    simp
    rfl
  | false =>
    have := same_list n labels hl hn
    unfold F16
    simp [this, oite_t, oite_f, obind_s]
def spanI (x : ItT) : UInt8 × UInt64 × UInt64 := if x.1 then (x.2.2.2.2.2.2.2.2.2.2.1, x.2.2.2.2.2.2.2.2.2.2.2.1, x.2.2.2.2.2.2.2.2.2.2.2.2) else (x.2.1, x.2.2.1, x.2.2.1)
theorem span_eq (n : Nat) (x : ItT) : F17 n x = some (spanI x, ()) := by
  obtain ⟨g, o, seq, time, rule, labels, state, prio, v, own, go, ga, gb⟩ := x
  cases g <;> rfl
theorem rspan_eq (n : Nat) (x : ItT) : F18 n x = some (spanI x, ()) := by
  obtain ⟨g, o, seq, time, rule, labels, state, prio, v, own, go, ga, gb⟩ := x
  cases g <;> rfl
def trimI (x : ItT) (a : UInt64) : ItT × Bool :=
  if (spanI x).2.2 ≤ a then (zeroI, false) else if a < (spanI x).2.1 then (x, true) else
    ((x.1, x.2.1, x.2.2.1, x.2.2.2.1, x.2.2.2.2.1, x.2.2.2.2.2.1, x.2.2.2.2.2.2.1, x.2.2.2.2.2.2.2.1, x.2.2.2.2.2.2.2.2.1, x.2.2.2.2.2.2.2.2.2.1, x.2.2.2.2.2.2.2.2.2.2.1, a + 1, x.2.2.2.2.2.2.2.2.2.2.2.2), true)
theorem trim_eq (n : Nat) (x : ItT) (a : UInt64) : F14 n (x, a) = some (trimI x a, ()) := by
  unfold F14 trimI
  have e := span_eq n x
  dsimp only
  rw [show (x.1, x.2.1, x.2.2.1, x.2.2.2.1, x.2.2.2.2.1, x.2.2.2.2.2.1, x.2.2.2.2.2.2.1, x.2.2.2.2.2.2.2.1, x.2.2.2.2.2.2.2.2.1, x.2.2.2.2.2.2.2.2.2.1, x.2.2.2.2.2.2.2.2.2.2.1, x.2.2.2.2.2.2.2.2.2.2.2.1, x.2.2.2.2.2.2.2.2.2.2.2.2) = x from rfl, e]
  simp only [obind_s]
  by_cases h1 : (spanI x).2.2 ≤ a
  · rw [dec_t h1, if_pos h1]; rfl
  · rw [dec_f h1, if_neg h1, oite_f]
    by_cases h2 : a < (spanI x).2.1
    · rw [dec_t h2, if_pos h2]; rfl
    · rw [dec_f h2, if_neg h2]; rfl
theorem rtrim_eq (n : Nat) (x : ItT) (a : UInt64) : F15 n (x, a) = some (trimI x a, ()) := by
  unfold F15 trimI
  have e := rspan_eq n x
  dsimp only
  rw [show (x.1, x.2.1, x.2.2.1, x.2.2.2.1, x.2.2.2.2.1, x.2.2.2.2.2.1, x.2.2.2.2.2.2.1, x.2.2.2.2.2.2.2.1, x.2.2.2.2.2.2.2.2.1, x.2.2.2.2.2.2.2.2.2.1, x.2.2.2.2.2.2.2.2.2.2.1, x.2.2.2.2.2.2.2.2.2.2.2.1, x.2.2.2.2.2.2.2.2.2.2.2.2) = x from rfl, e]
  simp only [obind_s]
  by_cases h1 : (spanI x).2.2 ≤ a
  · rw [dec_t h1, if_pos h1]; rfl
  · rw [dec_f h1, if_neg h1, oite_f]
    by_cases h2 : a < (spanI x).2.1
    · rw [if_pos h2, dec_f (by have := UInt64.lt_iff_toNat_lt.1 h2; rw [UInt64.le_iff_toNat_le]; omega)]; rfl
    · rw [if_neg h2, dec_t (by have := mt UInt64.lt_iff_toNat_lt.2 h2; rw [UInt64.le_iff_toNat_le]; omega)]; rfl
/-- do two gaps follow one another? -/
def follow (a b : ItT) : Bool :=
  a.1 && (b.1 && (decide (a.2.2.2.2.2.2.2.2.2.2.1 = b.2.2.2.2.2.2.2.2.2.2.1) && (decide (0 < b.2.2.2.2.2.2.2.2.2.2.2.1) &&
    (decide (b.2.2.2.2.2.2.2.2.2.2.2.1 - 1 = a.2.2.2.2.2.2.2.2.2.2.2.2) && decide (b.2.2.2.2.2.2.2.2.2.2.2.1 ≤ b.2.2.2.2.2.2.2.2.2.2.2.2)))))
def joinI (a b : ItT) : ItT × Bool := if follow a b then (gapI (a.2.2.2.2.2.2.2.2.2.2.1, a.2.2.2.2.2.2.2.2.2.2.2.1, b.2.2.2.2.2.2.2.2.2.2.2.2), true) else (zeroI, false)
theorem pos64 (a : UInt64) : decide (0 < a) = !decide (a < 1) := by
  rw [← zero64]
  by_cases h : a = 0
  · subst h; decide
  · rw [dec_f h]
    refine dec_t ?_
    rw [UInt64.lt_iff_toNat_lt]
    have : a.toNat ≠ 0 := fun q => h (UInt64.toNat.inj q)
    show 0 < a.toNat
    omega
theorem le64 (a b : UInt64) : decide (a ≤ b) = !decide (b < a) := by
  by_cases h : b < a
  · rw [dec_t h, dec_f (by have := UInt64.lt_iff_toNat_lt.1 h; rw [UInt64.le_iff_toNat_le]; omega)]; rfl
  · rw [dec_f h, dec_t (by have := mt UInt64.lt_iff_toNat_lt.2 h; rw [UInt64.le_iff_toNat_le]; omega)]; rfl
theorem join_eq (n : Nat) (a b : ItT) : F20 n (a, b) = some (joinI a b, ()) := by
  obtain ⟨g, o, seq, time, rule, labels, state, prio, v, own, go, ga, gb⟩ := a
  obtain ⟨g', o', seq', time', rule', labels', state', prio', v', own', go', ga', gb'⟩ := b
  unfold F20 F20_J6 joinI follow
  dsimp only
  rw [ojoinA_eq, pos64, le64, show decide (ga' - 1 = gb) = decide (gb = ga' - 1) from decide_eq_decide.2 eq_comm]
  cases g <;> cases g' <;> cases decide (go = go') <;> cases decide (ga' < 1) <;> cases decide (gb = ga' - 1) <;> cases decide (gb' < ga') <;> rfl
end Go.Proofs.Ytehelahnlnfofaa
