/- The law PhaseAny: from any of the three states a step of the program's and one of the reference's agree, and Check answers as the two bounds say. -/
import Derived.Test.YtjjmpblnncjojaaPhFns
open Go Go.Sx
namespace Go.Proofs.Ytjjmpblnncjojaa

theorem awake : F7 10 () = some (true, ()) := by kernel_rfl

theorem step_agree (n : Nat) (s : UInt8) (hs : s = 0 ∨ s = 1 ∨ s = 2) (si he : UInt64) (va : Int64) (f k now : UInt64) (h : Bool) (v : Int64) :
    (F8 n ((s, si, he, va), (f, k), now, h, v)).isSome = true ∧
      F12 n ((Int64.ofInt s.toNat, si, he, va), f, k, now, h, v) = (F8 n ((s, si, he, va), (f, k), now, h, v)).map fun y => ((Int64.ofInt y.1.1.toNat, y.1.2.1, y.1.2.2.1, y.1.2.2.2), ()) := by
  have e0 : Int64.ofInt ((0 : UInt8).toNat : Int) = 0 := by decide
  have e1 : Int64.ofInt ((1 : UInt8).toNat : Int) = 1 := by decide
  have e2 : Int64.ofInt ((2 : UInt8).toNat : Int) = 2 := by decide
  have c1 : si ≤ now ∨ ¬ si ≤ now := Classical.em _
  have c2 : f ≤ now - si ∨ ¬ f ≤ now - si := Classical.em _
  have c3 : (he ≤ now ∧ ¬ now < he) ∨ (¬ he ≤ now ∧ now < he) := by
    by_cases c : he ≤ now
    · exact .inl ⟨c, UInt64.not_lt.2 c⟩
    · exact .inr ⟨c, UInt64.not_le.1 c⟩
  have c4 : (now - he < k ∧ ¬ k ≤ now - he) ∨ (¬ now - he < k ∧ k ≤ now - he) := by
    by_cases c : k ≤ now - he
    · exact .inr ⟨UInt64.not_lt.2 c, c⟩
    · exact .inl ⟨UInt64.not_le.1 c, c⟩
  have c5 : f = 0 ∨ ¬ f = 0 := Classical.em _
  rcases hs with rfl | rfl | rfl <;> rcases h with _ | _
  · simp [F8, F12, oite, *]
  · rcases c5 with c5 | c5 <;> simp [F8, F12, oite, *]
  · simp [F8, F12, oite, *]
  · rcases c1 with c1 | c1 <;> rcases c2 with c2 | c2 <;> simp [F8, F12, oite, *]
  · rcases c3 with ⟨c3, c3'⟩ | ⟨c3, c3'⟩ <;> rcases c4 with ⟨c4, c4'⟩ | ⟨c4, c4'⟩ <;> simp [F8, F12, oite, *]
  · simp [F8, F12, oite, *]

theorem any_true : ∀ x : sig6.In, ∃ y, F6 10 x = some y ∧ PTys.hd (.one (.c .bool)) .nil y.1 = true := by
  rintro ⟨⟨s, si, he, va⟩, ⟨f, k⟩, now, h, v⟩
  have hs : s % 3 = 0 ∨ s % 3 = 1 ∨ s % 3 = 2 := by
    have : (s % 3).toNat < 3 := by
      rw [UInt8.toNat_mod]; exact Nat.mod_lt _ (by decide)
    have h3 : (s % 3).toNat = 0 ∨ (s % 3).toNat = 1 ∨ (s % 3).toNat = 2 := by omega
    rcases h3 with h | h | h
    · exact .inl (UInt8.toNat_inj.1 h)
    · exact .inr (.inl (UInt8.toNat_inj.1 h))
    · exact .inr (.inr (UInt8.toNat_inj.1 h))
  obtain ⟨h0, h2⟩ := step_agree 10 (s % 3) hs si he va f k now h v
  obtain ⟨⟨⟨s', a, b, c⟩, u⟩, h1⟩ := Option.isSome_iff_exists.1 h0
  rw [h1] at h2
  simp only [Option.map_some] at h2
  refine ⟨(true, ()), ?_, rfl⟩
  have h3 : ∀ t, F11 10 t = some ((Int64.ofInt t.1.toNat, t.2.1, t.2.2.1, t.2.2.2), ()) := fun t => rfl
  simp only [F6, awake]
  generalize s % 3 = m at h1 h2 ⊢
  by_cases b1 : (1048576 : UInt64) < f
  · simp [obind, oite, h1, h2, h3, F13, b1]
  · by_cases b2 : (1048576 : UInt64) < k
    · simp [obind, oite, h1, h2, h3, F13, b1, b2]
    · simp [obind, oite, h1, h2, h3, F13, b1, b2]
end Go.Proofs.Ytjjmpblnncjojaa
