/- The law PhasePlays: over any steps the program's phase and the reference's agree. -/
import Derived.Test.YtjjmpblnncjojaaPhFnsAll
open Go Go.Sx
namespace Go.Proofs.Ytjjmpblnncjojaa

def P4 : List PT := [PT.int IntKind.u64,
                PT.list (CTs.cons (CT.int IntKind.u8) (CTs.cons CT.bool (CTs.cons (CT.int IntKind.i64) CTs.nil))),
                PT.int IntKind.i64, PT.int IntKind.i64, PT.int IntKind.u64, PT.int IntKind.u64, PT.int IntKind.u8,
                PT.int IntKind.u64, PT.int IntKind.u64, PT.int IntKind.i64, PT.int IntKind.i64, PT.int IntKind.u64,
                PT.int IntKind.u64, PT.int IntKind.i64]
def L4 (n : Nat) : Arr P4 (Option (Bool × Unit)) → Arr P4 (Option (Bool × Unit)) := (fun
                  (rec :
                    Arr
                      [PT.int IntKind.u64,
                        PT.list
                          (CTs.cons (CT.int IntKind.u8) (CTs.cons CT.bool (CTs.cons (CT.int IntKind.i64) CTs.nil))),
                        PT.int IntKind.i64, PT.int IntKind.i64, PT.int IntKind.u64, PT.int IntKind.u64,
                        PT.int IntKind.u8, PT.int IntKind.u64, PT.int IntKind.u64, PT.int IntKind.i64,
                        PT.int IntKind.i64, PT.int IntKind.u64, PT.int IntKind.u64, PT.int IntKind.i64]
                      (Option (Bool × Unit)))
                  (x_4 : UInt64) (x_5 : List (UInt8 × Bool × Int64)) (x_6 x_7 : Int64) (x_8 x_9 : UInt64) (x_10 : UInt8)
                  (x_11 x_12 : UInt64) (x_13 x_14 : Int64) (x_15 x_16 : UInt64) (x_17 : Int64) =>
                oite (decide (x_7 < x_6))
                  (obind (at? x_5 (Int64.toInt x_7)) fun (x_18 : UInt8 × Bool × Int64) =>
                    oite (decide ((100 : Int64) < x_7)) (some (true, ()))
                      (obind
                        (F8 n
                          ((x_10, x_11, x_12, x_13), (x_8, x_9),
                            x_4 + UInt64.ofInt ↑(UInt8.toNat (Prod.fst x_18 % (5 : UInt8))), Prod.fst (Prod.snd x_18),
                            Prod.snd (Prod.snd x_18)))
                        fun (x_19 : (UInt8 × UInt64 × UInt64 × Int64) × Unit) =>
                        obind
                          (F12 n
                            ((x_14, x_15, x_16, x_17), x_8, x_9,
                              x_4 + UInt64.ofInt ↑(UInt8.toNat (Prod.fst x_18 % (5 : UInt8))), Prod.fst (Prod.snd x_18),
                              Prod.snd (Prod.snd x_18)))
                          fun (x_20 : (Int64 × UInt64 × UInt64 × Int64) × Unit) =>
                          obind
                            (F11 n
                              (Prod.fst (Prod.fst x_19), Prod.fst (Prod.snd (Prod.fst x_19)),
                                Prod.fst (Prod.snd (Prod.snd (Prod.fst x_19))),
                                Prod.snd (Prod.snd (Prod.snd (Prod.fst x_19)))))
                            fun (x_21 : (Int64 × UInt64 × UInt64 × Int64) × Unit) =>
                            oite
                              (!(decide (Prod.fst (Prod.fst x_21) = Prod.fst (Prod.fst x_20)) &&
                                  (decide (Prod.fst (Prod.snd (Prod.fst x_21)) = Prod.fst (Prod.snd (Prod.fst x_20))) &&
                                    (decide
                                        (Prod.fst (Prod.snd (Prod.snd (Prod.fst x_21))) =
                                          Prod.fst (Prod.snd (Prod.snd (Prod.fst x_20)))) &&
                                      (decide
                                          (Prod.snd (Prod.snd (Prod.snd (Prod.fst x_21))) =
                                            Prod.snd (Prod.snd (Prod.snd (Prod.fst x_20)))) &&
                                        true)))))
                              (some (false, ()))
                              (obind
                                (F9 n
                                  (Prod.fst (Prod.fst x_19), Prod.fst (Prod.snd (Prod.fst x_19)),
                                    Prod.fst (Prod.snd (Prod.snd (Prod.fst x_19))),
                                    Prod.snd (Prod.snd (Prod.snd (Prod.fst x_19)))))
                                fun (x_22 : Bool × Unit) =>
                                oite (!Prod.fst x_22 == decide (Prod.fst (Prod.fst x_19) = (2 : UInt8)))
                                  (some (false, ()))
                                  (rec (x_4 + UInt64.ofInt ↑(UInt8.toNat (Prod.fst x_18 % (5 : UInt8)))) x_5 x_6
                                    (x_7 + (1 : Int64)) x_8 x_9 (Prod.fst (Prod.fst x_19))
                                    (Prod.fst (Prod.snd (Prod.fst x_19)))
                                    (Prod.fst (Prod.snd (Prod.snd (Prod.fst x_19))))
                                    (Prod.snd (Prod.snd (Prod.snd (Prod.fst x_19)))) (Prod.fst (Prod.fst x_20))
                                    (Prod.fst (Prod.snd (Prod.fst x_20)))
                                    (Prod.fst (Prod.snd (Prod.snd (Prod.fst x_20))))
                                    (Prod.snd (Prod.snd (Prod.snd (Prod.fst x_20))))))))
                  (some (true, ())))

theorem awake2 : F7 200 () = some (true, ()) := by kernel_rfl

theorem step_agree (n : Nat) (s : UInt8) (hs : s = 0 ∨ s = 1 ∨ s = 2) (si he : UInt64) (va : Int64) (f k now : UInt64) (h : Bool) (v : Int64) :
    (F8 n ((s, si, he, va), (f, k), now, h, v)).isSome = true ∧
      F12 n ((Int64.ofInt s.toNat, si, he, va), f, k, now, h, v) = (F8 n ((s, si, he, va), (f, k), now, h, v)).map fun y => ((Int64.ofInt y.1.1.toNat, y.1.2.1, y.1.2.2.1, y.1.2.2.2), ()) := by
  have e0 : Int64.ofInt ((0 : UInt8).toNat : Int) = 0 := by decide
  have e1 : Int64.ofInt ((1 : UInt8).toNat : Int) = 1 := by decide
  have e2 : Int64.ofInt ((2 : UInt8).toNat : Int) = 2 := by decide
  have c1 : si ≤ now ∨ ¬ si ≤ now := Classical.em _
  have c2 : f ≤ now - si ∨ ¬ f ≤ now - si := Classical.em _
  have c3 : (he ≤ now ∧ ¬ now < he) ∨ (¬ he ≤ now ∧ now < he) := by
    by_cases c : he ≤ now
    · exact .inl ⟨c, UInt64.not_lt.2 c⟩
    · exact .inr ⟨c, UInt64.not_le.1 c⟩
  have c4 : (now - he < k ∧ ¬ k ≤ now - he) ∨ (¬ now - he < k ∧ k ≤ now - he) := by
    by_cases c : k ≤ now - he
    · exact .inr ⟨UInt64.not_lt.2 c, c⟩
    · exact .inl ⟨UInt64.not_le.1 c, c⟩
  have c5 : f = 0 ∨ ¬ f = 0 := Classical.em _
  rcases hs with rfl | rfl | rfl <;> rcases h with _ | _
  · simp [F8, F12, oite, *]
  · rcases c5 with c5 | c5 <;> simp [F8, F12, oite, *]
  · simp [F8, F12, oite, *]
  · rcases c1 with c1 | c1 <;> rcases c2 with c2 | c2 <;> simp [F8, F12, oite, *]
  · rcases c3 with ⟨c3, c3'⟩ | ⟨c3, c3'⟩ <;> rcases c4 with ⟨c4, c4'⟩ | ⟨c4, c4'⟩ <;> simp [F8, F12, oite, *]
  · simp [F8, F12, oite, *]


theorem step_range (n : Nat) (s : UInt8) (hs : s = 0 ∨ s = 1 ∨ s = 2) (si he : UInt64) (va : Int64) (f k now : UInt64) (h : Bool) (v : Int64) (y : (UInt8 × UInt64 × UInt64 × Int64) × Unit)
    (hy : F8 n ((s, si, he, va), (f, k), now, h, v) = some y) : y.1.1 = 0 ∨ y.1.1 = 1 ∨ y.1.1 = 2 := by
  simp only [F8, oite] at hy
  repeat' split at hy
  all_goals (cases hy; first | exact hs | exact .inl rfl | exact .inr (.inl rfl) | exact .inr (.inr rfl))

theorem at_some {α : Type} {xs : List α} {i : Int} (h0 : 0 ≤ i) (h1 : i < xs.length) : ∃ y, at? xs i = some y := by
  have h2 : i.toNat < xs.length := by omega
  exact ⟨xs[i.toNat], by simp [at?, h0, h2]⟩

theorem plays_loop (m : Nat) : ∀ (now : UInt64) (xs : List (UInt8 × Bool × Int64)) (len i : Int64) (f k : UInt64) (st : UInt8) (a b : UInt64) (v : Int64),
    (st = 0 ∨ st = 1 ∨ st = 2) → 0 ≤ i.toInt → i.toInt ≤ 101 → 101 - i.toInt < m → len.toInt ≤ xs.length →
    ofixA P4 (L4 200) m now xs len i f k st a b v (Int64.ofInt st.toNat) a b v = some (true, ()) := by
  induction m with
  | zero => intros; omega
  | succ m ih =>
    intro now xs len i f k st a b v hst h0 h1 hm hl
    simp only [ofixA, L4]
    by_cases hlt : i < len
    · have hlt' := Int64.lt_iff_toInt_lt.1 hlt
      obtain ⟨⟨dt, h, val⟩, hy⟩ := at_some (xs := xs) h0 (by omega)
      by_cases hi : (100 : Int64) < i
      · simp [hlt, hy, hi, obind, oite]
      · have hi' : ¬ (100 : Int64).toInt < i.toInt := fun h => hi (Int64.lt_iff_toInt_lt.2 h)
        have e100 : (100 : Int64).toInt = 100 := by decide
        have e1 : (1 : Int64).toInt = 1 := by decide
        have hnext : (i + 1).toInt = i.toInt + 1 := by
          rw [Int64.toInt_add, e1]
          rw [Int.bmod_eq_of_le] <;> omega
        obtain ⟨g0, g2⟩ := step_agree 200 st hst a b v f k (now + UInt64.ofInt ↑(UInt8.toNat (dt % 5))) h val
        obtain ⟨⟨⟨s', a', b', c'⟩, u⟩, g1⟩ := Option.isSome_iff_exists.1 g0
        have hr := step_range 200 st hst a b v f k _ h val _ g1
        rw [g1] at g2
        simp only [Option.map_some] at g2
        have := ih (now + UInt64.ofInt ↑(UInt8.toNat (dt % 5))) xs len (i + 1) f k s' a' b' c' hr (by omega) (by omega) (by omega) hl
        simp only [hlt, hy, hi, obind, oite, decide_true, decide_false]
        generalize UInt64.ofInt ↑(UInt8.toNat (dt % 5)) = dd at g1 g2 this ⊢
        have h11 : ∀ t, F11 200 t = some ((Int64.ofInt t.1.toNat, t.2.1, t.2.2.1, t.2.2.2), ()) := fun t => rfl
        have h9 : ∀ t, F9 200 t = some (decide (t.1 = 2), ()) := fun t => rfl
        simpa [g1, g2, h11, h9] using this
    · simp [hlt, oite]

theorem ofInt_le (n : Nat) : (Int64.ofInt (n : Int)).toInt ≤ n := by
  by_cases h : n < 2 ^ 63
  · rw [Int64.toInt_ofInt_of_le (by omega) (by omega)]; omega
  · have := Int64.toInt_lt (Int64.ofInt (n : Int)); omega

theorem plays_true : ∀ x : sig4.In, ∃ y, F4 200 x = some y ∧ PTys.hd (.one (.c .bool)) .nil y.1 = true := by
  rintro ⟨wait, keep, fired, since, steps⟩
  refine ⟨(true, ()), ?_, rfl⟩
  have key := fun now st a b v hst => plays_loop 200 now steps (Int64.ofInt (steps.length : Int)) 0 (UInt64.ofInt ((wait % 12 : UInt8).toNat : Int)) (UInt64.ofInt ((keep % 12 : UInt8).toNat : Int)) st a b v hst
    (by decide) (by decide) (by decide) (ofInt_le _)
  cases fired with
  | true =>
    have := key (since % 100) 2 (since % 100) (since % 100) 5 (.inr (.inr rfl))
    show obind (F7 200 ()) _ = _
    rw [awake2]
    exact this
  | false =>
    have := key (since % 100) 0 0 0 0 (.inl rfl)
    show obind (F7 200 ()) _ = _
    rw [awake2]
    exact this
end Go.Proofs.Ytjjmpblnncjojaa
