/- The law PhaseWaits: an alert fires just when its condition held for as long as it has to, and goes on for as long as it may. -/
import Derived.Test.YtjjmpblnncjojaaPhFnsAll
open Go Go.Sx
namespace Go.Proofs.Ytjjmpblnncjojaa

def P3 : List PT := [PT.int IntKind.i64, PT.int IntKind.i64, PT.bool, PT.list (CTs.cons CT.bool CTs.nil), PT.int IntKind.i64,
            PT.int IntKind.i64, PT.int IntKind.u64, PT.int IntKind.u64, PT.int IntKind.u8, PT.int IntKind.u64,
            PT.int IntKind.u64, PT.int IntKind.i64]
def L3 (n : Nat) : Arr P3 (Option (Bool × Unit)) → Arr P3 (Option (Bool × Unit)) := (fun
              (rec :
                Arr
                  [PT.int IntKind.i64, PT.int IntKind.i64, PT.bool, PT.list (CTs.cons CT.bool CTs.nil),
                    PT.int IntKind.i64, PT.int IntKind.i64, PT.int IntKind.u64, PT.int IntKind.u64, PT.int IntKind.u8,
                    PT.int IntKind.u64, PT.int IntKind.u64, PT.int IntKind.i64]
                  (Option (Bool × Unit)))
              (x_2 x_3 : Int64) (x_4 : Bool) (x_5 : List Bool) (x_6 x_7 : Int64) (x_8 x_9 : UInt64) (x_10 : UInt8)
              (x_11 x_12 : UInt64) (x_13 : Int64) =>
            oite (decide (x_7 < x_6))
              (obind (at? x_5 (Int64.toInt x_7)) fun (x_14 : Bool) =>
                obind (F8 n ((x_10, x_11, x_12, x_13), (x_8, x_9), UInt64.ofInt (Int64.toInt x_7), x_14, (1 : Int64)))
                  fun (x_15 : (UInt8 × UInt64 × UInt64 × Int64) × Unit) =>
                  oite x_14
                    (oite x_4
                      (obind
                        (F9 n
                          (Prod.fst (Prod.fst x_15), Prod.fst (Prod.snd (Prod.fst x_15)),
                            Prod.fst (Prod.snd (Prod.snd (Prod.fst x_15))),
                            Prod.snd (Prod.snd (Prod.snd (Prod.fst x_15)))))
                        fun (x_16 : Bool × Unit) =>
                        oite (!Prod.fst x_16 == true) (some (false, ()))
                          (rec (x_2 + (1 : Int64)) (0 : Int64) true x_5 x_6 (x_7 + (1 : Int64)) x_8 x_9
                            (Prod.fst (Prod.fst x_15)) (Prod.fst (Prod.snd (Prod.fst x_15)))
                            (Prod.fst (Prod.snd (Prod.snd (Prod.fst x_15))))
                            (Prod.snd (Prod.snd (Prod.snd (Prod.fst x_15))))))
                      (obind
                        (F9 n
                          (Prod.fst (Prod.fst x_15), Prod.fst (Prod.snd (Prod.fst x_15)),
                            Prod.fst (Prod.snd (Prod.snd (Prod.fst x_15))),
                            Prod.snd (Prod.snd (Prod.snd (Prod.fst x_15)))))
                        fun (x_16 : Bool × Unit) =>
                        oite (!Prod.fst x_16 == decide (Int64.ofInt ↑(UInt64.toNat x_8) < x_2 + (1 : Int64)))
                          (some (false, ()))
                          (rec (x_2 + (1 : Int64)) (0 : Int64)
                            (decide (Int64.ofInt ↑(UInt64.toNat x_8) < x_2 + (1 : Int64))) x_5 x_6 (x_7 + (1 : Int64))
                            x_8 x_9 (Prod.fst (Prod.fst x_15)) (Prod.fst (Prod.snd (Prod.fst x_15)))
                            (Prod.fst (Prod.snd (Prod.snd (Prod.fst x_15))))
                            (Prod.snd (Prod.snd (Prod.snd (Prod.fst x_15)))))))
                    (oite x_4
                      (obind
                        (F9 n
                          (Prod.fst (Prod.fst x_15), Prod.fst (Prod.snd (Prod.fst x_15)),
                            Prod.fst (Prod.snd (Prod.snd (Prod.fst x_15))),
                            Prod.snd (Prod.snd (Prod.snd (Prod.fst x_15)))))
                        fun (x_16 : Bool × Unit) =>
                        oite (!Prod.fst x_16 == decide (x_3 + (1 : Int64) < Int64.ofInt ↑(UInt64.toNat x_9)))
                          (some (false, ()))
                          (rec (0 : Int64) (x_3 + (1 : Int64))
                            (decide (x_3 + (1 : Int64) < Int64.ofInt ↑(UInt64.toNat x_9))) x_5 x_6 (x_7 + (1 : Int64))
                            x_8 x_9 (Prod.fst (Prod.fst x_15)) (Prod.fst (Prod.snd (Prod.fst x_15)))
                            (Prod.fst (Prod.snd (Prod.snd (Prod.fst x_15))))
                            (Prod.snd (Prod.snd (Prod.snd (Prod.fst x_15))))))
                      (obind
                        (F9 n
                          (Prod.fst (Prod.fst x_15), Prod.fst (Prod.snd (Prod.fst x_15)),
                            Prod.fst (Prod.snd (Prod.snd (Prod.fst x_15))),
                            Prod.snd (Prod.snd (Prod.snd (Prod.fst x_15)))))
                        fun (x_16 : Bool × Unit) =>
                        oite (!Prod.fst x_16 == false) (some (false, ()))
                          (rec (0 : Int64) (x_3 + (1 : Int64)) false x_5 x_6 (x_7 + (1 : Int64)) x_8 x_9
                            (Prod.fst (Prod.fst x_15)) (Prod.fst (Prod.snd (Prod.fst x_15)))
                            (Prod.fst (Prod.snd (Prod.snd (Prod.fst x_15))))
                            (Prod.snd (Prod.snd (Prod.snd (Prod.fst x_15))))))))
              (some (true, ())))

theorem awake3 : F7 200 () = some (true, ()) := by kernel_rfl
theorem at_get {α : Type} {xs : List α} {i : Int} (h0 : 0 ≤ i) (h1 : i < xs.length) : ∃ y, at? xs i = some y := by
  have h2 : i.toNat < xs.length := by omega
  exact ⟨xs[i.toNat], by simp [at?, h0, h2]⟩

theorem hold2 (n : Nat) (a b now f k : UInt64) (v w : Int64) : F8 n ((2, a, b, v), (f, k), now, true, w) = some ((2, a, now, w), ()) := by simp [F8, oite]
theorem hold1 (n : Nat) (a b now f k : UInt64) (v w : Int64) (h : a ≤ now) : F8 n ((1, a, b, v), (f, k), now, true, w) = if f ≤ now - a then some ((2, now, now, w), ()) else some ((1, a, now, w), ()) := by
  by_cases c : f ≤ now - a <;> simp [F8, oite, h, c]
theorem hold0 (n : Nat) (a b now f k : UInt64) (v w : Int64) : F8 n ((0, a, b, v), (f, k), now, true, w) = if f = 0 then some ((2, now, now, w), ()) else some ((1, now, now, w), ()) := by
  by_cases c : f = 0 <;> simp [F8, oite, c]
theorem gone2 (n : Nat) (a b now f k : UInt64) (v w : Int64) (h : ¬ now < b) : F8 n ((2, a, b, v), (f, k), now, false, w) = if k ≤ now - b then some ((0, now, b, w), ()) else some ((2, a, b, v), ()) := by
  by_cases c : k ≤ now - b <;> simp [F8, oite, h, c]
theorem gone1 (n : Nat) (a b now f k : UInt64) (v w : Int64) : F8 n ((1, a, b, v), (f, k), now, false, w) = some ((0, now, b, w), ()) := by simp [F8, oite]
theorem gone0 (n : Nat) (a b now f k : UInt64) (v w : Int64) : F8 n ((0, a, b, v), (f, k), now, false, w) = some ((0, a, b, v), ()) := by simp [F8, oite]

theorem toI (f : UInt64) (h : f.toNat < 2 ^ 62) : (Int64.ofInt (f.toNat : Int)).toInt = f.toNat := Int64.toInt_ofInt_of_le (by omega) (by omega)
theorem inc (i : Int64) (h0 : 0 ≤ i.toInt) (h1 : i.toInt ≤ 200) : (i + 1).toInt = i.toInt + 1 := by
  have e1 : (1 : Int64).toInt = 1 := by decide
  rw [Int64.toInt_add, e1, Int.bmod_eq_of_le] <;> omega
theorem toU (i : Int64) (h0 : 0 ≤ i.toInt) (h1 : i.toInt ≤ 200) : (UInt64.ofInt i.toInt).toNat = i.toInt.toNat := by
  have : i.toInt = (i.toInt.toNat : Int) := by omega
  rw [this, UInt64.ofInt, UInt64.toNat_ofNat']
  omega

/-- one step, whatever comes behind it -/
def nextB (fires holds : Bool) (run gone : Int64) (f k : UInt64) : Bool :=
  match holds, fires with
  | true, true => true
  | true, false => decide (Int64.ofInt (f.toNat : Int) < run + 1)
  | false, true => decide (gone + 1 < Int64.ofInt (k.toNat : Int))
  | false, false => false
theorem step3 (n : Nat) (rec : Arr P3 (Option (Bool × Unit))) (run gone : Int64) (fires h : Bool) (xs : List Bool) (len i : Int64) (f k : UInt64) (st : UInt8) (a b : UInt64) (v : Int64)
    (st' : UInt8) (a' b' : UInt64) (v' : Int64)
    (hlt : decide (i < len) = true) (hy : at? xs i.toInt = some h) (hs : F8 n ((st, a, b, v), (f, k), UInt64.ofInt i.toInt, h, 1) = some ((st', a', b', v'), ()))
    (hf : F9 n (st', a', b', v') = some (nextB fires h run gone f k, ())) :
    L3 n rec run gone fires xs len i f k st a b v = rec (bif h then run + 1 else 0) (bif h then 0 else gone + 1) (nextB fires h run gone f k) xs len (i + 1) f k st' a' b' v' := by
  cases h <;> cases fires <;> simp only [L3, hlt, hy, hs, hf, oite, obind, nextB, cond, BEq.rfl, Bool.not_true]
theorem f9 (n : Nat) (t : UInt8 × UInt64 × UInt64 × Int64) : F9 n t = some (decide (t.1 = 2), ()) := rfl

def Ok3 (run gone : Int64) (fires : Bool) (i : Int64) (f : UInt64) (st : UInt8) (a b : UInt64) : Prop :=
  (st = 0 ∧ fires = false ∧ run.toInt = 0) ∨ (st = 1 ∧ fires = false ∧ 1 ≤ run.toInt ∧ run.toInt ≤ f.toNat ∧ (a.toNat : Int) = i.toInt - run.toInt) ∨ (st = 2 ∧ fires = true ∧ (b.toNat : Int) = i.toInt - 1 - gone.toInt)


theorem waits_loop (m : Nat) : ∀ (run gone : Int64) (fires : Bool) (xs : List Bool) (len i : Int64) (f k : UInt64) (st : UInt8) (a b : UInt64) (v : Int64),
    0 ≤ i.toInt → i.toInt ≤ 120 → len.toInt ≤ 120 → len.toInt ≤ xs.length → f.toNat < 10 → k.toNat < 10 → 121 - i.toInt < m →
    0 ≤ run.toInt → run.toInt ≤ i.toInt → 0 ≤ gone.toInt → gone.toInt ≤ i.toInt → Ok3 run gone fires i f st a b →
    ofixA P3 (L3 200) m run gone fires xs len i f k st a b v = some (true, ()) := by
  induction m with
  | zero => intros; omega
  | succ m ih =>
    intro run gone fires xs len i f k st a b v h0 h1 hl1 hl2 hf hk hm r0 r1 g0 g1 hok
    show L3 200 (ofixA P3 (L3 200) m) run gone fires xs len i f k st a b v = _
    by_cases hlt : i < len
    · have hlt' := Int64.lt_iff_toInt_lt.1 hlt
      obtain ⟨h, hy⟩ := at_get (xs := xs) h0 (by omega)
      have hi1 := inc i h0 (by omega)
      have hr1 := inc run r0 (by omega)
      have hg1 := inc gone g0 (by omega)
      have hiU := toU i h0 (by omega)
      have z0 : (0 : Int64).toInt = 0 := by decide
      have hfI := toI f (by omega)
      have hkI := toI k (by omega)
      have hnext := fun run gone fires st a b v => ih run gone fires xs len (i + 1) f k st a b v (by omega) (by omega) hl1 hl2 hf hk (by omega)
      have fin := fun h st' a' b' v' => step3 200 (ofixA P3 (L3 200) m) run gone fires h xs len i f k st a b v st' a' b' v' (decide_eq_true hlt)
      generalize UInt64.ofInt i.toInt = now at hiU fin
      have lt1 : decide (Int64.ofInt (f.toNat : Int) < run + 1) = decide ((f.toNat : Int) < run.toInt + 1) := by
        rw [decide_eq_decide, Int64.lt_iff_toInt_lt, hfI, hr1]
      have lt2 : decide (gone + 1 < Int64.ofInt (k.toNat : Int)) = decide (gone.toInt + 1 < (k.toNat : Int)) := by
        rw [decide_eq_decide, Int64.lt_iff_toInt_lt, hkI, hg1]
      have d1 : (UInt8.toNat 1 : Nat) = 1 := rfl
      cases h with
      | true =>
        rcases hok with ⟨rfl, rfl, hr⟩ | ⟨rfl, rfl, h1, h2, h3⟩ | ⟨rfl, rfl, h3⟩
        · by_cases c : f = 0
          · have := hnext (run + 1) 0 true 2 now now 1 (by omega) (by omega) (by omega) (by omega) (.inr (.inr ⟨rfl, rfl, by omega⟩))
            have lt3 : decide ((f.toNat : Int) < run.toInt + 1) = true := by simp [c]; omega
            have e : nextB false true run gone f k = true := by simp only [nextB, lt1, lt3]
            rw [fin true 2 now now 1 hy (by rw [hold0, if_pos c]) (by rw [e, f9]; rfl), e]
            exact this
          · have hf0 : f.toNat ≠ 0 := fun e => c (UInt64.toNat_inj.1 e)
            have := hnext (run + 1) 0 false 1 now now 1 (by omega) (by omega) (by omega) (by omega) (.inr (.inl ⟨rfl, rfl, by omega, by omega, by omega⟩))
            have lt3 : decide ((f.toNat : Int) < run.toInt + 1) = false := by simp; omega
            have e : nextB false true run gone f k = false := by simp only [nextB, lt1, lt3]
            rw [fin true 1 now now 1 hy (by rw [hold0, if_neg c]) (by rw [e, f9]; rfl), e]
            exact this
        · have hle : a ≤ now := UInt64.le_iff_toNat_le.2 (by omega)
          have hsub : (now - a).toNat = run.toInt.toNat := by rw [UInt64.toNat_sub_of_le _ _ hle]; omega
          by_cases c : f ≤ now - a
          · have c' := UInt64.le_iff_toNat_le.1 c
            have := hnext (run + 1) 0 true 2 now now 1 (by omega) (by omega) (by omega) (by omega) (.inr (.inr ⟨rfl, rfl, by omega⟩))
            have lt3 : decide ((f.toNat : Int) < run.toInt + 1) = true := by simp; omega
            have e : nextB false true run gone f k = true := by simp only [nextB, lt1, lt3]
            rw [fin true 2 now now 1 hy (by rw [hold1 _ _ _ _ _ _ _ _ hle, if_pos c]) (by rw [e, f9]; rfl), e]
            exact this
          · have c' : ¬ f.toNat ≤ (now - a).toNat := fun h => c (UInt64.le_iff_toNat_le.2 h)
            have := hnext (run + 1) 0 false 1 a now 1 (by omega) (by omega) (by omega) (by omega) (.inr (.inl ⟨rfl, rfl, by omega, by omega, by omega⟩))
            have lt3 : decide ((f.toNat : Int) < run.toInt + 1) = false := by simp; omega
            have e : nextB false true run gone f k = false := by simp only [nextB, lt1, lt3]
            rw [fin true 1 a now 1 hy (by rw [hold1 _ _ _ _ _ _ _ _ hle, if_neg c]) (by rw [e, f9]; rfl), e]
            exact this
        · have := hnext (run + 1) 0 true 2 a now 1 (by omega) (by omega) (by omega) (by omega) (.inr (.inr ⟨rfl, rfl, by omega⟩))
          have e : nextB true true run gone f k = true := by simp only [nextB]
          rw [fin true 2 a now 1 hy (by rw [hold2]) (by rw [e, f9]; rfl), e]
          exact this
      | false =>
        rcases hok with ⟨rfl, rfl, hr⟩ | ⟨rfl, rfl, h1, h2, h3⟩ | ⟨rfl, rfl, h3⟩
        · have := hnext 0 (gone + 1) false 0 a b v (by omega) (by omega) (by omega) (by omega) (.inl ⟨rfl, rfl, z0⟩)
          have e : nextB false false run gone f k = false := by simp only [nextB]
          rw [fin false 0 a b v hy (by rw [gone0]) (by rw [e, f9]; rfl), e]
          exact this
        · have := hnext 0 (gone + 1) false 0 now b 1 (by omega) (by omega) (by omega) (by omega) (.inl ⟨rfl, rfl, z0⟩)
          have e : nextB false false run gone f k = false := by simp only [nextB]
          rw [fin false 0 now b 1 hy (by rw [gone1]) (by rw [e, f9]; rfl), e]
          exact this
        · have hle : b ≤ now := UInt64.le_iff_toNat_le.2 (by omega)
          have hnl : ¬ now < b := fun h => by have := UInt64.lt_iff_toNat_lt.1 h; omega
          have hsub : ((now - b).toNat : Int) = gone.toInt + 1 := by rw [UInt64.toNat_sub_of_le _ _ hle]; omega
          by_cases c : k ≤ now - b
          · have c' := UInt64.le_iff_toNat_le.1 c
            have := hnext 0 (gone + 1) false 0 now b 1 (by omega) (by omega) (by omega) (by omega) (.inl ⟨rfl, rfl, z0⟩)
            have lt3 : decide (gone.toInt + 1 < (k.toNat : Int)) = false := by simp; omega
            have e : nextB true false run gone f k = false := by simp only [nextB, lt2, lt3]
            rw [fin false 0 now b 1 hy (by rw [gone2 _ _ _ _ _ _ _ _ hnl, if_pos c]) (by rw [e, f9]; rfl), e]
            exact this
          · have c' : ¬ k.toNat ≤ (now - b).toNat := fun h => c (UInt64.le_iff_toNat_le.2 h)
            have := hnext 0 (gone + 1) true 2 a b v (by omega) (by omega) (by omega) (by omega) (.inr (.inr ⟨rfl, rfl, by omega⟩))
            have lt3 : decide (gone.toInt + 1 < (k.toNat : Int)) = true := by simp; omega
            have e : nextB true false run gone f k = true := by simp only [nextB, lt2, lt3]
            rw [fin false 2 a b v hy (by rw [gone2 _ _ _ _ _ _ _ _ hnl, if_neg c]) (by rw [e, f9]; rfl), e]
            exact this
    · simp only [L3, decide_eq_false hlt, oite]

theorem ofIntLe (n : Nat) : (Int64.ofInt (n : Int)).toInt ≤ n := by
  by_cases h : n < 2 ^ 63
  · rw [Int64.toInt_ofInt_of_le (by omega) (by omega)]; omega
  · have := Int64.toInt_lt (Int64.ofInt (n : Int)); omega
theorem small10 (x : UInt8) : (UInt64.ofInt ((x % 10 : UInt8).toNat : Int)).toNat < 10 := by
  rw [UInt64.ofInt, UInt64.toNat_ofNat']
  have : (x % 10).toNat < 10 := by rw [UInt8.toNat_mod]; exact Nat.mod_lt _ (by decide)
  omega

theorem F3_eq (n : Nat) (wait keep : UInt8) (holds : List Bool) : F3 n (wait, keep, holds) = obind (F7 n ()) fun x => oite (!x.1) (some (false, ()))
    (oite (decide ((120 : Int64) < Int64.ofInt (holds.length : Int))) (some (true, ())) (ofixA P3 (L3 n) n 0 0 false holds (Int64.ofInt (holds.length : Int)) 0
      (UInt64.ofInt ((wait % 10 : UInt8).toNat : Int)) (UInt64.ofInt ((keep % 10 : UInt8).toNat : Int)) 0 0 0 0)) := rfl
theorem waits_true : ∀ x : sig3.In, ∃ y, F3 200 x = some y ∧ PTys.hd (.one (.c .bool)) .nil y.1 = true := by
  rintro ⟨wait, keep, holds⟩
  refine ⟨(true, ()), ?_, rfl⟩
  refine (F3_eq _ _ _ _).trans ?_
  rw [awake3]
  by_cases h : (120 : Int64) < Int64.ofInt (holds.length : Int)
  · simp only [obind, oite, decide_eq_true h, Bool.not_true]
  · simp only [obind, oite, decide_eq_false h, Bool.not_true]
    have h' : ¬ (120 : Int64).toInt < (Int64.ofInt (holds.length : Int)).toInt := fun c => h (Int64.lt_iff_toInt_lt.2 c)
    have e120 : (120 : Int64).toInt = 120 := by decide
    exact waits_loop 200 0 0 false holds (Int64.ofInt (holds.length : Int)) 0 (UInt64.ofInt ((wait % 10 : UInt8).toNat : Int)) (UInt64.ofInt ((keep % 10 : UInt8).toNat : Int)) 0 0 0 0
      (by decide) (by decide) (by omega) (ofIntLe _) (small10 _) (small10 _) (by decide) (by decide) (by decide) (by decide) (by decide) (.inl ⟨rfl, rfl, by decide⟩)
end Go.Proofs.Ytjjmpblnncjojaa
