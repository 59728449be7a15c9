/- The law CondHolds: any points: whether a condition holds, at any time. -/
import Derived.Test.YtbogfhocjpicjaaCoOrder
open Go Go.Sx
namespace Go.Proofs.Ytbogfhocjpicjaa
theorem u64_ofInt_toNat (x : Int) : ((UInt64.ofInt x).toNat : Int) = x % 18446744073709551616 := u64_ofInt x
theorem far_over (n : Nat) (a b lim : Int64) (h : 0 ≤ lim.toInt) : ∃ (d : UInt64) (ab : Bool), F25 n (a, b) = some ((d, ab), ()) ∧ F26 n (a, b, lim) = some (ab && decide (UInt64.ofInt lim.toInt < d), ()) := by
  unfold F25 F26
  simp only
  have ha1 := Int64.le_toInt a
  have ha2 := Int64.toInt_lt a
  have hb1 := Int64.le_toInt b
  have hb2 := Int64.toInt_lt b
  have hl2 := Int64.toInt_lt lim
  have z0 : (0 : Int64).toInt = 0 := by decide
  have z1 : (1 : Int64).toInt = 1 := by decide
  by_cases hab : a ≤ b
  · rw [dec_t hab]; exact ⟨0, false, rfl, rfl⟩
  · rw [dec_f hab]
    have hab' : b.toInt < a.toInt := by
      have := mt Int64.le_iff_toInt_le.2 hab; omega
    refine ⟨_, true, rfl, ?_⟩
    have e1 : ((UInt64.ofInt a.toInt - UInt64.ofInt b.toInt).toNat : Int) = a.toInt - b.toInt := by
      have q1 := u64_ofInt_toNat a.toInt
      have q2 := u64_ofInt_toNat b.toInt
      have := UInt64.toNat_sub (UInt64.ofInt a.toInt) (UInt64.ofInt b.toInt)
      omega
    have e2 : ((UInt64.ofInt lim.toInt).toNat : Int) = lim.toInt := by rw [u64_ofInt_toNat]; omega
    have key : decide (UInt64.ofInt lim.toInt < UInt64.ofInt a.toInt - UInt64.ofInt b.toInt) = decide (lim.toInt < a.toInt - b.toInt) := by
      rw [decide_eq_decide, UInt64.lt_iff_toNat_lt]; omega
    rw [key]
    simp only [Bool.true_and, oite_f]
    by_cases hb0 : (0 : Int64) ≤ b
    · have hb0' := Int64.le_iff_toInt_le.1 hb0
      rw [dec_t hb0]
      simp only [oite_t]
      congr 2
      rw [decide_eq_decide, Int64.lt_iff_toInt_lt, Int64.toInt_sub, Int.bmod_eq_of_le (by omega) (by omega)]
    · have hb0' : b.toInt < 0 := by have := mt Int64.le_iff_toInt_le.2 hb0; omega
      rw [dec_f hb0]
      simp only [oite_f]
      by_cases ha0 : a < (0 : Int64)
      · have ha0' := Int64.lt_iff_toInt_lt.1 ha0
        rw [dec_t ha0]
        simp only [oite_t]
        congr 2
        rw [decide_eq_decide, Int64.lt_iff_toInt_lt, Int64.toInt_sub, Int.bmod_eq_of_le (by omega) (by omega)]
      · have ha0' : 0 ≤ a.toInt := by have := mt Int64.lt_iff_toInt_lt.2 ha0; omega
        rw [dec_f ha0]
        simp only [oite_f]
        have e3 : (b + 1).toInt = b.toInt + 1 := by rw [Int64.toInt_add, z1, Int.bmod_eq_of_le (by omega) (by omega)]
        have e4 : ((0 : Int64) - (b + 1)).toInt = -(b.toInt + 1) := by rw [Int64.toInt_sub, z0, e3, Int.bmod_eq_of_le (by omega) (by omega)]; omega
        rw [e4]
        have q1 := u64_ofInt_toNat a.toInt
        have q2 := u64_ofInt_toNat (-(b.toInt + 1))
        have p1 := UInt64.toNat_add (UInt64.ofInt a.toInt) (UInt64.ofInt (-(b.toInt + 1)))
        have p2 := UInt64.toNat_add (UInt64.ofInt a.toInt + UInt64.ofInt (-(b.toInt + 1))) 1
        have p3 : (1 : UInt64).toNat = 1 := rfl
        congr 2
        rw [decide_eq_decide, UInt64.lt_iff_toNat_lt]
        omega
/-- how far back: the same question twice -/
theorem back_same (t ticks now : UInt64) (ht : t.toNat ≤ 1000) (hk : ticks.toNat ≤ 1048576) : (t < now ∧ ticks < now - t) ↔ t + ticks < now := by
  have p1 := UInt64.toNat_add t ticks
  have p2 := UInt64.toNat_sub now t
  have p3 := UInt64.toNat_lt now
  rw [UInt64.lt_iff_toNat_lt, UInt64.lt_iff_toNat_lt, UInt64.lt_iff_toNat_lt]
  omega
def Times (l : List (UInt64 × Int64)) : Prop := ∀ p ∈ l, p.1.toNat ≤ 1000
theorem idxI {α : Type} {l : List α} {k : Nat} (hk : k < l.length) (h : k < 2 ^ 63) :
    (decide ((0 : Int) ≤ Int64.toInt (I64 k)) && Nat.blt (Int.toNat (Int64.toInt (I64 k))) (List.length l)) = true ∧ l[Int.toNat (Int64.toInt (I64 k))]? = some l[k] := by
  rw [i64_toInt h, blt_iff]
  refine ⟨?_, by simp⟩
  simp; omega
theorem holds_loop (n m : Nat) (now ticks lt : UInt64) (lim lv : Int64) (l : List (UInt64 × Int64)) (kd : UInt8) (hkd : kd = 4 ∨ kd = 5) (hT : Times l) (hl : l.length ≤ 32) (htk : ticks.toNat ≤ 1048576) (hlim : 0 ≤ lim.toInt) :
    ∀ k, k ≤ l.length → l.length - k < m → ∃ r v, F14_R31741 n m now (I64 l.length) (I64 k) kd lim ticks lt lv l = some ((r, v), some l) ∧
      F15_R31741 n m l now (I64 k) (Int64.ofInt kd.toNat) lim ticks lt lv = some ((r, v), ()) := by
  induction m with
  | zero => intros; omega
  | succ m ih =>
    intro k hk hm
    rw [F14_R31741_s, F15_R31741_s]
    unfold F14_L31741 F15_L31741
    by_cases hlt : k < l.length
    · obtain ⟨q1, q2⟩ := idxI hlt (by omega)
      rw [dec_t ((i64_lt (by omega) (by omega)).2 hlt)]
      simp only [oite_t]
      rw [q1, q2, at_i64_lt (by omega) hlt]
      simp only [oite_t, obind_s, ojoinA_eq]
      have hp := hT l[k] (List.getElem_mem hlt)
      have hb := back_same l[k].1 ticks now hp htk
      have next := ih (k + 1) (by omega) (by omega)
      rw [← i64_succ] at next
      have body : ∃ r v, F14_J1015725 n (F14_R31741 n m) now (I64 l.length) (I64 k) kd lim ticks lt lv l[k].1 l[k].2 l = some ((r, v), some l) ∧
          oite (decide (Int64.ofInt ↑(UInt8.toNat kd) = (4 : Int64)))
              (obind (F26 n (lv, Prod.snd l[k], lim)) fun (x_4 : Bool × Unit) =>
                  oite (Prod.fst x_4) (F15_J507861 (F15_R31741 n m) l now (I64 k) true (Int64.ofInt ↑(UInt8.toNat kd)) lim ticks lt lv)
                    (oite (decide (Int64.ofInt ↑(UInt8.toNat kd) = (5 : Int64)))
                        (obind (F26 n (Prod.snd l[k], lv, lim)) fun (x_6 : Bool × Unit) =>
                          F15_J507861 (F15_R31741 n m) l now (I64 k) (Prod.fst x_6) (Int64.ofInt ↑(UInt8.toNat kd)) lim ticks lt lv)
                      (F15_J507861 (F15_R31741 n m) l now (I64 k) false (Int64.ofInt ↑(UInt8.toNat kd)) lim ticks lt lv)))
              (oite (decide (Int64.ofInt ↑(UInt8.toNat kd) = (5 : Int64)))
                  (obind (F26 n (Prod.snd l[k], lv, lim)) fun (x_4 : Bool × Unit) =>
                    F15_J507861 (F15_R31741 n m) l now (I64 k) (Prod.fst x_4) (Int64.ofInt ↑(UInt8.toNat kd)) lim ticks lt lv)
                (F15_J507861 (F15_R31741 n m) l now (I64 k) false (Int64.ofInt ↑(UInt8.toNat kd)) lim ticks lt lv)) = some ((r, v), ()) := by
        unfold F14_J1015725 F14_J4062903 F15_J507861
        simp only [ojoinA_eq]
        rcases hkd with rfl | rfl
        · have k1 : decide ((4 : UInt8) = 5) = false := by decide
          have k2 : decide (Int64.ofInt ↑(UInt8.toNat 4) = (4 : Int64)) = true := by decide
          have k3 : decide (Int64.ofInt ↑(UInt8.toNat 4) = (5 : Int64)) = false := by decide
          obtain ⟨d, ab, f1, f2⟩ := far_over n lv l[k].2 lim hlim
          rw [k1, k2, k3]
          simp only [oite_t, oite_f, f1, f2, obind_s]
          cases ab with
          | false => simpa only [Bool.false_and, oite_f] using next
          | true =>
            by_cases hd : UInt64.ofInt lim.toInt < d
            · rw [dec_t hd]; exact ⟨true, lv, rfl, rfl⟩
            · rw [dec_f hd]; simpa only [Bool.and_false, oite_f, oite_t] using next
        · have k1 : decide ((5 : UInt8) = 5) = true := by decide
          have k2 : decide (Int64.ofInt ↑(UInt8.toNat 5) = (4 : Int64)) = false := by decide
          have k3 : decide (Int64.ofInt ↑(UInt8.toNat 5) = (5 : Int64)) = true := by decide
          obtain ⟨d, ab, f1, f2⟩ := far_over n l[k].2 lv lim hlim
          rw [k1, k2, k3]
          simp only [oite_t, oite_f, f1, f2, obind_s]
          cases ab with
          | false => simpa only [Bool.false_and, oite_f] using next
          | true =>
            by_cases hd : UInt64.ofInt lim.toInt < d
            · rw [dec_t hd]; exact ⟨true, lv, rfl, rfl⟩
            · rw [dec_f hd]; simpa only [Bool.and_false, oite_f, oite_t] using next
      by_cases h1 : l[k].1 < now
      · by_cases h2 : ticks < now - l[k].1
        · rw [dec_t h1, dec_t h2, dec_t (hb.1 ⟨h1, h2⟩)]
          simp only [oite_t]
          exact next
        · rw [dec_t h1, dec_f h2, dec_f (fun h => h2 (hb.2 h).2)]
          simp only [oite_t, oite_f]
          exact body
      · rw [dec_f h1, dec_f (fun h => h1 (hb.2 h).1)]
        simp only [oite_f]
        exact body
    · rw [dec_f (fun h => hlt ((i64_lt (by omega) (by omega)).1 h))]
      exact ⟨false, lv, rfl, rfl⟩

theorem kEq (k c : UInt8) : (Int64.ofInt ↑(UInt8.toNat k) = Int64.ofInt ↑(UInt8.toNat c)) ↔ k = c := by
  have h1 := UInt8.toNat_lt k
  have h2 := UInt8.toNat_lt c
  rw [show Int64.ofInt ↑(UInt8.toNat k) = I64 k.toNat from rfl, show Int64.ofInt ↑(UInt8.toNat c) = I64 c.toNat from rfl, i64_eq (by omega) (by omega)]
  exact UInt8.toNat_inj
theorem kDec (k c : UInt8) : decide (Int64.ofInt ↑(UInt8.toNat k) = Int64.ofInt ↑(UInt8.toNat c)) = decide (k = c) := decide_eq_decide.2 (kEq k c)
/-- what a condition that may be one is like -/
def Right (k : UInt8) (lim : Int64) (t : UInt64) : Prop := (k = 1 ∨ k = 2) ∨ (k = 3 ∧ t.toNat ≤ 1048576) ∨ ((k = 4 ∨ k = 5) ∧ 0 ≤ lim.toInt ∧ t.toNat ≤ 1048576)
theorem check_some (n : Nat) (k : UInt8) (lim : Int64) (t : UInt64) : ∃ e, F13 n (Int64.ofInt ↑(UInt8.toNat k), lim, t) = some (e, ()) ∧ (e = 0 → Right k lim t) := by
  unfold F13 F13_J7 F13_J15
  simp only [ojoinA_eq]
  have hk := UInt8.toNat_lt k
  have d1 : ∀ c : Nat, c < 256 → (decide (I64 k.toNat < I64 c) = decide (k.toNat < c)) := fun c hc => decide_eq_decide.2 (i64_lt (by omega) (by omega))
  have d2 : ∀ c : Nat, c < 256 → (decide (I64 c < I64 k.toNat) = decide (c < k.toNat)) := fun c hc => decide_eq_decide.2 (i64_lt (by omega) (by omega))
  have d3 : ∀ c : Nat, c < 256 → (decide (I64 k.toNat ≤ I64 c) = decide (k.toNat ≤ c)) := fun c hc => decide_eq_decide.2 (i64_le (by omega) (by omega))
  have d4 : ∀ c : Nat, c < 256 → (decide (I64 k.toNat = I64 c) = decide (k.toNat = c)) := fun c hc => decide_eq_decide.2 (i64_eq (by omega) (by omega))
  have e1 : decide (Int64.ofInt ↑(UInt8.toNat k) < (1 : Int64)) = decide (k.toNat < 1) := d1 1 (by omega)
  have e2 : decide ((5 : Int64) < Int64.ofInt ↑(UInt8.toNat k)) = decide (5 < k.toNat) := d2 5 (by omega)
  have e3 : decide (Int64.ofInt ↑(UInt8.toNat k) ≤ (2 : Int64)) = decide (k.toNat ≤ 2) := d3 2 (by omega)
  have e4 : decide (Int64.ofInt ↑(UInt8.toNat k) = (3 : Int64)) = decide (k.toNat = 3) := d4 3 (by omega)
  rw [e1, e2, e3, e4]
  have kk : ∀ c : UInt8, k.toNat = c.toNat → k = c := fun c h => UInt8.toNat_inj.1 h
  by_cases h1 : k.toNat < 1
  · rw [dec_t h1]; exact ⟨12, rfl, fun h => absurd h (by decide)⟩
  · by_cases h2 : 5 < k.toNat
    · rw [dec_f h1, dec_t h2]; exact ⟨12, rfl, fun h => absurd h (by decide)⟩
    · rw [dec_f h1, dec_f h2]
      simp only [oite_f]
      by_cases h3 : k.toNat ≤ 2
      · rw [dec_t h3]
        have : k = 1 ∨ k = 2 := by
          have : k.toNat = 1 ∨ k.toNat = 2 := by omega
          rcases this with h | h
          · exact .inl (kk 1 h)
          · exact .inr (kk 2 h)
        have hn3 : decide (k.toNat = 3) = false := dec_f (by omega)
        rw [hn3]
        simp only [oite_f, oite_t]
        generalize decide ((1 : UInt64) ≤ t) = b1
        generalize decide (t ≤ (1048576 : UInt64)) = b2
        generalize decide (t = (0 : UInt64)) = b3
        cases b1 <;> cases b2 <;> cases b3 <;> exact ⟨_, rfl, fun _ => .inl this⟩
      · rw [dec_f h3]
        simp only [oite_f]
        by_cases b1 : (1 : UInt64) ≤ t
        · by_cases b2 : t ≤ (1048576 : UInt64)
          · have ht : t.toNat ≤ 1048576 := UInt64.le_iff_toNat_le.1 b2
            rw [dec_t b1, dec_t b2]
            simp only [oite_t]
            by_cases h4 : k.toNat = 3
            · rw [dec_t h4]
              generalize decide (lim = (0 : Int64)) = b3
              generalize decide ((0 : Int64) ≤ lim) = b4
              cases b3 <;> cases b4 <;> exact ⟨_, rfl, fun _ => .inr (.inl ⟨kk 3 h4, ht⟩)⟩
            · rw [dec_f h4]
              have : k = 4 ∨ k = 5 := by
                have : k.toNat = 4 ∨ k.toNat = 5 := by omega
                rcases this with h | h
                · exact .inl (kk 4 h)
                · exact .inr (kk 5 h)
              by_cases b4 : (0 : Int64) ≤ lim
              · rw [dec_t b4]
                exact ⟨_, rfl, fun _ => .inr (.inr ⟨this, Int64.le_iff_toInt_le.1 b4, ht⟩)⟩
              · rw [dec_f b4]
                exact ⟨_, rfl, fun h => absurd h (by decide)⟩
          · rw [dec_t b1, dec_f b2]
            simp only [oite_t, oite_f]
            generalize decide (k.toNat = 3) = b5
            generalize decide (lim = (0 : Int64)) = b6
            cases b5 <;> cases b6 <;> exact ⟨_, rfl, fun h => absurd h (by decide)⟩
        · rw [dec_f b1]
          simp only [oite_f]
          generalize decide (k.toNat = 3) = b5
          generalize decide (lim = (0 : Int64)) = b6
          cases b5 <;> cases b6 <;> exact ⟨_, rfl, fun h => absurd h (by decide)⟩
theorem holds_same (n : Nat) (hn : 40 < n) (k : UInt8) (lim : Int64) (t : UInt64) (hr : Right k lim t) (l : List (UInt64 × Int64)) (hl : l.length ≤ 32) (hT : Times l) (now : UInt64) :
    ∃ r v, F14 n ((k, lim, t), some l, now) = some ((r, v), some l) ∧ F15 n ((Int64.ofInt ↑(UInt8.toNat k), lim, t), l, now) = some ((r, v), ()) := by
  unfold F14 F15
  simp only [ojoinA_eq]
  rw [last_spec n l hl]
  by_cases h0 : l.length = 0
  · have : l = [] := List.length_eq_zero_iff.1 h0
    subst this
    exact ⟨false, 0, rfl, rfl⟩
  · have e0 : decide (Int64.ofInt ↑(List.length l) = (0 : Int64)) = false := dec_f fun h => h0 ((i64_eq (a := l.length) (b := 0) (by omega) (by omega)).1 h)
    have e1 : Int64.ofInt ↑(List.length l) - 1 = I64 (l.length - 1) := i64_sub (b := 1) (by omega)
    obtain ⟨p, hp⟩ : ∃ p, l.getLast? = some p := by
      cases hh : l.getLast? with
      | none => rw [List.getLast?_eq_none_iff] at hh; subst hh; simp at h0
      | some p => exact ⟨p, rfl⟩
    have hpm : p ∈ l := List.mem_of_getLast? hp
    rw [e0, e1, at_i64 (by omega), ← List.getLast?_eq_getElem?, hp]
    simp only [obind_s, oite_f, Bool.not_true]
    have c1 : decide (Int64.ofInt ↑(UInt8.toNat k) = (1 : Int64)) = decide (k = 1) := kDec k 1
    have c2 : decide (Int64.ofInt ↑(UInt8.toNat k) = (2 : Int64)) = decide (k = 2) := kDec k 2
    have c3 : decide (Int64.ofInt ↑(UInt8.toNat k) = (3 : Int64)) = decide (k = 3) := kDec k 3
    have c4 : decide (Int64.ofInt ↑(UInt8.toNat k) = (4 : Int64)) = decide (k = 4) := kDec k 4
    have c5 : decide (Int64.ofInt ↑(UInt8.toNat k) = (5 : Int64)) = decide (k = 5) := kDec k 5
    rw [c1, c2, c3, c4, c5]
    rcases hr with (rfl | rfl) | ⟨rfl, ht⟩ | ⟨hk, hlim, ht⟩
    · exact ⟨_, _, rfl, rfl⟩
    · exact ⟨_, _, rfl, rfl⟩
    · have g1 : decide ((3 : UInt8) = 1) = false := by decide
      have g2 : decide ((3 : UInt8) = 2) = false := by decide
      have g3 : decide ((3 : UInt8) = 3) = true := by decide
      rw [g1, g2, g3]
      simp only [oite_f, oite_t]
      have hpt := hT p hpm
      have hadd := UInt64.toNat_add p.1 t
      have hsub := UInt64.toNat_sub now p.1
      have hnow := UInt64.toNat_lt now
      by_cases a1 : p.1 < now
      · have a1' := UInt64.lt_iff_toNat_lt.1 a1
        rw [dec_t a1]
        simp only [oite_t]
        by_cases a2 : t ≤ now - p.1
        · have a2' := UInt64.le_iff_toNat_le.1 a2
          have a3 : p.1 + t ≤ now := UInt64.le_iff_toNat_le.2 (by omega)
          rw [dec_t a2, dec_t a3]; exact ⟨_, _, rfl, rfl⟩
        · have a2' := mt UInt64.le_iff_toNat_le.2 a2
          have a3 : ¬ p.1 + t ≤ now := fun h => by have := UInt64.le_iff_toNat_le.1 h; omega
          rw [dec_f a2, dec_f a3]; exact ⟨_, _, rfl, rfl⟩
      · rw [dec_f a1]
        generalize decide (p.1 + t ≤ now) = b
        cases b <;> exact ⟨_, _, rfl, rfl⟩
    · have hz : Int64.ofInt ↑(List.length l) = I64 l.length := rfl
      obtain ⟨r, v, h1, h2⟩ := holds_loop n n now t p.1 lim p.2 l k hk hT hl ht hlim 0 (by omega) (by omega)
      have j1 : F14_J3967 n now true (some l) k lim t p.1 p.2 = some ((r, v), some l) := by
        unfold F14_J3967
        simp only [oite_t, obind_s]
        exact h1
      have j2 : F15_J3967 n l now true (Int64.ofInt ↑(UInt8.toNat k)) lim t p.1 p.2 = some ((r, v), ()) := by
        unfold F15_J3967
        simp only [oite_t]
        exact h2
      rcases hk with rfl | rfl
      · exact ⟨r, v, j1, j2⟩
      · exact ⟨r, v, j1, j2⟩

/-- the times asked: all answers are the same -/
theorem times_loop (n : Nat) (hn : 40 < n) (rec1 : Arr [PT.int IntKind.u8, PT.int IntKind.u64, PT.int IntKind.i64, PT.int IntKind.i64, PT.opt (OTs.cons (OT.row (CTs.cons (CT.int IntKind.u64) (CTs.cons (CT.int IntKind.i64) CTs.nil))) OTs.nil), PT.list (CTs.cons (CT.int IntKind.u64) (CTs.cons (CT.int IntKind.i64) CTs.nil)), PT.list (CTs.cons (CT.int IntKind.u8) (CTs.cons (CT.int IntKind.i64) (CTs.cons (CT.int IntKind.u64) CTs.nil)))] (Option (Bool × Unit))) (ahead : UInt8) (now : UInt64) (t3 t1 : Int64) (l : List (UInt64 × Int64)) (hl : l.length ≤ 32) (hT : Times l) (k : UInt8) (lim : Int64) (t : UInt64) (hr : Right k lim t)
    (t4 : List (UInt8 × Int64 × UInt64)) (ts : List UInt64) (hts : ts.length ≤ 2) (m : Nat) :
    ∀ i, i ≤ ts.length → ts.length - i < m → F3_R1048247 n rec1 m ahead now t3 t1 (I64 ts.length) (I64 i) (some l) l k lim t t4 ts = rec1 ahead now t3 (t1 + 1) (some l) l t4 := by
  induction m with
  | zero => intros; omega
  | succ m ih =>
    intro i hi hm
    rw [F3_R1048247_s]
    unfold F3_L1048247
    by_cases hlt : i < ts.length
    · obtain ⟨q1, q2⟩ := idxI hlt (by omega)
      obtain ⟨r, v, h1, h2⟩ := holds_same n hn k lim t hr l hl hT ts[i]
      rw [dec_t ((i64_lt (by omega) (by omega)).2 hlt)]
      simp only [oite_t]
      rw [q1, q2]
      have f12 : F12 n (k, lim, t) = some ((Int64.ofInt ↑(UInt8.toNat k), lim, t), ()) := rfl
      simp only [oite_t, obind_s, h1, f12, h2]
      have : (!r == r) = false := by cases r <;> rfl
      rw [this]
      simp only [decide_true, oite_f, Bool.not_true]
      rw [i64_succ]
      exact ih (i + 1) (by omega) (by omega)
    · rw [dec_f (fun h => hlt ((i64_lt (by omega) (by omega)).1 h))]
      rfl
theorem conds_loop (n : Nat) (hn : 40 < n) (ahead : UInt8) (now : UInt64) (l : List (UInt64 × Int64)) (hl : l.length ≤ 32) (hT : Times l) (cs : List (UInt8 × Int64 × UInt64)) (hcs : cs.length ≤ 2) (m : Nat) :
    ∀ i, i ≤ cs.length → cs.length - i < m → F3_R8189 n m ahead now (I64 cs.length) (I64 i) (some l) l cs = some (true, ()) := by
  induction m with
  | zero => intros; omega
  | succ m ih =>
    intro i hi hm
    rw [F3_R8189_s]
    unfold F3_L8189
    by_cases hlt : i < cs.length
    · obtain ⟨q1, q2⟩ := idxI hlt (by omega)
      obtain ⟨e, h1, h2⟩ := check_some n cs[i].1 cs[i].2.1 cs[i].2.2
      have f12 : F12 n (cs[i].1, cs[i].2.1, cs[i].2.2) = some ((Int64.ofInt ↑(UInt8.toNat cs[i].1), cs[i].2.1, cs[i].2.2), ()) := rfl
      have next := ih (i + 1) (by omega) (by omega)
      rw [← i64_succ] at next
      rw [dec_t ((i64_lt (by omega) (by omega)).2 hlt)]
      simp only [oite_t]
      rw [q1, q2]
      simp only [oite_t, obind_s, f12, h1]
      by_cases he : e = 0
      · rw [dec_t he]
        simp only [Bool.not_true, oite_f]
        have := times_loop n hn (F3_R8189 n m) ahead now (I64 cs.length) (I64 i) l hl hT cs[i].1 cs[i].2.1 cs[i].2.2 (h2 he) cs [now + UInt64.ofInt ↑(UInt8.toNat (ahead % (30 : UInt8))), UInt64.ofInt ↑(UInt8.toNat ahead)] (by simp) n 0 (by omega) (by simp; omega)
        exact this.trans next
      · rw [dec_f he]
        exact next
    · rw [dec_f (fun h => hlt ((i64_lt (by omega) (by omega)).1 h))]
      rfl
theorem same_loop (n : Nat) (hn : 40 < n) (ahead : UInt8) (now : UInt64) (l : List (UInt64 × Int64)) (hl : l.length ≤ 32) (hT : Times l) (c0 : UInt8) (c1 : Int64) (c2 : UInt64) (s0 : UInt8) (s1 : Int16) (s2 : UInt8) (m : Nat) :
    ∀ i, i ≤ l.length → l.length - i < m → F3_R4093 n m ahead now l (I64 l.length) (I64 i) c0 c1 c2 s0 s1 s2 (some l) l = some (true, ()) := by
  induction m with
  | zero => intros; omega
  | succ m ih =>
    intro i hi hm
    rw [F3_R4093_s]
    unfold F3_L4093
    by_cases hlt : i < l.length
    · obtain ⟨q1, q2⟩ := idxI hlt (by omega)
      rw [dec_t ((i64_lt (by omega) (by omega)).2 hlt)]
      simp only [oite_t]
      rw [q1, q2, at_i64_lt (by omega) hlt]
      simp only [oite_t, obind_s]
      simp only [decide_true, Bool.and_true, Bool.not_true, oite_f]
      rw [i64_succ]
      exact ih (i + 1) (by omega) (by omega)
    · rw [dec_f (fun h => hlt ((i64_lt (by omega) (by omega)).1 h))]
      simp only [oite_f]
      obtain ⟨⟨y, u⟩, hy⟩ : ∃ y, F11 n (s0, s1, s2) = some y := by
        unfold F11
        generalize decide ((1 : UInt8) + Prod.fst (s0, s1, s2) % (5 : UInt8) = (1 : UInt8)) = b1
        generalize decide ((1 : UInt8) + Prod.fst (s0, s1, s2) % (5 : UInt8) = (2 : UInt8)) = b2
        generalize decide ((1 : UInt8) + Prod.fst (s0, s1, s2) % (5 : UInt8) = (3 : UInt8)) = b3
        cases b1 <;> cases b2 <;> cases b3 <;> exact ⟨_, rfl⟩
      rw [hy]
      simp only [obind_s]
      exact conds_loop n hn ahead now l hl hT [(c0, c1, c2), (y.1, y.2.1, y.2.2)] (by simp) n 0 (by omega) (by simp; omega)
theorem end_true (n : Nat) (hn : 40 < n) (ahead : UInt8) (now : UInt64) (l : List (UInt64 × Int64)) (hl : l.length ≤ 32) (hT : Times l) (c0 : UInt8) (c1 : Int64) (c2 : UInt64) (s0 : UInt8) (s1 : Int16) (s2 : UInt8) :
    F3_J63 n ahead now c0 c1 c2 s0 s1 s2 (some l) l = some (true, ()) := by
  have fin : F3_J511 n ahead now l c0 c1 c2 s0 s1 s2 (some l) l = some (true, ()) := same_loop n hn ahead now l hl hT c0 c1 c2 s0 s1 s2 n 0 (by omega) (by omega)
  unfold F3_J63
  rw [points_spec n l hl]
  simp only [obind_s, ojoinA_eq]
  rw [last_spec n l hl]
  simp only [decide_true, Bool.not_true, oite_f]
  by_cases h0 : l.length = 0
  · have : l = [] := List.length_eq_zero_iff.1 h0
    subst this
    exact fin
  · obtain ⟨q1, q2⟩ := lastI (by omega) hl
    obtain ⟨p, hp⟩ : ∃ p, l.getLast? = some p := by
      cases hh : l.getLast? with
      | none => rw [List.getLast?_eq_none_iff] at hh; subst hh; simp at h0
      | some p => exact ⟨p, rfl⟩
    have e1 : decide ((0 : Int64) < Int64.ofInt ↑(List.length l)) = true := dec_t ((i64_lt (a := 0) (b := l.length) (by omega) (by omega)).2 (by omega))
    rw [hp, e1, q1, q2, hp]
    simp only [obind_s, oite_t, decide_true, Bool.and_true, Bool.not_true, oite_f]
    exact fin
theorem points_loop (n : Nat) (hn : 40 < n) (ahead : UInt8) (t : List (UInt8 × Int64)) (ht : t.length < 2 ^ 63) (c0 : UInt8) (c1 : Int64) (c2 : UInt64) (s0 : UInt8) (s1 : Int16) (s2 : UInt8) (m : Nat) :
    ∀ (k : Nat) (now : UInt64) (l : List (UInt64 × Int64)), k ≤ t.length → k ≤ 61 → 62 - k < m → now.toNat ≤ 7 * k → l.length ≤ 32 → (∀ p ∈ l, p.1.toNat ≤ now.toNat) →
      F3_R253 n (F3_J63 n) m ahead now t (I64 t.length) (I64 k) c0 c1 c2 s0 s1 s2 (some l) l = some (true, ()) := by
  induction m with
  | zero => intros; omega
  | succ m ih =>
    intro k now l hk hk2 hm hnow hl hle
    have fin : F3_J63 n ahead now c0 c1 c2 s0 s1 s2 (some l) l = some (true, ()) := end_true n hn ahead now l hl (fun p hp => by have := hle p hp; omega) c0 c1 c2 s0 s1 s2
    rw [F3_R253_s]
    unfold F3_L253
    by_cases hlt : k < t.length
    · rw [dec_t ((i64_lt (by omega) ht).2 hlt)]
      simp only [oite_t]
      rw [at_i64_lt (by omega) hlt]
      simp only [obind_s]
      by_cases h60 : 60 < k
      · have : decide ((60 : Int64) < I64 k) = true := dec_t ((i64_lt (a := 60) (b := k) (by omega) (by omega)).2 h60)
        rw [this]; exact fin
      · have : decide ((60 : Int64) < I64 k) = false := dec_f fun h => h60 ((i64_lt (a := 60) (b := k) (by omega) (by omega)).1 h)
        rw [this]
        simp only [oite_f]
        have hd : (UInt64.ofInt ↑(UInt8.toNat (t[k].1 % 8))).toNat ≤ 7 := by
          have h1 := u64_ofInt_toNat ↑(UInt8.toNat (t[k].1 % 8))
          have h2 : (t[k].1 % 8).toNat < 8 := by rw [UInt8.toNat_mod]; exact Nat.mod_lt _ (by decide)
          omega
        generalize UInt64.ofInt ↑(UInt8.toNat (t[k].1 % 8)) = d at hd
        have hadd := UInt64.toNat_add now d
        generalize hnw : now + d = now' at hadd
        have hnow' : now'.toNat = now.toNat + d.toNat := by omega
        have g1 : ¬ (1099511627776 : UInt64) < now' := fun h => by
          have := UInt64.lt_iff_toNat_lt.1 h
          have e : (1099511627776 : UInt64).toNat = 1099511627776 := rfl
          omega
        have addOk : F8 n (some l, now', t[k].2) = some ((0 : Int64), some (add32 l now' t[k].2)) := by
          rw [add_spec n l _ _ hl, if_neg g1]
          cases hh : l.getLast? with
          | none => rfl
          | some p =>
            have hp := hle p (List.mem_of_getLast? hh)
            have : ¬ now' < p.1 := fun h => by have := UInt64.lt_iff_toNat_lt.1 h; omega
            simp only [this, if_false]
        have next := ih (k + 1) now' (add32 l now' t[k].2) (by omega) (by omega) (by omega) (by omega) (by rw [add32_len _ _ _ hl]; omega) (by
          intro p hp
          have : p ∈ l ++ [(now', t[k].2)] := by
            unfold add32 at hp
            split at hp
            · exact hp
            · exact List.mem_of_mem_drop hp
          rcases List.mem_append.1 this with h | h
          · have := hle p h; omega
          · simp at h; rw [h]; simp)
        rw [addOk]
        simp only [obind_s, decide_true, Bool.not_true, oite_f]
        have len1 : List.length (l ++ [(now', t[k].2)]) = l.length + 1 := by simp
        rw [ble_t (by simp; omega), len1]
        simp only [oite_t]
        rw [i64_succ]
        by_cases h32 : l.length < 32
        · have : decide ((32 : Int64) < Int64.ofInt ↑(l.length + 1)) = false := dec_f fun h => by have := (i64_lt (a := 32) (b := l.length + 1) (by omega) (by omega)).1 h; omega
          rw [this]
          have ea : add32 l now' t[k].2 = l ++ [(now', t[k].2)] := by unfold add32; rw [if_pos h32]
          rw [ea] at next ⊢
          exact next
        · have : decide ((32 : Int64) < Int64.ofInt ↑(l.length + 1)) = true := dec_t ((i64_lt (a := 32) (b := l.length + 1) (by omega) (by omega)).2 (by omega))
          have t1 : Int.toNat (Int64.toInt 1) = 1 := by decide
          rw [this, t1, ble_t (by omega)]
          have ea : add32 l now' t[k].2 = List.drop 1 (l ++ [(now', t[k].2)]) := by unfold add32; rw [if_neg h32]
          rw [ea] at next ⊢
          have e5 : List.take (l.length + 1 - 1) (List.drop 1 (l ++ [(now', t[k].2)])) = List.drop 1 (l ++ [(now', t[k].2)]) := List.take_of_length_le (by simp)
          rw [e5]
          exact next
    · rw [dec_f (fun h => hlt ((i64_lt (by omega) ht).1 h))]
      exact fin
theorem F3_eq (n : Nat) (t : List (UInt8 × Int64)) (c0 : UInt8) (c1 : Int64) (c2 : UInt64) (s0 : UInt8) (s1 : Int16) (s2 ahead : UInt8) : F3 n (t, (c0, c1, c2), (s0, s1, s2), ahead) = obind (F7 n ()) fun x => oite (!x.1) (some (false, ()))
    (F3_R253 n (F3_J63 n) n ahead 0 t (I64 t.length) 0 c0 c1 c2 s0 s1 s2 (some []) []) := rfl
theorem holds_true : ∀ x : sig3.In, PTys.fits sig3.ps x → ∃ y, F3 200 x = some y ∧ PTys.hd (.one (.c .bool)) .nil y.1 = true := by
  rintro ⟨t, ⟨c0, c1, c2⟩, ⟨s0, s1, s2⟩, ahead⟩ hfit
  have hlen : t.length < 2 ^ 63 := by have := hfit.1; simp only [PTy.fits, CT.fits] at this; exact this.1
  refine ⟨(true, ()), ?_, rfl⟩
  refine (F3_eq _ _ _ _ _ _ _ _ _).trans ?_
  rw [awakeC, obind_s]
  simp only [Bool.not_true, oite_f]
  exact points_loop 200 (by omega) ahead t hlen c0 c1 c2 s0 s1 s2 200 0 0 [] (by omega) (by omega) (by omega) (by decide) (by simp) (by simp)
end Go.Proofs.Ytbogfhocjpicjaa
