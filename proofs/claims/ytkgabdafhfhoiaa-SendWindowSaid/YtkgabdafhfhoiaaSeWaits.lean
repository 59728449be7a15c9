/- The law SendWaits: what isn't answered is sent over and over, each time after twice as long, never longer than most; what came isn't sent again. -/
import Derived.Test.YtkgabdafhfhoiaaSeFns1
import Derived.Test.YtkgabdafhfhoiaaSxPlain
open Go Go.Sx
namespace Go.Proofs.Ytkgabdafhfhoiaa
abbrev Fly := UInt64 × UInt64 × UInt64 × UInt64 × Bool × Bool
abbrev Snd := Int64 × UInt64 × UInt64 × UInt64 × UInt64 × List Fly × UInt64 × UInt64
theorem oneI {α : Type} (x : α) : Int64.ofInt ↑(List.length [x]) = 1 := rfl
theorem due_one (n : Nat) (w : Int64) (fi mo ba ne sq ix d wt : UInt64) (se : Bool) (st ag now : UInt64) (hnow : ¬ (1099511627776 : UInt64) < now) :
    F9 (n + 2) (some (w, fi, mo, ba, ne, [(sq, ix, d, wt, se, false)], st, ag), now) =
      if now < d then some ([], some (w, fi, mo, ba, ne, [(sq, ix, d, wt, se, false)], st, ag))
      else some ([(sq, ix, d, wt, se, false)], some (w, fi, mo, ba, ne, [(sq, ix, now + wt, IK.minI IntKind.u64 (2 * wt) mo, true, false)], st + 1, if se then ag + 1 else ag)) := by
  unfold F9
  rw [oelim_s]
  simp only
  rw [dec_f hnow, oite_f, oneI, F9_R61_s]
  have z : Int.toNat (Int64.toInt 0) = 0 := by decide
  have z1 : ∀ x : Fly, (decide ((0 : Int) ≤ Int64.toInt 0) && Nat.blt (Int.toNat (Int64.toInt 0)) (List.length [x])) = true := fun x => rfl
  have last : ∀ (s6 s7 : UInt64) (out sl : List Fly), F9_R61 (n + 1) now 1 ((0 : Int64) + 1) w fi mo ba ne s6 s7 out sl = some (out, some (w, fi, mo, ba, ne, sl, s6, s7)) := by
    intro s6 s7 out sl
    rw [F9_R61_s]
    unfold F9_L61
    rw [show decide ((0 : Int64) + 1 < 1) = false from by decide]; rfl
  unfold F9_L61
  rw [show decide ((0 : Int64) < 1) = true from by decide]
  simp only [oite_t]
  rw [z1]
  simp only [oite_t, z, List.getElem?_cons_zero, obind_s, oite_f]
  by_cases h : now < d
  · rw [dec_t h, if_pos h, oite_t]; exact last st ag [] _
  · rw [dec_f h, if_neg h]
    simp only [oite_f]
    rw [ble_t (by simp), oite_t, ojoinA_eq]
    have j : ∀ s7, F9_J31455 (F9_R61 (n + 1)) now 0 1 0 w fi mo ba ne (st + 1) s7 ([] ++ [(sq, ix, d, wt, se, false)]) [(sq, ix, d, wt, se, false)] =
        some ([(sq, ix, d, wt, se, false)], some (w, fi, mo, ba, ne, [(sq, ix, now + wt, IK.minI IntKind.u64 (2 * wt) mo, true, false)], st + 1, s7)) := by
      intro s7
      unfold F9_J31455
      simp only [List.getElem?_cons_zero, obind_s, List.set_cons_zero, List.nil_append]
      exact last _ _ _ _
    cases se with
    | true => exact j _
    | false => exact j _
theorem ack_zero (n : Nat) (w : Int64) (fi mo ix d wt : UInt64) (se : Bool) (st ag : UInt64) :
    F10 (n + 2) (some (w, fi, mo, 0, 2, [(1, ix, d, wt, se, false)], st, ag), 0, 0) = some ((0, 0), some (w, fi, mo, 0, 2, [(1, ix, d, wt, se, false)], st, ag)) := by kernel_rfl
theorem ack_one (n : Nat) (w : Int64) (fi mo ix d wt : UInt64) (se : Bool) (st ag : UInt64) :
    F10 (n + 3) (some (w, fi, mo, 0, 2, [(1, ix, d, wt, se, false)], st, ag), 1, 0) = some ((ix, 0), some (w, fi, mo, 1, 2, [], st, ag)) := by kernel_rfl
theorem due_none (n : Nat) (w : Int64) (fi mo ba ne st ag now : UInt64) : ∃ y, F9 (n + 2) (some (w, fi, mo, ba, ne, [], st, ag), now) = some ([], y) := by
  unfold F9
  rw [oelim_s]
  simp only
  by_cases h : (1099511627776 : UInt64) < now
  · rw [dec_t h]; exact ⟨_, rfl⟩
  · rw [dec_f h, oite_f, F9_R61_s]
    unfold F9_L61
    exact ⟨_, rfl⟩
theorem awakeS : F6 200 () = some (true, ()) := by kernel_rfl
theorem awakeS' (n : Nat) : F6 (n + 20) () = some (true, ()) := by kernel_rfl
theorem minU (x y : UInt64) : (IK.minI IntKind.u64 x y).toNat = min x.toNat y.toNat := by
  unfold IK.minI
  show (match decide (y < x) with | true => y | false => x).toNat = _
  by_cases h : y < x
  · have := UInt64.lt_iff_toNat_lt.1 h
    rw [dec_t h]; simp only; omega
  · have := mt UInt64.lt_iff_toNat_lt.2 h
    rw [dec_f h]; simp only; omega
/-- what holds at the loop's head, at time k: the last time, the gap that runs, the gap before it -/
structure Runs (a b k last wait due wt : UInt64) (g : Nat) : Prop where
  dueEq : due.toNat = last.toNat + g
  within : k.toNat ≤ due.toNat
  past : last.toNat ≤ k.toNat
  low : a.toNat ≤ g
  high : g ≤ b.toNat
  next : wt.toNat = min (2 * g) b.toNat
  gap : (wait.toNat = 0 ∧ g = a.toNat) ∨ (0 < wait.toNat ∧ wait.toNat ≤ g ∧ g = min (2 * wait.toNat) b.toNat)
theorem waits_loop (n : Nat) (stop : UInt16) (a b : UInt64) (ha : 1 ≤ a.toNat) (ha2 : a.toNat ≤ 40) (hb : a.toNat ≤ b.toNat) (hb2 : b.toNat ≤ 400) (t : UInt64) (ht : t.toNat < 2000) (m : Nat) :
    ∀ (k last wait due wt : UInt64) (g : Nat) (se : Bool) (st ag : UInt64), 1 ≤ k.toNat → k.toNat ≤ t.toNat → t.toNat - k.toNat < m → Runs a b k last wait due wt g →
      F3_R1021 (n + 3) m stop a b 0 last wait t k (some (3, a, b, 0, 2, [(1, 7, due, wt, se, false)], st, ag)) = some (true, ()) := by
  induction m with
  | zero => intros; omega
  | succ m ih =>
    intro k last wait due wt g se st ag hk0 hk hm R
    rw [F3_R1021_s]
    unfold F3_L1021
    have hbig : (1099511627776 : UInt64).toNat = 1099511627776 := rfl
    have h1 : (1 : UInt64).toNat = 1 := rfl
    have h0 : (0 : UInt64).toNat = 0 := rfl
    have h5 : (5000 : UInt64).toNat = 5000 := rfl
    have hk1 := UInt64.toNat_add k 1
    by_cases hlt : k < t
    · have hlt' := UInt64.lt_iff_toNat_lt.1 hlt
      rw [dec_t hlt]
      simp only [oite_t]
      rw [due_one (n + 1) 3 a b 0 2 1 7 due wt se st ag k (fun h => by have := UInt64.lt_iff_toNat_lt.1 h; omega)]
      have tail : ∀ y : Option Snd, (∃ due' wt' se' st' ag', y = some (3, a, b, 0, 2, [(1, 7, due', wt', se', false)], st', ag')) →
          (obind (F10 (n + 3) (y, 0, 0)) fun x_5 => obind (F10 (n + 3) (x_5.2, 1, 0)) fun x_6 => obind (F9 (n + 3) (x_6.2, k + 5000)) fun x_7 =>
            oite (!decide (Int64.ofInt ↑(List.length x_7.1) = (0 : Int64))) (some (false, ())) (some (decide ((0 : Int64) = 0), ()))) = some (true, ()) := by
        rintro y ⟨due', wt', se', st', ag', rfl⟩
        rw [ack_zero (n + 1)]
        simp only [obind_s]
        rw [ack_one n]
        simp only [obind_s]
        obtain ⟨y, hy⟩ := due_none (n + 1) 3 a b 1 2 st' ag' (k + 5000)
        rw [hy]
        rfl
      by_cases hd : k < due
      · have hd' := UInt64.lt_iff_toNat_lt.1 hd
        rw [if_pos hd]
        simp only [obind_s]
        by_cases hs : UInt64.ofInt ↑(UInt16.toNat (stop % 2000)) ≤ k
        · rw [dec_t hs]
          simp only [oite_t]
          exact tail _ ⟨_, _, _, _, _, rfl⟩
        · rw [dec_f hs]
          simp only [oite_f]
          have hsub : (k - last).toNat = k.toNat - last.toNat := UInt64.toNat_sub_of_le _ _ (UInt64.le_iff_toNat_le.2 R.past)
          have hno : ¬ b < k - last := fun h => by have := UInt64.lt_iff_toNat_lt.1 h; have := R.dueEq; have := R.high; omega
          rw [dec_f hno]
          simp only [List.length_nil]
          rw [show decide (Int64.ofInt ↑(0 : Nat) = (0 : Int64)) = true from by decide]
          simp only [oite_t, oite_f]
          refine ih (k + 1) last wait due wt g se st ag (by omega) (by omega) (by omega) ⟨R.dueEq, by omega, by have := R.past; omega, R.low, R.high, R.next, R.gap⟩
      · have hd' : k.toNat = due.toNat := by have := mt UInt64.lt_iff_toNat_lt.2 hd; have := R.within; omega
        rw [if_neg hd]
        simp only [obind_s]
        by_cases hs : UInt64.ofInt ↑(UInt16.toNat (stop % 2000)) ≤ k
        · rw [dec_t hs]
          simp only [oite_t]
          exact tail _ ⟨_, _, _, _, _, rfl⟩
        · rw [dec_f hs]
          simp only [oite_f]
          have hsub : (k - last).toNat = g := by rw [UInt64.toNat_sub_of_le _ _ (UInt64.le_iff_toNat_le.2 R.past)]; have := R.dueEq; omega
          have q1 : (0 : UInt64) < k := UInt64.lt_iff_toNat_lt.2 (by omega)
          have q2 : ¬ k - last < a := fun h => by have := UInt64.lt_iff_toNat_lt.1 h; have := R.low; omega
          have q3 : ¬ b < k - last := fun h => by have := UInt64.lt_iff_toNat_lt.1 h; have := R.high; omega
          have q4 : ¬ k - last < wait := fun h => by have := UInt64.lt_iff_toNat_lt.1 h; rcases R.gap with ⟨e, _⟩ | ⟨_, e, _⟩ <;> omega
          rw [show decide (Int64.ofInt ↑(List.length [((1 : UInt64), (7 : UInt64), due, wt, se, false)]) = (0 : Int64)) = false from rfl, dec_t q1, dec_f q2, dec_f q3, dec_f q4]
          simp only [oite_t, oite_f]
          have hadd : (k + wt).toNat = k.toNat + wt.toNat := by have := UInt64.toNat_add k wt; have := R.next; omega
          have hmul : ((2 : UInt64) * wt).toNat = 2 * wt.toNat := by rw [UInt64.toNat_mul, show (2 : UInt64).toNat = 2 from rfl]; have := R.next; omega
          have hmin := minU (2 * wt) b
          rw [hmul] at hmin
          have low := R.low
          have high := R.high
          have nx := R.next
          have next := ih (k + 1) k (k - last) (k + wt) (IK.minI IntKind.u64 (2 * wt) b) (min (2 * g) b.toNat) true (st + 1) (if se then ag + 1 else ag) (by omega) (by omega) (by omega)
            ⟨by omega, by omega, by omega, by omega, by omega, by rw [hmin]; omega, .inr ⟨by omega, by omega, by omega⟩⟩
          by_cases hw : 0 < wait
          · have hw' := UInt64.lt_iff_toNat_lt.1 hw
            have hm2 : ((2 : UInt64) * wait).toNat = 2 * wait.toNat := by
              rw [UInt64.toNat_mul, show (2 : UInt64).toNat = 2 from rfl]
              rcases R.gap with ⟨e, _⟩ | ⟨_, e, _⟩ <;> omega
            have heq : k - last = IK.minI IntKind.u64 (2 * wait) b := by
              apply UInt64.toNat.inj
              rw [hsub, minU, hm2]
              rcases R.gap with ⟨e, _⟩ | ⟨_, _, e⟩ <;> omega
            rw [dec_t hw, dec_t heq]
            simp only [oite_t, Bool.not_true, oite_f]
            exact next
          · rw [dec_f hw]
            simp only [oite_f]
            exact next
    · rw [dec_f hlt]; rfl
theorem new_ok (n : Nat) (w : Int64) (a b : UInt64) (hw : 1 ≤ w.toInt) (hw2 : w.toInt ≤ 64) (ha : 1 ≤ a.toNat) (hb : a.toNat ≤ b.toNat) (hb2 : b.toNat ≤ 1048576) :
    F7 n (w, a, b) = some ((some (w, a, b, 0, 1, [], 0, 0), 0), ()) := by
  unfold F7
  have z1 : (1 : Int64).toInt = 1 := by decide
  have z64 : (64 : Int64).toInt = 64 := by decide
  have u1 : (1 : UInt64).toNat = 1 := rfl
  have um : (1048576 : UInt64).toNat = 1048576 := rfl
  have c1 : ¬ w < 1 := fun h => by have := Int64.lt_iff_toInt_lt.1 h; omega
  have c2 : ¬ (64 : Int64) < w := fun h => by have := Int64.lt_iff_toInt_lt.1 h; omega
  have c3 : ¬ a < 1 := fun h => by have := UInt64.lt_iff_toNat_lt.1 h; omega
  have c4 : ¬ b < a := fun h => by have := UInt64.lt_iff_toNat_lt.1 h; omega
  have c5 : ¬ (1048576 : UInt64) < b := fun h => by have := UInt64.lt_iff_toNat_lt.1 h; omega
  simp only
  rw [dec_f c1, dec_f c2, dec_f c3, dec_f c4, dec_f c5]
  rfl
theorem first_offer (n : Nat) (a b : UInt64) : F8 n (some (3, a, b, 0, 1, [], 0, 0), 7, 0) = some ((1, 0), some (3, a, b, 0, 2, [(1, 7, 0, a, false, false)], 0, 0)) := by kernel_rfl
theorem F3_eq (n : Nat) (f mo ti stop : UInt16) : F3 n (f, mo, stop, ti) = obind (F6 n ()) fun x => oite (!x.1) (some (false, ()))
    (obind (F7 n (3, 1 + UInt64.ofInt ↑(UInt16.toNat (f % 40)), 1 + UInt64.ofInt ↑(UInt16.toNat (f % 40)) + UInt64.ofInt ↑(UInt16.toNat (mo % 300)))) fun x_2 => obind (F8 n (x_2.1.1, 7, 0)) fun x_3 =>
      F3_R1021 n n ti (1 + UInt64.ofInt ↑(UInt16.toNat (f % 40))) (1 + UInt64.ofInt ↑(UInt16.toNat (f % 40)) + UInt64.ofInt ↑(UInt16.toNat (mo % 300))) x_2.1.2 0 0 (UInt64.ofInt ↑(UInt16.toNat (stop % 2000))) 0 x_3.2) := rfl
theorem first_step (n m : Nat) (hm : 2000 < m) (stop : UInt16) (a b : UInt64) (ha : 1 ≤ a.toNat) (ha2 : a.toNat ≤ 40) (hb : a.toNat ≤ b.toNat) (hb2 : b.toNat ≤ 400) (t : UInt64) (ht : t.toNat < 2000)
    (k last wait due : UInt64) (hk : k.toNat = 0) (hw : wait.toNat = 0) (hd : due.toNat = 0) (st ag : UInt64) :
    F3_R1021 (n + 3) (m + 1) stop a b 0 last wait t k (some (3, a, b, 0, 2, [(1, 7, due, a, false, false)], st, ag)) = some (true, ()) := by
  rw [F3_R1021_s]
  unfold F3_L1021
  have hbig : (1099511627776 : UInt64).toNat = 1099511627776 := rfl
  have h0 : (0 : UInt64).toNat = 0 := rfl
  have h1 : (1 : UInt64).toNat = 1 := rfl
  have hk1 := UInt64.toNat_add k 1
  by_cases hlt : k < t
  · have hlt' := UInt64.lt_iff_toNat_lt.1 hlt
    rw [dec_t hlt]
    simp only [oite_t]
    rw [due_one (n + 1) 3 a b 0 2 1 7 due a false st ag k (fun h => by have := UInt64.lt_iff_toNat_lt.1 h; omega), if_neg (fun h => by have := UInt64.lt_iff_toNat_lt.1 h; omega)]
    simp only [obind_s]
    by_cases hs : UInt64.ofInt ↑(UInt16.toNat (stop % 2000)) ≤ k
    · rw [dec_t hs]
      simp only [oite_t]
      rw [ack_zero (n + 1)]
      simp only [obind_s]
      rw [ack_one n]
      simp only [obind_s]
      obtain ⟨y, hy⟩ := due_none (n + 1) 3 a b 1 2 (st + 1) (if false = true then ag + 1 else ag) (k + 5000)
      rw [hy]
      rfl
    · rw [dec_f hs]
      simp only [oite_f]
      rw [show decide (Int64.ofInt ↑(List.length [((1 : UInt64), (7 : UInt64), due, a, false, false)]) = (0 : Int64)) = false from rfl, dec_f (show ¬ (0 : UInt64) < k from fun h => by have := UInt64.lt_iff_toNat_lt.1 h; omega)]
      simp only [oite_f]
      have hadd : (k + a).toNat = a.toNat := by have := UInt64.toNat_add k a; omega
      have hmul : ((2 : UInt64) * a).toNat = 2 * a.toNat := by rw [UInt64.toNat_mul, show (2 : UInt64).toNat = 2 from rfl]; omega
      have hmin := minU (2 * a) b
      rw [hmul] at hmin
      exact waits_loop n stop a b ha ha2 hb hb2 t ht m (k + 1) k wait (k + a) (IK.minI IntKind.u64 (2 * a) b) a.toNat true (st + 1) (if false = true then ag + 1 else ag) (by omega) (by omega) (by omega)
        ⟨by rw [hadd]; omega, by rw [hadd]; omega, by omega, by omega, by omega, hmin, .inl ⟨hw, rfl⟩⟩
  · rw [dec_f hlt]; rfl
theorem u16 (x c : UInt16) (hc : 0 < c.toNat) : (UInt64.ofInt ↑(UInt16.toNat (x % c))).toNat < c.toNat := by
  have h1 : (x % c).toNat < c.toNat := by rw [UInt16.toNat_mod]; exact Nat.mod_lt _ hc
  have h2 := u64_ofInt ((x % c).toNat : Int)
  have := UInt16.toNat_lt c
  omega
theorem waits_any (d : Nat) (hd : 2000 < d) (f mo ticks stop : UInt16) : F3 (d + 20) (f, mo, ticks, stop) = some (true, ()) := by
  rw [F3_eq, awakeS', obind_s]
  simp only [Bool.not_true, oite_f]
  have h1 := u16 f 40 (by decide)
  have h2 := u16 mo 300 (by decide)
  have h3 := u16 ticks 2000 (by decide)
  have e40 : (40 : UInt16).toNat = 40 := rfl
  have e300 : (300 : UInt16).toNat = 300 := rfl
  have e2000 : (2000 : UInt16).toNat = 2000 := rfl
  have u1 : (1 : UInt64).toNat = 1 := rfl
  have u0 : (0 : UInt64).toNat = 0 := rfl
  generalize UInt64.ofInt ↑(UInt16.toNat (f % 40)) = a0 at h1
  generalize UInt64.ofInt ↑(UInt16.toNat (mo % 300)) = b0 at h2
  generalize UInt64.ofInt ↑(UInt16.toNat (ticks % 2000)) = t at h3
  have ha := UInt64.toNat_add 1 a0
  have hb := UInt64.toNat_add (1 + a0) b0
  generalize (1 : UInt64) + a0 = a at ha hb
  generalize a + b0 = b at hb
  rw [new_ok _ 3 a b (by decide) (by decide) (by omega) (by omega) (by omega)]
  simp only [obind_s]
  rw [first_offer]
  simp only [obind_s]
  exact first_step (d + 17) (d + 19) (by omega) stop a b (by omega) (by omega) (by omega) (by omega) t (by omega) 0 0 0 0 rfl rfl rfl 0 0
theorem waits_true : ∀ x : sig3.In, PTys.fits sig3.ps x → ∃ n y, F3 n x = some y ∧ PTys.hd (.one (.c .bool)) .nil y.1 = true := by
  rintro ⟨f, mo, ticks, stop⟩ _
  exact ⟨_, (true, ()), waits_any 2001 (by omega) f mo ticks stop, rfl⟩
end Go.Proofs.Ytkgabdafhfhoiaa
