/- The law NetPlays: Send, Cut, Spoil. -/
import Derived.Test.YtkpolfffcdocnaaNpActs
open Go Go.Sx
namespace Go.Proofs.Ytkpolfffcdocnaa
def rightB (x y : UInt8) : Bool := decide (x < 32) && (decide (y < 32) && !decide (x = y))
theorem lt32 {x : UInt8} : x < 32 ↔ x.toNat < 32 := UInt8.lt_iff_toNat_lt
theorem rightB_t {x y : UInt8} (h : rightB x y = true) : x.toNat < 32 ∧ y.toNat < 32 ∧ x ≠ y := by
  unfold rightB at h
  simp only [Bool.and_eq_true, decide_eq_true_eq, Bool.not_eq_true', decide_eq_false_iff_not] at h
  exact ⟨lt32.1 h.1, lt32.1 h.2.1, h.2.2⟩
/-- Three tests that say the same. -/
theorem right_tests {R : Type} (x y : UInt8) (a b : Option R) : oite (decide ((32 : UInt8) ≤ x)) a (oite (decide ((32 : UInt8) ≤ y)) a (oite (decide (x = y)) a b)) = oite (rightB x y) b a := by
  unfold rightB
  by_cases h1 : x < 32
  · rw [dec_f (UInt8.not_le.2 h1), dec_t h1, oite_f, Bool.true_and]
    by_cases h2 : y < 32
    · rw [dec_f (UInt8.not_le.2 h2), dec_t h2, oite_f, Bool.true_and]
      cases decide (x = y) <;> rfl
    · rw [dec_t (UInt8.not_lt.1 h2), dec_f h2]; rfl
  · rw [dec_t (UInt8.not_lt.1 h1), dec_f h1]; rfl
theorem act_send (n : Nat) (J : _) (x y : UInt8) (k bit : Int64) (i_ : Bool) (t : List ActT) (t1 t2 : Int64) (kind : UInt8) (q : List PkT) (cut : CutT) (ma : List Bool) (s c l : Int64) (N : Nat)
    (k6 : kind ≠ 6) (k7 : kind ≠ 7) (k8 : kind ≠ 8) (k9 : kind ≠ 9) (k10 : kind ≠ 10)
    (hq : QOK q) (hN : q.length ≤ N) (hN9 : N < 90) (hc : CutOK cut ma) (hJ : Goes J t t1 t2 N) (a0 a1 a2 : UInt8) (a3 : List UInt8) (h3 : a3.length ≤ 100) (a4 a5 : Int64) (a6 : Bool) :
    F5_J1006589 n J x y k bit i_ (rightB x y) t t1 t2 kind false (some (q, cut, s, c, l)) ma s c l a0 a1 a2 a3 a4 a5 a6 q = some (true, ()) := by
  have hl := hq.len
  unfold F5_J1006589
  rw [oite_f, dec_f k6, oite_f, dec_f k7, oite_f, dec_f k8, oite_f, dec_f k9, oite_f, dec_f k10, oite_f]
  have e9 : F9 n (some (q, cut, s, c, l), x, y, a3) = oite (rightB x y) (some (if Option.getD (mget K2 VB (link x y) cut) false = true then (21, some (q, cut, s + 1, c, l + 1)) else (0, some (q ++ [(x, y, a3, false)], cut, s + 1, c, l)))) (some (20, some (q, cut, s, c, l))) := by
    unfold F9
    simp only [oelim_s]
    rw [right_tests]
    congr 1
    rw [show decide ((65536 : Int64) < Int64.ofInt ↑a3.length) = false from dec_f fun e => by have := (i64_lt (a := 65536) (by omega) (by omega)).1 e; omega, oite_f, link_eq]
    simp only [obind_s]
    cases Option.getD (mget K2 VB (link x y) cut) false with
    | true => rfl
    | false =>
      rw [oite_f, show decide (Int64.ofInt ↑q.length = (4096 : Int64)) = false from dec_f fun e => by have := (i64_eq (b := 4096) (by omega) (by omega)).1 e; omega, oite_f, ble_t (by omega), oite_t, ble_t (by simp; omega), oite_t]
      rfl
  rw [e9]
  cases hr : rightB x y with
  | false =>
    rw [oite_f]
    simp only [obind_s, Bool.not_false, oite_t]
    exact hJ q cut ma s c l hq (by omega) hc
  | true =>
    obtain ⟨p1, p2, p3⟩ := rightB_t hr
    obtain ⟨o1, o2⟩ := u8_ok p1
    obtain ⟨o3, o4⟩ := u8_ok p2
    rw [oite_t]
    simp only [obind_s, Bool.not_true, oite_f]
    rw [o1, oite_t, o2, oite_t, o3, o4]
    simp only [Bool.and_self, oite_t]
    rw [cut_at hc p1 p2 p3]
    simp only [obind_s]
    cases Option.getD (mget K2 VB (link x y) cut) false with
    | true =>
      rw [if_pos rfl, oite_t]
      exact hJ q cut ma (s + 1) c (l + 1) hq (by omega) hc
    | false =>
      rw [if_neg (by decide), oite_f, ble_t (by simp; omega), oite_t]
      exact hJ _ cut ma (s + 1) c l (hq.snoc (by omega) ⟨h3, p1, p2, p3⟩) (by simp; omega) hc
theorem act_cut (n : Nat) (J : _) (x y : UInt8) (k bit : Int64) (i_ : Bool) (t : List ActT) (t1 t2 : Int64) (q : List PkT) (cut : CutT) (ma : List Bool) (s c l : Int64) (N : Nat)
    (hq : QOK q) (hN : q.length ≤ N) (hc : CutOK cut ma) (hJ : Goes J t t1 t2 N) (a0 a1 a2 : UInt8) (a3 : List UInt8) (a4 a5 : Int64) (a6 : Bool) :
    F5_J1006589 n J x y k bit i_ (rightB x y) t t1 t2 9 false (some (q, cut, s, c, l)) ma s c l a0 a1 a2 a3 a4 a5 a6 q = some (true, ()) := by
  have hlen := hc.len
  unfold F5_J1006589
  rw [oite_f, show decide ((9 : UInt8) = 6) = false from rfl, oite_f, show decide ((9 : UInt8) = 7) = false from rfl, oite_f, show decide ((9 : UInt8) = 8) = false from rfl, oite_f,
    show decide ((9 : UInt8) = 9) = true from rfl, oite_t]
  obtain ⟨b, hb⟩ : ∃ b, b = decide (a5 % 2 = 0) := ⟨_, rfl⟩
  rw [← hb]
  have e17 : F17 n (some (q, cut, s, c, l), x, y, b) = oite (rightB x y) (some (0, some (q, (if b = true then mput K2 VB (link x y) true cut else mdel K2 VB (link x y) cut), s, c, l))) (some (20, some (q, cut, s, c, l))) := by
    unfold F17
    simp only [oelim_s]
    rw [right_tests]
    congr 1
    cases b <;> rfl
  rw [e17]
  cases hr : rightB x y with
  | false =>
    rw [oite_f]
    simp only [obind_s, ojoinA_eq]
    unfold F5_J2061496317
    exact hJ q cut ma s c l hq (by omega) hc
  | true =>
    obtain ⟨p1, p2, p3⟩ := rightB_t hr
    obtain ⟨o1, o2⟩ := u8_ok p1
    obtain ⟨o3, o4⟩ := u8_ok p2
    have hc' := cut_turn hc x y p1 p2 p3 b
    have hl' := hc'.len
    have hidx : x.toNat * 32 + y.toNat < ((ma.set (x.toNat * 32 + y.toNat) b).set (y.toNat * 32 + x.toNat) b).length := by omega
    have hs := hc'.same x y p1 p2 p3
    rw [List.getElem?_eq_getElem hidx] at hs
    have hg := List.getElem?_eq_getElem hidx
    generalize ((ma.set (x.toNat * 32 + y.toNat) b).set (y.toNat * 32 + x.toNat) b)[x.toNat * 32 + y.toNat]'hidx = v at hs hg
    have hget : ∀ u w : UInt8, link u w = link x y → F18 n (some (q, (if b = true then mput K2 VB (link x y) true cut else mdel K2 VB (link x y) cut), s, c, l), u, w) =
        some (v, some (q, (if b = true then mput K2 VB (link x y) true cut else mdel K2 VB (link x y) cut), s, c, l)) := fun u w huw => by
      unfold F18
      simp only [oelim_s]
      rw [link_eq]
      simp only [obind_s]
      rw [huw]
      exact congrArg some (Prod.ext hs rfl)
    have i1 : Nat.blt (x.toNat * 32 + y.toNat) ma.length = true := Nat.ble_eq_true_of_le (by omega)
    have i2 : Nat.blt (y.toNat * 32 + x.toNat) (List.set ma (x.toNat * 32 + y.toNat) b).length = true := Nat.ble_eq_true_of_le (by rw [List.length_set]; omega)
    rw [Int.toNat_natCast] at o2 o4
    rw [oite_t]
    simp only [obind_s, ojoinA_eq, decide_true]
    rw [show (!(true == true)) = false from rfl, oite_f, Bool.not_true, oite_f]
    unfold F5_J2061496317
    rw [← hb]
    simp only [Int.toNat_natCast, o1, o2, o3, o4, Bool.and_self, oite_t, i1, i2]
    rw [hget x y rfl]
    simp only [obind_s]
    rw [hg]
    simp only [obind_s]
    rw [show (!(v == v)) = false from by cases v <;> rfl, oite_f, hget y x (link_comm y x)]
    simp only [obind_s]
    rw [show (!(v == v)) = false from by cases v <;> rfl, oite_f]
    exact hJ q _ _ s c l hq (by omega) hc'
end Go.Proofs.Ytkpolfffcdocnaa
