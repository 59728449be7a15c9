/- The law NetPlays: one act. -/
import Derived.Test.YtkpolfffcdocnaaNpCut
open Go Go.Sx
namespace Go.Proofs.Ytkpolfffcdocnaa
abbrev ActT := UInt8 × UInt8 × UInt8 × List UInt8 × Int64 × Int64 × Bool
def Goes (J : List ActT → Int64 → Int64 → Option NetT → List Bool → Int64 → Int64 → Int64 → List PkT → Option (Bool × Unit)) (t : List ActT) (t1 t2 : Int64) (N : Nat) : Prop :=
  ∀ q cut ma s c l, QOK q → q.length ≤ N + 1 → CutOK cut ma → J t t1 t2 (some (q, cut, s, c, l)) ma s c l q = some (true, ())
theorem u8_ok {x : UInt8} (h : x.toNat < 32) : decide ((0 : Int) ≤ ↑(UInt8.toNat x)) = true ∧ Nat.blt (Int.toNat ↑(UInt8.toNat x)) 32 = true :=
  ⟨dec_t (by omega), by rw [Int.toNat_natCast]; exact Nat.ble_eq_true_of_le h⟩
theorem cut_at {cut : CutT} {ma : List Bool} (h : CutOK cut ma) {x y : UInt8} (hx : x.toNat < 32) (hy : y.toNat < 32) (hne : x ≠ y) :
    ma[Int.toNat ↑(UInt8.toNat x) * 32 + Int.toNat ↑(UInt8.toNat y)]? = some (Option.getD (mget K2 VB (link x y) cut) false) := by
  have hl := h.len
  rw [h.same x y hx hy hne, Int.toNat_natCast, Int.toNat_natCast, List.getElem?_eq_getElem (by omega)]
  rfl
/-- Deliver. -/
theorem act_deliver (n : Nat) (J : _) (x y : UInt8) (k bit : Int64) (right : Bool) (t : List ActT) (t1 t2 : Int64) (kind : UInt8) (q : List PkT) (cut : CutT) (ma : List Bool) (s c l : Int64) (N : Nat)
    (hq : QOK q) (hN : q.length ≤ N) (hc : CutOK cut ma) (hJ : Goes J t t1 t2 N) (a0 a1 a2 : UInt8) (a3 : List UInt8) (a4 a5 : Int64) (a6 : Bool) :
    F5_J1006589 n J x y k bit (inQ k q) right t t1 t2 kind true (some (q, cut, s, c, l)) ma s c l a0 a1 a2 a3 a4 a5 a6 q = some (true, ()) := by
  have hl := hq.len
  unfold F5_J1006589
  rw [oite_t]
  have e23 := has_eq n (q, cut, s, c, l) k
  cases hin : inQ k q with
  | false =>
    have e14 : F14 n (some (q, cut, s, c, l), k) = some (((0, 0, []), false), some (q, cut, s, c, l)) := by
      unfold F14
      rw [e23]
      simp only [obind_s]
      rw [hin]; rfl
    rw [e14]
    simp only [obind_s, Bool.not_false, oite_t, oite_f]
    exact hJ q cut ma s c l hq (by omega) hc
  | true =>
    obtain ⟨i, hi, rfl⟩ := inQ_true hin (by omega)
    obtain ⟨p1, p2, p3, p4⟩ := hq.each _ (List.getElem_mem hi)
    obtain ⟨o1, o2⟩ := u8_ok p2
    obtain ⟨o3, o4⟩ := u8_ok p3
    have e14 : F14 n (some (q, cut, s, c, l), I64 i) = some (if Option.getD (mget K2 VB (link q[i].1 q[i].2.1) cut) false = true then (((0, 0, []), false), some (q.eraseIdx i, cut, s, c, l + 1)) else (((q[i].1, q[i].2.1, q[i].2.2.1), true), some (q.eraseIdx i, cut, s, c + 1, l))) := by
      unfold F14
      rw [e23]
      simp only [obind_s]
      rw [hin, Bool.not_true, oite_f, take_at n (q, cut, s, c, l) hq i hi]
      simp only [obind_s]
      rw [link_eq]
      simp only [obind_s]
      cases Option.getD (mget K2 VB (link q[i].1 q[i].2.1) cut) false <;> rfl
    rw [e14, mtake_at n q _ hl i hi]
    simp only [obind_s, Bool.not_true, oite_f, ojoinA_eq]
    rw [o1, oite_t, o2, oite_t, o3, o4]
    simp only [Bool.and_self, oite_t]
    rw [cut_at hc p2 p3 p4]
    simp only [obind_s]
    have hlen : (q.eraseIdx i).length ≤ N + 1 := by rw [List.length_eraseIdx]; split <;> omega
    cases Option.getD (mget K2 VB (link q[i].1 q[i].2.1) cut) false with
    | true =>
      rw [if_pos rfl]
      exact hJ _ cut ma s c (l + 1) (hq.erase i) hlen hc
    | false =>
      rw [if_neg (by decide)]
      simp only [decide_true, Bool.not_true, oite_f, oite_t]
      rw [show (!(true == !false)) = false from rfl, oite_f, show (!q[i].2.2.1 == q[i].2.2.1) = false from by simp, oite_f]
      exact hJ _ cut ma s (c + 1) l (hq.erase i) hlen hc
/-- Drop. -/
theorem act_drop (n : Nat) (J : _) (x y : UInt8) (k bit : Int64) (right : Bool) (t : List ActT) (t1 t2 : Int64) (q : List PkT) (cut : CutT) (ma : List Bool) (s c l : Int64) (N : Nat)
    (hq : QOK q) (hN : q.length ≤ N) (hc : CutOK cut ma) (hJ : Goes J t t1 t2 N) (a0 a1 a2 : UInt8) (a3 : List UInt8) (a4 a5 : Int64) (a6 : Bool) :
    F5_J1006589 n J x y k bit (inQ k q) right t t1 t2 6 false (some (q, cut, s, c, l)) ma s c l a0 a1 a2 a3 a4 a5 a6 q = some (true, ()) := by
  have hl := hq.len
  unfold F5_J1006589
  rw [oite_f, show decide ((6 : UInt8) = 6) = true from rfl, oite_t]
  have e23 := has_eq n (q, cut, s, c, l) k
  cases hin : inQ k q with
  | false =>
    have e16 : F16 n (some (q, cut, s, c, l), k) = some (false, some (q, cut, s, c, l)) := by
      unfold F16
      rw [e23]
      simp only [obind_s]
      rw [hin]; rfl
    rw [e16]
    simp only [obind_s]
    exact hJ q cut ma s c l hq (by omega) hc
  | true =>
    obtain ⟨i, hi, rfl⟩ := inQ_true hin (by omega)
    have e16 : F16 n (some (q, cut, s, c, l), I64 i) = some (true, some (q.eraseIdx i, cut, s, c, l + 1)) := by
      unfold F16
      rw [e23]
      simp only [obind_s]
      rw [hin, Bool.not_true, oite_f, take_at n (q, cut, s, c, l) hq i hi]
      rfl
    rw [e16]
    simp only [obind_s]
    rw [show (!(true == true)) = false from rfl, oite_f, oite_t, mtake_at n q _ hl i hi]
    simp only [obind_s]
    exact hJ _ cut ma s c (l + 1) (hq.erase i) (by rw [List.length_eraseIdx]; split <;> omega) hc
theorem QOK.snoc {q : List PkT} (h : QOK q) (hl : q.length < 90) {p : PkT} (hp : p.2.2.1.length ≤ 100 ∧ p.1.toNat < 32 ∧ p.2.1.toNat < 32 ∧ p.1 ≠ p.2.1) : QOK (q ++ [p]) :=
  ⟨by simp; omega, fun z hz => by
    rcases List.mem_append.1 hz with e | e
    · exact h.each z e
    · simp only [List.mem_singleton] at e; rw [e]; exact hp⟩
/-- Double. -/
theorem act_double (n : Nat) (J : _) (x y : UInt8) (k bit : Int64) (right : Bool) (t : List ActT) (t1 t2 : Int64) (q : List PkT) (cut : CutT) (ma : List Bool) (s c l : Int64) (N : Nat)
    (hq : QOK q) (hN : q.length ≤ N) (hN9 : N < 90) (hc : CutOK cut ma) (hJ : Goes J t t1 t2 N) (a0 a1 a2 : UInt8) (a3 : List UInt8) (a4 a5 : Int64) (a6 : Bool) :
    F5_J1006589 n J x y k bit (inQ k q) right t t1 t2 7 false (some (q, cut, s, c, l)) ma s c l a0 a1 a2 a3 a4 a5 a6 q = some (true, ()) := by
  have hl := hq.len
  unfold F5_J1006589
  rw [oite_f, show decide ((7 : UInt8) = 6) = false from rfl, oite_f, show decide ((7 : UInt8) = 7) = true from rfl, oite_t]
  cases hin : inQ k q with
  | false =>
    have e10 : F10 n (some (q, cut, s, c, l), k) = some (false, some (q, cut, s, c, l)) := by
      unfold F10
      rw [peek_no n (q, cut, s, c, l) k hin]; rfl
    rw [e10]
    simp only [obind_s]
    exact hJ q cut ma s c l hq (by omega) hc
  | true =>
    obtain ⟨i, hi, rfl⟩ := inQ_true hin (by omega)
    obtain ⟨b1, b2⟩ := idx_i64 (l := q) hi (by omega)
    have e10 : F10 n (some (q, cut, s, c, l), I64 i) = some (true, some (q ++ [q[i]], cut, s, c, l)) := by
      unfold F10
      rw [peek_at n (q, cut, s, c, l) hq i hi]
      simp only [obind_s, Bool.not_true, oite_f]
      rw [show F11 n (some (q, cut, s, c, l)) = some (I64 q.length, some (q, cut, s, c, l)) from rfl]
      simp only [obind_s]
      rw [show decide (I64 q.length = 4096) = false from dec_f fun e => by have := (i64_eq (b := 4096) (by omega) (by omega)).1 e; omega, oite_f, b1, oite_t, b2]
      simp only [obind_s]
      rw [ble_t (by simp; omega), oite_t]
    rw [e10]
    simp only [obind_s]
    rw [show (!(true == true)) = false from rfl, oite_f, oite_t, b1, oite_t, b2]
    simp only [obind_s]
    rw [ble_t (by simp; omega), oite_t]
    exact hJ _ cut ma s c l (hq.snoc (by omega) (hq.each _ (List.getElem_mem hi))) (by simp; omega) hc
/-- Heal. -/
theorem act_heal (n : Nat) (J : _) (x y : UInt8) (k bit : Int64) (i_ right : Bool) (t : List ActT) (t1 t2 : Int64) (q : List PkT) (cut : CutT) (ma : List Bool) (s c l : Int64) (N : Nat)
    (hq : QOK q) (hN : q.length ≤ N) (hJ : Goes J t t1 t2 N) (a0 a1 a2 : UInt8) (a3 : List UInt8) (a4 a5 : Int64) (a6 : Bool) :
    F5_J1006589 n J x y k bit i_ right t t1 t2 10 false (some (q, cut, s, c, l)) ma s c l a0 a1 a2 a3 a4 a5 a6 q = some (true, ()) := by
  unfold F5_J1006589
  rw [oite_f, show decide ((10 : UInt8) = 6) = false from rfl, oite_f, show decide ((10 : UInt8) = 7) = false from rfl, oite_f, show decide ((10 : UInt8) = 8) = false from rfl, oite_f,
    show decide ((10 : UInt8) = 9) = false from rfl, oite_f, show decide ((10 : UInt8) = 10) = true from rfl, oite_t]
  rw [show F19 n (some (q, cut, s, c, l)) = some ((), some (q, [], s, c, l)) from rfl]
  simp only [obind_s]
  exact hJ q [] _ s c l hq (by omega) cut_none
end Go.Proofs.Ytkpolfffcdocnaa
