/- The law NetPlays: Spoil; all acts. -/
import Derived.Test.YtkpolfffcdocnaaNpActs2
open Go Go.Sx
namespace Go.Proofs.Ytkpolfffcdocnaa
theorem div8 (m : Nat) (h : m < 1000) : I64 m / 8 = I64 (m / 8) := by
  apply Int64.toInt_inj.1
  rw [Int64.toInt_div, i64_toInt (by omega), i64_toInt (by omega)]
  show Int.bmod (Int.tdiv (m : Int) 8) _ = _
  rw [Int.tdiv_eq_ediv_of_nonneg (by omega), Int.bmod_eq_of_le (by omega) (by omega)]
  omega
theorem mod8 (m : Nat) (h : m < 1000) : I64 m % 8 = I64 (m % 8) := by
  apply Int64.toInt_inj.1
  rw [Int64.toInt_mod, i64_toInt (by omega), i64_toInt (by omega)]
  show Int.tmod (m : Int) 8 = _
  rw [Int.tmod_eq_emod_of_nonneg (by omega)]
  omega
theorem mul8 (L : Nat) : (8 : Int64) * I64 L = I64 (8 * L) := by
  show Int64.ofInt 8 * Int64.ofInt (L : Int) = Int64.ofInt ((8 * L : Nat) : Int)
  rw [← Int64.ofInt_mul]; congr 1
theorem QOK.set {q : List PkT} (h : QOK q) (i : Nat) {p : PkT} (hp : p.2.2.1.length ≤ 100 ∧ p.1.toNat < 32 ∧ p.2.1.toNat < 32 ∧ p.1 ≠ p.2.1) : QOK (q.set i p) :=
  ⟨by rw [List.length_set]; exact h.len, fun z hz => by
    rcases List.mem_or_eq_of_mem_set hz with e | e
    · exact h.each z e
    · rw [e]; exact hp⟩
theorem nat_of {x : Int64} (h : 0 ≤ x) : ∃ m : Nat, m < 2 ^ 63 ∧ x = I64 m := by
  have e : x = I64 x.toInt.toNat := i64_of (by have := Int64.le_iff_toInt_le.1 h; simpa using this)
  exact ⟨x.toInt.toNat, by have := Int64.toInt_lt x; omega, e⟩
/-- No bit is turned. -/
theorem spoil_no (n : Nat) (J : _) (k bit : Int64) (t : List ActT) (t1 t2 : Int64) (q : List PkT) (cut : CutT) (ma : List Bool) (s c l : Int64) (N : Nat)
    (hq : QOK q) (hN : q.length ≤ N) (hc : CutOK cut ma) (hJ : Goes J t t1 t2 N) (e13 : F13 n (some (q, cut, s, c, l), k, bit) = some (false, some (q, cut, s, c, l))) :
    F5_J257687038 n J k bit false t t1 t2 (some (q, cut, s, c, l)) ma s c l q = some (true, ()) := by
  unfold F5_J257687038
  rw [e13]
  simp only [obind_s]
  exact hJ q cut ma s c l hq (by omega) hc
theorem act_spoil (n : Nat) (J : _) (x y : UInt8) (k bit : Int64) (right : Bool) (t : List ActT) (t1 t2 : Int64) (q : List PkT) (cut : CutT) (ma : List Bool) (s c l : Int64) (N : Nat)
    (hq : QOK q) (hN : q.length ≤ N) (hc : CutOK cut ma) (hJ : Goes J t t1 t2 N) (a0 a1 a2 : UInt8) (a3 : List UInt8) (a4 a5 : Int64) (a6 : Bool) :
    F5_J1006589 n J x y k bit (inQ k q) right t t1 t2 8 false (some (q, cut, s, c, l)) ma s c l a0 a1 a2 a3 a4 a5 a6 q = some (true, ()) := by
  have hl := hq.len
  unfold F5_J1006589
  rw [oite_f, show decide ((8 : UInt8) = 6) = false from rfl, oite_f, show decide ((8 : UInt8) = 7) = false from rfl, oite_f, show decide ((8 : UInt8) = 8) = true from rfl, oite_t]
  simp only [ojoinA_eq]
  cases hin : inQ k q with
  | false =>
    rw [oite_f]
    refine spoil_no n J k bit t t1 t2 q cut ma s c l N hq hN hc hJ ?_
    unfold F13
    rw [peek_no n (q, cut, s, c, l) k hin]; rfl
  | true =>
    obtain ⟨i, hi, rfl⟩ := inQ_true hin (by omega)
    obtain ⟨b1, b2⟩ := idx_i64 (l := q) hi (by omega)
    obtain ⟨p1, p2⟩ := hq.each _ (List.getElem_mem hi)
    have e12 := peek_at n (q, cut, s, c, l) hq i hi
    rw [oite_t, b1, oite_t, b2]
    simp only [obind_s]
    cases hsp : q[i].2.2.2 with
    | true =>
      rw [Bool.not_true, oite_f]
      refine spoil_no n J _ bit t t1 t2 q cut ma s c l N hq hN hc hJ ?_
      unfold F13
      rw [e12]
      simp only [obind_s, Bool.not_true, oite_f]
      rw [b1, oite_t, b2]
      simp only [obind_s]
      rw [hsp, oite_t]
    | false =>
      rw [Bool.not_false, oite_t]
      by_cases hb0 : 0 ≤ bit
      · obtain ⟨m, hm, rfl⟩ := nat_of hb0
        rw [dec_t hb0, oite_t, oite_t]
        have e8 : (8 : Int64) * Int64.ofInt ↑q[i].2.2.1.length = I64 (8 * q[i].2.2.1.length) := mul8 _
        rw [e8]
        have hneg : decide (I64 m < 0) = false := dec_f (by rw [Int64.not_lt]; exact hb0)
        by_cases hlt : m < 8 * q[i].2.2.1.length
        · rw [dec_t ((i64_lt hm (by omega)).2 hlt)]
          have hd : m / 8 < q[i].2.2.1.length := by omega
          obtain ⟨d1, d2⟩ := idx_i64 (l := q[i].2.2.1) hd (by omega)
          have ei := i64_toInt (k := i) (by omega)
          have ed := i64_toInt (k := m / 8) (by omega)
          have hm8 : decide ((0 : Int) ≤ (I64 (m % 8)).toInt) = true := dec_t (by rw [i64_toInt (by omega)]; omega)
          obtain ⟨w, hw⟩ : ∃ w, w = List.set q[i].2.2.1 (m / 8) (q[i].2.2.1[m / 8] ^^^ IK.shl IntKind.u8 1 (I64 (m % 8)).toInt) := ⟨_, rfl⟩
          have e13 : F13 n (some (q, cut, s, c, l), I64 i, I64 m) = some (true, some (q.set i (q[i].1, q[i].2.1, w, true), cut, s, c, l)) := by
            unfold F13
            rw [e12]
            simp only [obind_s, Bool.not_true, oite_f]
            rw [b1, oite_t, b2]
            simp only [obind_s]
            rw [hsp, oite_f, hneg, oite_f, e8, dec_f (fun e => by have := (i64_le (by omega) hm).1 e; omega), oite_f, div8 m (by omega), mod8 m (by omega), d1, oite_t, d2]
            simp only [obind_s]
            simp only [hm8, oite_t]
            rw [hw, ei, ed]
            simp only [Int.toNat_natCast]
          unfold F5_J257687038
          rw [e13]
          simp only [obind_s]
          rw [show (!(true == true)) = false from rfl, oite_f, oite_t, b1, oite_t, b2]
          simp only [obind_s]
          rw [div8 m (by omega), mod8 m (by omega), d1, oite_t, d2]
          simp only [obind_s]
          simp only [hm8, oite_t]
          rw [ei, ed]
          simp only [Int.toNat_natCast]
          rw [← hw]
          have hset : i < (q.set i (q[i].1, q[i].2.1, w, q[i].2.2.2)).length := by rw [List.length_set]; exact hi
          rw [show (decide ((0 : Int) ≤ (i : Int)) && Nat.blt i (q.set i (q[i].1, q[i].2.1, w, q[i].2.2.2)).length) = true from by rw [dec_t (by omega)]; exact Nat.ble_eq_true_of_le hset, oite_t,
            List.getElem?_eq_getElem hset, List.getElem_set_self]
          simp only [obind_s]
          rw [List.set_set]
          refine hJ _ cut ma s c l (hq.set i ⟨?_, p2⟩) (by rw [List.length_set]; omega) hc
          rw [hw]; simp only [List.length_set]; exact p1
        · rw [dec_f (fun e => hlt ((i64_lt hm (by omega)).1 e))]
          refine spoil_no n J _ _ t t1 t2 q cut ma s c l N hq hN hc hJ ?_
          unfold F13
          rw [e12]
          simp only [obind_s, Bool.not_true, oite_f]
          rw [b1, oite_t, b2]
          simp only [obind_s]
          rw [hsp, oite_f, hneg, oite_f, e8, dec_t ((i64_le (by omega) hm).2 (by omega)), oite_t]
      · rw [dec_f hb0, oite_f]
        refine spoil_no n J _ bit t t1 t2 q cut ma s c l N hq hN hc hJ ?_
        unfold F13
        rw [e12]
        simp only [obind_s, Bool.not_true, oite_f]
        rw [b1, oite_t, b2]
        simp only [obind_s]
        rw [hsp, oite_f, dec_t (Int64.not_le.1 hb0), oite_t]
end Go.Proofs.Ytkpolfffcdocnaa
