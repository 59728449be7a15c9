/- The law NetPlays: what is on its way, and the queue that is meant, are the same rows. -/
import Derived.Test.YtkpolfffcdocnaaNpFns2
import Derived.Test.YtkpolfffcdocnaaSxPlain
open Go Go.Sx
namespace Go.Proofs.Ytkpolfffcdocnaa
abbrev PkT := UInt8 × UInt8 × List UInt8 × Bool
abbrev CutT := List ((UInt8 × UInt8) × Bool)
abbrev NetT := List PkT × CutT × Int64 × Int64 × Int64
abbrev K2 : VT := VT.agg (CTs.cons (CT.int IntKind.u8) (CTs.cons (CT.int IntKind.u8) CTs.nil))
abbrev VB : VT := VT.one CT.bool
def inQ (k : Int64) (q : List PkT) : Bool := bif decide (0 ≤ k) then decide (k < I64 q.length) else false
theorem inQ_true {k : Int64} {q : List PkT} (h : inQ k q = true) (hq : q.length < 2 ^ 63) : ∃ i, i < q.length ∧ k = I64 i := by
  unfold inQ at h
  by_cases h0 : 0 ≤ k
  · rw [dec_t h0] at h
    have h1 : k < I64 q.length := of_decide_eq_true h
    have e : k = I64 k.toInt.toNat := i64_of (by have := Int64.le_iff_toInt_le.1 h0; simpa using this)
    have hk : k.toInt.toNat < 2 ^ 63 := by have := Int64.toInt_lt k; omega
    rw [e] at h1
    exact ⟨k.toInt.toNat, (i64_lt hk hq).1 h1, e⟩
  · rw [dec_f h0] at h; cases h
theorem inQ_at {q : List PkT} {i : Nat} (hi : i < q.length) (hq : q.length < 2 ^ 63) : inQ (I64 i) q = true := by
  unfold inQ
  rw [show decide ((0 : Int64) ≤ I64 i) = true from dec_t ((i64_le (a := 0) (by omega) (by omega)).2 (by omega)), dec_t ((i64_lt (by omega) hq).2 hi)]; rfl
theorem has_eq (n : Nat) (s : NetT) (k : Int64) : F23 n (some s, k) = some (inQ k s.1, some s) := by
  unfold F23 inQ
  by_cases h : 0 ≤ k
  · rw [dec_t h, oite_t]; rfl
  · rw [dec_f h, oite_f]; rfl
/-- How many, how long: what is on its way. -/
structure QOK (q : List PkT) : Prop where
  len : q.length ≤ 90
  each : ∀ p ∈ q, p.2.2.1.length ≤ 100 ∧ p.1.toNat < 32 ∧ p.2.1.toNat < 32 ∧ p.1 ≠ p.2.1
theorem peek_no (n : Nat) (s : NetT) (k : Int64) (h : inQ k s.1 = false) : F12 n (some s, k) = some (((0, 0, []), false), some s) := by
  unfold F12
  rw [has_eq]
  simp only [obind_s]
  rw [h]; rfl
theorem peek_at (n : Nat) (s : NetT) (hq : QOK s.1) (i : Nat) (hi : i < s.1.length) : F12 n (some s, I64 i) = some (((s.1[i].1, s.1[i].2.1, s.1[i].2.2.1), true), some s) := by
  have hl := hq.len
  have he := (hq.each _ (List.getElem_mem hi)).1
  obtain ⟨b1, b2⟩ := idx_i64 (l := s.1) hi (by omega)
  unfold F12
  rw [has_eq]
  simp only [obind_s]
  rw [inQ_at hi (by omega), Bool.not_true, oite_f]
  rw [b1, oite_t, b2]
  simp only [obind_s]
  rw [ble_t (by omega), oite_t]
  rfl
theorem erase_parts {α : Type} (q : List α) (i : Nat) : [] ++ List.take (i - 0) (List.drop 0 q) ++ List.take (q.length - (i + 1)) (List.drop (i + 1) q) = q.eraseIdx i := by
  rw [List.eraseIdx_eq_take_drop_succ, List.take_of_length_le (l := List.drop (i + 1) q) (by simp)]
  simp
theorem take_at (n : Nat) (s : NetT) (hq : QOK s.1) (i : Nat) (hi : i < s.1.length) : F24 n (some s, I64 i) = some ((s.1[i].1, s.1[i].2.1, s.1[i].2.2.1), some (s.1.eraseIdx i, s.2)) := by
  have hl := hq.len
  obtain ⟨b1, b2⟩ := idx_i64 (l := s.1) hi (by omega)
  have e0 := i64_toInt (k := i) (by omega)
  have e1 := i64_toInt (k := i + 1) (by omega)
  unfold F24
  simp only [obind_s]
  rw [b1, oite_t, b2]
  simp only [obind_s]
  rw [i64_succ, e0, e1]
  simp only [Int.toNat_natCast]
  have c1 : (decide ((0 : Int) ≤ (i : Int)) && Nat.ble i s.1.length && true) = true := by rw [dec_t (by omega), ble_t (by omega)]; rfl
  have c2 : (decide ((0 : Int) ≤ ((i + 1 : Nat) : Int)) && Nat.ble (i + 1) s.1.length) = true := by rw [dec_t (by omega), ble_t (by omega)]; rfl
  rw [c1, oite_t, ble_t (by simp; omega), oite_t, c2, oite_t, ble_t (by simp; omega), oite_t, erase_parts]
theorem mtake_at (n : Nat) (ml : List PkT) (R : List Bool × Int64 × Int64 × Int64) (hl : ml.length ≤ 90) (i : Nat) (hi : i < ml.length) : F15 n (some (ml, R), I64 i) = some (ml[i], some (ml.eraseIdx i, R)) := by
  obtain ⟨b1, b2⟩ := idx_i64 (l := ml) hi (by omega)
  have e0 := i64_toInt (k := i) (by omega)
  have e1 := i64_toInt (k := i + 1) (by omega)
  unfold F15
  simp only [obind_s]
  rw [b1, oite_t, b2]
  simp only [obind_s]
  rw [i64_succ, e0, e1]
  simp only [Int.toNat_natCast]
  have c1 : (decide ((0 : Int) ≤ (i : Int)) && Nat.ble i ml.length && true) = true := by rw [dec_t (by omega), ble_t (by omega)]; rfl
  have c2 : (decide ((0 : Int) ≤ ((i + 1 : Nat) : Int)) && Nat.ble (i + 1) ml.length) = true := by rw [dec_t (by omega), ble_t (by omega)]; rfl
  rw [c1, oite_t, ble_t (by simp; omega), oite_t, c2, oite_t, ble_t (by simp; omega), oite_t, erase_parts]
theorem QOK.erase {q : List PkT} (h : QOK q) (i : Nat) : QOK (q.eraseIdx i) :=
  ⟨by rw [List.length_eraseIdx]; have := h.len; split <;> omega, fun p hp => h.each p (List.mem_of_mem_eraseIdx hp)⟩
/-! ### The end of a round -/
theorem same_loop (n : Nat) (rec : _) (t : _) (t1 t2 : Int64) (q : List PkT) (hq : QOK q) (cut : CutT) (ma : List Bool) (s c l : Int64) : ∀ m i, i ≤ q.length → q.length - i < m →
    F5_R4026367 n rec m t t1 t2 (I64 q.length) (I64 i) (some (q, cut, s, c, l)) ma s c l q = rec t t1 (t2 + 1) (some (q, cut, s, c, l)) ma s c l q := by
  have hl := hq.len
  intro m
  induction m with
  | zero => intros; omega
  | succ m ih =>
    intro i hi hm
    rw [F5_R4026367_s]
    unfold F5_L4026367
    by_cases hlt : i < q.length
    · obtain ⟨b1, b2⟩ := idx_i64 (l := q) hlt (by omega)
      rw [dec_t ((i64_lt (by omega) (by omega)).2 hlt), oite_t, b1, oite_t, b2]
      simp only [obind_s]
      rw [peek_at n (q, cut, s, c, l) hq i hlt]
      simp only [obind_s, decide_true, Bool.not_true, oite_f]
      rw [show (!q[i].2.2.1 == q[i].2.2.1) = false from by simp, oite_f, i64_succ]
      exact ih (i + 1) (by omega) (by omega)
    · rw [dec_f (fun q => hlt ((i64_lt (by omega) (by omega)).1 q)), oite_f]
theorem round_end (n : Nat) (hn : 100 < n) (rec : _) (t : _) (t1 t2 : Int64) (q : List PkT) (hq : QOK q) (cut : CutT) (ma : List Bool) (s c l : Int64) :
    F5_J251647 n rec t t1 t2 (some (q, cut, s, c, l)) ma s c l q = rec t t1 (t2 + 1) (some (q, cut, s, c, l)) ma s c l q := by
  have hl := hq.len
  unfold F5_J251647
  rw [show F20 n (some (q, cut, s, c, l)) = some ((s, c, l), some (q, cut, s, c, l)) from rfl]
  simp only [obind_s]
  rw [show F11 n (some (q, cut, s, c, l)) = some (I64 q.length, some (q, cut, s, c, l)) from rfl]
  simp only [obind_s, decide_true, Bool.not_true, oite_f]
  exact same_loop n rec t t1 t2 q hq cut ma s c l n 0 (by omega) (by omega)
end Go.Proofs.Ytkpolfffcdocnaa
