/- The law PackBytes: any bytes as a number: it is as it would be put, or an error; which one. -/
import Derived.Test.YtfhclambjgnmpaaPaNone
open Go Go.Sx
namespace Go.Proofs.Ytfhclambjgnmpaa
def lead : Nat → List UInt8 → Nat
  | _, [] => 0
  | i, c :: r => if 128 ≤ c.toNat ∧ i < 9 then lead (i + 1) r + 1 else 0
theorem lead_le : ∀ (b : List UInt8) (i : Nat), lead i b ≤ b.length
  | [], _ => by simp [lead]
  | c :: r, i => by
    simp only [lead]
    split
    · have := lead_le r (i + 1); simp; omega
    · simp
theorem lead_nine : ∀ (b : List UInt8) (i : Nat), i ≤ 9 → i + lead i b ≤ 9
  | [], i, h => by simpa [lead] using h
  | c :: r, i, h => by
    simp only [lead]
    split
    · rename_i q; have := lead_nine r (i + 1) (by omega); omega
    · omega
theorem dec_lead : ∀ (b : List UInt8) (i : Nat), i ≤ 9 →
    (lead i b = b.length → dec i b = (3, 0, [])) ∧
    ∀ h : lead i b < b.length, (i + lead i b = 9 ∧ 1 < (b[lead i b]).toNat → (dec i b).1 = 6) ∧
      (¬ (i + lead i b = 9 ∧ 1 < (b[lead i b]).toNat) → (b[lead i b]).toNat = 0 ∧ 0 < i + lead i b → (dec i b).1 = 2) ∧
      (¬ (i + lead i b = 9 ∧ 1 < (b[lead i b]).toNat) → ¬ ((b[lead i b]).toNat = 0 ∧ 0 < i + lead i b) → (dec i b).1 = 0 ∧ (dec i b).2.2 = b.drop (lead i b + 1))
  | [], i, hi => ⟨fun _ => rfl, fun h => by simp at h⟩
  | c :: r, i, hi => by
    rw [dec_cons]
    by_cases hc : 128 ≤ c.toNat ∧ i < 9
    · have e : lead i (c :: r) = lead (i + 1) r + 1 := by simp only [lead, if_pos hc]
      obtain ⟨h1, h2⟩ := dec_lead r (i + 1) (by omega)
      rw [if_neg (by omega), if_neg (by omega)]
      refine ⟨fun h => ?_, fun h => ?_⟩
      · rw [h1 (by rw [e] at h; simp at h; exact h)]
        rw [if_neg (by decide)]
      · have hlt : lead (i + 1) r < r.length := by rw [e] at h; simp at h; exact h
        have hg : (c :: r)[lead i (c :: r)] = r[lead (i + 1) r] := by simp [e]
        obtain ⟨q1, q2, q3⟩ := h2 hlt
        rw [hg, e]
        have ei : i + (lead (i + 1) r + 1) = i + 1 + lead (i + 1) r := by omega
        rw [ei]
        refine ⟨fun p => ?_, fun p p2 => ?_, fun p p2 => ?_⟩
        · have := q1 p
          rw [if_neg (by rw [this]; decide)]; exact this
        · have := q2 p p2
          rw [if_neg (by rw [this]; decide)]; exact this
        · obtain ⟨a, b⟩ := q3 p p2
          rw [if_pos a]
          exact ⟨rfl, by simp [b]⟩
    · have e : lead i (c :: r) = 0 := by simp only [lead, if_neg hc]
      refine ⟨fun h => by rw [e] at h; simp at h, fun h => ?_⟩
      have hg : (c :: r)[lead i (c :: r)] = c := by simp [e]
      rw [hg, e]
      simp only [Nat.add_zero]
      refine ⟨fun p => by rw [if_pos p], fun p p2 => ?_, fun p p2 => ?_⟩
      · rw [if_neg p, if_pos (by omega), if_pos p2]
      · have : c.toNat < 128 := by omega
        rw [if_neg p, if_pos this, if_neg p2]
        exact ⟨rfl, by simp⟩
theorem lead_step (b : List UInt8) (k : Nat) (h : k < b.length) : lead k (b.drop k) = if 128 ≤ (b[k]).toNat ∧ k < 9 then lead (k + 1) (b.drop (k + 1)) + 1 else 0 := by
  rw [List.drop_eq_getElem_cons h]; rfl
theorem end_loop (J : Arr [PT.list (CTs.cons (CT.int IntKind.u8) CTs.nil), PT.int IntKind.u64, PT.int IntKind.i64, PT.opt (OTs.cons (OT.c (CT.ro (CTs.cons (CT.int IntKind.u8) CTs.nil))) (OTs.cons (OT.c (CT.int IntKind.i64)) OTs.nil))] (Option (Bool × Unit)))
    (b : List UInt8) (hb : b.length < 2 ^ 62) (v : UInt64) (r : Option (List UInt8 × Int64)) (m : Nat) : ∀ k, k ≤ 9 → k ≤ b.length → 9 < m + k → F3_R254 J m b v (I64 k) r = J b v (I64 (k + lead k (b.drop k))) r := by
  induction m with
  | zero => intros; omega
  | succ m ih =>
    intro k hk hkb hm
    rw [F3_R254_s]
    unfold F3_L254
    by_cases hlt : k < b.length
    · rw [dec_t ((i64_lt (by omega) (by omega)).2 hlt)]
      simp only [oite_t]
      rw [at_i64_lt (by omega) hlt]
      simp only [obind_s]
      have e1 : decide ((128 : UInt8) ≤ b[k]) = decide (128 ≤ (b[k]).toNat) := by rw [decide_eq_decide, UInt8.le_iff_toNat_le]; rfl
      have e2 : decide (I64 k < (9 : Int64)) = decide (k < 9) := by rw [decide_eq_decide]; exact i64_lt (a := k) (b := 9) (by omega) (by omega)
      rw [e1, e2, lead_step b k hlt]
      by_cases h1 : 128 ≤ (b[k]).toNat
      · by_cases h2 : k < 9
        · rw [dec_t h1, dec_t h2, if_pos ⟨h1, h2⟩]
          simp only [oite_t, i64_succ]
          rw [ih (k + 1) (by omega) (by omega) (by omega)]
          congr 2; omega
        · rw [dec_t h1, dec_f h2, if_neg (fun q => h2 q.2)]; rfl
      · rw [dec_f h1, if_neg (fun q => h1 q.1)]; rfl
    · have : b.drop k = [] := List.drop_eq_nil_of_le (by omega)
      rw [dec_f (fun q => hlt ((i64_lt (by omega) (by omega)).1 q)), this]; rfl
theorem bytes_end (n : Nat) (hn : 10 < n) (b : List UInt8) (hb : b.length ≤ 30) : F3_J127 n b (decR 0 0 b).1 (I64 (lead 0 b)) (decR 0 0 b).2 = some (true, ()) := by
  obtain ⟨h1, h2⟩ := dec_lead b 0 (by omega)
  have hle := lead_le b 0
  have h9 := lead_nine b 0 (by omega)
  generalize hK : lead 0 b = K at h1 h2 hle h9
  have decEq : ∀ q, dec 0 b = q → decR 0 0 b = decF 0 1 q := fun q h => by unfold decR; rw [h]
  unfold F3_J127
  simp only [ojoinA_eq]
  have e1 : decide (I64 K = Int64.ofInt ↑(List.length b)) = decide (K = b.length) := by rw [decide_eq_decide]; exact i64_eq (by omega) (by omega)
  have e2 : decide (I64 K = (9 : Int64)) = decide (K = 9) := by rw [decide_eq_decide]; exact i64_eq (a := K) (b := 9) (by omega) (by omega)
  rw [e1, e2]
  by_cases hl : K = b.length
  · rw [decEq _ (h1 hl), decF_err _ _ _ _ _ (by decide), dec_t hl]
    rfl
  · obtain ⟨q1, q2, q3⟩ := h2 (by omega)
    have hlt : K < b.length := by omega
    rw [dec_f hl]
    simp only [oite_f]
    have atK : at? b (Int64.toInt (I64 K)) = some b[K] := at_i64_lt (by omega) hlt
    have e3 : decide ((0 : Int64) < I64 K) = decide (0 < K) := by rw [decide_eq_decide]; exact i64_lt (a := 0) (b := K) (by omega) (by omega)
    have e4 : decide (b[K] = (0 : UInt8)) = decide ((b[K]).toNat = 0) := by
      rw [decide_eq_decide]
      exact ⟨fun h => by rw [h]; rfl, fun h => UInt8.toNat_inj.1 h⟩
    have err : ∀ e u r, dec 0 b = (e, u, r) → e ≠ 0 → decR 0 0 b = (0, some (r, e)) := fun e u r h he => by rw [decEq _ h, decF_err _ _ _ _ _ he]
    -- what comes if the ninth byte doesn't count
    have rest : ¬ (0 + K = 9 ∧ 1 < (b[K]).toNat) → F3_J2043 n (F3_J255 n) b (decR 0 0 b).1 (I64 K) false (decR 0 0 b).2 = some (true, ()) := by
      intro hno
      unfold F3_J2043
      simp only [oite_f]
      rw [e3, atK]
      simp only [obind_s]
      rw [e4]
      by_cases h0 : (b[K]).toNat = 0 ∧ 0 < K
      · have hd := q2 hno ⟨h0.1, by omega⟩
        rw [dec_t h0.1, dec_t h0.2, err (dec 0 b).1 (dec 0 b).2.1 (dec 0 b).2.2 rfl (by rw [hd]; decide)]
        simp only [oite_t, err_spec, obind_s, hd]
        rfl
      · obtain ⟨d1, d2⟩ := q3 hno (by omega)
        obtain ⟨b1, b2⟩ := dec_enc_back b d1
        have hR : decR 0 0 b = (UInt64.ofNat (dec 0 b).2.1, some (b.drop (K + 1), 0)) := by
          have := decEq (0, (dec 0 b).2.1, b.drop (K + 1)) (by rw [← d1, ← d2])
          rw [this, decF_ok]; simp
        have htake : b.take (K + 1) = enc (UInt64.ofNat (dec 0 b).2.1) := by
          rw [d2] at b2
          have e := congrArg List.length b2
          simp at e
          have : (enc (UInt64.ofNat (dec 0 b).2.1)).length = K + 1 := by omega
          rw [b2, List.take_left' this]
          rw [← b2]
        have fin : F3_J255 n b (decR 0 0 b).1 (I64 K) (decR 0 0 b).2 = some (true, ()) := by
          rw [hR]
          unfold F3_J255
          simp only [err_spec, left_ok, obind_s, decide_true, oite_t]
          have l1 : Int64.ofInt ↑(List.length b) - I64 K - 1 = I64 (b.length - K - 1) := by
            rw [show Int64.ofInt ↑(List.length b) = I64 b.length from rfl, i64_sub (by omega), show (1 : Int64) = I64 1 from rfl, i64_sub (by omega)]
          have l2 : I64 (List.drop (K + 1) b).length = I64 (b.length - K - 1) := by rw [List.length_drop]; congr 1
          rw [l1, l2, ref_spec n hn, i64_succ, i64_toInt (by omega)]
          have l3 : Int.toNat ((K + 1 : Nat) : Int) = K + 1 := by omega
          rw [l3, ble_t (by omega), htake]
          simp only [decide_true, oite_t, obind_s, Bool.and_true]
          rw [dec_t (by omega)]
          simp [oite]
        by_cases hk0 : 0 < K
        · have : ¬ (b[K]).toNat = 0 := fun h => h0 ⟨h, hk0⟩
          rw [dec_t hk0, dec_f this]
          exact fin
        · rw [dec_f hk0]
          exact fin
    by_cases hk9 : K = 9
    · subst hk9
      rw [dec_t rfl]
      simp only [oite_t]
      have at9 : at? b (Int64.toInt 9) = some b[9] := at_i64_lt (k := 9) (by omega) hlt
      rw [at9]
      simp only [obind_s]
      have e5 : decide ((1 : UInt8) < b[9]) = decide (1 < (b[9]).toNat) := by rw [decide_eq_decide, UInt8.lt_iff_toNat_lt]; rfl
      rw [e5]
      by_cases h1 : 1 < (b[9]).toNat
      · have hd := q1 ⟨rfl, h1⟩
        rw [dec_t h1, err (dec 0 b).1 (dec 0 b).2.1 (dec 0 b).2.2 rfl (by rw [hd]; decide)]
        unfold F3_J2043
        simp only [oite_t, err_spec, obind_s, hd]
        rfl
      · rw [dec_f h1]
        exact rest (fun q => h1 q.2)
    · rw [dec_f hk9]
      simp only [oite_f]
      exact rest (fun q => hk9 (by omega))
theorem F3_eq (n : Nat) (b : List UInt8) : F3 n b = obind (F8 n ()) fun x => oite (!x.1) (some (false, ())) (oite (decide ((30 : Int64) < I64 b.length)) (some (true, ()))
    (obind (F10 n (some (b, 0))) fun y => F3_R254 (F3_J127 n) n b y.1 0 y.2)) := rfl
theorem bytes_true : ∀ x : sig3.In, PTys.fits sig3.ps x → ∃ y, F3 200 x = some y ∧ PTys.hd (.one (.c .bool)) .nil y.1 = true := by
  refine fun (b : List UInt8) hfit => ?_
  have hb : List.length b < 2 ^ 63 := by have := hfit.1; simp only [PTy.fits, CT.fits] at this; exact this.1
  refine ⟨(true, ()), ?_, rfl⟩
  refine (F3_eq _ _).trans ?_
  rw [awakeP, obind_s]
  simp only [Bool.not_true, oite_f]
  by_cases h : (30 : Int64) < I64 (List.length b)
  · rw [dec_t h, oite_t]
  · have hl : List.length b ≤ 30 := by have := mt (i64_lt (a := 30) (b := List.length b) (by omega) hb).2 h; omega
    rw [dec_f h, oite_f, read_spec 200 (by omega) b hb, obind_s]
    have := end_loop (F3_J127 200) b (by omega) (decR 0 0 b).1 (decR 0 0 b).2 200 0 (by omega) (by omega) (by omega)
    refine this.trans ?_
    rw [Nat.zero_add, List.drop_zero]
    exact bytes_end 200 (by omega) b hl
end Go.Proofs.Ytfhclambjgnmpaa
