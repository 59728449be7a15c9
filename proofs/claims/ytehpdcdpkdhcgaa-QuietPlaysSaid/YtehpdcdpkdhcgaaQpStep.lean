/- The law QuietPlays: what one act does to the list of silences and to the list that is meant. -/
import Derived.Test.YtehpdcdpkdhcgaaQpMap
open Go Go.Sx
namespace Go.Proofs.Ytehpdcdpkdhcgaa
structure IV (n L : Nat) (tm : List Ent) (nx last : Int64) (m : List Ent) : Prop where
  perm : tm.Perm m
  keyed : Keyed m
  len : m.length ≤ L
  nx : nx = I64 L
  last : last = I64 L
  rng : ∀ p ∈ m, 1 ≤ p.1.toInt ∧ p.1.toInt ≤ (L : Int)
  fit : ∀ p ∈ m, FitAs n p.2.1
theorem AskFit_of {n : Nat} {l : List AskP} (h : FitAs n l) : AskFit l := fun a ha => (h.2 a ha).2.2
/-! ### The end of a round: the numbers and what is got -/
theorem got_loop (n : Nat) (rec : _) (last : Int64) (t : _) (t1 t2 : Int64) (tm m : List Ent) (nx : Int64) (L : Nat) (h : IV n L tm nx last m) (hL : L ≤ 90) (f : Nat) : ∀ k, k ≤ m.length → m.length - k < f →
    F5_R2076159 n rec f last (m.map (·.1)) t t1 t2 (I64 m.length) (I64 k) (some (tm, nx)) m = rec last t t1 (t2 + 1) (some (tm, nx)) m := by
  have hl := h.len
  induction f with
  | zero => intros; omega
  | succ f ih =>
    intro k hk hm
    rw [F5_R2076159_s]
    unfold F5_L2076159
    by_cases hlt : k < m.length
    · obtain ⟨b1, b2⟩ := idx_i64 (l := m) hlt (by omega)
      have hmem := List.getElem_mem hlt
      have hf := h.fit _ hmem
      have hg := get_eq n tm m nx h.perm h.keyed m[k].1 m[k].2 hmem hf.1
      rw [dec_t ((i64_lt (by omega) (by omega)).2 hlt), oite_t, b1, oite_t, b2]
      simp only [obind_s]
      rw [hg]
      simp only [obind_s]
      rw [at_i64_lt (by omega) (by simpa using hlt)]
      simp only [obind_s, List.getElem_map, decide_true, Bool.not_true, oite_f, i64_succ]
      exact ih (k + 1) (by omega) (by omega)
    · rw [dec_f (fun q => hlt ((i64_lt (by omega) (by omega)).1 q)), oite_f]
theorem round_end (n : Nat) (hn : 200 < n) (rec : _) (last : Int64) (t : _) (t1 t2 : Int64) (tm m : List Ent) (nx : Int64) (L : Nat) (h : IV n L tm nx last m) (hL : L ≤ 90) :
    F5_J129759 n rec last t t1 t2 (some (tm, nx)) m = rec last t t1 (t2 + 1) (some (tm, nx)) m := by
  have hl := h.len
  unfold F5_J129759
  rw [numbers_eq n tm m nx h.perm h.keyed (by omega) (by omega)]
  simp only [obind_s, List.length_map, decide_true, Bool.not_true, oite_f]
  exact got_loop n rec last t t1 t2 tm m nx L h hL n 0 (by omega) (by omega)
/-! ### End -/
theorem find_loop (J : _) (last : Int64) (now : UInt64) (k e want : Int64) (t : _) (t1 t2 : Int64) (S : _) (m : List Ent) (hl : m.length ≤ 90) (f : Nat) : ∀ i, i ≤ m.length → m.length - i < f → (∀ j (hj : j < m.length), j < i → m[j].1 ≠ k) →
    (∃ j, ∃ hj : j < m.length, m[j].1 = k ∧ F5_R33218413 J f last now k e want (I64 i) t t1 t2 S m = J last e 0 t t1 t2 S (upd m j m[j] now)) ∨
    ((∀ p ∈ m, p.1 ≠ k) ∧ F5_R33218413 J f last now k e want (I64 i) t t1 t2 S m = J last e want t t1 t2 S m) := by
  induction f with
  | zero => intros; omega
  | succ f ih =>
    intro i hi hm hno
    rw [F5_R33218413_s]
    unfold F5_L33218413
    by_cases hlt : i < m.length
    · obtain ⟨b1, b2⟩ := idx_i64 (l := m) hlt (by omega)
      rw [dec_t ((i64_lt (by omega) (by omega)).2 hlt), oite_t, b1, oite_t, oite_t, b2]
      simp only [obind_s]
      by_cases hk : m[i].1 = k
      · left
        refine ⟨i, hlt, hk, ?_⟩
        rw [dec_t hk, Bool.not_true, oite_f]
        unfold upd
        have e0 := i64_toInt (k := i) (by omega)
        have e1 := i64_toInt (k := i + 1) (by omega)
        by_cases hn : now ≤ m[i].2.2.1
        · rw [dec_t hn, oite_t, if_pos hn, i64_succ, e0, e1]
          have c1 : (decide ((0 : Int) ≤ ((i + 1 : Nat) : Int)) && Nat.ble (Int.toNat ((i + 1 : Nat) : Int)) m.length) = true := by rw [ble_t (by omega)]; simp; omega
          have d1 : List.take (m.length - (i + 1)) (List.drop (i + 1) m) = List.drop (i + 1) m := List.take_of_length_le (by simp)
          rw [c1]
          simp only [oite_t, Int.toNat_natCast, d1]
          by_cases h0 : i = 0
          · subst h0
            rw [show (decide (((0 : Nat) : Int) = 0) && decide (((0 : Nat) : Int) = 0)) = true from rfl, oite_t, ble_t (by simp; omega), oite_t]
            simp
          · rw [show (decide ((i : Int) = 0) && decide ((i : Int) = 0)) = false from by rw [dec_f (by omega)]; rfl, oite_f]
            have c2 : (decide ((0 : Int) ≤ (i : Int)) && decide ((i : Int) ≤ (i : Int)) && Nat.ble i m.length) = true := by rw [ble_t (by omega)]; simp
            rw [c2, oite_t, ble_t (by omega), oite_t, ble_t (by simp; omega), oite_t]
        · rw [dec_f hn, oite_f, if_neg hn, hk, e0, Int.toNat_natCast]
          rfl
      · rw [dec_f hk, Bool.not_false, oite_t, i64_succ]
        refine ih (i + 1) (by omega) (by omega) fun j hj hji => ?_
        rcases Nat.lt_or_ge j i with h | h
        · exact hno j hj h
        · have : j = i := by omega
          subst this; exact hk
    · right
      rw [dec_f (fun q => hlt ((i64_lt (by omega) (by omega)).1 q)), oite_f]
      refine ⟨fun p hp => ?_, rfl⟩
      obtain ⟨j, hj, rfl⟩ := List.getElem_of_mem hp
      exact hno j hj (by omega)
theorem upd_mem {m : List Ent} {i : Nat} (hi : i < m.length) {now : UInt64} {p : Ent} (h : p ∈ upd m i m[i] now) : ∃ q ∈ m, p.1 = q.1 ∧ p.2.1 = q.2.1 := by
  unfold upd at h
  split at h
  · rcases List.mem_append.1 h with h | h
    · exact ⟨p, List.mem_of_mem_take h, rfl, rfl⟩
    · exact ⟨p, List.mem_of_mem_drop h, rfl, rfl⟩
  · rcases List.mem_or_eq_of_mem_set h with h | h
    · exact ⟨p, h, rfl, rfl⟩
    · exact ⟨m[i], List.getElem_mem hi, by rw [h], by rw [h]⟩
theorem upd_len {m : List Ent} {i : Nat} {e : Ent} {now : UInt64} : (upd m i e now).length ≤ m.length := by
  unfold upd
  split
  · simp only [List.length_append, List.length_take, List.length_drop]; omega
  · simp
theorem act_end (n : Nat) (hn : 200 < n) (J : _) (last : Int64) (now : UInt64) (k : Int64) (t : _) (t1 t2 : Int64) (tm m : List Ent) (nx : Int64) (L : Nat) (h : IV n L tm nx last m) (hL : L ≤ 90)
    (hJ : ∀ tm' m', IV n L tm' nx last m' → J last t t1 t2 (some (tm', nx)) m' = some (true, ())) :
    (obind (F16 n (some (tm, nx), k, now)) fun x => ojoinA 8304603 _ (fun J1 => F5_R33218413 J1 n last now k x.1 14 0 t t1 t2 x.2 m) (F5_J8304603 J)) = some (true, ()) := by
  have hl := h.len
  simp only [ojoinA_eq]
  rcases find_loop (F5_J8304603 J) last now k 0 14 t t1 t2 (some (tm, nx)) m (by omega) n 0 (by omega) (by omega) (fun j _ hj => by omega) with ⟨j, hj, hk, _⟩ | ⟨hno, _⟩
  · subst hk
    obtain ⟨tm', e1, e2, e3⟩ := end_some n tm m nx now h.perm h.keyed j hj
    rw [e1]
    simp only [obind_s]
    rcases find_loop (F5_J8304603 J) last now m[j].1 0 14 t t1 t2 (some (tm', nx)) m (by omega) n 0 (by omega) (by omega) (fun j _ hj => by omega) with ⟨j', hj', hk', e⟩ | ⟨hno, _⟩
    · have : j' = j := by
        have hn := List.pairwise_iff_getElem.1 h.keyed
        rcases Nat.lt_trichotomy j' j with q | q | q
        · have := hn j' j (by simpa using hj') (by simpa using hj) q
          simp only [List.getElem_map] at this
          rw [hk'] at this; omega
        · exact q
        · have := hn j j' (by simpa using hj) (by simpa using hj') q
          simp only [List.getElem_map] at this
          rw [hk'] at this; omega
      subst this
      refine Eq.trans e ?_
      unfold F5_J8304603
      rw [show decide ((0 : Int64) = 0) = true from rfl, Bool.not_true, oite_f]
      refine hJ tm' _ ⟨e2, e3, Nat.le_trans upd_len h.len, h.nx, h.last, fun p hp => ?_, fun p hp => ?_⟩
      · obtain ⟨q, q1, q2, _⟩ := upd_mem hj hp
        rw [q2]; exact h.rng q q1
      · obtain ⟨q, q1, _, q2⟩ := upd_mem hj hp
        rw [q2]; exact h.fit q q1
    · exact absurd rfl (hno _ (List.getElem_mem hj))
  · rw [end_none n tm nx k now fun p hp => hno p (h.perm.mem_iff.1 hp)]
    simp only [obind_s]
    rcases find_loop (F5_J8304603 J) last now k 14 14 t t1 t2 (some (tm, nx)) m (by omega) n 0 (by omega) (by omega) (fun j _ hj => by omega) with ⟨j', hj', hk', e⟩ | ⟨_, e⟩
    · exact absurd hk' (hno _ (List.getElem_mem hj'))
    · refine Eq.trans e ?_
      unfold F5_J8304603
      rw [show decide ((14 : Int64) = 14) = true from rfl, Bool.not_true, oite_f]
      exact hJ tm m h
end Go.Proofs.Ytehpdcdpkdhcgaa
