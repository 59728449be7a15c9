/- The law QuietPlays: those that ended are gone; what covers an alert; one more. -/
import Derived.Test.YtehpdcdpkdhcgaaQpStep
open Go Go.Sx
namespace Go.Proofs.Ytehpdcdpkdhcgaa
/-! ### Trim -/
def live (now : UInt64) (p : Ent) : Bool := decide (now < p.2.2.2)
def cur (now : UInt64) (m : List Ent) (i : Nat) : List Ent := (m.take i).filter (live now) ++ m.drop i
theorem cur_keyed {m : List Ent} (h : Keyed m) (now : UInt64) (i : Nat) : Keyed (cur now m i) := by
  unfold Keyed cur at *
  refine h.sublist (List.Sublist.map _ ?_)
  have s : ((m.take i).filter (live now) ++ m.drop i).Sublist (m.take i ++ m.drop i) := List.filter_sublist.append (List.Sublist.refl _)
  rw [List.take_append_drop] at s
  exact s
theorem cur_succ {m : List Ent} (now : UInt64) (i : Nat) (hi : i < m.length) : cur now m (i + 1) = if live now m[i] = true then cur now m i else (m.take i).filter (live now) ++ m.drop (i + 1) := by
  unfold cur
  rw [List.take_succ_eq_append_getElem hi, List.filter_append, List.drop_eq_getElem_cons hi]
  split
  · rename_i h; simp [h]
  · rename_i h; simp [h]
theorem trim_loop (now : UInt64) (m : List Ent) (hk : Keyed m) (hl : m.length ≤ 90) (nx : Int64) (f : Nat) : ∀ (i c : Nat) (tm : List Ent), i ≤ m.length → m.length - i < f → c + (cur now m i).length = m.length → tm.Perm (cur now m i) →
    ∃ tm', F17_R29 f now (I64 c) (m.map (·.1)) (I64 m.length) (I64 i) (some (tm, nx)) = some (I64 (m.length - (m.filter (live now)).length), some (tm', nx)) ∧ tm'.Perm (m.filter (live now)) := by
  induction f with
  | zero => intros; omega
  | succ f ih =>
    intro i c tm hi hf hc hp
    rw [F17_R29_s]
    unfold F17_L29
    by_cases hlt : i < m.length
    · have hcs := cur_succ now i hlt
      have e : cur now m i = (m.take i).filter (live now) ++ m[i] :: m.drop (i + 1) := by unfold cur; rw [List.drop_eq_getElem_cons hlt]
      have hmid : (cur now m i).Perm (m[i] :: ((m.take i).filter (live now) ++ m.drop (i + 1))) := by rw [e]; exact List.perm_middle
      have hmem : m[i] ∈ tm := hp.mem_iff.2 (by rw [e]; exact List.mem_append_right _ List.mem_cons_self)
      obtain ⟨g1, g2, _⟩ := at_key m[i].1 m[i].2 tm (perm_nodup hp (cur_keyed hk now i)) hmem
      rw [dec_t ((i64_lt (by omega) (by omega)).2 hlt), oite_t, at_i64_lt (by omega) (by simpa using hlt)]
      simp only [obind_s, List.getElem_map]
      rw [g1]
      simp only [Option.getD_some, i64_succ]
      by_cases hv : now < m[i].2.2.2
      · rw [dec_f (by rw [UInt64.not_le]; exact hv), oite_f]
        have : live now m[i] = true := dec_t hv
        rw [if_pos this] at hcs
        exact ih (i + 1) c tm (by omega) (by omega) (by rw [hcs]; exact hc) (by rw [hcs]; exact hp)
      · rw [dec_t (by rw [← UInt64.not_lt]; exact hv), oite_t]
        have : ¬ live now m[i] = true := by unfold live; rw [dec_f hv]; simp
        rw [if_neg this] at hcs
        have hd := List.Perm.cons_inv (g2.symm.trans (hp.trans hmid))
        have hlen := hmid.length_eq
        simp only [List.length_cons] at hlen
        exact ih (i + 1) (c + 1) _ (by omega) (by omega) (by rw [hcs]; omega) (by rw [hcs]; exact hd)
    · have hi' : i = m.length := by omega
      subst hi'
      have e : cur now m m.length = m.filter (live now) := by unfold cur; simp
      rw [e] at hc hp
      rw [dec_f (fun q => hlt ((i64_lt (by omega) (by omega)).1 q)), oite_f]
      exact ⟨tm, by rw [show c = m.length - (m.filter (live now)).length from by omega], hp⟩
theorem left_loop (J : _) (last : Int64) (now : UInt64) (t : _) (t1 t2 : Int64) (S : _) (m : List Ent) (hl : m.length ≤ 90) (f : Nat) : ∀ (i : Nat), i ≤ m.length → m.length - i < f →
    F5_R132873709 J f last now (I64 (m.length - (m.filter (live now)).length)) t t1 t2 (I64 m.length) (I64 i) S m ((m.take i).filter (live now)) = J last t t1 t2 S (m.filter (live now)) := by
  induction f with
  | zero => intros; omega
  | succ f ih =>
    intro i hi hf
    rw [F5_R132873709_s]
    unfold F5_L132873709
    by_cases hlt : i < m.length
    · obtain ⟨b1, b2⟩ := idx_i64 (l := m) hlt (by omega)
      have hle : ((m.take i).filter (live now)).length ≤ i := Nat.le_trans (List.length_filter_le _ _) (by simp; omega)
      have hs : (m.take (i + 1)).filter (live now) = (m.take i).filter (live now) ++ [m[i]].filter (live now) := by rw [List.take_succ_eq_append_getElem hlt, List.filter_append]
      have hi' := ih (i + 1) (by omega) (by omega)
      rw [dec_t ((i64_lt (by omega) (by omega)).2 hlt), oite_t, b1, oite_t, b2]
      simp only [obind_s, i64_succ]
      by_cases hv : now < m[i].2.2.2
      · have : live now m[i] = true := dec_t hv
        rw [dec_t hv, oite_t, ble_t (by simp only [List.length_cons, List.length_nil]; omega), oite_t]
        rw [hs, show [m[i]].filter (live now) = [m[i]] from by simp [this]] at hi'
        exact hi'
      · have : live now m[i] = false := dec_f hv
        rw [dec_f hv, oite_f]
        rw [hs, show [m[i]].filter (live now) = [] from by simp [this], List.append_nil] at hi'
        exact hi'
    · have hi' : i = m.length := by omega
      subst hi'
      have hle : (m.filter (live now)).length ≤ m.length := List.length_filter_le _ _
      rw [dec_f (fun q => hlt ((i64_lt (by omega) (by omega)).1 q)), oite_f, List.take_length]
      rw [show Int64.ofInt ↑m.length - Int64.ofInt ↑(m.filter (live now)).length = I64 (m.length - (m.filter (live now)).length) from i64_sub hle]
      simp only [decide_true, Bool.not_true, oite_f]
theorem act_trim (n : Nat) (hn : 200 < n) (J : _) (last : Int64) (now : UInt64) (t : _) (t1 t2 : Int64) (tm m : List Ent) (nx : Int64) (L : Nat) (h : IV n L tm nx last m) (hL : L ≤ 90)
    (hJ : ∀ tm' m', IV n L tm' nx last m' → J last t t1 t2 (some (tm', nx)) m' = some (true, ())) :
    (obind (F17 n (some (tm, nx), now)) fun x => F5_R132873709 J n last now x.1 t t1 t2 (Int64.ofInt ↑m.length) 0 x.2 m []) = some (true, ()) := by
  have hl := h.len
  obtain ⟨tm', e1, e2⟩ := trim_loop now m h.keyed (by omega) nx n 0 0 tm (by omega) (by omega) (by simp [cur]) (by simpa [cur] using h.perm)
  have e : F17 n (some (tm, nx), now) = some (I64 (m.length - (m.filter (live now)).length), some (tm', nx)) := by
    unfold F17
    rw [numbers_eq n tm m nx h.perm h.keyed (by omega) (by omega)]
    simp only [obind_s, List.length_map]
    exact e1
  rw [e]
  simp only [obind_s]
  refine (left_loop J last now t t1 t2 (some (tm', nx)) m (by omega) n 0 (by omega) (by omega)).trans ?_
  refine hJ tm' _ ⟨e2, keyed_filter h.keyed _, Nat.le_trans (List.length_filter_le _ _) h.len, h.nx, h.last, fun p hp => h.rng p (List.mem_filter.1 hp).1, fun p hp => h.fit p (List.mem_filter.1 hp).1⟩
/-! ### Covers -/
def cov (now : UInt64) (nm : List Pair) (e : Ent) : Bool := decide (e.2.2.1 ≤ now) && (decide (now < e.2.2.2) && allA e.2.1 nm)
def first (now : UInt64) (nm : List Pair) (l : List Ent) : Int64 := match l.find? (cov now nm) with | some e => e.1 | none => 0
theorem cov_loop (n : Nat) (hn : 200 < n) (now : UInt64) (o : UInt8) (rule : List UInt8) (l : List Pair) (hl : l.length ≤ 10) (hf : Fit (namesOf o rule l)) (s : UInt8) (p : UInt64) (v : UInt8) (u : Int64)
    (tm m : List Ent) (nx last : Int64) (L : Nat) (h : IV n L tm nx last m) (hL : L ≤ 90) (f : Nat) : ∀ i, i ≤ m.length → m.length - i < f →
    F18_R13 n f now (m.map (·.1)) (I64 m.length) (I64 i) (some (tm, nx)) o rule l s p v u = some (first now (namesOf o rule l) (m.drop i), some (tm, nx)) := by
  have hml := h.len
  induction f with
  | zero => intros; omega
  | succ f ih =>
    intro i hi hm
    rw [F18_R13_s]
    unfold F18_L13
    by_cases hlt : i < m.length
    · have hmem := List.getElem_mem hlt
      have hfit := h.fit _ hmem
      obtain ⟨g1, _, _⟩ := at_key m[i].1 m[i].2 tm (perm_nodup h.perm h.keyed) (h.perm.mem_iff.2 hmem)
      rw [dec_t ((i64_lt (by omega) (by omega)).2 hlt), oite_t, at_i64_lt (by omega) (by simpa using hlt), List.drop_eq_getElem_cons hlt]
      simp only [obind_s, List.getElem_map]
      rw [g1]
      simp only [Option.getD_some, i64_succ]
      rw [covers_spec n (by omega) m[i].2.1 hfit.1 (AskFit_of hfit) m[i].2.2.1 m[i].2.2.2 o rule l hl hf s p v u now]
      simp only [obind_s]
      unfold first
      rw [List.find?_cons]
      rw [show (decide (m[i].2.2.1 ≤ now) && (decide (now < m[i].2.2.2) && allA m[i].2.1 (namesOf o rule l))) = cov now (namesOf o rule l) m[i] from rfl]
      cases cov now (namesOf o rule l) m[i] with
      | true => rfl
      | false => exact ih (i + 1) (by omega) (by omega)
    · rw [dec_f (fun q => hlt ((i64_lt (by omega) (by omega)).1 q)), oite_f, List.drop_eq_nil_of_le (by omega)]
      rfl
theorem key_ne {k : Int64} (h : 1 ≤ k.toInt) : ¬ k = 0 := fun e => by rw [e] at h; exact absurd h (by decide)
theorem want_loop (n : Nat) (hn : 200 < n) (J : _) (last : Int64) (now : UInt64) (o : UInt8) (rule : List UInt8) (l : List Pair) (hl : l.length ≤ 10) (hf : Fit (namesOf o rule l)) (s : UInt8) (p : UInt64) (v : UInt8) (u : Int64)
    (t : _) (t1 t2 : Int64) (tm m : List Ent) (nx : Int64) (L : Nat) (h : IV n L tm nx last m) (hL : L ≤ 90) (f : Nat) : ∀ (i : Nat) (want : Int64), i ≤ m.length → m.length - i < f →
    (if want = 0 then first now (namesOf o rule l) (m.drop i) else want) = first now (namesOf o rule l) m →
    F5_R531494893 n J f last now want t t1 t2 (I64 m.length) (I64 i) (some (tm, nx)) m o rule l s p v u = J last t t1 t2 (some (tm, nx)) m := by
  have hml := h.len
  induction f with
  | zero => intros; omega
  | succ f ih =>
    intro i want hi hm hw
    rw [F5_R531494893_s]
    unfold F5_L531494893
    by_cases hlt : i < m.length
    · obtain ⟨b1, b2⟩ := idx_i64 (l := m) hlt (by omega)
      have hmem := List.getElem_mem hlt
      have hfit := h.fit _ hmem
      have hr := h.rng _ hmem
      rw [dec_t ((i64_lt (by omega) (by omega)).2 hlt), oite_t, b1, oite_t, b2]
      rw [List.drop_eq_getElem_cons hlt] at hw
      simp only [obind_s, i64_succ]
      by_cases h0 : want = 0
      · rw [if_pos h0] at hw
        unfold first at hw
        rw [List.find?_cons] at hw
        rw [dec_t h0, oite_t]
        have hno : cov now (namesOf o rule l) m[i] = false → (if want = 0 then first now (namesOf o rule l) (m.drop (i + 1)) else want) = first now (namesOf o rule l) m := fun hc => by
          rw [hc] at hw
          rw [if_pos h0]; exact hw
        by_cases c1 : m[i].2.2.1 ≤ now
        · rw [dec_t c1, oite_t]
          by_cases c2 : now < m[i].2.2.2
          · rw [dec_t c2, oite_t, refs_eq n (by omega) _ hfit.1]
            simp only [obind_s]
            rw [names_b n (by omega) o rule l hl s p v u]
            simp only [obind_s]
            have hnl := names_len o rule l
            have h12 := hfit.1
            have h10 : F10 n (m[i].2.1.map refA, namesOf o rule l) = some (allA m[i].2.1 (namesOf o rule l), ()) := by
              have hq := (all_loop n (by omega) m[i].2.1 hfit.1 (AskFit_of hfit) (namesOf o rule l) (by omega) hf n 0 (by omega) (by omega)).2
              exact hq
            rw [h10]
            simp only [obind_s]
            cases hc : allA m[i].2.1 (namesOf o rule l) with
            | true =>
              have hcv : cov now (namesOf o rule l) m[i] = true := by unfold cov; rw [dec_t c1, dec_t c2, hc]; rfl
              rw [hcv] at hw
              rw [oite_t]
              exact ih (i + 1) m[i].1 (by omega) (by omega) (by rw [if_neg (key_ne hr.1)]; exact hw)
            | false =>
              have hcv : cov now (namesOf o rule l) m[i] = false := by unfold cov; rw [hc]; simp
              rw [oite_f]
              exact ih (i + 1) want (by omega) (by omega) (hno hcv)
          · have hcv : cov now (namesOf o rule l) m[i] = false := by unfold cov; rw [dec_f c2]; simp
            rw [dec_f c2, oite_f]
            exact ih (i + 1) want (by omega) (by omega) (hno hcv)
        · have hcv : cov now (namesOf o rule l) m[i] = false := by unfold cov; rw [dec_f c1]; rfl
          rw [dec_f c1, oite_f]
          exact ih (i + 1) want (by omega) (by omega) (hno hcv)
      · rw [if_neg h0] at hw
        rw [dec_f h0, oite_f]
        exact ih (i + 1) want (by omega) (by omega) (by rw [if_neg h0]; exact hw)
    · rw [List.drop_eq_nil_of_le (by omega)] at hw
      have hw : want = first now (namesOf o rule l) m := by
        by_cases h0 : want = 0
        · rw [if_pos h0] at hw; rw [h0]; exact hw
        · rw [if_neg h0] at hw; exact hw
      rw [dec_f (fun q => hlt ((i64_lt (by omega) (by omega)).1 q)), oite_f]
      have e : F18 n (some (tm, nx), (o, rule, l, s, p, v, u), now) = some (first now (namesOf o rule l) m, some (tm, nx)) := by
        unfold F18
        rw [numbers_eq n tm m nx h.perm h.keyed (by omega) (by omega)]
        simp only [obind_s, List.length_map]
        have := cov_loop n hn now o rule l hl hf s p v u tm m nx last L h hL n 0 (by omega) (by omega)
        rw [List.drop_zero] at this
        exact this
      rw [e]
      simp only [obind_s]
      rw [hw, dec_t (p := first now (namesOf o rule l) m = first now (namesOf o rule l) m) rfl]
      rfl
end Go.Proofs.Ytehpdcdpkdhcgaa
