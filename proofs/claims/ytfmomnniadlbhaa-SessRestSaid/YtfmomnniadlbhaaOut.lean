/- A sender, whatever is under way: what Last, Room, Offer, Due, Ack, List do with numbers and indexes. -/
import Derived.Test.YtfmomnniadlbhaaFns5
import Derived.Test.YtfmomnniadlbhaaSxPlain
import Derived.Test.YtfmomnniadlbhaaSpool
import Derived.Test.YtfmomnniadlbhaaRecv
open Go Go.Sx
namespace Go.Proofs.Ytfmomnniadlbhaa
abbrev FlT := UInt64 × UInt64 × UInt64 × UInt64 × Bool × Bool
abbrev SndT := Int64 × UInt64 × UInt64 × UInt64 × UInt64 × List FlT × UInt64 × UInt64
abbrev pr (f : FlT) : UInt64 × UInt64 := (f.1, f.2.1)
def prs (l : List FlT) : List (UInt64 × UInt64) := l.map pr
theorem prs_len (l : List FlT) : (prs l).length = l.length := List.length_map ..
abbrev flS (s : SndT) : List FlT := s.2.2.2.2.2.1
def lastI (l : List FlT) : UInt64 := match l.getLast? with | some f => f.2.1 | none => 0
theorem last_at {l : List FlT} (h : 0 < l.length) : lastI l = (l[l.length - 1]'(by omega)).2.1 := by
 unfold lastI
 rw [List.getLast?_eq_getElem?, List.getElem?_eq_getElem (by omega)]
theorem room_eq (n : Nat) (s : SndT) : F39 n (some s) = some (s.1 - I64 (flS s).length, some s) := rfl
theorem last_eq (n : Nat) (s : SndT) (hl : (flS s).length < 2 ^ 60) : F38 n (some s) = some (lastI (flS s), some s) := by
 obtain ⟨w, a, b, c, d, l, u, v⟩ := s
 dsimp only [flS] at hl ⊢
 unfold F38
 rw [oelim_s]
 dsimp only
 by_cases h0 : l.length = 0
 ·rw [dec_t (show Int64.ofInt ↑l.length = 0 from by rw [h0]; rfl), oite_t, List.length_eq_zero_iff.1 h0]; rfl
 ·rw [show decide (Int64.ofInt ↑l.length = 0) = false from dec_f (fun q => h0 ((i64_eq (a := l.length) (b := 0) (by omega) (by omega)).1 q)), oite_f, show Int64.ofInt ↑l.length - 1 = I64 (l.length - 1) from i64_sub (b := 1) (by omega)]
  obtain ⟨q1, q2⟩ := idx_i64 (l := l) (k := l.length - 1) (by omega) (by omega)
  rw [q1, oite_t, q2, obind_s, last_at (by omega)]
def OffErr (s : SndT) (index now : UInt64) : Prop := s.1 - I64 (flS s).length < 1 ∨ (1099511627776 : UInt64) < s.2.2.2.2.1 ∨ (1099511627776 : UInt64) < index ∨ (1099511627776 : UInt64) < now ∨ (0 < (flS s).length ∧ index ≤ lastI (flS s))
theorem offer_eq (n : Nat) (s : SndT) (hl : (flS s).length < 2 ^ 30) (index now : UInt64) :
  ∃ q e s', F40 n (some s, index, now) = some ((q, e), some s') ∧
   ((e ≠ 0 ∧ s' = s ∧ OffErr s index now) ∨ (e = 0 ∧ ¬ s.1 - I64 (flS s).length < 1 ∧ ¬ (1099511627776 : UInt64) < s.2.2.2.2.1 ∧ (0 < (flS s).length → ¬ index ≤ lastI (flS s)) ∧ s' = (s.1, s.2.1, s.2.2.1, s.2.2.2.1, s.2.2.2.2.1 + 1, flS s ++ [(s.2.2.2.2.1, index, now, s.2.1, false, false)], s.2.2.2.2.2.2))) := by
 obtain ⟨w, a, b, c, d, l, u, v⟩ := s
 dsimp only [flS] at hl ⊢
 unfold F40
 rw [oelim_s, room_eq]
 simp only [obind_s, flS]
 by_cases hr : w - I64 l.length < 1
 ·rw [dec_t hr, oite_t]; exact ⟨_, _, _, rfl, .inl ⟨by decide, rfl, .inl hr⟩⟩
 ·rw [dec_f hr, oite_f]
  simp only [ojoinA_eq]
  have fin : ∀ t : Bool, (t = false → 0 < l.length → ¬ index ≤ lastI l) → (t = true → 0 < l.length ∧ index ≤ lastI l) → ∃ q e s', F40_J111 index now t w a b c d u v l = some ((q, e), some s') ∧
   ((e ≠ 0 ∧ s' = (w, a, b, c, d, l, u, v) ∧ OffErr (w, a, b, c, d, l, u, v) index now) ∨ (e = 0 ∧ ¬ w - I64 l.length < 1 ∧ ¬ (1099511627776 : UInt64) < d ∧ (0 < l.length → ¬ index ≤ lastI l) ∧ s' = (w, a, b, c, d + 1, l ++ [(d, index, now, a, false, false)], u, v))) := by
   intro t ht ht2
   unfold F40_J111
   cases t with
   | true => rw [oite_t]; exact ⟨_, _, _, rfl, .inl ⟨by decide, rfl, .inr (.inr (.inr (.inr (ht2 rfl))))⟩⟩
   | false =>
    rw [oite_f]
    by_cases h1 : (1099511627776 : UInt64) < d
    ·rw [dec_t h1, oite_t]; exact ⟨_, _, _, rfl, .inl ⟨by decide, rfl, .inr (.inl h1)⟩⟩
    rw [dec_f h1, oite_f]
    by_cases h2 : (1099511627776 : UInt64) < index
    ·rw [dec_t h2, oite_t]; exact ⟨_, _, _, rfl, .inl ⟨by decide, rfl, .inr (.inr (.inl h2))⟩⟩
    rw [dec_f h2, oite_f]
    by_cases h3 : (1099511627776 : UInt64) < now
    ·rw [dec_t h3, oite_t]; exact ⟨_, _, _, rfl, .inl ⟨by decide, rfl, .inr (.inr (.inr (.inl h3)))⟩⟩
    rw [dec_f h3, oite_f, ble_t (by simp; omega), oite_t]
    exact ⟨_, _, _, rfl, .inr ⟨rfl, hr, h1, ht rfl, rfl⟩⟩
  by_cases h0 : 0 < l.length
  ·obtain ⟨q1, q2⟩ := idx_i64 (l := l) (k := l.length - 1) (by omega) (by omega)
   rw [dec_t (show (0 : Int64) < Int64.ofInt ↑l.length from (i64_lt (a := 0) (by omega) (by omega)).2 h0), oite_t, show Int64.ofInt ↑l.length - 1 = I64 (l.length - 1) from i64_sub (b := 1) (by omega), q1, oite_t, q2, obind_s]
   refine fin _ (fun hf _ => ?_) (fun hf => ⟨h0, ?_⟩)
   ·rw [last_at h0]
    exact of_decide_eq_false hf
   ·rw [last_at h0]
    exact of_decide_eq_true hf
  ·rw [show decide ((0 : Int64) < Int64.ofInt ↑l.length) = false from dec_f (fun q => h0 ((i64_lt (a := 0) (by omega) (by omega)).1 q)), oite_f]
   exact fin _ (fun _ h => absurd h h0) (fun h => by cases h)
def isDue (now : UInt64) (f : FlT) : Bool := !f.2.2.2.2.2 && !decide (now < f.2.2.1)
def dueF (now most : UInt64) (f : FlT) : FlT := if isDue now f = true then (f.1, f.2.1, now + f.2.2.2.1, IK.minI .u64 (2 * f.2.2.2.1) most, true, f.2.2.2.2.2) else f
theorem dueF_pr (now most : UInt64) (f : FlT) : pr (dueF now most f) = pr f := by unfold dueF; split <;> rfl
theorem dueL_prs (now most : UInt64) (l : List FlT) : prs (l.map (dueF now most)) = prs l := by
 unfold prs
 rw [List.map_map]
 exact List.map_congr_left fun f _ => dueF_pr now most f
theorem due_loop (now : UInt64) (w : Int64) (a b c d : UInt64) (L : List FlT) (hN : L.length < 2 ^ 30) : ∀ (m i : Nat) (u v : UInt64) (out : List FlT), i ≤ L.length → L.length - i < m → out.length ≤ i → prs out = prs ((L.take i).filter (isDue now)) →
  ∃ out' u' v', F41_R61 m now (I64 L.length) (I64 i) w a b c d u v out ((L.take i).map (dueF now b) ++ L.drop i) = some (out', some (w, a, b, c, d, L.map (dueF now b), u', v')) ∧ prs out' = prs (L.filter (isDue now)) := by
 intro m
 induction m with
 | zero => intros; omega
 | succ m ih =>
  intro i u v out hi hm ho hp
  rw [F41_R61_s]
  unfold F41_L61
  by_cases hlt : i < L.length
  ·have hlen : ((L.take i).map (dueF now b) ++ L.drop i).length = L.length := by simp; omega
   obtain ⟨q1, q2⟩ := idx_i64 (l := (L.take i).map (dueF now b) ++ L.drop i) (k := i) (by omega) (by omega)
   have hat : ((L.take i).map (dueF now b) ++ L.drop i)[i]'(by omega) = L[i] := by
    rw [List.getElem_append_right (by simp; omega)]
    simp
    congr 1; omega
   have hd : L.drop i = L[i] :: L.drop (i + 1) := List.drop_eq_getElem_cons hlt
   have ht : L.take (i + 1) = L.take i ++ [L[i]] := by rw [List.take_add_one, List.getElem?_eq_getElem hlt]; rfl
   have hset : ∀ f, ((L.take i).map (dueF now b) ++ L.drop i).set i f = (L.take i).map (dueF now b) ++ (f :: L.drop (i + 1)) := fun f => by
    rw [List.set_append_right _ _ (by simp; omega), hd]
    have : i - ((L.take i).map (dueF now b)).length = 0 := by simp; omega
    rw [this]; rfl
   rw [dec_t ((i64_lt (by omega) (by omega)).2 hlt)]
   simp only [oite_t]
   rw [q1, q2, hat]
   simp only [oite_t, obind_s, i64_succ]
   have skip : isDue now L[i] = false → ∃ out' u' v', F41_R61 m now (I64 L.length) (I64 (i + 1)) w a b c d u v out ((L.take i).map (dueF now b) ++ L.drop i) = some (out', some (w, a, b, c, d, L.map (dueF now b), u', v')) ∧ prs out' = prs (L.filter (isDue now)) := fun hn => by
    have := ih (i + 1) u v out (by omega) (by omega) (by omega) (by rw [ht, List.filter_append, hp]; simp [hn])
    rw [ht, List.map_append, List.append_assoc] at this
    have e : [L[i]].map (dueF now b) ++ L.drop (i + 1) = L.drop i := by
     have e0 : dueF now b L[i] = L[i] := by unfold dueF; rw [if_neg (by rw [hn]; decide)]
     rw [hd]
     show dueF now b L[i] :: L.drop (i + 1) = _
     rw [e0]
    rw [e] at this
    exact this
   cases hc : (L[i]).2.2.2.2.2 with
   | true => rw [oite_t]; exact skip (by unfold isDue; rw [hc]; rfl)
   | false =>
    rw [oite_f]
    by_cases hdd : now < (L[i]).2.2.1
    ·rw [dec_t hdd, oite_t]; exact skip (by unfold isDue; rw [hc, dec_t hdd]; rfl)
    ·rw [dec_f hdd, oite_f, ble_t (by simp; omega), oite_t]
     have hdue : isDue now L[i] = true := by unfold isDue; rw [hc, dec_f hdd]; rfl
     have hi' : Int.toNat (Int64.toInt (I64 i)) = i := by rw [i64_toInt (by omega)]; omega
     have go : ∀ u v f, pr f = pr L[i] → ∃ out' u' v', F41_J31455 (F41_R61 m) now (Int.toNat (Int64.toInt (I64 i))) (I64 L.length) (I64 i) w a b c d u v (out ++ [f]) ((L.take i).map (dueF now b) ++ L.drop i) = some (out', some (w, a, b, c, d, L.map (dueF now b), u', v')) ∧ prs out' = prs (L.filter (isDue now)) := by
      intro u v f hf
      unfold F41_J31455
      rw [hi', List.getElem?_eq_getElem (by omega)]
      simp only [obind_s]
      rw [List.getElem?_eq_getElem (by simp; omega)]
      simp only [obind_s, List.getElem_set_self]
      rw [List.getElem?_eq_getElem (by simp; omega)]
      simp only [obind_s, List.getElem_set_self, i64_succ]
      simp only [List.set_set]
      rw [hat, hset]
      have hI := ih (i + 1) u v (out ++ [f]) (by omega) (by omega) (by simp; omega) (by
        rw [ht, List.filter_append]
        unfold prs at hp ⊢
        rw [List.map_append, List.map_append, hp]
        simp [hdue, hf])
      rw [ht, List.map_append, List.append_assoc] at hI
      have e : dueF now b L[i] = ((L[i]).1, (L[i]).2.1, now + (L[i]).2.2.2.1, IK.minI .u64 (2 * (L[i]).2.2.2.1) b, true, (L[i]).2.2.2.2.2) := by unfold dueF; rw [if_pos hdue]
      rw [← e]
      exact hI
     simp only [ojoinA_eq]
     cases (L[i]).2.2.2.2.1 with
     | true => rw [oite_t]; exact go _ _ _ rfl
     | false => rw [oite_f]; exact go _ _ _ rfl
  ·rw [dec_f (fun q => hlt ((i64_lt (by omega) (by omega)).1 q)), oite_f]
   have : i = L.length := by omega
   subst this
   rw [List.take_length, List.drop_length, List.append_nil]
   rw [List.take_length] at hp
   exact ⟨_, _, _, rfl, hp⟩
theorem due_eq (n : Nat) (s : SndT) (hl : (flS s).length < 2 ^ 30) (hn : (flS s).length < n) (now : UInt64) :
  ∃ out s', F41 n (some s, now) = some (out, some s') ∧ prs (flS s') = prs (flS s) ∧ (prs out).Sublist (prs (flS s)) ∧ s'.1 = s.1 ∧ s'.2.1 = s.2.1 ∧ s'.2.2.1 = s.2.2.1 ∧ s'.2.2.2.2.1 = s.2.2.2.2.1 ∧
   (¬ (1099511627776 : UInt64) < now → flS s' = (flS s).map (dueF now s.2.2.1) ∧ prs out = prs ((flS s).filter (isDue now))) := by
 obtain ⟨w, a, b, c, d, l, u, v⟩ := s
 dsimp only [flS] at hl hn ⊢
 unfold F41
 rw [oelim_s]
 dsimp only
 by_cases h : (1099511627776 : UInt64) < now
 ·rw [dec_t h, oite_t]; exact ⟨_, _, rfl, rfl, List.nil_sublist _, rfl, rfl, rfl, rfl, fun q => absurd h q⟩
 ·rw [dec_f h, oite_f]
  have hD := due_loop now w a b c d l (by omega) n 0 u v [] (by omega) (by omega) (by simp) (by simp [prs])
  rw [List.take_zero, List.map_nil, List.nil_append, List.drop_zero] at hD
  obtain ⟨o, u', v', e, e2⟩ := hD
  refine ⟨o, _, e, dueL_prs _ _ _, ?_, rfl, rfl, rfl, rfl, fun _ => ⟨rfl, e2⟩⟩
  rw [e2]
  unfold prs
  exact (List.filter_sublist).map _
abbrev pq (f : FlT) : UInt64 × UInt64 × UInt64 × UInt64 := (f.1, f.2.1, f.2.2.1, f.2.2.2.1)
def pqs (l : List FlT) : List (UInt64 × UInt64 × UInt64 × UInt64) := l.map pq
theorem pqs_len (l : List FlT) : (pqs l).length = l.length := List.length_map ..
theorem pqs_set {l : List FlT} {k : Nat} (hk : k < l.length) (f : FlT) (hf : pq f = pq l[k]) : pqs (l.set k f) = pqs l := by
 unfold pqs
 rw [List.map_set, hf]
 have : pq l[k] = (l.map pq)[k]'(by simpa using hk) := by simp
 rw [this, List.set_getElem_self]
theorem prs_pqs (l : List FlT) : prs l = (pqs l).map fun q => (q.1, q.2.1) := by unfold prs pqs; rw [List.map_map]; rfl
theorem mark_loop (n : Nat) (cum bits : UInt64) (w : Int64) (a b c d u v : UInt64) (N : Nat) (hN : N < 2 ^ 30) : ∀ (m i : Nat) (sl : List FlT), sl.length = N → i ≤ N → N - i < m →
  ∃ sl', F35_R29 n m cum bits (I64 N) (I64 i) w a b c d u v sl = F35_R62 n F35_J31 n cum 0 w a b c d u v sl' ∧ pqs sl' = pqs sl := by
 intro m
 induction m with
 | zero => intros; omega
 | succ m ih =>
  intro i sl hsl hi hm
  rw [F35_R29_s]
  unfold F35_L29
  by_cases hlt : i < N
  ·obtain ⟨q1, q2⟩ := idx_i64 (l := sl) (k := i) (by omega) (by omega)
   rw [dec_t ((i64_lt (by omega) (by omega)).2 hlt)]
   simp only [oite_t]
   rw [q1, q2]
   simp only [oite_t, obind_s, i64_succ]
   have hi' : Int.toNat (Int64.toInt (I64 i)) = i := by rw [i64_toInt (by omega)]; omega
   rw [hi']
   have skip := ih (i + 1) sl hsl (by omega) (by omega)
   have put : ∀ f, pq f = pq sl[i] → ∃ sl', F35_R29 n m cum bits (I64 N) (I64 (i + 1)) w a b c d u v (sl.set i f) = F35_R62 n F35_J31 n cum 0 w a b c d u v sl' ∧ pqs sl' = pqs sl := fun f hf => by
    obtain ⟨s', e1, e2⟩ := ih (i + 1) (sl.set i f) (by simp [hsl]) (by omega) (by omega)
    exact ⟨s', e1, e2.trans (pqs_set (by omega) f hf)⟩
   cases decide ((sl[i]).1 ≤ cum) with
   | true => rw [oite_t]; exact put _ rfl
   | false =>
    rw [oite_f]
    cases decide (cum + 2 ≤ (sl[i]).1) with
    | false => rw [oite_f]; exact skip
    | true =>
     rw [oite_t]
     cases decide ((sl[i]).1 - cum - 2 < 64) with
     | false => rw [oite_f]; exact skip
     | true =>
      rw [oite_t]
      generalize decide (IK.shr IntKind.u64 bits ↑(UInt64.toNat ((sl[i]).1 - cum - 2)) &&& 1 = 1) = bb
      cases bb with
      | false => rw [oite_f]; exact skip
      | true => rw [oite_t]; exact put _ rfl
  ·rw [dec_f (fun q => hlt ((i64_lt (by omega) (by omega)).1 q)), oite_f]
   exact ⟨sl, by simp only [ojoinA_eq], rfl⟩
theorem tail_eq (n : Nat) (l : List FlT) (f : FlT) (hl : l.length < 2 ^ 30) : F51 n (f :: l, 1) = some (l, ()) := by
 unfold F51
 simp only [List.take_length]
 rw [show (decide ((0 : Int) ≤ Int64.toInt 1) && Nat.ble (Int.toNat (Int64.toInt 1)) (f :: l).length) = true from by
  rw [show Int64.toInt 1 = 1 from rfl]; simp, oite_t, show Int.toNat (Int64.toInt 1) = 1 from rfl, List.drop_one, List.tail_cons, ble_t (by omega), oite_t]
 rfl
def popI : Nat → List FlT → UInt64 → UInt64
 | 0, _, i => i
 | _ + 1, [], i => i
 | k + 1, f :: r, _ => popI k r f.2.1
theorem pop_loop (n : Nat) (cum : UInt64) (w : Int64) (a b d u v : UInt64) : ∀ (m : Nat) (c index : UInt64) (sl : List FlT), sl.length < m → sl.length < 2 ^ 30 →
  ∃ k c' sl', F35_R62 n F35_J31 m cum index w a b c d u v sl = some ((popI k sl index, 0), some (w, a, b, c', d, sl', u, v)) ∧ k ≤ sl.length ∧ pqs sl' = (pqs sl).drop k ∧ (∀ h : 0 < sl'.length, (sl'[0]).2.2.2.2.2 = false) ∧ (∀ j (h : j < sl.length), j < k → (sl[j]).1 ≤ cum) ∧ (∀ h : k < sl.length, ¬ (sl[k]).1 ≤ cum) := by
 intro m
 induction m with
 | zero => intros; omega
 | succ m ih =>
  intro c index sl hm hl
  rw [F35_R62_s]
  unfold F35_L62
  have stop : (∀ h : 0 < sl.length, ¬ (sl[0]).1 ≤ cum) → ∃ k c' sl', F35_J31 index w a b c d u v sl = some ((popI k sl index, 0), some (w, a, b, c', d, sl', u, v)) ∧ k ≤ sl.length ∧ pqs sl' = (pqs sl).drop k ∧ (∀ h : 0 < sl'.length, (sl'[0]).2.2.2.2.2 = false) ∧ (∀ j (h : j < sl.length), j < k → (sl[j]).1 ≤ cum) ∧ (∀ h : k < sl.length, ¬ (sl[k]).1 ≤ cum) := by
   intro hs
   unfold F35_J31
   by_cases h0 : 0 < sl.length
   ·rw [show decide ((0 : Int64) < Int64.ofInt ↑sl.length) = true from dec_t ((i64_lt (a := 0) (by omega) (by omega)).2 h0), oite_t, show Int.toNat (Int64.toInt 0) = 0 from rfl, show Nat.blt 0 sl.length = true from ble_t h0, oite_t, List.getElem?_eq_getElem h0]
    simp only [obind_s]
    exact ⟨0, _, _, rfl, by omega, by show _ = pqs sl; exact pqs_set h0 _ rfl, fun h => by rw [List.getElem_set_self], fun _ _ h => by omega, hs⟩
   ·rw [show decide ((0 : Int64) < Int64.ofInt ↑sl.length) = false from dec_f (fun q => h0 ((i64_lt (a := 0) (by omega) (by omega)).1 q)), oite_f]
    exact ⟨0, _, _, rfl, by omega, rfl, fun h => absurd h h0, fun _ _ h => by omega, hs⟩
  match sl, hm, hl, stop with
  | [], hm, hl, stop =>
   rw [show decide ((0 : Int64) < Int64.ofInt ↑([] : List FlT).length) = false from rfl, oite_f]
   exact stop fun h => by simp at h
  | f :: r, hm, hl, stop =>
   rw [show decide ((0 : Int64) < Int64.ofInt ↑(f :: r).length) = true from dec_t ((i64_lt (a := 0) (by omega) (by omega)).2 (by simp)), oite_t, show Int.toNat (Int64.toInt 0) = 0 from rfl, show Nat.blt 0 (f :: r).length = true from ble_t (by simp), oite_t]
   simp only [List.getElem?_cons_zero, obind_s, oite_t]
   by_cases hc : f.1 ≤ cum
   ·rw [dec_t hc, oite_t, tail_eq n r f (by simp at hl; omega)]
    simp only [obind_s]
    obtain ⟨k, c', sl', e, g1, g2, g0, g3, g4⟩ := ih f.1 f.2.1 r (by simp at hm; omega) (by simp at hl; omega)
    refine ⟨k + 1, c', sl', e, by simp; omega, g2, g0, fun j hj hk => ?_, fun h => g4 (by simpa using h)⟩
    cases j with
    | zero => exact hc
    | succ j => exact g3 j (by simpa using hj) (by omega)
   ·rw [dec_f hc, oite_f]
    exact stop fun _ => hc
theorem ack_eq (n : Nat) (s : SndT) (hl : (flS s).length < 2 ^ 30) (hn : (flS s).length < n) (cum bits : UInt64) :
  (s.2.2.2.2.1 ≤ cum ∧ F35 n (some s, cum, bits) = some ((0, 6), some s)) ∨
  (¬ s.2.2.2.2.1 ≤ cum ∧ ∃ i k s', F35 n (some s, cum, bits) = some ((i, 0), some s') ∧ s'.1 = s.1 ∧ s'.2.1 = s.2.1 ∧ s'.2.2.1 = s.2.2.1 ∧ s'.2.2.2.2.1 = s.2.2.2.2.1 ∧ k ≤ (flS s).length ∧ prs (flS s') = (prs (flS s)).drop k ∧
   (∀ j (h : j < (flS s).length), j < k → ((flS s)[j]).1 ≤ cum) ∧ (∀ h : k < (flS s).length, ¬ ((flS s)[k]).1 ≤ cum) ∧ (k = 0 → i = 0) ∧ (∀ h : k - 1 < (flS s).length, 0 < k → i = ((flS s)[k - 1]).2.1) ∧ pqs (flS s') = (pqs (flS s)).drop k ∧ (∀ h : 0 < (flS s').length, ((flS s')[0]).2.2.2.2.2 = false)) := by
 obtain ⟨w, a, b, c, d, l, u, v⟩ := s
 dsimp only [flS] at hl hn ⊢
 unfold F35
 rw [oelim_s]
 dsimp only
 by_cases h : d ≤ cum
 ·rw [dec_t h, oite_t]; exact .inl ⟨h, rfl⟩
 ·rw [dec_f h, oite_f]
  right
  refine ⟨h, ?_⟩
  obtain ⟨l1, e1, hq⟩ := mark_loop n cum bits w a b c d u v l.length (by omega) n 0 l rfl (by omega) (by omega)
  have hp : prs l1 = prs l := by rw [prs_pqs, hq, prs_pqs]
  have hlen : l1.length = l.length := by rw [← prs_len, hp, prs_len]
  have hat : ∀ j (h : j < l.length), pr (l1[j]'(by omega)) = pr l[j] := fun j h => by
   have e : (prs l1)[j]'(by rw [prs_len]; omega) = (prs l)[j]'(by rw [prs_len]; omega) := by simp only [hp]
   simpa [prs] using e
  obtain ⟨k, c', sl', e2, g1, g2, g0, g3, g4⟩ := pop_loop n cum w a b d u v n c 0 l1 (by omega) (by omega)
  have hpop : ∀ (l : List FlT) (i : UInt64) (k : Nat), k ≤ l.length → (k = 0 → popI k l i = i) ∧ (∀ h : k - 1 < l.length, 0 < k → popI k l i = (l[k - 1]).2.1) := by
   intro l
   induction l with
   | nil => intro i k hk; exact ⟨fun e => by subst e; rfl, fun h => by simp at h⟩
   | cons f r ih =>
    intro i k hk
    cases k with
    | zero => exact ⟨fun _ => rfl, fun _ h => by omega⟩
    | succ k =>
     refine ⟨fun e => by omega, fun h _ => ?_⟩
     obtain ⟨i1, i2⟩ := ih f.2.1 k (by simpa using hk)
     cases k with
     | zero => exact i1 rfl
     | succ k => exact i2 (by simp at h ⊢; omega) (by omega)
  obtain ⟨p1, p2⟩ := hpop l1 0 k g1
  refine ⟨popI k l1 0, k, (w, a, b, c', d, sl', u, v), by rw [show Int64.ofInt ↑l.length = I64 l.length from rfl, show (0 : Int64) = I64 0 from rfl, e1]; exact e2, rfl, rfl, rfl, rfl, by omega, by rw [prs_pqs, g2, hq, List.map_drop, ← prs_pqs], fun j hj hk => ?_, fun hk => ?_, p1, fun hk h0 => ?_, by rw [g2, hq], g0⟩
  ·rw [show (l[j]).1 = (l1[j]'(by omega)).1 from (congrArg Prod.fst (hat j hj)).symm]; exact g3 j (by omega) hk
  ·rw [show (l[k]).1 = (l1[k]'(by omega)).1 from (congrArg Prod.fst (hat k hk)).symm]; exact g4 (by omega)
  ·rw [p2 (by omega) h0]; exact congrArg Prod.snd (hat (k - 1) hk)
end Go.Proofs.Ytfmomnniadlbhaa
open Go Go.Sx
namespace Go.Proofs.Ytfmomnniadlbhaa
theorem bif_six {c : Bool} {y : Int64} (h : (bif c then (6 : Int64) else y) = 0) : c = false ∧ y = 0 := by
 cases c with
 | true => exact absurd (show (6 : Int64) = 0 from h) (by decide)
 | false => exact ⟨rfl, h⟩
theorem bif_else {c : Bool} {x : Int64} (h : (bif c then x else (6 : Int64)) = 0) : c = true ∧ x = 0 := by
 cases c with
 | true => exact ⟨rfl, h⟩
 | false => exact absurd (show (6 : Int64) = 0 from h) (by decide)
theorem dec_false {p : Prop} [Decidable p] (h : decide p = false) : ¬ p := of_decide_eq_false h
structure SpanOK (g : UInt8 × UInt64 × UInt64) : Prop where
 org : g.1.toNat < 32
 pos : 1 ≤ g.2.1.toNat
 le : g.2.1.toNat ≤ g.2.2.toNat
 max : g.2.2.toNat ≤ 1099511627776
theorem gapCheck_iff (o : UInt8) (a b : UInt64) : gapCheck o a b = 0 ↔ SpanOK (o, a, b) := by
 unfold gapCheck
 constructor
 ·intro h
  obtain ⟨h1, h⟩ := bif_six h
  obtain ⟨h2, h⟩ := bif_six h
  obtain ⟨h3, h⟩ := bif_six h
  obtain ⟨h4, _⟩ := bif_else h
  have h1 := UInt8.lt_iff_toNat_lt.1 (UInt8.not_le.1 (dec_false h1))
  have h2 := UInt64.le_iff_toNat_le.1 (UInt64.not_lt.1 (dec_false h2))
  have h3 := UInt64.le_iff_toNat_le.1 (UInt64.not_lt.1 (dec_false h3))
  have h4 := UInt64.le_iff_toNat_le.1 (of_decide_eq_true h4)
  exact ⟨h1, h2, h3, h4⟩
 ·rintro ⟨h1, h2, h3, h4⟩
  have e1 : decide ((32 : UInt8) ≤ o) = false := dec_f fun h => by have := UInt8.le_iff_toNat_le.1 h; have : (32 : UInt8).toNat = 32 := rfl; simp only at h1; omega
  have e2 : decide (a < 1) = false := dec_f fun h => by have := UInt64.lt_iff_toNat_lt.1 h; have : (1 : UInt64).toNat = 1 := rfl; simp only at h2; omega
  have e3 : decide (b < a) = false := dec_f fun h => by have := UInt64.lt_iff_toNat_lt.1 h; simp only at h3; omega
  have e4 : decide (b ≤ 1099511627776) = true := dec_t (UInt64.le_iff_toNat_le.2 h4)
  rw [e1, e2, e3, e4]
  rfl
theorem check_span {x : ItT} (h : itCheck x = 0) : SpanOK (spanI x) := by
 obtain ⟨g, o, seq, time, rule, labels, state, pr, v, own, go, ga, gb⟩ := x
 cases g with
 | true => exact (gapCheck_iff go ga gb).1 h
 | false =>
  have h : evCheck o seq time rule labels state pr own = 0 := h
  unfold evCheck at h
  obtain ⟨h1, h⟩ := bif_six h
  obtain ⟨h2, h⟩ := bif_six h
  obtain ⟨h3, h⟩ := bif_else h
  have h1 := UInt8.lt_iff_toNat_lt.1 (UInt8.not_le.1 (dec_false h1))
  have h2 := UInt64.le_iff_toNat_le.1 (UInt64.not_lt.1 (dec_false h2))
  have h3 := UInt64.le_iff_toNat_le.1 (of_decide_eq_true h3)
  exact ⟨h1, h2, Nat.le_refl _, h3⟩
theorem gap_check (g : UInt8 × UInt64 × UInt64) (h : SpanOK g) : itCheck (gapI g) = 0 := (gapCheck_iff g.1 g.2.1 g.2.2).2 h
def AllC (l : List EnT) : Prop := ∀ e ∈ l, itCheck e.2 = 0
theorem follow_facts {x y : ItT} (h : follow x y = true) : (spanI y).2.1.toNat = (spanI x).2.2.toNat + 1 ∧ (spanI y).2.1.toNat ≤ (spanI y).2.2.toNat := by
 obtain ⟨h1, h2⟩ := follow_gap h
 unfold follow at h
 simp only [Bool.and_eq_true, decide_eq_true_eq] at h
 obtain ⟨_, _, _, h3, h4, h5⟩ := h
 unfold spanI
 rw [if_pos h1, if_pos h2]
 simp only
 have h3 := UInt64.lt_iff_toNat_lt.1 h3
 have h4 := congrArg UInt64.toNat h4
 have e1 : (1 : UInt64).toNat = 1 := rfl
 rw [UInt64.toNat_sub_of_le _ _ (by rw [UInt64.le_iff_toNat_le]; have e0 : (0 : UInt64).toNat = 0 := rfl; omega), e1] at h4
 have e0 : (0 : UInt64).toNat = 0 := rfl
 exact ⟨by omega, UInt64.le_iff_toNat_le.1 h5⟩
theorem join_check {x y : ItT} (h : follow x y = true) (hx : itCheck x = 0) (hy : itCheck y = 0) : itCheck (joinI x y).1 = 0 := by
 have a := check_span hx
 have b := check_span hy
 obtain ⟨f1, f2⟩ := follow_facts h
 have hs := follow_span h
 unfold joinI at hs ⊢
 rw [if_pos h] at hs ⊢
 rw [span_gap] at hs
 refine gap_check _ ?_
 rw [hs]
 exact ⟨a.org, a.pos, by have := a.le; simp only; omega, b.max⟩
theorem joinL_allC {l : List EnT} (h : AllC l) (a b : Nat) : AllC (joinL l a b) := by
 rcases joinL_cases l a b with hc | ⟨ha, hb, hf, hc⟩
 ·rw [hc]; exact h
 ·rw [hc]
  intro e he
  rcases List.mem_or_eq_of_mem_set (List.mem_of_mem_eraseIdx he) with q | q
  ·exact h e q
  ·rw [q]; exact join_check hf (h _ (List.getElem_mem ha)) (h _ (List.getElem_mem hb))
theorem joinR_allC {l : List EnT} (h : AllC l) (k : Nat) (r : Option Nat) : AllC (joinR l k r) := by cases r; exact h; exact joinL_allC h _ _
theorem joinD_allC {l : List EnT} (h : AllC l) (k : Nat) (r : Option Nat) : AllC (joinD l k r) := by cases r; exact h; exact joinL_allC h _ _
theorem evTo_allC {l l' : List EnT} {k : Nat} {rU rD : Option Nat} (h : EvTo l k l' rU rD) (ht : AllC l) : AllC l' := by
 have hk := h.lt
 rw [h.eq]
 refine joinD_allC (joinR_allC ?_ _ _) _ _
 intro e he
 rcases List.mem_or_eq_of_mem_set he with q | q
 ·exact ht e q
 ·rw [q]; exact gap_check _ (check_span (ht l[k] (List.getElem_mem hk)))
theorem evs_allC {l l' : List EnT} (h : Evs l l') (ht : AllC l) : AllC l' := by
 induction h with
 | refl => exact ht
 | step _ he _ ih => exact ih (evTo_allC he ht)
theorem putY_check {x : ItT} {high : UInt64} (h : itCheck x = 0) (hold : ¬ (spanI x).2.2 ≤ high) (hjump : ¬ high + 1 < (spanI x).2.1) : itCheck (putY x high) = 0 := by
 obtain ⟨f1, f2, f3, f4⟩ := putY_facts hold hjump
 cases hx : x.1 with
 | false => rw [f4 hx]; exact h
 | true =>
  have hs := check_span h
  rw [hx] at f2
  have e : itCheck (putY x high) = gapCheck (spanI (putY x high)).1 (spanI (putY x high)).2.1 (spanI (putY x high)).2.2 := by
   generalize putY x high = y at f2
   obtain ⟨g, o, seq, time, rule, labels, state, pr, v, own, go, ga, gb⟩ := y
   dsimp only at f2
   subst f2
   rfl
  rw [e, f1]
  refine (gapCheck_iff _ _ _).2 ⟨hs.org, ?_, ?_, hs.max⟩
  ·rw [UInt64.not_le, UInt64.lt_iff_toNat_lt] at hold
   have := hs.max
   have e1 : (1 : UInt64).toNat = 1 := rfl
   simp only
   rw [UInt64.toNat_add, e1, Nat.mod_eq_of_lt (by omega)]
   omega
  ·rw [UInt64.not_le, UInt64.lt_iff_toNat_lt] at hold
   have := hs.max
   have e1 : (1 : UInt64).toNat = 1 := rfl
   simp only
   rw [UInt64.toNat_add, e1, Nat.mod_eq_of_lt (by omega)]
   omega

end Go.Proofs.Ytfmomnniadlbhaa
open Go Go.Sx
namespace Go.Proofs.Ytfmomnniadlbhaa
abbrev org (x : ItT) : UInt8 := (spanI x).1
abbrev frm (x : ItT) : Nat := (spanI x).2.1.toNat
abbrev top (x : ItT) : Nat := (spanI x).2.2.toNat
abbrev HN := UInt8 → Nat
def upN (h : HN) (x : ItT) : HN := fun p => if p = org x then max (h p) (top x) else h p
def finN (h : HN) : List ItT → HN
 | [] => h
 | x :: r => finN (upN h x) r
def ChN (h : HN) : List ItT → Prop
 | [] => True
 | x :: r => frm x ≤ h (org x) + 1 ∧ ChN (upN h x) r
def HLe (h h' : HN) : Prop := ∀ p, h p ≤ h' p
theorem HLe.refl (h : HN) : HLe h h := fun _ => Nat.le_refl _
theorem HLe.trans {a b c : HN} (h : HLe a b) (h' : HLe b c) : HLe a c := fun p => Nat.le_trans (h p) (h' p)
theorem upN_ge (h : HN) (x : ItT) : HLe h (upN h x) := fun p => by unfold upN; split <;> omega
theorem upN_mono {h h' : HN} (hl : HLe h h') (x : ItT) : HLe (upN h x) (upN h' x) := fun p => by have := hl p; unfold upN; split <;> omega
theorem finN_ge : ∀ (L : List ItT) (h : HN), HLe h (finN h L)
 | [], h => HLe.refl h
 | x :: r, h => (upN_ge h x).trans (finN_ge r _)
theorem finN_mono : ∀ (L : List ItT) {h h' : HN}, HLe h h' → HLe (finN h L) (finN h' L)
 | [], _, _, hl => hl
 | x :: r, _, _, hl => finN_mono r (upN_mono hl x)
theorem ChN.mono : ∀ {L : List ItT} {h h' : HN}, HLe h h' → ChN h L → ChN h' L
 | [], _, _, _, _ => trivial
 | x :: _, _, _, hl, hc => ⟨Nat.le_trans hc.1 (Nat.add_le_add_right (hl _) 1), hc.2.mono (upN_mono hl x)⟩
theorem finN_append : ∀ (a b : List ItT) (h : HN), finN h (a ++ b) = finN (finN h a) b
 | [], _, _ => rfl
 | x :: r, b, h => finN_append r b (upN h x)
theorem ChN_append : ∀ (a b : List ItT) (h : HN), ChN h (a ++ b) ↔ ChN h a ∧ ChN (finN h a) b
 | [], b, h => ⟨fun q => ⟨trivial, q⟩, fun q => q.2⟩
 | x :: r, b, h => by
  show (_ ∧ ChN (upN h x) (r ++ b)) ↔ (_ ∧ _) ∧ _
  rw [ChN_append r b (upN h x)]
  exact ⟨fun q => ⟨⟨q.1, q.2.1⟩, q.2.2⟩, fun q => ⟨q.1.1, q.1.2, q.2⟩⟩
theorem ChN_snoc {a : List ItT} {x : ItT} {h : HN} (h1 : ChN h a) (h2 : frm x ≤ finN h a (org x) + 1) : ChN h (a ++ [x]) := (ChN_append a [x] h).2 ⟨h1, h2, trivial⟩
theorem finN_le : ∀ {L : List ItT} {h : HN}, (∀ x ∈ L, top x ≤ h (org x)) → HLe (finN h L) h
 | [], h, _ => HLe.refl h
 | x :: r, h, hm => by
  have e : upN h x = h := by
   funext p; unfold upN; split
   ·rename_i q; have := hm x (by simp); rw [q]; omega
   ·rfl
  show HLe (finN (upN h x) r) h
  rw [e]
  exact finN_le fun y hy => hm y (by simp [hy])
theorem ChN_at {L : List ItT} {h : HN} (hc : ChN h L) {q : Nat} {x : ItT} (hx : L[q]? = some x) (hq : ∀ j y, j < q → L[j]? = some y → top y ≤ h (org y)) : frm x ≤ h (org x) + 1 := by
 have hlt : q < L.length := by rcases Nat.lt_or_ge q L.length with g | g; exact g; rw [List.getElem?_eq_none g] at hx; cases hx
 have e : L = L.take q ++ (x :: L.drop (q + 1)) := by
  have e2 : L.drop q = x :: L.drop (q + 1) := by
   rw [List.drop_eq_getElem_cons hlt]; rw [List.getElem?_eq_getElem hlt] at hx; cases hx; rfl
  rw [← e2, List.take_append_drop]
 rw [e, ChN_append] at hc
 have h2 := hc.2.1
 have h3 := finN_le (L := L.take q) (h := h) (fun y hy => by
  obtain ⟨j, hj, rfl⟩ := List.getElem_of_mem hy
  have hj' : j < q := by rw [List.length_take] at hj; omega
  have : (L.take q)[j] = L[j]'(by omega) := by simp
  rw [this]
  exact hq j _ hj' (List.getElem?_eq_getElem _)) (org x)
 omega
theorem succ_le (a : UInt64) : (a + 1).toNat ≤ a.toNat + 1 := by
 have e1 : (1 : UInt64).toNat = 1 := rfl
 rw [UInt64.toNat_add, e1]; exact Nat.mod_le _ _
def items (l : List EnT) : List ItT := l.map (·.2)
theorem okH_ChN : ∀ (l : List EnT) (a : UInt8 → UInt64) (h : HN), (∀ p, (a p).toNat ≤ h p) → okH a (spans l) → ChN h (items l) ∧ ∀ p, (finH a (spans l) p).toNat ≤ finN h (items l) p
 | [], a, h, hl, _ => ⟨trivial, hl⟩
 | e :: r, a, h, hl, hk => by
  have hk : frm e.2 = (a (org e.2) + 1).toNat ∧ okH (updH a (org e.2) (spanI e.2).2.2) (spans r) := ⟨by rw [show frm e.2 = (spanI e.2).2.1.toNat from rfl, hk.1], hk.2⟩
  have h2 : ∀ p, (updH a (org e.2) (spanI e.2).2.2 p).toNat ≤ upN h e.2 p := fun p => by
   unfold updH upN
   split
   ·exact Nat.le_max_right _ _
   ·exact hl p
  obtain ⟨i1, i2⟩ := okH_ChN r _ _ h2 hk.2
  exact ⟨⟨by rw [hk.1]; exact Nat.le_trans (succ_le _) (Nat.add_le_add_right (hl _) 1), i1⟩, i2⟩
end Go.Proofs.Ytfmomnniadlbhaa
open Go Go.Sx
namespace Go.Proofs.Ytfmomnniadlbhaa
theorem obind_of {R α : Type} {m : Option α} {a : α} (h : m = some a) (k : α → Option R) : obind m k = k a := by subst h; rfl
theorem ex2 {β γ T : Type} {X Y : T} {f : β → γ → T} {Q : β → γ → Prop} (h : X = Y) (g : ∃ b c, Y = f b c ∧ Q b c) : ∃ b c, X = f b c ∧ Q b c := by subst h; exact g
abbrev OutT := UInt8 × UInt8 × Int64 × UInt64 × UInt64 × UInt64 × UInt64 × UInt64 × Option SndT
abbrev mkO (w : Int64) (life ses other : UInt64) (sd : SndT) : OutT := (1, 0, w, 1, 4, life, ses, other, some sd)
def epO (life ses : UInt64) : UInt64 := IK.shl .u64 life 20 ||| ses
abbrev newS (w : Int64) : SndT := (w, 1, 4, 0, 1, [], 0, 0)
theorem snew_eq (n : Nat) (w : Int64) (h1 : ¬ w < 1) (h2 : ¬ (64 : Int64) < w) : F12 n (w, 1, 4) = some ((some (newS w), 0), ()) := by
 unfold F12
 rw [dec_f h1, oite_f, dec_f h2, oite_f]
 rfl
theorem restart_eq (n : Nat) (w : Int64) (life ses other : UInt64) (sd : SndT) (h1 : ¬ w < 1) (h2 : ¬ (64 : Int64) < w) (hs : ¬ (1048576 : UInt64) ≤ ses + 1) :
  F18 n (some (mkO w life ses other sd)) = some (0, some (mkO w life (ses + 1) other (newS w))) := by
 unfold F18
 rw [oelim_s]
 dsimp only
 rw [dec_f hs, oite_f, snew_eq n w h1 h2, obind_s]
theorem newOut_eq (n : Nat) (w : Int64) (life : UInt64) (h1 : ¬ w < 1) (h2 : ¬ (64 : Int64) < w) (hl : ¬ life < 1) (hl2 : ¬ (1048576 : UInt64) ≤ life) :
  F9 n (1, 0, life, w, 1, 4) = some ((some (mkO w life 1 0 (newS w)), 0), ()) := by
 have e16 : F16 n (w, 1, 4) = some (0, ()) := by
  unfold F16
  exact obind_of (snew_eq n w h1 h2) _
 have e18 : F18 n (some (1, 0, w, 1, 4, life, 0, 0, none)) = some (0, some (mkO w life 1 0 (newS w))) := by
  unfold F18
  rw [oelim_s]
  exact obind_of (snew_eq n w h1 h2) _
 unfold F9
 dsimp only
 rw [show decide ((32 : UInt8) ≤ 1) = false from rfl, show decide ((32 : UInt8) ≤ 0) = false from rfl, show decide ((1 : UInt8) = 0) = false from rfl, dec_f hl, dec_f hl2]
 simp only [oite_f]
 exact (obind_of e16 _).trans (obind_of e18 _)
abbrev addF (s : SndT) (index now : UInt64) : SndT := (s.1, s.2.1, s.2.2.1, s.2.2.2.1, s.2.2.2.2.1 + 1, flS s ++ [(s.2.2.2.2.1, index, now, s.2.1, false, false)], s.2.2.2.2.2.2)
inductive Offs (now : UInt64) : SndT → List EnT → SndT → Prop where
 | stop (s : SndT) (es : List EnT) (h : ∀ e r, es = e :: r → OffErr s e.1 now) : Offs now s es s
 | step {s s' : SndT} {e : EnT} {es : List EnT} (h1 : ¬ s.1 - I64 (flS s).length < 1) (h2 : ¬ (1099511627776 : UInt64) < s.2.2.2.2.1) (h3 : 0 < (flS s).length → ¬ e.1 ≤ lastI (flS s)) (hr : Offs now (addF s e.1 now) es s') : Offs now s (e :: es) s'
theorem fill_loop (n : Nat) (now : UInt64) (w : Int64) (life ses other : UInt64) (sp : Option SpT) (es : List EnT) (hes : es.length < 2 ^ 30) : ∀ (m i : Nat) (c : Int64) (sd : SndT), i ≤ es.length → es.length - i < m → (flS sd).length + (es.length - i) < 2 ^ 30 →
  ∃ c' sd', F20_R253 n m now c es (I64 es.length) (I64 i) 1 0 w 1 4 life ses other sp (some sd) = some (c', some (mkO w life ses other sd'), sp) ∧ Offs now sd (es.drop i) sd' := by
 intro m
 induction m with
 | zero => intros; omega
 | succ m ih =>
  intro i c sd hi hm hf
  rw [F20_R253_s]
  unfold F20_L253
  by_cases hlt : i < es.length
  ·rw [dec_t ((i64_lt (by omega) (by omega)).2 hlt), oite_t, at_i64_lt (by omega) hlt]
   simp only [obind_s, i64_succ]
   have hO := offer_eq n sd (by omega) es[i].1 now
   obtain ⟨q, e, s', e1, h⟩ := hO
   refine ex2 (obind_of e1 _) ?_
   dsimp only
   have hd : es.drop i = es[i] :: es.drop (i + 1) := List.drop_eq_getElem_cons hlt
   rcases h with ⟨h0, rfl, hE⟩ | ⟨rfl, h1, h2, h3, rfl⟩
   ·rw [dec_f h0, Bool.not_false, oite_t]
    exact ⟨_, _, rfl, .stop _ _ fun e r he => by rw [hd] at he; rw [← (List.cons.inj he).1]; exact hE⟩
   ·rw [show (!decide ((0 : Int64) = 0)) = false from rfl, oite_f]
    obtain ⟨c', sd', e2, h⟩ := ih (i + 1) (c + 1) (addF sd es[i].1 now) (by omega) (by omega) (by show (flS sd ++ [_]).length + _ < _; rw [List.length_append, List.length_singleton]; omega)
    exact ⟨c', sd', e2, by rw [hd]; exact .step h1 h2 h3 h⟩
  ·rw [dec_f (fun q => hlt ((i64_lt (by omega) (by omega)).1 q)), oite_f]
   exact ⟨_, _, rfl, .stop _ _ fun e r he => by rw [List.drop_eq_nil_of_le (by omega)] at he; cases he⟩
theorem fill_eq (n : Nat) (hn : 1001 < n) (w : Int64) (life ses other : UInt64) (sd : SndT) (sp : SpT) (hl : sp.1.2.2.2.2.length ≤ 1000) (hg : ∀ e ∈ sp.1.2.2.2.2, Good e.2) (hf : (flS sd).length < 2 ^ 28) (now : UInt64) :
  ∃ c sd', F20 n (some (mkO w life ses other sd), some sp, now) = some (c, some (mkO w life ses other sd'), some sp) ∧
   Offs now sd (listGo (IK.maxI .u64 sp.1.2.2.2.1 (lastI (flS sd))) (sd.1 - I64 (flS sd).length) sp.1.2.2.2.2 []) sd' := by
 have hlen := listGo_len (IK.maxI .u64 sp.1.2.2.2.1 (lastI (flS sd))) (sd.1 - I64 (flS sd).length) sp.1.2.2.2.2 []
 have hlp := fill_loop n now w life ses other (some sp) (listGo (IK.maxI .u64 sp.1.2.2.2.1 (lastI (flS sd))) (sd.1 - I64 (flS sd).length) sp.1.2.2.2.2 []) (by simp at hlen; omega) n 0 0 sd (by omega) (by simp at hlen; omega) (by simp at hlen; omega)
 have e27 : F27 n (some ((sp.1.1, sp.1.2.1, sp.1.2.2.1, sp.1.2.2.2.1, sp.1.2.2.2.2), sp.2.1, sp.2.2)) = some ((I64 sp.1.2.2.2.2.length, sp.1.2.1, sp.1.2.2.1, sp.1.2.2.2.1, sp.2.2), some sp) := rfl
 refine ex2 ?_ hlp
 unfold F20
 rw [oelim_s, oelim_s]
 refine (obind_of e27 _).trans ?_
 refine (obind_of (last_eq n sd (by omega)) _).trans ?_
 refine (obind_of (room_eq n sd) _).trans ?_
 exact obind_of (list_spec n hn sp hl hg (IK.maxI .u64 sp.1.2.2.2.1 (lastI (flS sd))) (sd.1 - I64 (flS sd).length)) _
abbrev FrT := UInt8 × UInt8 × UInt8 × UInt64 × UInt64 × Bool × UInt8 × UInt64 × UInt64 × List UInt8 × List Pair × UInt8 × UInt8 × Int64 × UInt8 × UInt8 × UInt64 × UInt64 × UInt64 × UInt64 × UInt64
abbrev dataF (ep sq : UInt64) (x : ItT) : FrT := (1, 1, 0, ep, sq, x.1, x.2.1, x.2.2.1, x.2.2.2.1, x.2.2.2.2.1, x.2.2.2.2.2.1, x.2.2.2.2.2.2.1, x.2.2.2.2.2.2.2.1, x.2.2.2.2.2.2.2.2.1, x.2.2.2.2.2.2.2.2.2.1, x.2.2.2.2.2.2.2.2.2.2.1, x.2.2.2.2.2.2.2.2.2.2.2.1, x.2.2.2.2.2.2.2.2.2.2.2.2, 0, 0, 0)
def sentOf (ep : UInt64) (l : List EnT) : List (UInt64 × UInt64) → List FrT
 | [] => []
 | p :: r => match l.find? fun e => decide (e.1 = p.2) with
  | some e => dataF ep p.1 e.2 :: sentOf ep l r
  | none => sentOf ep l r
def foundAt (l : List EnT) (idx : UInt64) : Option Nat → Option EnT
 | none => none
 | some k => if h : k < l.length then (if l[k].1 = idx then some l[k] else none) else none
theorem foundAt_some {l : List EnT} {idx : UInt64} {k : Nat} (h : k < l.length) : foundAt l idx (some k) = if l[k].1 = idx then some l[k] else none := by
 show dite _ _ _ = _
 rw [dif_pos h]
theorem find_sorted {l : List EnT} (hs : l.Pairwise fun a b => a.1 < b.1) {idx : UInt64} {r : Option Nat} (h : LastLe l idx l.length r) :
  l.find? (fun e => decide (e.1 = idx)) = foundAt l idx r := by
 cases r with
 | none =>
  unfold foundAt
  rw [List.find?_eq_none]
  intro e he
  obtain ⟨j, hj, rfl⟩ := List.getElem_of_mem he
  have := h j hj hj
  simp only [decide_eq_true_eq]
  intro q; exact this (by rw [q]; exact UInt64.le_refl _)
 | some k =>
  obtain ⟨h1, h2, h3, h4⟩ := h
  rw [foundAt_some h2]
  have other : ∀ j (hj : j < l.length), l[j].1 = idx → j = k := fun j hj q => by
   rcases Nat.lt_trichotomy j k with g | g | g
   ·have := List.pairwise_iff_getElem.1 hs j k hj h2 g
    rw [q] at this
    exact absurd h3 (UInt64.not_le.2 this)
   ·exact g
   ·exact absurd (by rw [q]; exact UInt64.le_refl _) (h4 j hj g hj)
  by_cases hk : l[k].1 = idx
  ·rw [if_pos hk, List.find?_eq_some_iff_getElem]
   refine ⟨by simp [hk], k, h2, rfl, fun j hj => ?_⟩
   simp only [Bool.not_eq_true', decide_eq_false_iff_not]
   intro q; have := other j (by omega) q; omega
  ·rw [if_neg hk, List.find?_eq_none]
   intro e he
   obtain ⟨j, hj, rfl⟩ := List.getElem_of_mem he
   simp only [decide_eq_true_eq]
   intro q; have := other j hj q; subst this; exact hk q
theorem frames_loop (n : Nat) (hn : 1001 < n) (w : Int64) (life ses other : UInt64) (sd : Option SndT) (sp : SpT) (hl : sp.1.2.2.2.2.length ≤ 1000) (hg : ∀ e ∈ sp.1.2.2.2.2, Good e.2) (hs : sp.1.2.2.2.2.Pairwise fun a b => a.1 < b.1) (ds : List FlT) (hds : ds.length < 2 ^ 30) :
  ∀ (m i : Nat) (out : List FrT), i ≤ ds.length → ds.length - i < m → out.length ≤ i →
  F21_R61 n m ds (I64 ds.length) (I64 i) 1 0 w 1 4 life ses other (some sp) out sd = some (out ++ sentOf (epO life ses) sp.1.2.2.2.2 (prs (ds.drop i)), some (1, 0, w, 1, 4, life, ses, other, sd), some sp) := by
 intro m
 induction m with
 | zero => intros; omega
 | succ m ih =>
  intro i out hi hm ho
  rw [F21_R61_s]
  unfold F21_L61
  by_cases hlt : i < ds.length
  ·rw [dec_t ((i64_lt (by omega) (by omega)).2 hlt), oite_t, at_i64_lt (by omega) hlt]
   simp only [obind_s, i64_succ]
   have hd : ds.drop i = ds[i] :: ds.drop (i + 1) := List.drop_eq_getElem_cons hlt
   have hF := find_spec n hn sp hl hg ds[i].2.1
   obtain ⟨r, e, e1, h1, h2⟩ := hF
   have hf := find_sorted hs h1
   have hsent : ∀ q, sp.1.2.2.2.2.find? (fun e => decide (e.1 = (ds[i]).2.1)) = q → sentOf (epO life ses) sp.1.2.2.2.2 (prs (ds.drop i)) = (match q with | some e => dataF (epO life ses) (ds[i]).1 e.2 :: sentOf (epO life ses) sp.1.2.2.2.2 (prs (ds.drop (i + 1))) | none => sentOf (epO life ses) sp.1.2.2.2.2 (prs (ds.drop (i + 1)))) := fun q hq => by
    rw [hd]
    unfold prs
    rw [List.map_cons]
    conv => lhs; unfold sentOf
    rw [show (pr ds[i]).2 = (ds[i]).2.1 from rfl, hq]
   refine (obind_of e1 _).trans ?_
   dsimp only
   cases r with
   | none =>
    rw [show (!(none : Option Nat).isSome) = true from rfl, oite_t, ih (i + 1) out (by omega) (by omega) (by omega), hsent none hf]
   | some k =>
    obtain ⟨g1, g2, g3, g4⟩ := h1
    have he := h2 k g2 rfl
    rw [show (!(some k).isSome) = false from rfl, oite_f]
    rw [foundAt_some g2] at hf
    by_cases hk : e.1 = ds[i].2.1
    ·rw [dec_t hk, Bool.not_true, oite_f, ble_t (by simp; omega), oite_t]
     have hrec := ih (i + 1) (out ++ [dataF (epO life ses) (ds[i]).1 e.2]) (by omega) (by omega) (by simp; omega)
     refine Eq.trans hrec ?_
     rw [if_pos (by rw [← he]; exact hk)] at hf
     rw [hsent _ hf, List.append_assoc, ← he]
     rfl
    ·rw [dec_f hk, Bool.not_false, oite_t, ih (i + 1) out (by omega) (by omega) (by omega)]
     rw [if_neg (by rw [← he]; exact hk)] at hf
     rw [hsent _ hf]
  ·rw [dec_f (fun q => hlt ((i64_lt (by omega) (by omega)).1 q)), oite_f, List.drop_eq_nil_of_le (by omega)]
   rw [show sentOf (epO life ses) sp.1.2.2.2.2 (prs []) = [] from rfl, List.append_nil]
theorem frames_eq (n : Nat) (hn : 1001 < n) (w : Int64) (life ses other : UInt64) (sd : SndT) (sp : SpT) (hl : sp.1.2.2.2.2.length ≤ 1000) (hg : ∀ e ∈ sp.1.2.2.2.2, Good e.2) (hs : sp.1.2.2.2.2.Pairwise fun a b => a.1 < b.1) (hf : (flS sd).length < 1000) (now : UInt64) :
  ∃ ds sd', F21 n (some (mkO w life ses other sd), some sp, now) = some (sentOf (epO life ses) sp.1.2.2.2.2 (prs ds), some (mkO w life ses other sd'), some sp) ∧
   F41 n (some sd, now) = some (ds, some sd') ∧ prs (flS sd') = prs (flS sd) ∧ (prs ds).Sublist (prs (flS sd)) ∧ sd'.1 = sd.1 ∧ sd'.2.1 = sd.2.1 ∧ sd'.2.2.1 = sd.2.2.1 ∧ sd'.2.2.2.2.1 = sd.2.2.2.2.1 ∧ (¬ (1099511627776 : UInt64) < now → flS sd' = (flS sd).map (dueF now sd.2.2.1) ∧ prs ds = prs ((flS sd).filter (isDue now))) := by
 have hD := due_eq n sd (by omega) (by omega) now
 obtain ⟨ds, sd', e1, h1, h2, h3⟩ := hD
 have hlen : ds.length ≤ (flS sd).length := by have := h2.length_le; rwa [prs_len, prs_len] at this
 refine ⟨ds, sd', ?_, e1, h1, h2, h3⟩
 unfold F21
 rw [oelim_s, oelim_s]
 refine (obind_of e1 _).trans ?_
 exact frames_loop n hn w life ses other (some sd') sp hl hg hs ds (by omega) n 0 [] (by omega) (by omega) (by simp)
end Go.Proofs.Ytfmomnniadlbhaa
