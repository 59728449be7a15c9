/- The law SendWindow: never more under way than the window; numbers one by one; none of them given twice. -/
import Derived.Test.YtkgabdafhfhoiaaSeWaits
open Go Go.Sx
namespace Go.Proofs.Ytkgabdafhfhoiaa
/-- the flight of a number -/
def mk (q : Nat) : Fly := (UInt64.ofNat q, UInt64.ofNat (q + 100), 0, 1, false, false)
/-- those under way: behind c, so many -/
def fl (c L : Nat) : List Fly := (List.range' (c + 1) L).map mk
theorem fl_len (c L : Nat) : (fl c L).length = L := by simp [fl]
theorem fl_get (c L i : Nat) (h : i < L) : (fl c L)[i]'(by rw [fl_len]; exact h) = mk (c + 1 + i) := by simp [fl]
theorem fl_snoc (c L : Nat) : fl c L ++ [mk (c + 1 + L)] = fl c (L + 1) := by
  unfold fl
  rw [List.range'_concat]; simp
theorem fl_cons (c L : Nat) : fl c (L + 1) = mk (c + 1) :: fl (c + 1) L := by
  unfold fl
  rw [List.range'_succ]; rfl
theorem u64n {k : Nat} (h : k < 2 ^ 63) : (UInt64.ofNat k).toNat = k := by rw [UInt64.toNat_ofNat']; omega
def sn (w : Nat) (base next : Nat) (l : List Fly) (st ag : UInt64) : Snd := (I64 w, 1, 8, UInt64.ofNat base, UInt64.ofNat next, l, st, ag)
theorem room_spec (n w base next : Nat) (l : List Fly) (st ag : UInt64) (hl : l.length ≤ w) (_ : w ≤ 64) : F12 n (some (sn w base next l st ag)) = some (I64 (w - l.length), some (sn w base next l st ag)) := by
  unfold F12 sn
  rw [oelim_s]
  simp only
  rw [show Int64.ofInt ↑(List.length l) = I64 l.length from rfl, i64_sub hl]
theorem offer_full (n w base next c : Nat) (st ag index now : UInt64) (hw : w ≤ 64) : F8 n (some (sn w base next (fl c w) st ag), index, now) = some ((0, 19), some (sn w base next (fl c w) st ag)) := by
  unfold F8
  rw [oelim_s]
  have h := room_spec n w base next (fl c w) st ag (by rw [fl_len]; omega) hw
  unfold sn at h ⊢
  simp only
  rw [h, fl_len, Nat.sub_self]
  simp only [obind_s]
  rw [show decide (I64 0 < (1 : Int64)) = true from by decide]; rfl
theorem offer_ok (n w base c L : Nat) (st ag : UInt64) (hw : w ≤ 64) (hL : L < w) (hc : c < 2 ^ 30) :
    F8 n (some (sn w base (c + 1 + L) (fl c L) st ag), UInt64.ofNat (c + 1 + L) + 100, 0) = some ((UInt64.ofNat (c + 1 + L), 0), some (sn w base (c + 1 + L + 1) (fl c (L + 1)) st ag)) := by
  have hidx : UInt64.ofNat (c + 1 + L) + 100 = UInt64.ofNat (c + 1 + L + 100) := by
    apply UInt64.toNat.inj
    rw [UInt64.toNat_add, u64n (by omega), u64n (by omega), show (100 : UInt64).toNat = 100 from rfl]; omega
  have hnext : UInt64.ofNat (c + 1 + L) + 1 = UInt64.ofNat (c + 1 + L + 1) := by
    apply UInt64.toNat.inj
    rw [UInt64.toNat_add, u64n (by omega), u64n (by omega), show (1 : UInt64).toNat = 1 from rfl]; omega
  have hback : UInt64.ofNat (c + 1 + L + 1) - 1 = UInt64.ofNat (c + 1 + L) := by rw [← hnext]; exact UInt64.add_sub_cancel _ _
  have hbig : (1099511627776 : UInt64).toNat = 1099511627776 := rfl
  have hno : ∀ k, k < 2 ^ 40 → ¬ (1099511627776 : UInt64) < UInt64.ofNat k := fun k hk h => by have := UInt64.lt_iff_toNat_lt.1 h; rw [u64n (by omega)] at this; omega
  have fin : F8_J111 (UInt64.ofNat (c + 1 + L) + 100) 0 false (I64 w) 1 8 (UInt64.ofNat base) (UInt64.ofNat (c + 1 + L)) st ag (fl c L) = some ((UInt64.ofNat (c + 1 + L), 0), some (sn w base (c + 1 + L + 1) (fl c (L + 1)) st ag)) := by
    unfold F8_J111
    rw [hidx, dec_f (hno _ (by omega)), dec_f (hno _ (by omega)), show decide ((1099511627776 : UInt64) < 0) = false from by decide]
    simp only [oite_f]
    rw [ble_t (by rw [fl_len]; simp; omega), oite_t, hnext, hback]
    have := fl_snoc c L
    unfold mk at this
    rw [this]; rfl
  unfold F8
  rw [oelim_s]
  have h := room_spec n w base (c + 1 + L) (fl c L) st ag (by rw [fl_len]; omega) hw
  unfold sn at h ⊢
  simp only
  rw [h, fl_len]
  simp only [obind_s]
  rw [dec_f (fun h => by have := (i64_lt (a := w - L) (b := 1) (by omega) (by omega)).1 h; omega)]
  simp only [oite_f, ojoinA_eq]
  rw [fl_len]
  by_cases h0 : 0 < L
  · have e1 : decide ((0 : Int64) < Int64.ofInt ↑L) = true := dec_t ((i64_lt (a := 0) (b := L) (by omega) (by omega)).2 h0)
    have e2 : Int64.ofInt ↑L - 1 = I64 (L - 1) := i64_sub (b := 1) h0
    obtain ⟨q1, q2⟩ := idx_i64 (l := fl c L) (k := L - 1) (by rw [fl_len]; omega) (by omega)
    rw [fl_len] at q1
    rw [e1, e2, q1, q2, fl_get c L (L - 1) (by omega)]
    simp only [oite_t, obind_s]
    have : decide (UInt64.ofNat (c + 1 + L) + 100 ≤ (mk (c + 1 + (L - 1))).2.1) = false := dec_f fun h => by
      rw [hidx] at h
      have := UInt64.le_iff_toNat_le.1 h
      unfold mk at this
      simp only at this
      rw [u64n (by omega), u64n (by omega)] at this; omega
    rw [this]
    exact fin
  · have e1 : decide ((0 : Int64) < Int64.ofInt ↑L) = false := dec_f fun h => h0 ((i64_lt (a := 0) (b := L) (by omega) (by omega)).1 h)
    rw [e1, oite_f]
    exact fin
/-! acknowledging -/
def mark (cum : Nat) (f : Fly) : Fly := if f.1.toNat ≤ cum then (f.1, f.2.1, f.2.2.1, f.2.2.2.1, f.2.2.2.2.1, true) else f
theorem shr_zero (k : Int) : IK.shr IntKind.u64 0 k = 0 := by
  have h := IK.shr_toInt .u64 (0 : UInt64) k
  have e : IK.toInt .u64 (0 : UInt64) = 0 := rfl
  rw [e] at h
  apply UInt64.toNat.inj
  have : IK.toInt .u64 (IK.shr .u64 (0 : UInt64) k) = ((IK.shr IntKind.u64 0 k).toNat : Int) := rfl
  rw [this, Int.zero_fdiv] at h
  show (IK.shr IntKind.u64 0 k).toNat = 0
  omega
theorem mark_loop (n : Nat) (cum : Nat) (hcum : cum < 2 ^ 40) (w : Int64) (s1 s2 s3 s4 s6 s7 : UInt64) (l : List Fly) (hl : l.length ≤ 64) (hs : ∀ f ∈ l, f.1.toNat < 2 ^ 40) (m : Nat) :
    ∀ k, k ≤ l.length → l.length - k < m → F10_R29 n m (UInt64.ofNat cum) 0 (I64 l.length) (I64 k) w s1 s2 s3 s4 s6 s7 ((l.take k).map (mark cum) ++ l.drop k) =
      F10_R62 n F10_J31 n (UInt64.ofNat cum) 0 w s1 s2 s3 s4 s6 s7 (l.map (mark cum)) := by
  induction m with
  | zero => intros; omega
  | succ m ih =>
    intro k hk hm
    rw [F10_R29_s]
    unfold F10_L29
    have hlen : ((l.take k).map (mark cum) ++ l.drop k).length = l.length := by simp; omega
    by_cases hlt : k < l.length
    · obtain ⟨q1, q2⟩ := idx_i64 (l := (l.take k).map (mark cum) ++ l.drop k) (k := k) (by omega) (by omega)
      have hget : ((l.take k).map (mark cum) ++ l.drop k)[k]'(by omega) = l[k] := by
        rw [List.getElem_append_right (by simp; omega)]
        simp
        congr 1; omega
      have hf := hs _ (List.getElem_mem hlt)
      have hd : l.drop k = l[k] :: l.drop (k + 1) := List.drop_eq_getElem_cons hlt
      have ht : l.take (k + 1) = l.take k ++ [l[k]] := by rw [List.take_add_one, List.getElem?_eq_getElem hlt]; rfl
      have next := ih (k + 1) (by omega) (by omega)
      rw [ht, List.map_append, List.append_assoc] at next
      rw [← i64_succ] at next
      rw [dec_t ((i64_lt (by omega) (by omega)).2 hlt)]
      simp only [oite_t]
      rw [q1, q2, hget]
      simp only [oite_t, obind_s]
      rw [shr_zero, show decide ((0 : UInt64) &&& 1 = 1) = false from by decide]
      have e1 : decide ((l[k]).1 ≤ UInt64.ofNat cum) = decide ((l[k]).1.toNat ≤ cum) := by rw [decide_eq_decide, UInt64.le_iff_toNat_le, u64n (by omega)]
      rw [e1]
      by_cases h1 : (l[k]).1.toNat ≤ cum
      · have em : mark cum l[k] = ((l[k]).1, (l[k]).2.1, (l[k]).2.2.1, (l[k]).2.2.2.1, (l[k]).2.2.2.2.1, true) := by unfold mark; rw [if_pos h1]
        rw [dec_t h1]
        simp only [oite_t]
        have hk' : Int.toNat (Int64.toInt (I64 k)) = k := by rw [i64_toInt (by omega)]; omega
        rw [hk', ← em]
        have hset : ((l.take k).map (mark cum) ++ l.drop k).set k (mark cum l[k]) = (l.take k).map (mark cum) ++ ([l[k]].map (mark cum) ++ l.drop (k + 1)) := by
          rw [List.set_append_right _ _ (by simp; omega), hd]
          simp
          have : k - min k l.length = 0 := by omega
          rw [this, hd]; rfl
        rw [hset]
        exact next
      · have em : mark cum l[k] = l[k] := by unfold mark; rw [if_neg h1]
        rw [dec_f h1]
        simp only [oite_f]
        have hsame : (l.take k).map (mark cum) ++ l.drop k = (l.take k).map (mark cum) ++ ([l[k]].map (mark cum) ++ l.drop (k + 1)) := by
          rw [hd]; simp [em]
        rw [← hsame] at next
        generalize decide (UInt64.ofNat cum + 2 ≤ (l[k]).1) = b1
        generalize decide ((l[k]).1 - UInt64.ofNat cum - 2 < 64) = b2
        cases b1 <;> cases b2 <;> exact next
    · rw [dec_f (fun q => hlt ((i64_lt (by omega) (by omega)).1 q)), oite_f, ojoinA_eq]
      have e1 : l.take k = l := List.take_of_length_le (by omega)
      have e2 : l.drop k = [] := List.drop_eq_nil_of_le (by omega)
      rw [e1, e2, List.append_nil]
/-- the flight of a number that came -/
def mkc (q : Nat) : Fly := (UInt64.ofNat q, UInt64.ofNat (q + 100), 0, 1, false, true)
theorem mark_fl (cum L : Nat) : ∀ c, c + L < 2 ^ 40 → (fl c L).map (mark cum) = ((List.range' (c + 1) (min L (cum - c))).map mkc) ++ fl (max c (min cum (c + L))) (c + L - max c (min cum (c + L))) := by
  induction L with
  | zero => intro c _; simp [fl]; omega
  | succ L ih =>
    intro c hc
    rw [fl_cons, List.map_cons, ih (c + 1) (by omega)]
    unfold mark
    by_cases h : c + 1 ≤ cum
    · have : (mk (c + 1)).1.toNat ≤ cum := by unfold mk; simp only; rw [u64n (by omega)]; exact h
      rw [if_pos this]
      have e1 : min (L + 1) (cum - c) = min L (cum - (c + 1)) + 1 := by omega
      have e2 : max c (min cum (c + (L + 1))) = max (c + 1) (min cum (c + 1 + L)) := by omega
      have e3 : c + (L + 1) = c + 1 + L := by omega
      rw [e1, e2, e3, List.range'_succ]; rfl
    · have : ¬ (mk (c + 1)).1.toNat ≤ cum := by unfold mk; simp only; rw [u64n (by omega)]; exact h
      rw [if_neg this]
      have e1 : min (L + 1) (cum - c) = 0 := by omega
      have e2 : min L (cum - (c + 1)) = 0 := by omega
      have e3 : max c (min cum (c + (L + 1))) = c := by omega
      have e4 : max (c + 1) (min cum (c + 1 + L)) = c + 1 := by omega
      have e5 : c + (L + 1) - c = L + 1 := by omega
      have e6 : c + 1 + L - (c + 1) = L := by omega
      rw [e1, e2, e3, e4, e5, e6, fl_cons]; rfl
theorem blt0 {α : Type} (x : α) (r : List α) : Nat.blt (Int.toNat (Int64.toInt 0)) (List.length (x :: r)) = true := by
  rw [show Int.toNat (Int64.toInt 0) = 0 from by decide, blt_iff]; simp
theorem pos1 {α : Type} (x : α) (r : List α) (h : (x :: r).length < 2 ^ 63) : decide ((0 : Int64) < Int64.ofInt ↑(List.length (x :: r))) = true :=
  dec_t ((i64_lt (a := 0) (b := (x :: r).length) (by omega) h).2 (by simp))
theorem tail_spec (n : Nat) (x : Fly) (r : List Fly) (h : (x :: r).length ≤ 1000) : F16 n (x :: r, 1) = some (r, ()) := by
  unfold F16
  simp only
  rw [show Int.toNat (Int64.toInt 1) = 1 from by decide, ble_t (by simp), show decide ((0 : Int) ≤ Int64.toInt 1) = true from by decide]
  simp only [Bool.and_true, oite_t]
  rw [ble_t (by simp at h ⊢; omega), oite_t, List.take_length]; rfl
theorem pop_loop (n : Nat) (cum : Nat) (hcum : cum < 2 ^ 40) (w : Int64) (s1 s2 s4 s6 s7 : UInt64) (c' L' : Nat) (hc' : cum ≤ c') (hb : c' + L' < 2 ^ 40) (hL' : L' ≤ 100) (K : Nat) :
    ∀ (m c : Nat) (index s3 : UInt64), K < m → K ≤ 100 → c + K ≤ cum →
      F10_R62 n F10_J31 m (UInt64.ofNat cum) index w s1 s2 s3 s4 s6 s7 ((List.range' (c + 1) K).map mkc ++ fl c' L') =
        some ((if K = 0 then index else UInt64.ofNat (c + K + 100), 0), some (w, s1, s2, if K = 0 then s3 else UInt64.ofNat (c + K), s4, fl c' L', s6, s7)) := by
  induction K with
  | zero =>
    intro m c index s3 hm _ _
    obtain ⟨m, rfl⟩ : ∃ k, m = k + 1 := ⟨m - 1, by omega⟩
    rw [F10_R62_s]
    unfold F10_L62
    simp only [List.range'_zero, List.map_nil, List.nil_append, if_true]
    have fin : F10_J31 index w s1 s2 s3 s4 s6 s7 (fl c' L') = some ((index, 0), some (w, s1, s2, s3, s4, fl c' L', s6, s7)) := by
      unfold F10_J31
      cases L' with
      | zero => rfl
      | succ L' =>
        rw [fl_cons, pos1 _ _ (by rw [List.length_cons, fl_len]; omega), blt0]
        rw [show Int.toNat (Int64.toInt 0) = 0 from by decide]
        simp only [oite_t, List.getElem?_cons_zero, obind_s, List.set_cons_zero]
        rfl
    cases L' with
    | zero => exact fin
    | succ L' =>
      rw [fl_cons] at fin ⊢
      rw [pos1 _ _ (by rw [List.length_cons, fl_len]; omega), blt0]
      rw [show Int.toNat (Int64.toInt 0) = 0 from by decide]
      simp only [oite_t, List.getElem?_cons_zero, obind_s]
      have : decide ((mk (c' + 1)).1 ≤ UInt64.ofNat cum) = false := dec_f fun h => by
        have := UInt64.le_iff_toNat_le.1 h
        unfold mk at this
        simp only at this
        rw [u64n (by omega), u64n (by omega)] at this; omega
      rw [this, oite_f]
      exact fin
  | succ K ih =>
    intro m c index s3 hm hK hcK
    obtain ⟨m, rfl⟩ : ∃ k, m = k + 1 := ⟨m - 1, by omega⟩
    rw [F10_R62_s]
    unfold F10_L62
    rw [List.range'_succ, List.map_cons, List.cons_append]
    have hlen : (mkc (c + 1) :: ((List.range' (c + 1 + 1) K).map mkc ++ fl c' L')).length ≤ 1000 := by simp [fl]; omega
    rw [pos1 _ _ (by omega), blt0]
    rw [show Int.toNat (Int64.toInt 0) = 0 from by decide]
    simp only [oite_t, List.getElem?_cons_zero, obind_s]
    have : decide ((mkc (c + 1)).1 ≤ UInt64.ofNat cum) = true := dec_t (by
      rw [UInt64.le_iff_toNat_le]
      unfold mkc
      simp only
      rw [u64n (by omega), u64n (by omega)]; omega)
    rw [this, tail_spec n _ _ hlen]
    simp only [oite_t, obind_s]
    rw [ih m (c + 1) _ _ (by omega) (by omega) (by omega)]
    rw [if_neg (by omega : ¬ K + 1 = 0), if_neg (by omega : ¬ K + 1 = 0)]
    by_cases h : K = 0
    · subst h
      rw [if_pos rfl, if_pos rfl]; rfl
    · rw [if_neg h, if_neg h]
      have : c + 1 + K = c + (K + 1) := by omega
      rw [this]
theorem ack_spec (n : Nat) (hn : 200 ≤ n) (w base c L cum : Nat) (st ag : UInt64) (hL : L ≤ 64) (hc : c < 2 ^ 30) (h1 : c ≤ cum) (h2 : cum ≤ c + L) :
    F10 n (some (sn w base (c + 1 + L) (fl c L) st ag), UInt64.ofNat cum, 0) = some ((if cum = c then 0 else UInt64.ofNat (cum + 100), 0), some (sn w (if cum = c then base else cum) (c + 1 + L) (fl cum (c + L - cum)) st ag)) := by
  unfold F10
  rw [oelim_s]
  unfold sn
  simp only
  have : decide (UInt64.ofNat (c + 1 + L) ≤ UInt64.ofNat cum) = false := dec_f fun h => by
    have := UInt64.le_iff_toNat_le.1 h
    rw [u64n (by omega), u64n (by omega)] at this; omega
  rw [this, oite_f]
  have hseq : ∀ f ∈ fl c L, f.1.toNat < 2 ^ 40 := by
    intro f hf
    unfold fl at hf
    rw [List.mem_map] at hf
    obtain ⟨q, hq, rfl⟩ := hf
    have := List.mem_range'.1 hq
    unfold mk
    simp only
    rw [u64n (by omega)]; omega
  have hm := mark_loop n cum (by omega) (I64 w) 1 8 (UInt64.ofNat base) (UInt64.ofNat (c + 1 + L)) st ag (fl c L) (by rw [fl_len]; exact hL) hseq n 0 (by omega) (by rw [fl_len]; omega)
  simp only [List.take_zero, List.map_nil, List.nil_append, List.drop_zero] at hm
  refine hm.trans ?_
  rw [mark_fl cum L c (by omega)]
  have e1 : min L (cum - c) = cum - c := by omega
  have e2 : max c (min cum (c + L)) = cum := by omega
  rw [e1, e2, pop_loop n cum (by omega) (I64 w) 1 8 (UInt64.ofNat (c + 1 + L)) st ag cum (c + L - cum) (by omega) (by omega) (by omega) (cum - c) n c 0 (UInt64.ofNat base) (by omega) (by omega) (by omega)]
  by_cases h : cum = c
  · have h0 : cum - c = 0 := by omega
    rw [if_pos h0, if_pos h0, if_pos h, if_pos h]
  · have h0 : ¬ cum - c = 0 := by omega
    have e3 : c + (cum - c) = cum := by omega
    rw [if_neg h0, if_neg h0, if_neg h, if_neg h, e3]
theorem list_spec (n w base next : Nat) (l : List Fly) (st ag : UInt64) (hl : l.length ≤ 1000) : F11 n (some (sn w base next l st ag)) = some (l, some (sn w base next l st ag)) := by
  unfold F11 sn
  rw [oelim_s]
  simp only
  rw [ble_t (by omega), oite_t]; rfl
theorem one_add (k : Nat) (h : k < 2 ^ 62) : UInt64.ofNat k + 1 = UInt64.ofNat (k + 1) := by
  apply UInt64.toNat.inj
  rw [UInt64.toNat_add, u64n (by omega), u64n (by omega), show (1 : UInt64).toNat = 1 from rfl]; omega
theorem sub_one (k : Nat) (h : k < 2 ^ 62) : UInt64.ofNat (k + 1) - 1 = UInt64.ofNat k := by rw [← one_add k h]; exact UInt64.add_sub_cancel _ _
theorem cum_eq (c w : Nat) (x : UInt8) (hw : w ≤ 64) (hc : c < 2 ^ 30) :
    IK.minI IntKind.u64 (UInt64.ofNat c + UInt64.ofInt ↑(UInt8.toNat x) % UInt64.ofInt (Int64.toInt (I64 w + 1))) (UInt64.ofNat (c + 1 + w) - 1) = UInt64.ofNat (c + x.toNat % (w + 1)) := by
  apply UInt64.toNat.inj
  have hx := UInt8.toNat_lt x
  have e0 : x.toNat % (w + 1) < w + 1 := Nat.mod_lt _ (by omega)
  have e1 : (UInt64.ofInt (Int64.toInt (I64 w + 1))).toNat = w + 1 := by
    rw [i64_succ, i64_toInt (by omega)]
    have := u64_ofInt ((w + 1 : Nat) : Int); omega
  have e2 : (UInt64.ofInt ↑(UInt8.toNat x)).toNat = x.toNat := by have := u64_ofInt (x.toNat : Int); omega
  have e3 : UInt64.ofNat (c + 1 + w) - 1 = UInt64.ofNat (c + w) := by rw [show c + 1 + w = c + w + 1 from by omega]; exact sub_one _ (by omega)
  rw [minU, e3, UInt64.toNat_add, UInt64.toNat_mod, e1, e2, u64n (by omega), u64n (by omega), u64n (by omega)]
  omega
theorem inner_loop (n : Nat) (hn : 200 ≤ n) (w : Nat) (hw : w ≤ 64) (rec : Int64 → Int64 → UInt64 → UInt64 → List UInt8 → Int64 → Int64 → Option Snd → Option (Bool × Unit)) (c : Nat) (hc : c < 2 ^ 29) (x : UInt8) (t3 : List UInt8) (t1 t2 : Int64) (base : Nat) (st ag : UInt64)
    (hrec : ∀ base', rec (I64 w) 0 (UInt64.ofNat (c + 1 + w)) (UInt64.ofNat (c + x.toNat % (w + 1))) t3 t1 (t2 + 1) (some (sn w base' (c + 1 + w) (fl (c + x.toNat % (w + 1)) (c + w - (c + x.toNat % (w + 1)))) st ag)) = some (true, ())) (d : Nat) :
    ∀ (m L : Nat), L ≤ w → w - L = d → d < m → F4_R32438 n rec m (I64 w) 0 (UInt64.ofNat (c + 1 + L)) (UInt64.ofNat c) x t3 t1 t2 (some (sn w base (c + 1 + L) (fl c L) st ag)) = some (true, ()) := by
  induction d with
  | zero =>
    intro m L hL hd hm
    obtain ⟨m, rfl⟩ : ∃ k, m = k + 1 := ⟨m - 1, by omega⟩
    have : L = w := by omega
    subst this
    have e0 : x.toNat % (L + 1) < L + 1 := Nat.mod_lt _ (by omega)
    have hroom := room_spec n L base (c + 1 + L) (fl c L) st ag (by rw [fl_len]; omega) hw
    rw [fl_len, Nat.sub_self] at hroom
    have hack := ack_spec n hn L base c L (c + x.toNat % (L + 1)) st ag hw (by omega) (by omega) (by omega)
    rw [F4_R32438_s]
    unfold F4_L32438
    rw [offer_full n L base (c + 1 + L) c st ag _ _ hw]
    simp only [obind_s, decide_true, oite_t]
    rw [list_spec n L base (c + 1 + L) (fl c L) st ag (by rw [fl_len]; omega)]
    simp only [obind_s]
    rw [fl_len, dec_t rfl]
    simp only [Bool.not_true, oite_f]
    rw [hroom]
    simp only [obind_s]
    have ew : decide (UInt64.ofInt (Int64.toInt (I64 L + 1)) = 0) = false := dec_f fun h => by
      have h1 : (UInt64.ofInt (Int64.toInt (I64 L + 1))).toNat = L + 1 := by
        rw [i64_succ, i64_toInt (by omega)]
        have := u64_ofInt ((L + 1 : Nat) : Int); omega
      rw [h] at h1
      have : (0 : UInt64).toNat = 0 := rfl
      omega
    rw [show decide (I64 0 = (0 : Int64)) = true from by decide, ew, cum_eq c L x hw (by omega)]
    simp only [Bool.not_true, oite_f]
    rw [hack]
    simp only [obind_s, decide_true, Bool.not_true, oite_f]
    rw [list_spec n L _ (c + 1 + L) _ st ag (by rw [fl_len]; omega)]
    simp only [obind_s]
    have elen : Int64.ofInt ↑(UInt64.toNat (UInt64.ofNat (c + 1 + L) - 1 - UInt64.ofNat (c + x.toNat % (L + 1)))) = I64 (c + L - (c + x.toNat % (L + 1))) := by
      have e3 : UInt64.ofNat (c + 1 + L) - 1 = UInt64.ofNat (c + L) := by rw [show c + 1 + L = c + L + 1 from by omega]; exact sub_one _ (by omega)
      have : (UInt64.ofNat (c + L) - UInt64.ofNat (c + x.toNat % (L + 1))).toNat = c + L - (c + x.toNat % (L + 1)) := by
        rw [UInt64.toNat_sub_of_le _ _ (UInt64.le_iff_toNat_le.2 (by rw [u64n (by omega), u64n (by omega)]; omega)), u64n (by omega), u64n (by omega)]
      rw [e3, this]
    rw [elen, fl_len, dec_t rfl]
    simp only [Bool.not_true, oite_f]
    by_cases h : c + x.toNat % (L + 1) = c
    · rw [if_pos h, if_pos h, show decide ((0 : UInt64) = 0) = true from by decide]
      simp only [Bool.not_true, oite_f]
      exact hrec _
    · rw [if_neg h, if_neg h]
      have h100 : UInt64.ofNat (c + x.toNat % (L + 1)) + 100 = UInt64.ofNat (c + x.toNat % (L + 1) + 100) := by
        apply UInt64.toNat.inj
        rw [UInt64.toNat_add, u64n (by omega), u64n (by omega), show (100 : UInt64).toNat = 100 from rfl]; omega
      have hne : decide (UInt64.ofNat (c + x.toNat % (L + 1) + 100) = 0) = false := dec_f fun q => by
        have := congrArg UInt64.toNat q
        rw [u64n (by omega)] at this
        have : (0 : UInt64).toNat = 0 := rfl
        omega
      rw [hne, h100, dec_t rfl]
      simp only [Bool.not_true, Bool.not_false, oite_t, oite_f]
      exact hrec _
  | succ d ih =>
    intro m L hL hd hm
    obtain ⟨m, rfl⟩ : ∃ k, m = k + 1 := ⟨m - 1, by omega⟩
    rw [F4_R32438_s]
    unfold F4_L32438
    rw [offer_ok n w base c L st ag hw (by omega) (by omega)]
    simp only [obind_s, decide_true, Bool.not_true]
    rw [show decide ((0 : Int64) = 19) = false from by decide, one_add _ (by omega)]
    simp only [oite_f]
    exact ih m (L + 1) (by omega) (by omega) (by omega)
theorem outer_loop (n : Nat) (hn : 200 ≤ n) (w : Nat) (hw : w ≤ 64) (t : List UInt8) (ht : t.length < 2 ^ 63) (st ag : UInt64) (m : Nat) :
    ∀ (k c L base : Nat), k ≤ t.length → k ≤ 61 → 62 - k < m → c ≤ 64 * k → L ≤ w → F4_R253 n m (I64 w) 0 (UInt64.ofNat (c + 1 + L)) (UInt64.ofNat c) t (I64 t.length) (I64 k) (some (sn w base (c + 1 + L) (fl c L) st ag)) = some (true, ()) := by
  induction m with
  | zero => intros; omega
  | succ m ih =>
    intro k c L base hk hk2 hm hc hL
    rw [F4_R253_s]
    unfold F4_L253
    by_cases hlt : k < t.length
    · rw [dec_t ((i64_lt (by omega) ht).2 hlt)]
      simp only [oite_t]
      rw [at_i64_lt (by omega) hlt]
      simp only [obind_s]
      by_cases h60 : 60 < k
      · have : decide ((60 : Int64) < I64 k) = true := dec_t ((i64_lt (a := 60) (b := k) (by omega) (by omega)).2 h60)
        rw [this]; rfl
      · have : decide ((60 : Int64) < I64 k) = false := dec_f fun h => h60 ((i64_lt (a := 60) (b := k) (by omega) (by omega)).1 h)
        rw [this]
        simp only [oite_f]
        have e0 : (t[k]).toNat % (w + 1) < w + 1 := Nat.mod_lt _ (by omega)
        refine inner_loop n hn w hw (F4_R253 n m) c (by omega) t[k] t (I64 t.length) (I64 k) base st ag (fun base' => ?_) (w - L) n L hL rfl (by omega)
        rw [i64_succ]
        have key := ih (k + 1) (c + (t[k]).toNat % (w + 1)) (c + w - (c + (t[k]).toNat % (w + 1))) base' (by omega) (by omega) (by omega) (by omega) (by omega)
        have e1 : c + (t[k]).toNat % (w + 1) + 1 + (c + w - (c + (t[k]).toNat % (w + 1))) = c + 1 + w := by omega
        rw [e1] at key
        exact key
    · rw [dec_f (fun h => hlt ((i64_lt (by omega) ht).1 h))]; rfl
theorem F4_eq (n : Nat) (wi : UInt8) (t : List UInt8) : F4 n (wi, t) = obind (F6 n ()) fun x => oite (!x.1) (some (false, ()))
    (obind (F7 n (1 + Int64.ofInt ↑(UInt8.toNat (wi % 64)), 1, 8)) fun x_2 => F4_R253 n n (1 + Int64.ofInt ↑(UInt8.toNat (wi % 64))) x_2.1.2 1 0 t (I64 t.length) 0 x_2.1.1) := rfl
theorem window_any (d : Nat) (hd : 200 ≤ d) (wi : UInt8) (t : List UInt8) (ht : t.length < 2 ^ 63) : F4 (d + 20) (wi, t) = some (true, ()) := by
  have hr : (wi % 64).toNat < 64 := by rw [UInt8.toNat_mod]; exact Nat.mod_lt _ (by decide)
  obtain ⟨w, hw1, hw2, hw3⟩ : ∃ w : Nat, 1 ≤ w ∧ w ≤ 64 ∧ (1 : Int64) + Int64.ofInt ↑(UInt8.toNat (wi % 64)) = I64 w := ⟨1 + (wi % 64).toNat, by omega, by omega, i64_add 1 _⟩
  rw [F4_eq, awakeS', obind_s, hw3]
  simp only [Bool.not_true, oite_f]
  rw [new_ok _ (I64 w) 1 8 (by rw [i64_toInt (by omega)]; omega) (by rw [i64_toInt (by omega)]; omega) (by decide) (by decide) (by decide)]
  simp only [obind_s]
  exact outer_loop (d + 20) (by omega) w hw2 t ht 0 0 (d + 20) 0 0 0 0 (by omega) (by omega) (by omega) (by omega) (by omega)
theorem window_true : ∀ x : sig4.In, PTys.fits sig4.ps x → ∃ n y, F4 n x = some y ∧ PTys.hd (.one (.c .bool)) .nil y.1 = true := by
  rintro ⟨wi, t⟩ hfit
  have ht : t.length < 2 ^ 63 := by have := hfit.2.1; simp only [PTy.fits, CT.fits] at this; exact this.1
  exact ⟨_, (true, ()), window_any 200 (by omega) wi t ht, rfl⟩
end Go.Proofs.Ytkgabdafhfhoiaa
