/- GroupNone: the keys of many groups, in whatever order a range gives them: sorted, they are the same. -/
import Derived.Test.YtcfckkmiaeegpaaLook
import Derived.Test.YtcfckkmiaeegpaaOrder
open Go Go.Sx
namespace Go.Proofs.Ytcfckkmiaeegpaa
abbrev Tr3 {α : Type} (c : α → α → Int64) : Prop := ∀ a b d, c a b = -1 → c b d = -1 → c a d = -1
theorem bl_trans : ∀ a b d : List UInt8, bytesLt a b = true → bytesLt b d = true → bytesLt a d = true
  | a, [], _, h, _ => by
    have e : bytesLt a [] = false := by cases a <;> rfl
    rw [e] at h; cases h
  | _, _ :: _, [], _, h => by cases h
  | [], _ :: _, _ :: _, _, _ => rfl
  | x :: a, y :: b, z :: d, h, k => by
    have e1 : bytesLt (x :: a) (y :: b) = (decide (x < y) || (x == y && bytesLt a b)) := rfl
    have e2 : bytesLt (y :: b) (z :: d) = (decide (y < z) || (y == z && bytesLt b d)) := rfl
    have e3 : bytesLt (x :: a) (z :: d) = (decide (x < z) || (x == z && bytesLt a d)) := rfl
    rw [e1, Bool.or_eq_true, Bool.and_eq_true, decide_eq_true_eq, beq_iff_eq] at h
    rw [e2, Bool.or_eq_true, Bool.and_eq_true, decide_eq_true_eq, beq_iff_eq] at k
    rw [e3, Bool.or_eq_true, Bool.and_eq_true, decide_eq_true_eq, beq_iff_eq]
    rcases h with h | ⟨rfl, h⟩
    · rcases k with k | ⟨rfl, k⟩
      · exact .inl (UInt8.lt_trans h k)
      · exact .inl h
    · rcases k with k | ⟨rfl, k⟩
      · exact .inl k
      · exact .inr ⟨rfl, bl_trans a b d h k⟩
theorem cS_neg (a b : List UInt8) : cS a b = -1 ↔ bytesLt a b = true := by
  unfold cS
  cases bytesLt a b with
  | true => simp
  | false => cases bytesLt b a <;> simp
theorem cS_tr : Tr3 cS := fun a b d h k => (cS_neg _ _).2 (bl_trans a b d ((cS_neg _ _).1 h) ((cS_neg _ _).1 k))
def cI (a b : Int64) : Int64 := if a < b then -1 else if b < a then 1 else 0
theorem cI_ord : Ord3 cI := by
  intro a b
  unfold cI
  rcases Int.lt_trichotomy a.toInt b.toInt with h | h | h
  · have h1 := Int64.lt_iff_toInt_lt.2 h
    have h2 : ¬ b < a := fun q => by have := Int64.lt_iff_toInt_lt.1 q; omega
    rw [if_pos h1, if_neg h2, if_pos h1]; exact .inl ⟨rfl, rfl⟩
  · have := Int64.toInt_inj.1 h
    subst this
    have h2 : ¬ a < a := fun q => by have := Int64.lt_iff_toInt_lt.1 q; omega
    rw [if_neg h2, if_neg h2]; exact .inr (.inr ⟨rfl, rfl, rfl⟩)
  · have h1 := Int64.lt_iff_toInt_lt.2 h
    have h2 : ¬ a < b := fun q => by have := Int64.lt_iff_toInt_lt.1 q; omega
    rw [if_neg h2, if_pos h1, if_pos h1]; exact .inr (.inl ⟨rfl, rfl⟩)
theorem cI_neg (a b : Int64) : cI a b = -1 ↔ a < b := by
  unfold cI
  by_cases h : a < b
  · simp [h]
  · by_cases h' : b < a <;> simp [h, h']
theorem cI_tr : Tr3 cI := fun a b d h k => (cI_neg _ _).2 (Int64.lt_iff_toInt_lt.2 (by
  have := Int64.lt_iff_toInt_lt.1 ((cI_neg _ _).1 h)
  have := Int64.lt_iff_toInt_lt.1 ((cI_neg _ _).1 k)
  omega))
def cK (x y : Key) : Int64 := or3 (cI x.1 y.1) (cS x.2 y.2)
theorem cK_ord : Ord3 cK := cI_ord.both cS_ord
theorem cK_tr : Tr3 cK := by
  rintro ⟨a, x⟩ ⟨b, y⟩ ⟨d, z⟩ h k
  unfold cK or3 at *
  simp only at *
  rcases cI_ord a b with ⟨h1, _⟩ | ⟨h1, _⟩ | ⟨h1, _, rfl⟩
  · rcases cI_ord b d with ⟨k1, _⟩ | ⟨k1, _⟩ | ⟨k1, _, rfl⟩
    · rw [cI_tr a b d h1 k1]; rfl
    · rw [k1, if_neg (by decide)] at k; exact absurd k (by decide)
    · rw [h1]; rfl
  · rw [h1, if_neg (by decide)] at h; exact absurd h (by decide)
  · rw [h1] at h
    rcases cI_ord a d with ⟨k1, _⟩ | ⟨k1, _⟩ | ⟨k1, _, rfl⟩
    · rw [k1]; rfl
    · rw [k1, if_neg (by decide)] at k; exact absurd k (by decide)
    · rw [k1] at k ⊢
      exact cS_tr x y z h k
def insQ (x : Key) : List Key → List Key
  | [] => [x]
  | q :: Q => if cK x q = -1 then q :: insQ x Q else x :: q :: Q
theorem ins_comm (x y : Key) : ∀ Q, insQ x (insQ y Q) = insQ y (insQ x Q)
  | [] => by
    simp only [insQ]
    rcases cK_ord x y with ⟨h1, h2⟩ | ⟨h1, h2⟩ | ⟨h1, h2, rfl⟩
    · rw [h1, h2]; rfl
    · rw [h1, h2]; rfl
    · rfl
  | q :: Q => by
    have ih := ins_comm x y Q
    have key : ∀ a b : Key, cK a q = -1 → cK b q ≠ -1 → cK a b = -1 := fun a b h1 h2 => by
      rcases cK_ord b q with ⟨k, _⟩ | ⟨_, k⟩ | ⟨_, _, rfl⟩
      · exact absurd k h2
      · exact cK_tr a q b h1 k
      · exact h1
    by_cases hx : cK x q = -1
    · by_cases hy : cK y q = -1
      · simp only [insQ, if_pos hx, if_pos hy, ih]
      · simp only [insQ, if_pos hx, if_neg hy]
        rw [if_pos (key x y hx hy)]
    · by_cases hy : cK y q = -1
      · simp only [insQ, if_neg hx, if_pos hy]
        rw [if_pos (key y x hy hx)]
      · simp only [insQ, if_neg hx, if_neg hy]
        rcases cK_ord x y with ⟨h1, h2⟩ | ⟨h1, h2⟩ | ⟨h1, h2, rfl⟩
        · rw [h1, h2, if_pos rfl, if_neg (by decide)]
        · rw [h1, h2, if_pos rfl, if_neg (by decide)]
        · rfl
def fold (Q l : List Key) : List Key := l.foldl (fun Q x => insQ x Q) Q
theorem fold_cons (Q : List Key) (x : Key) (l : List Key) : fold Q (x :: l) = fold (insQ x Q) l := rfl
theorem fold_erase : ∀ (l : List Key) (j : Nat) (hj : j < l.length) (Q : List Key), fold (insQ l[j] Q) (l.eraseIdx j) = fold Q l
  | x :: l, 0, _, Q => rfl
  | x :: l, j + 1, hj, Q => by
    simp only [List.eraseIdx_cons_succ, List.getElem_cons_succ, fold_cons]
    rw [ins_comm]
    exact fold_erase l j (by simpa using hj) (insQ x Q)
theorem ins_len (x : Key) : ∀ Q, (insQ x Q).length = Q.length + 1
  | [] => rfl
  | q :: Q => by
    unfold insQ
    split
    · simp [ins_len x Q]
    · rfl
theorem ins_mem (x y : Key) : ∀ Q, y ∈ insQ x Q → y = x ∨ y ∈ Q
  | [], h => by simpa [insQ] using h
  | q :: Q, h => by
    unfold insQ at h
    split at h
    · rcases List.mem_cons.1 h with h | h
      · exact .inr (by simp [h])
      · rcases ins_mem x y Q h with h | h
        · exact .inl h
        · exact .inr (List.mem_cons_of_mem _ h)
    · rcases List.mem_cons.1 h with h | h
      · exact .inl h
      · exact .inr h
theorem fold_mem (y : Key) : ∀ (l Q : List Key), y ∈ fold Q l → y ∈ Q ∨ y ∈ l
  | [], Q, h => .inl h
  | x :: l, Q, h => by
    rcases fold_mem y l (insQ x Q) h with h | h
    · rcases ins_mem x y Q h with h | h
      · exact .inr (by simp [h])
      · exact .inl h
    · exact .inr (List.mem_cons_of_mem _ h)
theorem fold_len : ∀ (l Q : List Key), (fold Q l).length = Q.length + l.length
  | [], Q => by simp [fold]
  | x :: l, Q => by
    rw [fold_cons, fold_len l, ins_len]
    simp
    omega
def sorted (l : List Key) : List Key := (fold [] l).reverse
theorem f49 (n : Nat) (x y : Int64) : F49 n (x, y) = some (cI x y, ()) := by
  unfold F49 F64
  simp only [obind_s]
  rw [show (!decide True) = false from rfl, oite_f, oite_f]
  unfold cI
  by_cases h1 : x < y
  · rw [dec_t h1, if_pos h1]; rfl
  · rw [dec_f h1, if_neg h1, oite_f]
    by_cases h2 : y < x
    · rw [dec_t h2, if_pos h2]; rfl
    · rw [dec_f h2, if_neg h2]; rfl
theorem f48 (k : Nat) (x y : Key) : F48 (k + 5) (x, y) = some (cK x y, ()) := by
  unfold F48
  simp only
  rw [f49]
  simp only [obind_s]
  rw [f20]
  simp only [obind_s]
  rw [f18_2]
  rfl
theorem inner (k : Nat) (b i : Int64) (x : Key) (rec : Int64 → Int64 → Int64 → List Key → Option (Unit × List Key)) : ∀ (Q R : List Key) (m : Nat), Q.length < m → Q.length + R.length < 100 →
    F73_R53 (k + 5) rec m 0 b i (I64 Q.length) (Q.reverse ++ x :: R) = rec 0 b (i + 1) ((insQ x Q).reverse ++ R)
  | [], R, m, hm, _ => by
    obtain ⟨m, rfl⟩ : ∃ q, m = q + 1 := ⟨m - 1, by simp at hm; omega⟩
    rw [F73_R53_s]
    unfold F73_L53
    rw [show decide ((0 : Int64) < I64 ([] : List Key).length) = false from rfl, oite_f]
    rfl
  | q :: Q, R, m, hm, hl => by
    simp only [List.length_cons] at hm hl
    obtain ⟨m, rfl⟩ : ∃ q, m = q + 1 := ⟨m - 1, by omega⟩
    rw [F73_R53_s]
    unfold F73_L53
    have hd : (q :: Q).reverse ++ x :: R = Q.reverse ++ q :: x :: R := by simp
    have g1 : (Q.reverse ++ q :: x :: R)[Q.length + 1]? = some x := by rw [List.getElem?_append_right (by simp)]; simp
    have g0 : (Q.reverse ++ q :: x :: R)[Q.length]? = some q := by rw [List.getElem?_append_right (by simp)]; simp
    have hlen : (Q.reverse ++ q :: x :: R).length = Q.length + R.length + 2 := by simp; omega
    have s1 : (Q.reverse ++ q :: x :: R).set (Q.length + 1) q = Q.reverse ++ q :: q :: R := by rw [List.set_append_right _ _ (by simp)]; simp
    have s2 : (Q.reverse ++ q :: q :: R).set Q.length x = Q.reverse ++ x :: q :: R := by rw [List.set_append_right _ _ (by simp)]; simp
    have g2 : (Q.reverse ++ q :: q :: R)[Q.length]? = some q := by rw [List.getElem?_append_right (by simp)]; simp
    have hj : I64 (q :: Q).length - 1 = I64 Q.length := i64_sub (a := Q.length + 1) (b := 1) (by omega)
    have b1 : ∀ (D : List Key), D.length = Q.length + R.length + 2 → (decide ((0 : Int) ≤ (I64 (Q.length + 1)).toInt) && Nat.blt (Int.toNat (I64 (Q.length + 1)).toInt) D.length) = true := fun D hD => by
      rw [i64_toInt (by omega), blt_iff]; simp; omega
    have b0 : ∀ (D : List Key), D.length = Q.length + R.length + 2 → (decide ((0 : Int) ≤ (I64 Q.length).toInt) && Nat.blt (Int.toNat (I64 Q.length).toInt) D.length) = true := fun D hD => by
      rw [i64_toInt (by omega), blt_iff]; simp; omega
    have t1 : Int.toNat (I64 (Q.length + 1)).toInt = Q.length + 1 := by rw [i64_toInt (by omega)]; simp
    have t0 : Int.toNat (I64 Q.length).toInt = Q.length := by rw [i64_toInt (by omega)]; simp
    rw [hj, hd, show I64 (q :: Q).length = I64 (Q.length + 1) from rfl, dec_t (show (0 : Int64) < I64 (Q.length + 1) from (i64_lt (a := 0) (by omega) (by omega)).2 (by omega)), oite_t, b1 _ hlen, oite_t, t1, g1]
    simp only [obind_s]
    rw [b0 _ hlen, oite_t, t0, g0]
    simp only [obind_s]
    rw [f48 k x q]
    simp only [obind_s]
    have hc : decide (cK x q < 0) = decide (cK x q = -1) := by
      rcases cK_ord x q with ⟨h, _⟩ | ⟨h, _⟩ | ⟨h, _, _⟩ <;> rw [h] <;> rfl
    rw [hc]
    by_cases hq : cK x q = -1
    · rw [dec_t hq, oite_t, oite_t, oite_t, oite_t]
      rw [s1, show (decide ((0 : Int) ≤ (I64 Q.length).toInt) && Nat.blt Q.length (Q.reverse ++ q :: q :: R).length) = true from by rw [i64_toInt (by omega), blt_iff]; simp, oite_t, g2]
      simp only [obind_s]
      rw [s2, inner k b i x rec Q (q :: R) m (by omega) (by simp; omega)]
      rw [show insQ x (q :: Q) = q :: insQ x Q from if_pos hq]
      simp
    · rw [dec_f hq, oite_f]
      rw [show insQ x (q :: Q) = x :: q :: Q from if_neg hq]
      simp
theorem outer (k : Nat) (N : Nat) (hN : N < 90) : ∀ (R Q : List Key) (m : Nat), R.length < m → Q.length + R.length = N → N < k →
    F73_R3 (k + 5) m 0 (I64 N) (I64 Q.length) (Q.reverse ++ R) = some ((), (fold Q R).reverse)
  | [], Q, m, hm, hq, hk => by
    obtain ⟨m, rfl⟩ : ∃ q, m = q + 1 := ⟨m - 1, by simp at hm; omega⟩
    rw [F73_R3_s]
    unfold F73_L3
    simp only [List.length_nil, Nat.add_zero] at hq
    rw [dec_f (fun h => by have := (i64_lt (by omega) (by omega)).1 h; omega), oite_f, List.append_nil]
    rfl
  | x :: R, Q, m, hm, hq, hk => by
    simp only [List.length_cons] at hm hq
    obtain ⟨m, rfl⟩ : ∃ q, m = q + 1 := ⟨m - 1, by omega⟩
    rw [F73_R3_s]
    unfold F73_L3
    rw [dec_t ((i64_lt (by omega) (by omega)).2 (by omega)), oite_t, inner k (I64 N) (I64 Q.length) x (F73_R3 (k + 5) m) Q R (k + 5) (by omega) (by omega), i64_succ, ← ins_len x Q, outer k N hN R (insQ x Q) m (by omega) (by rw [ins_len]; omega) hk]
    rfl
theorem f47 (k : Nat) (l : List Key) (hl : l.length ≤ 12) : F47 (k + 40) (l, ()) = some ((), sorted l) := by
  have h63 : ∃ v, F63 (k + 40) (UInt64.ofInt (Int64.toInt (Int64.ofInt ↑l.length))) = some (v, ()) := by
    generalize l.length = N at hl
    match N, hl with
    | 0, _ => exact ⟨0, by kernel_rfl⟩
    | 1, _ => exact ⟨1, by kernel_rfl⟩
    | 2, _ => exact ⟨2, by kernel_rfl⟩
    | 3, _ => exact ⟨2, by kernel_rfl⟩
    | 4, _ => exact ⟨3, by kernel_rfl⟩
    | 5, _ => exact ⟨3, by kernel_rfl⟩
    | 6, _ => exact ⟨3, by kernel_rfl⟩
    | 7, _ => exact ⟨3, by kernel_rfl⟩
    | 8, _ => exact ⟨4, by kernel_rfl⟩
    | 9, _ => exact ⟨4, by kernel_rfl⟩
    | 10, _ => exact ⟨4, by kernel_rfl⟩
    | 11, _ => exact ⟨4, by kernel_rfl⟩
    | 12, _ => exact ⟨4, by kernel_rfl⟩
  obtain ⟨v, h63⟩ := h63
  unfold F47
  simp only
  rw [h63]
  simp only [obind_s]
  have h73 : F73 (k + 40) (l, 0, Int64.ofInt ↑l.length, ()) = some ((), sorted l) := by
    unfold F73
    simp only
    cases l with
    | nil => kernel_rfl
    | cons x R => exact outer (k + 35) (R.length + 1) (by simp at hl; omega) R [x] (k + 40) (by simp at hl; omega) (by simp; omega) (by simp at hl; omega)
  have h62 : F62 (k + 40) (l, 0, Int64.ofInt ↑l.length, v, ()) = some ((), sorted l) := by
    have e : F62 (k + 40) (l, 0, Int64.ofInt ↑l.length, v, ()) = G62_R7 (k + 40) (k + 40) 0 (Int64.ofInt ↑l.length) v true true l := rfl
    rw [e, G62_R7_s]
    unfold G62_L7
    rw [dec_t (show Int64.ofInt ↑l.length - 0 ≤ 12 from by
      rw [show Int64.ofInt ↑l.length - 0 = I64 l.length from i64_sub (b := 0) (by omega)]
      exact (i64_le (b := 12) (by omega) (by omega)).2 hl), oite_t, h73]
    rfl
  rw [h62]
  rfl
theorem map_erase : ∀ (l : List (Key × St)) (j : Nat), (l.eraseIdx j).map Prod.fst = (l.map Prod.fst).eraseIdx j
  | [], _ => rfl
  | x :: l, 0 => rfl
  | x :: l, j + 1 => by simp only [List.eraseIdx_cons_succ, List.map_cons, map_erase l j]
/-- the keys: whatever the order -/
theorem range_keys (k : Nat) (c00 : Option (List Node)) (c02 : UInt64) (tm : List (Key × St)) : ∀ (N : Nat) (tr : List (Key × St)) (out : List Key) (m : Nat), tr.length = N → N < m → out.length + N ≤ 12 →
    F32_R29 (k + 40) m c00 c02 out tm tr = some (sorted (out ++ tr.map Prod.fst), some (c00, tm, c02))
  | 0, tr, out, m, ht, hm, ho => by
    obtain ⟨m, rfl⟩ : ∃ q, m = q + 1 := ⟨m - 1, by omega⟩
    have : tr = [] := List.eq_nil_of_length_eq_zero ht
    subst this
    rw [F32_R29_s]
    unfold F32_L29
    rw [show Nat.blt 0 ([] : List (Key × St)).length = false from rfl, oite_f, f47 k out (by omega)]
    simp
    rfl
  | N + 1, tr, out, m, ht, hm, ho => by
    obtain ⟨m, rfl⟩ : ∃ q, m = q + 1 := ⟨m - 1, by omega⟩
    rw [F32_R29_s]
    unfold F32_L29
    rw [show Nat.blt 0 tr.length = true from by rw [blt_iff]; simp; omega, oite_t]
    refine oallN_mk (by omega) fun j hj => ?_
    rw [List.getElem?_eq_getElem hj]
    simp only [obind_s]
    rw [ble_t (by simp; omega), oite_t, range_keys k c00 c02 tm N (tr.eraseIdx j) (out ++ [((tr[j]).1.1, (tr[j]).1.2)]) m (by rw [List.length_eraseIdx]; simp [hj]; omega) (by omega) (by simp; omega)]
    refine congrArg (fun z => some (z, some (c00, tm, c02))) ?_
    unfold sorted
    refine congrArg List.reverse ?_
    have hj' : j < (tr.map Prod.fst).length := by simpa using hj
    have e := fold_erase (tr.map Prod.fst) j hj' (fold [] out)
    have f1 : ∀ (a b : List Key) Q, fold Q (a ++ b) = fold (fold Q a) b := fun a b Q => by unfold fold; rw [List.foldl_append]
    rw [f1, f1, f1]
    rw [← e]
    have m1 : (tr.eraseIdx j).map Prod.fst = (tr.map Prod.fst).eraseIdx j := by
      exact map_erase tr j
    rw [m1]
    simp [fold]
end Go.Proofs.Ytcfckkmiaeegpaa
