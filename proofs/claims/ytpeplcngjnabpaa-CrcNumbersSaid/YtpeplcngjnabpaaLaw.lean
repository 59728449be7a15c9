/- What crc.Table computes, in plain words: its table, its sums; sealing and opening. -/
import Derived.Test.YtpeplcngjnabpaaFns
import Derived.Test.YtpeplcngjnabpaaSxCrc
open Go Go.Sx Go.Sx.Crc
namespace Go.Proofs.Ytpeplcngjnabpaa
set_option maxRecDepth 100000
theorem and1 (n : UInt32) : (n &&& 1 = 1) ↔ n % 2 = 1 := by
  rw [← UInt32.toNat_inj, ← UInt32.toNat_inj]
  have e1 : (n &&& 1).toNat = n.toNat % 2 := by rw [UInt32.toNat_and]; exact Nat.and_one_is_mod _
  have e2 : (n % 2).toNat = n.toNat % 2 := by simp
  rw [e1, e2]
theorem shr1 (n : UInt32) : IK.shr .u32 n ((UInt64.toNat 1 : Nat) : Int) = n / 2 := by
  apply UInt32.toNat_inj.1
  have := shr32 n 1 (by omega)
  have e : ((UInt64.toNat 1 : Nat) : Int) = ((1 : Nat) : Int) := rfl
  rw [e, this]; simp

/-! ### fill -/
theorem fill_bits (rec : Arr [PT.int .i64, PT.optA preT (CT.int .u32) postT] (Option (Unit × Option TabT))) (i : Nat) (hi : i < 256) (t2 : Int64) (pre : UInt32 × Int32 × UInt32) (y : List UInt32) (post : UInt64 × UInt64) (hy : y.length = 256) :
    ∀ (m k : Nat) (n : UInt32), k ≤ 8 → 8 - k < m → F21_R877 rec m (I64 i) n t2 (I64 k) (some (pre, y, post)) = rec (t2 + 1) (some (pre, y.set i (stpN (8 - k) n), post)) := by
  intro m
  induction m with
  | zero => intro k n _ h; omega
  | succ m ih =>
    intro k n hk hm
    rw [F21_R877_s]
    unfold F21_L877
    by_cases h8 : k < 8
    · have e1 : decide (I64 k < 8) = true := dec_t ((i64_lt (a := k) (b := 8) (by omega) (by omega)).2 h8)
      rw [e1, oite_t, i64_succ, shr1]
      have e2 : 8 - k = (8 - (k + 1)) + 1 := by omega
      have es : stpN (8 - k) n = stpN (8 - (k + 1)) (stp n) := by rw [e2]; rfl
      rw [es]
      by_cases hb : n &&& 1 = 1
      · rw [dec_t hb, oite_t, ih (k + 1) _ (by omega) (by omega)]
        unfold stp; rw [if_pos ((and1 n).1 hb)]
      · rw [dec_f hb, oite_f, ih (k + 1) _ (by omega) (by omega)]
        unfold stp; rw [if_neg (fun h => hb ((and1 n).2 h))]
    · have hk8 : k = 8 := by omega
      subst hk8
      have e1 : decide (I64 8 < 8) = false := by decide
      have hi63 : i < 2 ^ 63 := by omega
      rw [e1, oite_f, obind_s, i64_toInt hi63]
      have e2 : decide ((0 : Int) ≤ (i : Int)) = true := dec_t (by omega)
      rw [e2, oite_t]
      have e3 : Nat.blt (Int.toNat (i : Int)) 256 = true := by rw [blt_iff]; simpa using hi
      rw [e3, oite_t]
      have e4 : Nat.blt (Int.toNat (i : Int) * 1) (List.length y) = true := by rw [blt_iff, hy]; simpa using hi
      rw [e4, oite_t]
      have e5 : Int.toNat (i : Int) * 1 = i := by simp
      rw [e5]
      rfl
theorem set_step (y : List UInt32) (i : Nat) (hi : i < 256) (hy : y.length = 256) : (words.take i ++ y.drop i).set i (word i) = words.take (i + 1) ++ y.drop (i + 1) := by
  have hw : words.length = 256 := by simp [words]
  rw [List.set_append_right _ _ (by simp; omega)]
  have e : i - (words.take i).length = 0 := by simp; omega
  have hd : y.drop i = y[i] :: y.drop (i + 1) := List.drop_eq_getElem_cons (by omega)
  rw [e, hd, List.set_cons_zero, List.take_add_one]
  have : words[i]? = some (word i) := word_at hi
  rw [this]; simp
theorem fill_eq (pre : UInt32 × Int32 × UInt32) (post : UInt64 × UInt64) (n0 : Nat) (hn : 9 ≤ n0) (y : List UInt32) (hy : y.length = 256) : ∀ (m i : Nat), i ≤ 256 → 256 - i < m →
    F21_R3 n0 m (I64 i) (some (pre, words.take i ++ y.drop i, post)) = some ((), some (pre, words, post)) := by
  have hw : words.length = 256 := by simp [words]
  intro m
  induction m with
  | zero => intro i _ h; omega
  | succ m ih =>
    intro i hi hm
    rw [F21_R3_s]
    unfold F21_L3
    by_cases h : i < 256
    · have e1 : decide (I64 i < 256) = true := dec_t ((i64_lt (a := i) (b := 256) (by omega) (by omega)).2 h)
      rw [e1, oite_t]
      have := fill_bits (F21_R3 n0 m) i h (I64 i) pre (words.take i ++ y.drop i) post (by simp; omega) n0 0 (UInt32.ofInt (Int64.toInt (I64 i))) (by omega) (by omega)
      have e0 : (I64 0 : Int64) = 0 := rfl
      rw [e0] at this
      rw [this, i64_succ]
      have e2 : stpN (8 - 0) (UInt32.ofInt (Int64.toInt (I64 i))) = word i := by
        rw [i64_toInt (by omega)]
        unfold word
        congr 1
        apply UInt32.toNat_inj.1
        have := u32_ofInt (i : Int)
        rw [UInt32.toNat_ofNat']
        omega
      rw [e2, set_step y i h hy]
      exact ih (i + 1) (by omega) (by omega)
    · have hi : i = 256 := by omega
      subst hi
      have e1 : decide (I64 256 < 256) = false := by decide
      rw [e1, oite_f]
      have e2 : words.take 256 ++ y.drop 256 = words := by rw [List.take_of_length_le (by omega), List.drop_eq_nil_of_le (by omega), List.append_nil]
      rw [e2]
theorem f21 (n : Nat) (hn : 300 ≤ n) (pre : UInt32 × Int32 × UInt32) (y : List UInt32) (hy : y.length = 256) (post : UInt64 × UInt64) : F21 n (some (pre, y, post)) = some ((), some (pre, words, post)) := by
  have h := fill_eq pre post n (by omega) y hy n 0 (by omega) (by omega)
  have e : words.take 0 ++ y.drop 0 = y := rfl
  rw [e] at h
  exact h
/-- A table: not yet used, or used. -/
def IsTab (x : Option TabT) (s c : UInt64) : Prop := x = some ((0, 0, 0), List.replicate 256 0, s, c) ∨ x = some ((1, 0, 0), words, s, c)
def used (s c : UInt64) : Option TabT := some ((1, 0, 0), words, s, c)
theorem used_tab (s c : UInt64) : IsTab (used s c) s c := .inr rfl
theorem IsTab.some {x : Option TabT} {s c : UInt64} (h : IsTab x s c) : ∃ p y, x = .some (p, y, s, c) := by
  rcases h with rfl | rfl
  · exact ⟨_, _, rfl⟩
  · exact ⟨_, _, rfl⟩
theorem f20 (n : Nat) (hn : 300 ≤ n) (x : Option TabT) (s c : UInt64) (h : IsTab x s c) : doF (F21 n) x = .some ((), used s c) := by
  rcases h with rfl | rfl
  · unfold doF
    simp only
    rw [if_neg (by decide), if_pos (by decide), f21 n hn _ _ (by simp)]
    rfl
  · unfold doF
    simp only
    rw [if_pos trivial]
    rfl

/-! ### Add, Sum -/
theorem add_loop (b t : List UInt8) (s c : UInt64) (ht : t.length < 2 ^ 63) : ∀ (m k : Nat) (n : UInt32), k ≤ t.length → t.length - k < m →
    F17_R125 m b n t (I64 t.length) (I64 k) (used s c) = some (reg n (t.drop k) ^^^ 4294967295, used s (c + UInt64.ofInt (Int64.toInt (I64 (List.length b))))) := by
  intro m
  induction m with
  | zero => intro k n _ h; omega
  | succ m ih =>
    intro k n hk hm
    have hs : F17_R125 (m + 1) = F17_L125 (F17_R125 m) := rfl
    rw [hs]
    unfold F17_L125
    by_cases h : k < t.length
    · have e1 : decide (I64 k < I64 t.length) = true := dec_t ((i64_lt (by omega) (by omega)).2 h)
      rw [e1, oite_t, at_i64_lt (by omega) h, obind_s]
      unfold used
      rw [obind_s]
      simp only
      have e2 : ∀ z : UInt8, decide ((0 : Int) ≤ (z.toNat : Int)) = true := fun z => dec_t (by omega)
      have e3 : ∀ z : UInt8, Nat.blt (Int.toNat (z.toNat : Int)) 256 = true := fun z => by rw [blt_iff]; have := z.toNat_lt; simp; omega
      rw [e2, oite_t, e3, oite_t]
      have e4 : ∀ z : UInt8, words[Int.toNat (z.toNat : Int) * 1]? = some (word z.toNat) := fun z => by
        have := z.toNat_lt
        rw [Int.toNat_natCast, Nat.mul_one]
        exact word_at (by omega)
      rw [e4, obind_s, i64_succ]
      have e5 : word (UInt8.ofInt (n.toNat : Int) ^^^ t[k]).toNat ^^^ IK.shr .u32 n ((UInt64.toNat 8 : Nat) : Int) = byt n t[k] := by
        apply table
        have e : ((UInt64.toNat 8 : Nat) : Int) = ((8 : Nat) : Int) := rfl
        rw [e, shr32 n 8 (by omega)]
      rw [e5]
      have := ih (k + 1) (byt n t[k]) (by omega) (by omega)
      unfold used at this
      have hd : t.drop k = t[k] :: t.drop (k + 1) := List.drop_eq_getElem_cons h
      rw [hd]
      exact this
    · have hk : k = t.length := by omega
      subst hk
      have e1 : decide (I64 t.length < I64 t.length) = false := dec_f (fun h => by have := (i64_lt ht ht).1 h; omega)
      rw [e1, oite_f, List.drop_eq_nil_of_le (Nat.le_refl _)]
      unfold used
      rw [obind_s, com32]
      rfl
def addF (n : UInt32) (b : List UInt8) : UInt32 := reg (n ^^^ 4294967295) b ^^^ 4294967295
def cnt (c : UInt64) (b : List UInt8) : UInt64 := c + UInt64.ofInt (Int64.toInt (I64 (List.length b)))
theorem f17 (n : Nat) (x : Option TabT) (s c : UInt64) (h : IsTab x s c) (v : UInt32) (b : List UInt8) (hb : b.length < 2 ^ 63) (hn : b.length + 300 ≤ n) :
    F17 n (x, v, b) = some (addF v b, used s (cnt c b)) := by
  obtain ⟨p, y, rfl⟩ := h.some
  unfold F17
  simp only
  rw [oelim_s]
  have e : F20 n ([], (), some (p, y, s, c)) = some ((), used s c) := f20 n (by omega) _ s c h
  have e' : F20 n ([], (), some ((p.1, p.2.1, p.2.2), y, s, c)) = some ((), used s c) := e
  rw [e', obind_s, com32]
  have := add_loop b b s c hb n 0 (v ^^^ 4294967295) (by omega) (by omega)
  have e0 : (I64 0 : Int64) = 0 := rfl
  rw [e0, List.drop_zero] at this
  exact this
theorem f17_nil (n : Nat) (v : UInt32) (b : List UInt8) : F17 n (none, v, b) = some (0, none) := rfl
theorem f16_nil (n : Nat) (l : List (List UInt8)) : F16 n (none, l) = some (0, none) := rfl
theorem sum_loop (n : Nat) (l : List (List UInt8)) (hl : l.length < 2 ^ 63) (hb : ∀ b ∈ l, b.length < 2 ^ 63 ∧ b.length + 300 ≤ n) : ∀ (m k : Nat) (v : UInt32) (x : Option TabT) (s c : UInt64), IsTab x s c → k ≤ l.length → l.length - k < m →
    ∃ z, F16_R61 n m v l (I64 l.length) (I64 k) x = some ((l.drop k).foldl addF v, z) ∧ IsTab z (s + 1) ((l.drop k).foldl cnt c) ∧ (k < l.length → z = used (s + 1) ((l.drop k).foldl cnt c)) := by
  intro m
  induction m with
  | zero => intro k v x s c _ _ h; omega
  | succ m ih =>
    intro k v x s c hx hk hm
    have hs : F16_R61 n (m + 1) = F16_L61 n (F16_R61 n m) := rfl
    rw [hs]
    unfold F16_L61
    by_cases h : k < l.length
    · have e1 : decide (I64 k < I64 l.length) = true := dec_t ((i64_lt (by omega) (by omega)).2 h)
      have hd : l.drop k = l[k] :: l.drop (k + 1) := List.drop_eq_getElem_cons h
      rw [e1, oite_t, at_i64_lt (by omega) h, obind_s]
      obtain ⟨b1, b2⟩ := hb l[k] (List.getElem_mem h)
      rw [f17 n x s c hx v l[k] b1 b2, obind_s, i64_succ, hd]
      obtain ⟨z, z1, z2, z3⟩ := ih (k + 1) (addF v l[k]) (used s (cnt c l[k])) s (cnt c l[k]) (used_tab _ _) (by omega) (by omega)
      refine ⟨z, z1, z2, fun _ => ?_⟩
      by_cases h2 : k + 1 < l.length
      · exact z3 h2
      · have hk1 : k + 1 = l.length := by omega
        have hd2 : l.drop (k + 1) = [] := List.drop_eq_nil_of_le (by omega)
        have : F16_R61 n m (addF v l[k]) l (I64 l.length) (I64 (k + 1)) (used s (cnt c l[k])) = some (addF v l[k], used (s + 1) (cnt c l[k])) := by
          cases m with
          | zero => omega
          | succ m =>
            have hs : F16_R61 n (m + 1) = F16_L61 n (F16_R61 n m) := rfl
            rw [hs]
            unfold F16_L61
            rw [hk1]
            have e1 : decide (I64 l.length < I64 l.length) = false := dec_f (fun h => by have := (i64_lt hl hl).1 h; omega)
            rw [e1, oite_f]
            rfl
        rw [this] at z1
        have z1 := congrArg (Option.map Prod.snd) z1
        simp only [Option.map_some, Option.some.injEq] at z1
        rw [hd2, ← z1]
        rfl
    · have hk : k = l.length := by omega
      subst hk
      have e1 : decide (I64 l.length < I64 l.length) = false := dec_f (fun h => by have := (i64_lt hl hl).1 h; omega)
      rw [e1, oite_f, List.drop_eq_nil_of_le (Nat.le_refl _)]
      rcases hx with rfl | rfl
      · exact ⟨_, rfl, .inl rfl, fun h => by omega⟩
      · exact ⟨_, rfl, .inr rfl, fun h => by omega⟩
theorem addF_sum (b : List UInt8) : addF 0 b = sum b := by
  unfold addF sum; rw [UInt32.zero_xor]
/-- One piece's sum. -/
theorem f16 (n : Nat) (x : Option TabT) (s c : UInt64) (hx : IsTab x s c) (b : List UInt8) (hb : b.length < 2 ^ 63) (hn : b.length + 300 ≤ n) : F16 n (x, [b]) = some (sum b, used (s + 1) (cnt c b)) := by
  obtain ⟨z, z1, z2, z3⟩ := sum_loop n [b] (by simp) (fun b' h => by simp at h; subst h; exact ⟨hb, hn⟩) n 0 0 x s c hx (by simp) (by simp; omega)
  rw [z3 (by simp)] at z1
  obtain ⟨p, y, rfl⟩ := hx.some
  have e : F16 n (some (p, y, s, c), [b]) = F16_R61 n n 0 [b] (I64 1) 0 (some (p, y, s, c)) := rfl
  rw [e]
  have z1 : F16_R61 n n 0 [b] (I64 1) 0 (some (p, y, s, c)) = some (addF 0 b, used (s + 1) (cnt c b)) := z1
  rw [z1, addF_sum]
theorem f11 (n : Nat) : ∃ x, F11 n () = some (x, ()) ∧ IsTab x 0 0 := ⟨_, rfl, .inl rfl⟩
end Go.Proofs.Ytpeplcngjnabpaa
