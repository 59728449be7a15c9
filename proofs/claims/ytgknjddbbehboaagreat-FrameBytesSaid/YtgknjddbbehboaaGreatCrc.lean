/- Lemmas moved here from another seat of this repo (tools/port.py). -/
import Derived.Test.YtgknjddbbehboaaGreatItem
import Derived.Test.YtgknjddbbehboaaGreatSxCrc
open Go Go.Sx Go.Sx.Crc
namespace Go.Proofs.YtgknjddbbehboaaGreat
set_option maxRecDepth 100000
theorem and1 (n : UInt32) : (n &&& 1 = 1) ↔ n % 2 = 1 := by
  rw [← UInt32.toNat_inj, ← UInt32.toNat_inj]
  have e1 : (n &&& 1).toNat = n.toNat % 2 := by rw [UInt32.toNat_and]; exact Nat.and_one_is_mod _
  have e2 : (n % 2).toNat = n.toNat % 2 := by simp
  rw [e1, e2]
theorem shr1 (n : UInt32) : IK.shr .u32 n ((UInt64.toNat 1 : Nat) : Int) = n / 2 := by
  apply UInt32.toNat_inj.1
  have := shr32 n 1 (by omega)
  have e : ((UInt64.toNat 1 : Nat) : Int) = ((1 : Nat) : Int) := rfl
  rw [e, this]; simp

/-! ### fill -/
theorem fill_bits (rec : Arr [PT.int .i64, PT.optA preT (CT.int .u32) postT] (Option (Unit × Option TabT))) (i : Nat) (hi : i < 256) (t2 : Int64) (pre : UInt32 × Int32 × UInt32) (y : List UInt32) (post : UInt64 × UInt64) (hy : y.length = 256) :
    ∀ (m k : Nat) (n : UInt32), k ≤ 8 → 8 - k < m → F59_R877 rec m (I64 i) n t2 (I64 k) (some (pre, y, post)) = rec (t2 + 1) (some (pre, y.set i (stpN (8 - k) n), post)) := by
  intro m
  induction m with
  | zero => intro k n _ h; omega
  | succ m ih =>
    intro k n hk hm
    rw [F59_R877_s]
    unfold F59_L877
    by_cases h8 : k < 8
    · have e1 : decide (I64 k < 8) = true := dec_t ((i64_lt (a := k) (b := 8) (by omega) (by omega)).2 h8)
      rw [e1, oite_t, i64_succ, shr1]
      have e2 : 8 - k = (8 - (k + 1)) + 1 := by omega
      have es : stpN (8 - k) n = stpN (8 - (k + 1)) (stp n) := by rw [e2]; rfl
      rw [es]
      by_cases hb : n &&& 1 = 1
      · rw [dec_t hb, oite_t, ih (k + 1) _ (by omega) (by omega)]
        unfold stp; rw [if_pos ((and1 n).1 hb)]
      · rw [dec_f hb, oite_f, ih (k + 1) _ (by omega) (by omega)]
        unfold stp; rw [if_neg (fun h => hb ((and1 n).2 h))]
    · have hk8 : k = 8 := by omega
      subst hk8
      have e1 : decide (I64 8 < 8) = false := by decide
      have hi63 : i < 2 ^ 63 := by omega
      rw [e1, oite_f, obind_s, i64_toInt hi63]
      have e2 : decide ((0 : Int) ≤ (i : Int)) = true := dec_t (by omega)
      rw [e2, oite_t]
      have e3 : Nat.blt (Int.toNat (i : Int)) 256 = true := by rw [blt_iff]; simpa using hi
      rw [e3, oite_t]
      have e4 : Nat.blt (Int.toNat (i : Int) * 1) (List.length y) = true := by rw [blt_iff, hy]; simpa using hi
      rw [e4, oite_t]
      have e5 : Int.toNat (i : Int) * 1 = i := by simp
      rw [e5]
      rfl
theorem set_step (y : List UInt32) (i : Nat) (hi : i < 256) (hy : y.length = 256) : (words.take i ++ y.drop i).set i (word i) = words.take (i + 1) ++ y.drop (i + 1) := by
  have hw : words.length = 256 := by simp [words]
  rw [List.set_append_right _ _ (by simp; omega)]
  have e : i - (words.take i).length = 0 := by simp; omega
  have hd : y.drop i = y[i] :: y.drop (i + 1) := List.drop_eq_getElem_cons (by omega)
  rw [e, hd, List.set_cons_zero, List.take_add_one]
  have : words[i]? = some (word i) := word_at hi
  rw [this]; simp
theorem fill_eq (pre : UInt32 × Int32 × UInt32) (post : UInt64 × UInt64) (n0 : Nat) (hn : 9 ≤ n0) (y : List UInt32) (hy : y.length = 256) : ∀ (m i : Nat), i ≤ 256 → 256 - i < m →
    F59_R3 n0 m (I64 i) (some (pre, words.take i ++ y.drop i, post)) = some ((), some (pre, words, post)) := by
  have hw : words.length = 256 := by simp [words]
  intro m
  induction m with
  | zero => intro i _ h; omega
  | succ m ih =>
    intro i hi hm
    rw [F59_R3_s]
    unfold F59_L3
    by_cases h : i < 256
    · have e1 : decide (I64 i < 256) = true := dec_t ((i64_lt (a := i) (b := 256) (by omega) (by omega)).2 h)
      rw [e1, oite_t]
      have := fill_bits (F59_R3 n0 m) i h (I64 i) pre (words.take i ++ y.drop i) post (by simp; omega) n0 0 (UInt32.ofInt (Int64.toInt (I64 i))) (by omega) (by omega)
      have e0 : (I64 0 : Int64) = 0 := rfl
      rw [e0] at this
      rw [this, i64_succ]
      have e2 : stpN (8 - 0) (UInt32.ofInt (Int64.toInt (I64 i))) = word i := by
        rw [i64_toInt (by omega)]
        unfold word
        congr 1
        apply UInt32.toNat_inj.1
        have := u32_ofInt (i : Int)
        rw [UInt32.toNat_ofNat']
        omega
      rw [e2, set_step y i h hy]
      exact ih (i + 1) (by omega) (by omega)
    · have hi : i = 256 := by omega
      subst hi
      have e1 : decide (I64 256 < 256) = false := by decide
      rw [e1, oite_f]
      have e2 : words.take 256 ++ y.drop 256 = words := by rw [List.take_of_length_le (by omega), List.drop_eq_nil_of_le (by omega), List.append_nil]
      rw [e2]
theorem f21 (n : Nat) (hn : 300 ≤ n) (pre : UInt32 × Int32 × UInt32) (y : List UInt32) (hy : y.length = 256) (post : UInt64 × UInt64) : F59 n (some (pre, y, post)) = some ((), some (pre, words, post)) := by
  have h := fill_eq pre post n (by omega) y hy n 0 (by omega) (by omega)
  have e : words.take 0 ++ y.drop 0 = y := rfl
  rw [e] at h
  exact h
/-- A table: not yet used, or used. -/
def IsTab (x : Option TabT) (s c : UInt64) : Prop := x = some ((0, 0, 0), List.replicate 256 0, s, c) ∨ x = some ((1, 0, 0), words, s, c)
def used (s c : UInt64) : Option TabT := some ((1, 0, 0), words, s, c)
theorem used_tab (s c : UInt64) : IsTab (used s c) s c := .inr rfl
theorem IsTab.some {x : Option TabT} {s c : UInt64} (h : IsTab x s c) : ∃ p y, x = .some (p, y, s, c) := by
  rcases h with rfl | rfl
  · exact ⟨_, _, rfl⟩
  · exact ⟨_, _, rfl⟩
theorem f20 (n : Nat) (hn : 300 ≤ n) (x : Option TabT) (s c : UInt64) (h : IsTab x s c) : doF (F59 n) x = .some ((), used s c) := by
  rcases h with rfl | rfl
  · unfold doF
    simp only
    rw [if_neg (by decide), if_pos (by decide), f21 n hn _ _ (by simp)]
    rfl
  · unfold doF
    simp only
    rw [if_pos trivial]
    rfl

/-! ### Add, Sum -/
theorem add_loop (b t : List UInt8) (s c : UInt64) (ht : t.length < 2 ^ 63) : ∀ (m k : Nat) (n : UInt32), k ≤ t.length → t.length - k < m →
    F38_R125 m b n t (I64 t.length) (I64 k) (used s c) = some (reg n (t.drop k) ^^^ 4294967295, used s (c + UInt64.ofInt (Int64.toInt (I64 (List.length b))))) := by
  intro m
  induction m with
  | zero => intro k n _ h; omega
  | succ m ih =>
    intro k n hk hm
    have hs : F38_R125 (m + 1) = F38_L125 (F38_R125 m) := rfl
    rw [hs]
    unfold F38_L125
    by_cases h : k < t.length
    · have e1 : decide (I64 k < I64 t.length) = true := dec_t ((i64_lt (by omega) (by omega)).2 h)
      rw [e1, oite_t, at_i64_lt (by omega) h, obind_s]
      unfold used
      rw [obind_s]
      simp only
      have e2 : ∀ z : UInt8, decide ((0 : Int) ≤ (z.toNat : Int)) = true := fun z => dec_t (by omega)
      have e3 : ∀ z : UInt8, Nat.blt (Int.toNat (z.toNat : Int)) 256 = true := fun z => by rw [blt_iff]; have := z.toNat_lt; simp; omega
      rw [e2, oite_t, e3, oite_t]
      have e4 : ∀ z : UInt8, words[Int.toNat (z.toNat : Int) * 1]? = some (word z.toNat) := fun z => by
        have := z.toNat_lt
        rw [Int.toNat_natCast, Nat.mul_one]
        exact word_at (by omega)
      rw [e4, obind_s, i64_succ]
      have e5 : word (UInt8.ofInt (n.toNat : Int) ^^^ t[k]).toNat ^^^ IK.shr .u32 n ((UInt64.toNat 8 : Nat) : Int) = byt n t[k] := by
        apply table
        have e : ((UInt64.toNat 8 : Nat) : Int) = ((8 : Nat) : Int) := rfl
        rw [e, shr32 n 8 (by omega)]
      rw [e5]
      have := ih (k + 1) (byt n t[k]) (by omega) (by omega)
      unfold used at this
      have hd : t.drop k = t[k] :: t.drop (k + 1) := List.drop_eq_getElem_cons h
      rw [hd]
      exact this
    · have hk : k = t.length := by omega
      subst hk
      have e1 : decide (I64 t.length < I64 t.length) = false := dec_f (fun h => by have := (i64_lt ht ht).1 h; omega)
      rw [e1, oite_f, List.drop_eq_nil_of_le (Nat.le_refl _)]
      unfold used
      rw [obind_s, com32]
      rfl
def addF (n : UInt32) (b : List UInt8) : UInt32 := reg (n ^^^ 4294967295) b ^^^ 4294967295
def cnt (c : UInt64) (b : List UInt8) : UInt64 := c + UInt64.ofInt (Int64.toInt (I64 (List.length b)))
theorem f17 (n : Nat) (x : Option TabT) (s c : UInt64) (h : IsTab x s c) (v : UInt32) (b : List UInt8) (hb : b.length < 2 ^ 63) (hn : b.length + 300 ≤ n) :
    F38 n (x, v, b) = some (addF v b, used s (cnt c b)) := by
  obtain ⟨p, y, rfl⟩ := h.some
  unfold F38
  simp only
  rw [oelim_s]
  have e : F58 n ([], (), some (p, y, s, c)) = some ((), used s c) := f20 n (by omega) _ s c h
  have e' : F58 n ([], (), some ((p.1, p.2.1, p.2.2), y, s, c)) = some ((), used s c) := e
  rw [e', obind_s, com32]
  have := add_loop b b s c hb n 0 (v ^^^ 4294967295) (by omega) (by omega)
  have e0 : (I64 0 : Int64) = 0 := rfl
  rw [e0, List.drop_zero] at this
  exact this
theorem f17_nil (n : Nat) (v : UInt32) (b : List UInt8) : F38 n (none, v, b) = some (0, none) := rfl
theorem f16_nil (n : Nat) (l : List (List UInt8)) : F19 n (none, l) = some (0, none) := rfl
theorem sum_loop (n : Nat) (l : List (List UInt8)) (hl : l.length < 2 ^ 63) (hb : ∀ b ∈ l, b.length < 2 ^ 63 ∧ b.length + 300 ≤ n) : ∀ (m k : Nat) (v : UInt32) (x : Option TabT) (s c : UInt64), IsTab x s c → k ≤ l.length → l.length - k < m →
    ∃ z, F19_R61 n m v l (I64 l.length) (I64 k) x = some ((l.drop k).foldl addF v, z) ∧ IsTab z (s + 1) ((l.drop k).foldl cnt c) ∧ (k < l.length → z = used (s + 1) ((l.drop k).foldl cnt c)) := by
  intro m
  induction m with
  | zero => intro k v x s c _ _ h; omega
  | succ m ih =>
    intro k v x s c hx hk hm
    have hs : F19_R61 n (m + 1) = F19_L61 n (F19_R61 n m) := rfl
    rw [hs]
    unfold F19_L61
    by_cases h : k < l.length
    · have e1 : decide (I64 k < I64 l.length) = true := dec_t ((i64_lt (by omega) (by omega)).2 h)
      have hd : l.drop k = l[k] :: l.drop (k + 1) := List.drop_eq_getElem_cons h
      rw [e1, oite_t, at_i64_lt (by omega) h, obind_s]
      obtain ⟨b1, b2⟩ := hb l[k] (List.getElem_mem h)
      rw [f17 n x s c hx v l[k] b1 b2, obind_s, i64_succ, hd]
      obtain ⟨z, z1, z2, z3⟩ := ih (k + 1) (addF v l[k]) (used s (cnt c l[k])) s (cnt c l[k]) (used_tab _ _) (by omega) (by omega)
      refine ⟨z, z1, z2, fun _ => ?_⟩
      by_cases h2 : k + 1 < l.length
      · exact z3 h2
      · have hk1 : k + 1 = l.length := by omega
        have hd2 : l.drop (k + 1) = [] := List.drop_eq_nil_of_le (by omega)
        have : F19_R61 n m (addF v l[k]) l (I64 l.length) (I64 (k + 1)) (used s (cnt c l[k])) = some (addF v l[k], used (s + 1) (cnt c l[k])) := by
          cases m with
          | zero => omega
          | succ m =>
            have hs : F19_R61 n (m + 1) = F19_L61 n (F19_R61 n m) := rfl
            rw [hs]
            unfold F19_L61
            rw [hk1]
            have e1 : decide (I64 l.length < I64 l.length) = false := dec_f (fun h => by have := (i64_lt hl hl).1 h; omega)
            rw [e1, oite_f]
            rfl
        rw [this] at z1
        have z1 := congrArg (Option.map Prod.snd) z1
        simp only [Option.map_some, Option.some.injEq] at z1
        rw [hd2, ← z1]
        rfl
    · have hk : k = l.length := by omega
      subst hk
      have e1 : decide (I64 l.length < I64 l.length) = false := dec_f (fun h => by have := (i64_lt hl hl).1 h; omega)
      rw [e1, oite_f, List.drop_eq_nil_of_le (Nat.le_refl _)]
      rcases hx with rfl | rfl
      · exact ⟨_, rfl, .inl rfl, fun h => by omega⟩
      · exact ⟨_, rfl, .inr rfl, fun h => by omega⟩
theorem addF_sum (b : List UInt8) : addF 0 b = sum b := by
  unfold addF sum; rw [UInt32.zero_xor]
/-- One piece's sum. -/
theorem f16 (n : Nat) (x : Option TabT) (s c : UInt64) (hx : IsTab x s c) (b : List UInt8) (hb : b.length < 2 ^ 63) (hn : b.length + 300 ≤ n) : F19 n (x, [b]) = some (sum b, used (s + 1) (cnt c b)) := by
  obtain ⟨z, z1, z2, z3⟩ := sum_loop n [b] (by simp) (fun b' h => by simp at h; subst h; exact ⟨hb, hn⟩) n 0 0 x s c hx (by simp) (by simp; omega)
  rw [z3 (by simp)] at z1
  obtain ⟨p, y, rfl⟩ := hx.some
  have e : F19 n (some (p, y, s, c), [b]) = F19_R61 n n 0 [b] (I64 1) 0 (some (p, y, s, c)) := rfl
  rw [e]
  have z1 : F19_R61 n n 0 [b] (I64 1) 0 (some (p, y, s, c)) = some (addF 0 b, used (s + 1) (cnt c b)) := z1
  rw [z1, addF_sum]
theorem f11 (n : Nat) : ∃ x, F5 n () = some (x, ()) ∧ IsTab x 0 0 := ⟨_, rfl, .inl rfl⟩
set_option maxRecDepth 100000
/-! ### Four bytes -/
def b4 (x : UInt32) : UInt8 × UInt8 × UInt8 × UInt8 :=
  (UInt8.ofInt (x.toNat : Int), UInt8.ofInt ((IK.shr .u32 x ((UInt64.toNat 8 : Nat) : Int)).toNat : Int), UInt8.ofInt ((IK.shr .u32 x ((UInt64.toNat 16 : Nat) : Int)).toNat : Int), UInt8.ofInt ((IK.shr .u32 x ((UInt64.toNat 24 : Nat) : Int)).toNat : Int))
def l4 (b : UInt8 × UInt8 × UInt8 × UInt8) : List UInt8 := [b.1, b.2.1, b.2.2.1, b.2.2.2]
def v4 (b : UInt8 × UInt8 × UInt8 × UInt8) : UInt32 :=
  UInt32.ofInt (b.1.toNat : Int) ||| IK.shl .u32 (UInt32.ofInt (b.2.1.toNat : Int)) ((UInt64.toNat 8 : Nat) : Int) ||| IK.shl .u32 (UInt32.ofInt (b.2.2.1.toNat : Int)) ((UInt64.toNat 16 : Nat) : Int) ||| IK.shl .u32 (UInt32.ofInt (b.2.2.2.toNat : Int)) ((UInt64.toNat 24 : Nat) : Int)
theorem f8 (n : Nat) (x : UInt32) : F18 n x = some (b4 x, ()) := rfl
theorem f10 (n : Nat) (b : UInt8 × UInt8 × UInt8 × UInt8) : F40 n b = some (v4 b, ()) := rfl
theorem u8i (m : Nat) : (UInt8.ofInt (m : Int)).toNat = m % 256 := by have := u8_ofInt (m : Int); omega
theorem b4_nat (x : UInt32) : (b4 x).1.toNat = x.toNat % 256 ∧ (b4 x).2.1.toNat = x.toNat / 256 % 256 ∧ (b4 x).2.2.1.toNat = x.toNat / 65536 % 256 ∧ (b4 x).2.2.2.toNat = x.toNat / 16777216 := by
  have h1 := shr32 x 8 (by omega)
  have h2 := shr32 x 16 (by omega)
  have h3 := shr32 x 24 (by omega)
  have e1 : ((UInt64.toNat 8 : Nat) : Int) = ((8 : Nat) : Int) := rfl
  have e2 : ((UInt64.toNat 16 : Nat) : Int) = ((16 : Nat) : Int) := rfl
  have e3 : ((UInt64.toNat 24 : Nat) : Int) = ((24 : Nat) : Int) := rfl
  have hx := x.toNat_lt
  unfold b4
  simp only [u8i, e1, e2, e3, h1, h2, h3]
  refine ⟨trivial, trivial, trivial, ?_⟩
  have : x.toNat / 2 ^ 24 < 256 := by omega
  omega
theorem shl32 (b : UInt8) (k : Nat) (hk : k ≤ 24) : (IK.shl .u32 (UInt32.ofInt (b.toNat : Int)) (k : Int)).toNat = b.toNat <<< k := by
  have h := IK.shl_toInt .u32 (UInt32.ofInt (b.toNat : Int)) (k : Int)
  have e1 : IK.toInt .u32 (IK.shl .u32 (UInt32.ofInt (b.toNat : Int)) (k : Int)) = ((IK.shl .u32 (UInt32.ofInt (b.toNat : Int)) (k : Int)).toNat : Int) := rfl
  have e2 : IK.toInt .u32 (UInt32.ofInt (b.toNat : Int)) = (b.toNat : Int) := by
    have : IK.toInt .u32 (UInt32.ofInt (b.toNat : Int)) = ((UInt32.ofInt (b.toNat : Int)).toNat : Int) := rfl
    rw [this, byte32]
  have e3 : min (k : Int).toNat IntKind.u32.bits = k := by simp [IntKind.bits]; omega
  rw [e1, e2, e3] at h
  have hb := b.toNat_lt
  have hlt : b.toNat * 2 ^ k < 4294967296 := by
    have : 2 ^ k ≤ 2 ^ 24 := Nat.pow_le_pow_right (by omega) hk
    have : b.toNat * 2 ^ k ≤ b.toNat * 2 ^ 24 := Nat.mul_le_mul_left _ this
    omega
  have hw : IntKind.u32.wrap ((b.toNat : Int) * 2 ^ k) = (b.toNat : Int) * 2 ^ k := by
    rw [wrap_eq]
    have e : (if IntKind.u32.signed = true then Int.bmod ((b.toNat : Int) * 2 ^ k) (2 ^ IntKind.u32.bits) else ((b.toNat : Int) * 2 ^ k) % (2 ^ IntKind.u32.bits : Int)) = ((b.toNat : Int) * 2 ^ k) % 4294967296 := by simp [IntKind.signed, IntKind.bits]
    rw [e]
    have : ((b.toNat : Int) * 2 ^ k) = ((b.toNat * 2 ^ k : Nat) : Int) := by simp
    rw [this]; omega
  rw [hw] at h
  have : ((b.toNat : Int) * 2 ^ k) = ((b.toNat * 2 ^ k : Nat) : Int) := by simp
  rw [this] at h
  rw [Nat.shiftLeft_eq]; omega
theorem v4_nat (b : UInt8 × UInt8 × UInt8 × UInt8) : (v4 b).toNat = b.1.toNat + 256 * b.2.1.toNat + 65536 * b.2.2.1.toNat + 16777216 * b.2.2.2.toNat := by
  have e1 : ((UInt64.toNat 8 : Nat) : Int) = ((8 : Nat) : Int) := rfl
  have e2 : ((UInt64.toNat 16 : Nat) : Int) = ((16 : Nat) : Int) := rfl
  have e3 : ((UInt64.toNat 24 : Nat) : Int) = ((24 : Nat) : Int) := rfl
  unfold v4
  rw [e1, e2, e3, UInt32.toNat_or, UInt32.toNat_or, UInt32.toNat_or, shl32 _ 8 (by omega), shl32 _ 16 (by omega), shl32 _ 24 (by omega), byte32]
  have h0 := b.1.toNat_lt
  have h1 := b.2.1.toNat_lt
  have h2 := b.2.2.1.toNat_lt
  rw [Nat.or_comm b.1.toNat, ← Nat.shiftLeft_add_eq_or_of_lt (by omega : b.1.toNat < 2 ^ 8)]
  have g1 : b.2.1.toNat <<< 8 + b.1.toNat < 2 ^ 16 := by rw [Nat.shiftLeft_eq]; omega
  rw [Nat.or_comm (b.2.1.toNat <<< 8 + b.1.toNat), ← Nat.shiftLeft_add_eq_or_of_lt g1]
  have g2 : b.2.2.1.toNat <<< 16 + (b.2.1.toNat <<< 8 + b.1.toNat) < 2 ^ 24 := by rw [Nat.shiftLeft_eq, Nat.shiftLeft_eq]; omega
  rw [Nat.or_comm, ← Nat.shiftLeft_add_eq_or_of_lt g2, Nat.shiftLeft_eq, Nat.shiftLeft_eq, Nat.shiftLeft_eq]
  omega
theorem v4_b4 (x : UInt32) : v4 (b4 x) = x := by
  apply UInt32.toNat_inj.1
  obtain ⟨h1, h2, h3, h4⟩ := b4_nat x
  have hx := x.toNat_lt
  rw [v4_nat, h1, h2, h3, h4]; omega
theorem b4_v4 (b : UInt8 × UInt8 × UInt8 × UInt8) : b4 (v4 b) = b := by
  obtain ⟨h1, h2, h3, h4⟩ := b4_nat (v4 b)
  rw [v4_nat] at h1 h2 h3 h4
  have k0 := b.1.toNat_lt
  have k1 := b.2.1.toNat_lt
  have k2 := b.2.2.1.toNat_lt
  have k3 := b.2.2.2.toNat_lt
  have e1 : (b4 (v4 b)).1 = b.1 := UInt8.toNat_inj.1 (by omega)
  have e2 : (b4 (v4 b)).2.1 = b.2.1 := UInt8.toNat_inj.1 (by omega)
  have e3 : (b4 (v4 b)).2.2.1 = b.2.2.1 := UInt8.toNat_inj.1 (by omega)
  have e4 : (b4 (v4 b)).2.2.2 = b.2.2.2 := UInt8.toNat_inj.1 (by omega)
  have : b4 (v4 b) = ((b4 (v4 b)).1, (b4 (v4 b)).2.1, (b4 (v4 b)).2.2.1, (b4 (v4 b)).2.2.2) := rfl
  rw [this, e1, e2, e3, e4]
theorem f9 (n : Nat) (x : UInt32) : F15 n x = some (l4 (b4 x), ()) := by
  obtain ⟨h1, h2, h3, h4⟩ := b4_nat x
  have hx := x.toNat_lt
  have m256 : (256 : UInt32).toNat = 256 := rfl
  have e : ∀ (a b : UInt8), a.toNat = b.toNat → a = b := fun a b h => UInt8.toNat_inj.1 h
  unfold F15
  congr 2
  unfold l4
  congr 1
  · apply e; rw [u8i, h1, UInt32.toNat_mod]; have : (256 : UInt32).toNat = 256 := rfl; rw [this]; omega
  congr 1
  · apply e; rw [u8i, h2, UInt32.toNat_mod, UInt32.toNat_div]; have : (256 : UInt32).toNat = 256 := rfl; rw [this]; omega
  congr 1
  · apply e; rw [u8i, h3, UInt32.toNat_mod, UInt32.toNat_div]; have h : (65536 : UInt32).toNat = 65536 := rfl; rw [h, m256]; omega
  congr 1
  · apply e; rw [u8i, h4, UInt32.toNat_div]; have h : (16777216 : UInt32).toNat = 16777216 := rfl; rw [h]; omega

/-! ### The document's answer -/
theorem ref_bits (rec : Arr [PT.int .u32, PT.int .i64, PT.list u8s] (Option (UInt32 × List UInt8))) (b : List UInt8) (i : Int64) : ∀ (m k : Nat) (n : UInt32), k ≤ 8 → 8 - k < m → F1016_R939 rec m n i (I64 k) b = rec (stpN (8 - k) n) (i + 1) b := by
  intro m
  induction m with
  | zero => intro k n _ h; omega
  | succ m ih =>
    intro k n hk hm
    have hs : F1016_R939 rec (m + 1) = F1016_L939 rec (F1016_R939 rec m) := rfl
    rw [hs]
    unfold F1016_L939
    by_cases h8 : k < 8
    · have e1 : decide (I64 k < 8) = true := dec_t ((i64_lt (a := k) (b := 8) (by omega) (by omega)).2 h8)
      have e2 : 8 - k = (8 - (k + 1)) + 1 := by omega
      have es : stpN (8 - k) n = stpN (8 - (k + 1)) (stp n) := by rw [e2]; rfl
      rw [e1, oite_t, i64_succ, es]
      by_cases hb : n % 2 = 1
      · rw [dec_t hb, oite_t, ih (k + 1) _ (by omega) (by omega)]
        unfold stp; rw [if_pos hb]
      · rw [dec_f hb, oite_f, ih (k + 1) _ (by omega) (by omega)]
        unfold stp; rw [if_neg hb]
    · have hk8 : k = 8 := by omega
      subst hk8
      have e1 : decide (I64 8 < 8) = false := by decide
      rw [e1, oite_f]
      rfl
theorem docsum_loop (n0 : Nat) (hn : 9 ≤ n0) (b : List UInt8) (hb : b.length < 2 ^ 63) : ∀ (m k : Nat) (n : UInt32), k ≤ b.length → b.length - k < m → F1016_R29 n0 m n (I64 k) b = some (reg n (b.drop k) ^^^ 4294967295, b) := by
  intro m
  induction m with
  | zero => intro k n _ h; omega
  | succ m ih =>
    intro k n hk hm
    have hs : F1016_R29 n0 (m + 1) = F1016_L29 n0 (F1016_R29 n0 m) := rfl
    rw [hs]
    unfold F1016_L29
    by_cases h : k < b.length
    · have e1 : decide (I64 k < I64 (List.length b)) = true := dec_t ((i64_lt (by omega) hb).2 h)
      obtain ⟨k1, k2⟩ := idx_i64 (l := b) (k := k) h (by omega)
      rw [e1, oite_t, k1, oite_t, k2, obind_s]
      have := ref_bits (F1016_R29 n0 m) b (I64 k) n0 0 (n ^^^ UInt32.ofInt (b[k].toNat : Int)) (by omega) (by omega)
      have e0 : (I64 0 : Int64) = 0 := rfl
      rw [e0] at this
      rw [this, i64_succ, ih (k + 1) _ (by omega) (by omega)]
      have hd : b.drop k = b[k] :: b.drop (k + 1) := List.drop_eq_getElem_cons h
      rw [hd]
      rfl
    · have hk : k = b.length := by omega
      subst hk
      have e1 : decide (I64 b.length < I64 (List.length b)) = false := dec_f (fun h => by have := (i64_lt hb hb).1 h; omega)
      rw [e1, oite_f, List.drop_eq_nil_of_le (Nat.le_refl _)]
      rfl
theorem sum_ref (n : Nat) (b : List UInt8) (hb : b.length < 2 ^ 63) (hn : b.length + 300 ≤ n) : F1016 n b = some (Crc.sum b, b) := by
  have := docsum_loop n (by omega) b hb n 0 4294967295 (by omega) (by omega)
  have e0 : (I64 0 : Int64) = 0 := rfl
  rw [e0, List.drop_zero] at this
  exact this
/-! ### The example -/
set_option maxRecDepth 100000
def four4 (l : List UInt8) : Option (UInt8 × UInt8 × UInt8 × UInt8) := firstN (CT.int .u8) 4 l
def F20' : Nat →
  Option ((UInt32 × Int32 × UInt32) × List UInt32 × UInt64 × UInt64) × List UInt8 →
    Option ((List UInt8 × Bool) × Option ((UInt32 × Int32 × UInt32) × List UInt32 × UInt64 × UInt64)) := fun (n : Nat) (x : Option ((UInt32 × Int32 × UInt32) × List UInt32 × UInt64 × UInt64) × List UInt8) =>
  oelim (Prod.fst x) (some (([], false), none)) fun (x_1 : (UInt32 × Int32 × UInt32) × List UInt32 × UInt64 × UInt64) =>
    oite (decide (Int64.ofInt ↑(List.length (Prod.snd x)) - (4 : Int64) < (0 : Int64)))
      (some
        (([], false),
          some
            ((Prod.fst (Prod.fst x_1), Prod.fst (Prod.snd (Prod.fst x_1)), Prod.snd (Prod.snd (Prod.fst x_1))),
              Prod.fst (Prod.snd x_1), Prod.fst (Prod.snd (Prod.snd x_1)), Prod.snd (Prod.snd (Prod.snd x_1)))))
      (oite
        (decide ((0 : Int) ≤ Int64.toInt (Int64.ofInt ↑(List.length (Prod.snd x)) - (4 : Int64))) &&
            Nat.ble (Int.toNat (Int64.toInt (Int64.ofInt ↑(List.length (Prod.snd x)) - (4 : Int64))))
              (List.length (Prod.snd x)) &&
          true)
        (obind
          (F19 n
            (some
                ((Prod.fst (Prod.fst x_1), Prod.fst (Prod.snd (Prod.fst x_1)), Prod.snd (Prod.snd (Prod.fst x_1))),
                  Prod.fst (Prod.snd x_1), Prod.fst (Prod.snd (Prod.snd x_1)), Prod.snd (Prod.snd (Prod.snd x_1))),
              [List.drop (0 : Nat)
                  (List.take (Int.toNat (Int64.toInt (Int64.ofInt ↑(List.length (Prod.snd x)) - (4 : Int64))))
                    (Prod.snd x))]))
          fun (x_2 : UInt32 × Option ((UInt32 × Int32 × UInt32) × List UInt32 × UInt64 × UInt64)) =>
          oite
            (decide ((0 : Int) ≤ Int64.toInt (Int64.ofInt ↑(List.length (Prod.snd x)) - (4 : Int64))) &&
              Nat.ble (Int.toNat (Int64.toInt (Int64.ofInt ↑(List.length (Prod.snd x)) - (4 : Int64))))
                (List.length (Prod.snd x)))
            (obind
              (four4
                (List.drop (Int.toNat (Int64.toInt (Int64.ofInt ↑(List.length (Prod.snd x)) - (4 : Int64))))
                  (List.take (List.length (Prod.snd x)) (Prod.snd x))))
              fun (x_3 : UInt8 × UInt8 × UInt8 × UInt8) =>
              obind
                (F40 n
                  (Prod.fst x_3, Prod.fst (Prod.snd x_3), Prod.fst (Prod.snd (Prod.snd x_3)),
                    Prod.snd (Prod.snd (Prod.snd x_3))))
                fun (x_4 : UInt32 × Unit) =>
                oite (!decide (Prod.fst x_2 = Prod.fst x_4)) (some (([], false), Prod.snd x_2))
                  (oite
                    (decide ((0 : Int) ≤ Int64.toInt (Int64.ofInt ↑(List.length (Prod.snd x)) - (4 : Int64))) &&
                        Nat.ble (Int.toNat (Int64.toInt (Int64.ofInt ↑(List.length (Prod.snd x)) - (4 : Int64))))
                          (List.length (Prod.snd x)) &&
                      true)
                    (oite
                      (Nat.ble
                        ((0 : Nat) +
                          List.length
                            (List.drop (0 : Nat)
                              (List.take
                                (Int.toNat (Int64.toInt (Int64.ofInt ↑(List.length (Prod.snd x)) - (4 : Int64))))
                                (Prod.snd x))))
                        (4294967296 : Nat))
                      (some
                        (([] ++
                              List.drop (0 : Nat)
                                (List.take
                                  (Int.toNat (Int64.toInt (Int64.ofInt ↑(List.length (Prod.snd x)) - (4 : Int64))))
                                  (Prod.snd x)),
                            true),
                          Prod.snd x_2))
                      none)
                    none))
            none)
        none)

theorem F14_eq (n : Nat) : F20 n = F20' n := rfl
theorem f12 (n : Nat) (x : Option TabT) (s c : UInt64) (hx : IsTab x s c) (b : List UInt8) (hb : b.length ≤ 100000) (hn : b.length + 300 ≤ n) :
    F8 n (x, b) = some (b ++ l4 (b4 (Crc.sum b)), used (s + 1) (cnt c b)) := by
  unfold F8
  simp only [f16 n x s c hx b (by omega) hn, obind_s, f8]
  have e1 : Nat.ble (0 + List.length b) 4294967296 = true := ble_t (by omega)
  have e2 : ∀ l : List UInt8, l.length = 4 → Nat.ble (List.length ([] ++ b) + List.length l) 4294967296 = true := fun l h => ble_t (by simp; omega)
  rw [e1, oite_t, e2 _ rfl, oite_t]
  rfl
theorem f12_nil (n : Nat) (b : List UInt8) (hb : b.length ≤ 100000) : F8 n (none, b) = some (b ++ [0, 0, 0, 0], none) := by
  unfold F8
  simp only [f16_nil, obind_s, f8]
  have e1 : Nat.ble (0 + List.length b) 4294967296 = true := ble_t (by omega)
  have e2 : ∀ l : List UInt8, l.length = 4 → Nat.ble (List.length ([] ++ b) + List.length l) 4294967296 = true := fun l h => ble_t (by simp; omega)
  rw [e1, oite_t, e2 _ rfl, oite_t]
  rfl
/-- Is what stands ahead of the last four bytes as they say? -/
def opens (b : List UInt8) : Bool := decide (4 ≤ b.length) && l4 (b4 (Crc.sum (b.take (b.length - 4)))) == b.drop (b.length - 4)
theorem four_of {l : List UInt8} (h : l.length = 4) : ∃ q : UInt8 × UInt8 × UInt8 × UInt8, l = l4 q ∧ four4 l = some q := by
  match l, h with
  | [p, q, r, s], _ => exact ⟨(p, q, r, s), rfl, rfl⟩
theorem obind_eq {R α : Type} {m : Option α} {a : α} {k : α → Option R} (h : m = some a) : obind m k = k a := by subst h; rfl
theorem l4_inj {p q : UInt8 × UInt8 × UInt8 × UInt8} (h : l4 p = l4 q) : p = q := by
  obtain ⟨a, b, c, d⟩ := p
  obtain ⟨e, f, g, i⟩ := q
  simp only [l4, List.cons.injEq, and_true] at h
  obtain ⟨rfl, rfl, rfl, rfl⟩ := h
  rfl
theorem len4 {k : Nat} (h : k < 4) : decide (I64 k - 4 < 0) = true := by
  have : k = 0 ∨ k = 1 ∨ k = 2 ∨ k = 3 := by omega
  rcases this with rfl | rfl | rfl | rfl <;> decide
theorem sub4 {k : Nat} (h : 4 ≤ k) : I64 k - 4 = I64 (k - 4) := by
  have : (4 : Int64) = I64 4 := by decide
  rw [this]; exact i64_sub h
theorem f14_nil (n : Nat) (b : List UInt8) : F20 n (none, b) = some (([], false), none) := rfl
theorem f14 (n : Nat) (x : Option TabT) (s c : UInt64) (hx : IsTab x s c) (b : List UInt8) (hb : b.length ≤ 100000) (hn : b.length + 300 ≤ n) :
    ∃ z c', F20 n (x, b) = some ((if opens b = true then b.take (b.length - 4) else [], opens b), z) ∧ IsTab z (if b.length < 4 then s else s + 1) c' := by
  obtain ⟨p, y, rfl⟩ := hx.some
  rw [F14_eq]
  unfold F20'
  simp only
  rw [oelim_s]
  by_cases h4 : b.length < 4
  · refine ⟨some (p, y, s, c), c, ?_, by rw [if_pos h4]; exact hx⟩
    have ho : opens b = false := by unfold opens; rw [dec_f (by omega)]; rfl
    rw [len4 h4, oite_t, ho]
    rfl
  · have h4' : 4 ≤ b.length := by omega
    have e0 : decide (I64 (b.length - 4) < 0) = false := dec_f (fun h => by
      have := (i64_lt (a := b.length - 4) (b := 0) (by omega) (by omega)).1 h; omega)
    rw [sub4 h4', e0, oite_f, i64_toInt (by omega)]
    have e1 : (decide ((0 : Int) ≤ ((b.length - 4 : Nat) : Int)) && Nat.ble (Int.toNat ((b.length - 4 : Nat) : Int)) (List.length b)) = true := by
      rw [dec_t (by omega), ble_t (by simp)]; rfl
    have e2 : (decide ((0 : Int) ≤ ((b.length - 4 : Nat) : Int)) && Nat.ble (Int.toNat ((b.length - 4 : Nat) : Int)) (List.length b) && true) = true := by rw [e1]; rfl
    rw [e2, oite_t, Int.toNat_natCast, List.drop_zero]
    have hx' : IsTab (some ((p.1, p.2.1, p.2.2), y, s, c)) s c := hx
    rw [f16 n _ s c hx' (b.take (b.length - 4)) (by simp; omega) (by simp; omega), obind_s]
    rw [Int.toNat_natCast] at e1
    rw [e1, oite_t, List.take_of_length_le (Nat.le_refl b.length)]
    obtain ⟨q, q1, q2⟩ := four_of (l := b.drop (b.length - 4)) (by simp; omega)
    rw [q2, obind_s, f10, obind_s]
    have e3 : v4 (q.1, q.2.1, q.2.2.1, q.2.2.2) = v4 q := rfl
    rw [e3]
    refine ⟨used (s + 1) (cnt c (b.take (b.length - 4))), cnt c (b.take (b.length - 4)), ?_, by rw [if_neg h4]; exact used_tab _ _⟩
    have ho : opens b = decide (Crc.sum (b.take (b.length - 4)) = v4 q) := by
      unfold opens
      rw [dec_t h4', Bool.true_and, q1]
      by_cases h : Crc.sum (b.take (b.length - 4)) = v4 q
      · rw [dec_t h, h, b4_v4]; simp
      · rw [dec_f h]
        cases hq : (l4 (b4 (Crc.sum (b.take (b.length - 4)))) == l4 q) with
        | false => rfl
        | true =>
          have := l4_inj (eq_of_beq hq)
          exfalso; apply h; rw [← this, v4_b4]
    rw [ho]
    by_cases h : Crc.sum (b.take (b.length - 4)) = v4 q
    · rw [dec_t h, Bool.not_true, oite_f]
      have e5 : Nat.ble (0 + List.length (b.take (b.length - 4))) 4294967296 = true := ble_t (by simp; omega)
      rw [e5]
      rfl
    · rw [dec_f h, Bool.not_false, oite_t]
      rfl
theorem opens_seal (b : List UInt8) : opens (b ++ l4 (b4 (Crc.sum b))) = true ∧ (b ++ l4 (b4 (Crc.sum b))).take ((b ++ l4 (b4 (Crc.sum b))).length - 4) = b := by
  have hl : (b ++ l4 (b4 (Crc.sum b))).length - 4 = b.length := by simp [l4]
  constructor
  · unfold opens
    rw [hl, List.take_left, List.drop_left]
    simp [l4]
  · rw [hl, List.take_left]
set_option maxRecDepth 100000
abbrev u32c (c : UInt8) : UInt32 := UInt32.ofInt (c.toNat : Int)
theorem u32c_xor (c d : UInt8) : u32c (c ^^^ d) = u32c c ^^^ u32c d := by
  apply UInt32.toNat_inj.1
  rw [UInt32.toNat_xor, byte32, byte32, byte32, UInt8.toNat_xor]
theorem stpN_add : ∀ (a b : Nat) (x : UInt32), stpN (a + b) x = stpN b (stpN a x)
  | 0, b, x => by rw [Nat.zero_add]; rfl
  | a + 1, b, x => by rw [Nat.add_right_comm]; simp only [stpN]; exact stpN_add a b (stp x)
theorem stpN_shift (k : Nat) (y : UInt32) (m : Nat) (h : y.toNat = 2 ^ k * m) : (stpN k y).toNat = m := by
  have : (stpN k y).toBitVec = y.toBitVec >>> k := by
    rw [stpN_bv]
    apply LN_shift
    intro i hi
    rw [BitVec.getLsbD, UInt32.toNat_toBitVec, h, Nat.testBit_two_pow_mul]
    simp; omega
  have := congrArg BitVec.toNat this
  rw [UInt32.toNat_toBitVec, BitVec.toNat_ushiftRight, UInt32.toNat_toBitVec, h, Nat.shiftRight_eq_div_pow, Nat.mul_div_cancel_left _ (Nat.two_pow_pos k)] at this
  exact this
theorem byt_xl (n e : UInt32) (c : UInt8) : byt (n ^^^ e) c = byt n c ^^^ stpN 8 e := by
  unfold byt
  rw [UInt32.xor_assoc, UInt32.xor_comm e, ← UInt32.xor_assoc, stpN_xor]
theorem byt_xr (n : UInt32) (c d : UInt8) : byt n (c ^^^ d) = byt n c ^^^ stpN 8 (u32c d) := by
  unfold byt
  have := u32c_xor c d
  unfold u32c at this
  rw [this, ← UInt32.xor_assoc, stpN_xor]
theorem reg_xor : ∀ (b : List UInt8) (n e : UInt32), reg (n ^^^ e) b = reg n b ^^^ stpN (8 * b.length) e
  | [], n, e => rfl
  | c :: b, n, e => by
    have h : reg (n ^^^ e) (c :: b) = reg (byt (n ^^^ e) c) b := rfl
    have h' : reg n (c :: b) = reg (byt n c) b := rfl
    rw [h, h', byt_xl, reg_xor b, ← stpN_add]
    congr 2
    simp only [List.length_cons]; omega
theorem reg_set (n : UInt32) (x : List UInt8) (i : Nat) (hi : i < x.length) (d : UInt8) : reg n (x.set i (x[i] ^^^ d)) = reg n x ^^^ stpN (8 * (x.length - i)) (u32c d) := by
  have hx : x = x.take i ++ x[i] :: x.drop (i + 1) := by rw [← List.drop_eq_getElem_cons hi, List.take_append_drop]
  have h1 : x.set i (x[i] ^^^ d) = x.take i ++ (x[i] ^^^ d) :: x.drop (i + 1) := List.set_eq_take_append_cons_drop.trans (if_pos hi)
  rw [h1]
  conv => rhs; lhs; rw [hx]
  rw [reg_append, reg_append]
  generalize reg n (x.take i) = r
  have h2 : reg r ((x[i] ^^^ d) :: x.drop (i + 1)) = reg (byt r (x[i] ^^^ d)) (x.drop (i + 1)) := rfl
  have h3 : reg r (x[i] :: x.drop (i + 1)) = reg (byt r x[i]) (x.drop (i + 1)) := rfl
  rw [h2, h3, byt_xr, reg_xor, ← stpN_add]
  congr 2
  simp only [List.length_drop]; omega
/-- Four bytes, as one word. -/
theorem reg4 (r : UInt32) (t : UInt8 × UInt8 × UInt8 × UInt8) : reg r (l4 t) = stpN 32 (r ^^^ v4 t) := by
  obtain ⟨a, b, c, d⟩ := t
  have e8 : ∀ (q : UInt8) (k : Nat), k ≤ 24 → stpN k (IK.shl .u32 (UInt32.ofInt (q.toNat : Int)) (k : Int)) = u32c q := fun q k hk => by
    apply UInt32.toNat_inj.1
    rw [byte32]
    apply stpN_shift
    rw [shl32 q k hk, Nat.shiftLeft_eq, Nat.mul_comm]
  have hv : v4 (a, b, c, d) = u32c a ^^^ IK.shl .u32 (u32c b) ((8 : Nat) : Int) ^^^ IK.shl .u32 (u32c c) ((16 : Nat) : Int) ^^^ IK.shl .u32 (u32c d) ((24 : Nat) : Int) := by
    apply UInt32.toNat_inj.1
    rw [v4_nat]
    rw [UInt32.toNat_xor, UInt32.toNat_xor, UInt32.toNat_xor, shl32 _ 8 (by omega), shl32 _ 16 (by omega), shl32 _ 24 (by omega), byte32]
    have ha := a.toNat_lt
    have hb := b.toNat_lt
    have hc := c.toNat_lt
    have add : ∀ (p q k : Nat), p < 2 ^ k → p ^^^ q <<< k = p + q <<< k := fun p q k hp => by
      have h1 : p ^^^ q <<< k = q <<< k ||| p := by
        apply Nat.eq_of_testBit_eq
        intro i
        rw [Nat.testBit_xor, Nat.testBit_or, Nat.testBit_shiftLeft]
        by_cases hi : i < k
        · have : decide (i ≥ k) = false := by simp; omega
          rw [this]; simp
        · have : p.testBit i = false := Nat.testBit_lt_two_pow (Nat.lt_of_lt_of_le hp (Nat.pow_le_pow_right (by omega) (by omega)))
          rw [this]; simp
      rw [h1, ← Nat.shiftLeft_add_eq_or_of_lt hp]; omega
    rw [add a.toNat b.toNat 8 (by omega)]
    have g1 : a.toNat + b.toNat <<< 8 < 2 ^ 16 := by rw [Nat.shiftLeft_eq]; omega
    rw [add _ c.toNat 16 g1]
    have g2 : a.toNat + b.toNat <<< 8 + c.toNat <<< 16 < 2 ^ 24 := by rw [Nat.shiftLeft_eq, Nat.shiftLeft_eq]; omega
    rw [add _ d.toNat 24 g2, Nat.shiftLeft_eq, Nat.shiftLeft_eq, Nat.shiftLeft_eq]
    dsimp only
    omega
  rw [hv, stpN_xor, stpN_xor, stpN_xor, stpN_xor]
  have k1 : stpN 32 (IK.shl .u32 (u32c b) ((8 : Nat) : Int)) = stpN 24 (u32c b) := by rw [show 32 = 8 + 24 from rfl, stpN_add, e8 b 8 (by omega)]
  have k2 : stpN 32 (IK.shl .u32 (u32c c) ((16 : Nat) : Int)) = stpN 16 (u32c c) := by rw [show 32 = 16 + 16 from rfl, stpN_add, e8 c 16 (by omega)]
  have k3 : stpN 32 (IK.shl .u32 (u32c d) ((24 : Nat) : Int)) = stpN 8 (u32c d) := by rw [show 32 = 24 + 8 from rfl, stpN_add, e8 d 24 (by omega)]
  rw [k1, k2, k3]
  have step : ∀ (n : UInt32) (q : UInt8), byt n q = stpN 8 n ^^^ stpN 8 (u32c q) := fun n q => by unfold byt; rw [stpN_xor]
  have h : reg r (l4 (a, b, c, d)) = byt (byt (byt (byt r a) b) c) d := rfl
  rw [h, step, step, step, step]
  simp only [stpN_xor]
  have j : ∀ (p q : Nat) (x : UInt32), stpN p (stpN q x) = stpN (q + p) x := fun p q x => (stpN_add q p x).symm
  simp only [j, Nat.reduceAdd, UInt32.xor_assoc]
/-- Bytes open just if what comes out of all of them is always the same. -/
theorem opens_reg (b : List UInt8) (h : 4 ≤ b.length) : opens b = decide (reg 4294967295 b = stpN 32 4294967295) := by
  obtain ⟨q, q1, _⟩ := four_of (l := b.drop (b.length - 4)) (by simp; omega)
  have hb : b = b.take (b.length - 4) ++ l4 q := by rw [← q1, List.take_append_drop]
  unfold opens
  rw [dec_t h, Bool.true_and, q1]
  have hr : reg 4294967295 b = stpN 32 (reg 4294967295 (b.take (b.length - 4)) ^^^ v4 q) := by
    conv => lhs; rw [hb]
    rw [reg_append, reg4]
  rw [hr]
  generalize b.take (b.length - 4) = a
  by_cases hh : l4 (b4 (Crc.sum a)) = l4 q
  · have h1 := l4_inj hh
    have h2 : v4 q = Crc.sum a := by rw [← h1, v4_b4]
    rw [hh, beq_self_eq_true, h2]
    have : reg 4294967295 a ^^^ Crc.sum a = 4294967295 := by unfold Crc.sum; rw [← UInt32.xor_assoc, UInt32.xor_self, UInt32.zero_xor]
    rw [this]; simp
  · have h1 : (l4 (b4 (Crc.sum a)) == l4 q) = false := by simpa using hh
    rw [h1]
    symm
    apply dec_f
    intro he
    have h2 := stpN_inj 32 he
    apply hh
    have h3 : v4 q = Crc.sum a := by
      have : v4 q = reg 4294967295 a ^^^ (reg 4294967295 a ^^^ v4 q) := by rw [← UInt32.xor_assoc, UInt32.xor_self, UInt32.zero_xor]
      rw [h2] at this
      exact this
    rw [← h3, b4_v4]
theorem i64_div {a b : Nat} (ha : a < 2 ^ 63) (hb : b < 2 ^ 63) : I64 a / I64 b = I64 (a / b) := by
  apply Int64.toInt_inj.1
  have hab : a / b ≤ a := Nat.div_le_self a b
  have e : (I64 a).toInt.tdiv (I64 b).toInt = ((a / b : Nat) : Int) := by
    rw [i64_toInt ha, i64_toInt hb]; rfl
  rw [Int64.toInt_div, e, i64_toInt (by omega)]
  have h0 : (0 : Int) ≤ ((a / b : Nat) : Int) := Int.natCast_nonneg _
  have h1 : ((a / b : Nat) : Int) < 2 ^ 63 := by
    have : ((a / b : Nat) : Int) ≤ (a : Int) := Int.ofNat_le.2 hab
    omega
  generalize ((a / b : Nat) : Int) = q at h0 h1 ⊢
  apply Int.bmod_eq_of_le <;> omega
theorem i64_mul8 (a : Nat) : 8 * I64 a = I64 (8 * a) := by
  have : (8 : Int64) = I64 8 := by decide
  rw [this]
  simp [I64, Int64.ofInt_mul]
theorem shl8 (j : Nat) (hj : j < 8) : (IK.shl .u8 1 (j : Int)).toNat = 2 ^ j := by
  have : j = 0 ∨ j = 1 ∨ j = 2 ∨ j = 3 ∨ j = 4 ∨ j = 5 ∨ j = 6 ∨ j = 7 := by omega
  rcases this with rfl | rfl | rfl | rfl | rfl | rfl | rfl | rfl <;> decide
/-- which bit of a word -/
theorem bit_of (turn : UInt32) (t : Nat) (ht : t < 32) : (IK.shr .u32 turn (t : Int) &&& 1 = 1) ↔ turn.toNat / 2 ^ t % 2 = 1 := by
  rw [and1, ← UInt32.toNat_inj]
  have e2 : (IK.shr .u32 turn (t : Int) % 2).toNat = (IK.shr .u32 turn (t : Int)).toNat % 2 := by simp
  rw [e2, shr32 turn t (by omega)]
  rfl
theorem eq_loop (l l' : List Pair) (hl : l.length < 2 ^ 63) (he : l.length = l'.length) : ∀ (m k : Nat), k ≤ l.length → l.length - k < m → ∃ r, F69_R29 m l l' (I64 l.length) (I64 k) = some (r, ()) ∧ (r = true ↔ l.drop k = l'.drop k) := by
  intro m
  induction m with
  | zero => intro k _ h; omega
  | succ m ih =>
    intro k hk hm
    rw [F69_R29_s]
    unfold F69_L29
    by_cases hlt : k < l.length
    · rw [dec_t ((i64_lt (by omega) hl).2 hlt), oite_t, at_i64_lt (by omega) hlt, obind_s, at_i64_lt (by omega) (by omega), obind_s]
      have hlt' : k < l'.length := by omega
      have e1 : l.drop k = l[k] :: l.drop (k + 1) := List.drop_eq_getElem_cons hlt
      have e2 : l'.drop k = l'[k] :: l'.drop (k + 1) := List.drop_eq_getElem_cons hlt'
      rw [e1, e2]
      cases hb : (l[k].1 == l'[k].1 && (l[k].2 == l'[k].2 && true)) with
      | true =>
        simp only [Bool.not_true, oite_f]
        obtain ⟨r, h1, h2⟩ := ih (k + 1) (by omega) (by omega)
        rw [i64_succ]
        refine ⟨r, h1, ?_⟩
        rw [h2, List.cons.injEq]
        simp only [Bool.and_true, Bool.and_eq_true, beq_iff_eq] at hb
        exact ⟨fun h => ⟨Prod.ext hb.1 hb.2, h⟩, fun h => h.2⟩
      | false =>
        simp only [Bool.not_false, oite_t]
        refine ⟨false, rfl, ?_⟩
        simp only [Bool.false_eq_true, false_iff, List.cons.injEq, not_and]
        intro h
        rw [h] at hb
        simp at hb
    · rw [dec_f (fun q => hlt ((i64_lt (by omega) hl).1 q)), oite_f]
      refine ⟨true, rfl, ?_⟩
      rw [List.drop_eq_nil_of_le (by omega), List.drop_eq_nil_of_le (by omega)]
      simp
theorem labs_same (n : Nat) (l l' : List Pair) (hl : l.length < 2 ^ 63) (hl' : l'.length < 2 ^ 63) (hn : l.length < n) : ∃ r, F54 n (l, l') = some (r, ()) ∧ (r = true ↔ l = l') := by
  unfold F54 F69
  by_cases he : l.length = l'.length
  · have : (I64 l.length = I64 l'.length) := by rw [he]
    obtain ⟨r, h1, h2⟩ := eq_loop l l' hl he n 0 (by omega) (by omega)
    refine ⟨r, ?_, by simpa using h2⟩
    dsimp only
    rw [dec_t this]
    simp only [Bool.not_true, oite_f]
    rw [show (0 : Int64) = I64 0 from rfl, h1]; rfl
  · refine ⟨false, ?_, by simp; intro h; exact he (by rw [h])⟩
    dsimp only
    rw [dec_f (fun h => he ((i64_eq hl hl').1 h))]
    rfl

theorem same12 (n : Nat) (x y : ItT) (hx : x.2.2.2.2.2.1.length < 2 ^ 63) (hy : y.2.2.2.2.2.1.length < 2 ^ 63) (hn : x.2.2.2.2.2.1.length < n) :
    ∃ r, F29 n (x, y) = some (r, ()) ∧ (r = true ↔ normI x = normI y) := by
  obtain ⟨a0, a1, a2, a3, a4, a5, a6, a7, a8, a9, a10, a11, a12⟩ := x
  obtain ⟨b0, b1, b2, b3, b4, b5, b6, b7, b8, b9, b10, b11, b12⟩ := y
  dsimp only at hx hy hn
  have gap : (a0 = true ∨ b0 = true) → ∃ r, F29_J14 n true a0 a1 a2 a3 a4 a5 a6 a7 a8 a9 a10 a11 a12 b0 b1 b2 b3 b4 b5 b6 b7 b8 b9 b10 b11 b12 a1 a2 a3 a4 a5 a6 a7 a8 a9 b1 b2 b3 b4 b5 b6 b7 b8 b9 = some (r, ()) ∧
      (r = true ↔ normI (a0, a1, a2, a3, a4, a5, a6, a7, a8, a9, a10, a11, a12) = normI (b0, b1, b2, b3, b4, b5, b6, b7, b8, b9, b10, b11, b12)) := by
    intro h
    unfold F29_J14
    rw [oite_t]
    by_cases he : a0 = b0
    · subst he
      have ht : a0 = true := by rcases h with h | h <;> exact h
      subst ht
      simp only [beq_self_eq_true, oite_t]
      refine ⟨_, rfl, ?_⟩
      simp only [normI, gapI, gapOf, if_true, Prod.mk.injEq, true_and, Bool.and_true, Bool.and_eq_true, decide_eq_true_eq]
    · have : (a0 == b0) = false := by simpa using he
      rw [this, oite_f]
      refine ⟨false, rfl, ?_⟩
      simp only [Bool.false_eq_true, false_iff]
      intro hc
      have := congrArg Prod.fst hc
      revert this
      cases a0 <;> cases b0 <;> simp_all [normI, gapI, evI]
  unfold F29
  dsimp only
  rw [ojoinA_eq]
  cases ha : a0 with
  | true => rw [oite_t]; rw [ha] at gap; exact gap (.inl rfl)
  | false =>
    rw [oite_f]
    cases hb : b0 with
    | true => rw [ha, hb] at gap; exact gap (.inr rfl)
    | false =>
      unfold F29_J14
      rw [oite_f]
      have no : ¬ (normI (false, a1, a2, a3, a4, a5, a6, a7, a8, a9, a10, a11, a12) = normI (false, b1, b2, b3, b4, b5, b6, b7, b8, b9, b10, b11, b12)) → ∃ r, some (false, ()) = some (r, ()) ∧ (r = true ↔ normI (false, a1, a2, a3, a4, a5, a6, a7, a8, a9, a10, a11, a12) = normI (false, b1, b2, b3, b4, b5, b6, b7, b8, b9, b10, b11, b12)) :=
        fun h => ⟨false, rfl, by simp [h]⟩
      have key : normI (false, a1, a2, a3, a4, a5, a6, a7, a8, a9, a10, a11, a12) = normI (false, b1, b2, b3, b4, b5, b6, b7, b8, b9, b10, b11, b12) ↔
          a1 = b1 ∧ a2 = b2 ∧ a3 = b3 ∧ a4 = b4 ∧ a6 = b6 ∧ a7 = b7 ∧ a8 = b8 ∧ a9 = b9 ∧ a5 = b5 := by
        simp only [normI, evI, evOf, Bool.false_eq_true, if_false, Prod.mk.injEq, true_and, and_true]
        constructor
        · rintro ⟨h1, h2, h3, h4, h5, h6, h7, h8, h9⟩; exact ⟨h1, h2, h3, h4, h6, h7, h8, h9, h5⟩
        · rintro ⟨h1, h2, h3, h4, h6, h7, h8, h9, h5⟩; exact ⟨h1, h2, h3, h4, h5, h6, h7, h8, h9⟩
      rw [key] at no ⊢
      by_cases h1 : a1 = b1
      case neg => rw [dec_f h1, oite_f]; exact no (fun h => h1 h.1)
      by_cases h2 : a2 = b2
      case neg => rw [dec_t h1, oite_t, dec_f h2, oite_f]; exact no (fun h => h2 h.2.1)
      by_cases h3 : a3 = b3
      case neg => rw [dec_t h1, oite_t, dec_t h2, oite_t, dec_f h3, oite_f]; exact no (fun h => h3 h.2.2.1)
      by_cases h4 : a4 = b4
      case neg => rw [dec_t h1, oite_t, dec_t h2, oite_t, dec_t h3, oite_t, show (a4 == b4) = false by simpa using h4, oite_f]; exact no (fun h => h4 h.2.2.2.1)
      rw [dec_t h1, oite_t, dec_t h2, oite_t, dec_t h3, oite_t, show (a4 == b4) = true by simpa using h4, oite_t]
      by_cases h6 : a6 = b6
      case neg => rw [dec_f h6, oite_f]; exact no (fun h => h6 h.2.2.2.2.1)
      by_cases h7 : a7 = b7
      case neg => rw [dec_t h6, oite_t, dec_f h7, oite_f]; exact no (fun h => h7 h.2.2.2.2.2.1)
      by_cases h8 : a8 = b8
      case neg => rw [dec_t h6, oite_t, dec_t h7, oite_t, dec_f h8, oite_f]; exact no (fun h => h8 h.2.2.2.2.2.2.1)
      by_cases h9 : a9 = b9
      case neg => rw [dec_t h6, oite_t, dec_t h7, oite_t, dec_t h8, oite_t, dec_f h9, oite_f]; exact no (fun h => h9 h.2.2.2.2.2.2.2.1)
      rw [dec_t h6, oite_t, dec_t h7, oite_t, dec_t h8, oite_t, dec_t h9, oite_t]
      obtain ⟨r, q1, q2⟩ := labs_same n a5 b5 hx hy hn
      rw [q1, obind_s]
      refine ⟨r, rfl, ?_⟩
      rw [q2]
      exact ⟨fun h => ⟨h1, h2, h3, h4, h6, h7, h8, h9, h⟩, fun h => h.2.2.2.2.2.2.2.2⟩

theorem itB_norm (x : ItT) : itB (normI x) = itB x := by
  obtain ⟨a0, a1, a2, a3, a4, a5, a6, a7, a8, a9, a10, a11, a12⟩ := x
  cases a0 <;> rfl
end Go.Proofs.YtgknjddbbehboaaGreat
