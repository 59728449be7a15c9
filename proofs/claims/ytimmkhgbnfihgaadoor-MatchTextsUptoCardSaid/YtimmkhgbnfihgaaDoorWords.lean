/- Lemmas moved here from another seat of this repo (tools/port.py). -/
import Derived.Test.YtimmkhgbnfihgaaDoorFnsA
import Derived.Test.YtimmkhgbnfihgaaDoorSxPlain
open Go Go.Sx
namespace Go.Proofs.YtimmkhgbnfihgaaDoor

/-! ### Runes -/
theorem ba_get (s : List UInt8) (i : Nat) (h : i < s.length) : ByteArray.get! (⟨s.toArray⟩ : ByteArray) i = s[i] := by
  show (s.toArray)[i]! = s[i]
  simp [h]
theorem rune_small (s : List UInt8) (i : Nat) (h : i < s.length) (hs : s[i].toNat < 128) : runeAt s i = s[i].toNat ∧ runeLen s i = 1 := by
  have e : (ByteArray.get! (⟨s.toArray⟩ : ByteArray) (i + 0)).toNat = s[i].toNat := by rw [Nat.add_zero, ba_get s i h]
  unfold runeAt runeLen Utf8.decode
  dsimp only
  have hs' : (ByteArray.get! (⟨s.toArray⟩ : ByteArray) (i + 0)).toNat < 128 := by rw [e]; exact hs
  rw [if_pos hs']
  exact ⟨e, rfl⟩
theorem pair_ge {c : Prop} [Decidable c] {a b : Nat × Nat} {N : Nat} (ha : c → N ≤ a.1) (hb : ¬ c → N ≤ b.1) : N ≤ (if c then a else b).1 := by
  by_cases h : c
  · rw [if_pos h]; exact ha h
  · rw [if_neg h]; exact hb h
theorem rune_big (s : List UInt8) (i : Nat) (h : i < s.length) (hs : ¬ s[i].toNat < 128) : 128 ≤ runeAt s i := by
  have e : (ByteArray.get! (⟨s.toArray⟩ : ByteArray) (i + 0)).toNat = s[i].toNat := by rw [Nat.add_zero, ba_get s i h]
  have e0 : 128 ≤ Utf8.runeError := by decide
  unfold runeAt Utf8.decode
  dsimp only
  refine pair_ge (fun q => absurd (by rw [← e]; exact q) hs) fun _ => pair_ge (fun _ => pair_ge (fun q => ?_) fun _ => e0) fun _ => pair_ge (fun _ => pair_ge (fun q => ?_) fun _ => e0) fun _ => pair_ge (fun _ => pair_ge (fun q => ?_) fun _ => e0) fun _ => e0
  · exact q
  · simp only [Bool.and_eq_true, decide_eq_true_eq] at q; exact Nat.le_trans (by decide) q.1
  · simp only [Bool.and_eq_true, decide_eq_true_eq] at q; exact Nat.le_trans (by decide) q.1

/-! ### Bytes -/
def letter (c : UInt8) : Bool := decide (97 ≤ c) && decide (c ≤ 122)
def digit (c : UInt8) : Bool := decide (48 ≤ c) && decide (c ≤ 57)
def okb (also : Bool) (c : UInt8) : Bool := letter c || (also && (digit c || decide (c = 46) || decide (c = 95) || decide (c = 45)))
def okI (also : Bool) (c : Int32) : Bool := (decide ((97 : Int32) ≤ c) && decide (c ≤ 122)) || (also && ((decide ((48 : Int32) ≤ c) && decide (c ≤ 57)) || decide (c = 46) || decide (c = 95) || decide (c = 45)))
theorem okI_small (also : Bool) (c : UInt8) : okI also (Int32.ofInt (c.toNat : Int)) = okb also c := by
  have h : ∀ a : Bool, ∀ k : Fin 256, okI a (Int32.ofInt (k.val : Int)) = okb a (UInt8.ofNat k.val) := by decide +kernel
  have := h also ⟨c.toNat, UInt8.toNat_lt c⟩
  rw [this]; simp
theorem i32_toInt {r : Nat} (h : r < 2 ^ 31) : (Int32.ofInt (r : Int)).toInt = r := Int32.toInt_ofInt_of_le (by omega) (by omega)
theorem okI_big (also : Bool) (r : Nat) (h : 128 ≤ r) (h2 : r < 2 ^ 31) : okI also (Int32.ofInt (r : Int)) = false := by
  have e := i32_toInt h2
  have a1 : ¬ Int32.ofInt (r : Int) ≤ 122 := by rw [Int32.le_iff_toInt_le, e]; show ¬ (r : Int) ≤ 122; omega
  have a2 : ¬ Int32.ofInt (r : Int) ≤ 57 := by rw [Int32.le_iff_toInt_le, e]; show ¬ (r : Int) ≤ 57; omega
  have ne : ∀ z : Int32, z.toInt < 128 → ¬ Int32.ofInt (r : Int) = z := fun z hz q => by rw [q] at e; omega
  unfold okI
  rw [dec_f a1, dec_f a2, dec_f (ne 46 (by decide)), dec_f (ne 95 (by decide)), dec_f (ne 45 (by decide))]
  cases also <;> simp
/-- which words: the longest, also digits and signs -/
def wordOK (most : Nat) (also : Bool) (s : List UInt8) : Bool := decide (1 ≤ s.length) && (decide (s.length ≤ most) && s.all (okb also))

theorem word_body (r : Arr [PT.bool, PT.bytes, PT.nat] (Option (Bool × Unit))) (also : Bool) (c : Int32) (s : List UInt8) (k : Nat) :
    oite (decide ((97 : Int32) ≤ c)) (F44_J471 r also c (decide (c ≤ (122 : Int32))) s k) (F44_J471 r also c false s k) = oite (okI also c) (r also s k) (some (false, ())) := by
  unfold F44_J471 okI
  cases decide ((97 : Int32) ≤ c) <;> cases decide (c ≤ (122 : Int32)) <;> cases also <;> cases decide ((48 : Int32) ≤ c) <;> cases decide (c ≤ (57 : Int32)) <;> cases decide (c = (46 : Int32)) <;> cases decide (c = (95 : Int32)) <;> cases decide (c = (45 : Int32)) <;> rfl
theorem word_loop (also : Bool) (s : List UInt8) : ∀ (m k : Nat), k ≤ s.length → s.length - k < m → F44_R29 m also s k = some ((s.drop k).all (okb also), ()) := by
  intro m
  induction m with
  | zero => intro k _ h; omega
  | succ m ih =>
    intro k hk hm
    rw [F44_R29_s]
    unfold F44_L29
    by_cases hlt : k < s.length
    · rw [blt_iff, dec_t hlt, oite_t, ojoinA_eq, word_body, List.drop_eq_getElem_cons hlt, List.all_cons]
      by_cases hs : s[k].toNat < 128
      · obtain ⟨e1, e2⟩ := rune_small s k hlt hs
        rw [e1, e2, okI_small, ih (k + 1) (by omega) (by omega)]
        cases okb also s[k] <;> rfl
      · have hb := rune_big s k hlt hs
        rw [okI_big also _ hb (runeAt_lt s k)]
        have : okb also s[k] = false := by
          rw [← okI_small]; exact okI_big also _ (by omega) (by have := UInt8.toNat_lt s[k]; omega)
        rw [this]; rfl
    · rw [blt_iff, dec_f hlt, oite_f]
      have : k = s.length := by omega
      subst this; simp
theorem word_eq (n most : Nat) (also : Bool) (s : List UInt8) (hs : s.length < 2 ^ 63) (hm : most < n) (hm2 : most < 2 ^ 63) : F44 n (s, I64 most, also) = some (wordOK most also s, ()) := by
  unfold F44 wordOK
  dsimp only
  by_cases h1 : s.length < 1
  · rw [dec_t (p := Int64.ofInt ↑s.length < 1) ((i64_lt (b := 1) hs (by omega)).2 h1), dec_f (by omega : ¬ 1 ≤ s.length)]; rfl
  · rw [dec_f (p := Int64.ofInt ↑s.length < 1) (fun q => h1 ((i64_lt (b := 1) hs (by omega)).1 q)), dec_t (by omega : 1 ≤ s.length), oite_f]
    by_cases h2 : most < s.length
    · rw [dec_t ((i64_lt hm2 hs).2 h2), dec_f (by omega : ¬ s.length ≤ most)]; rfl
    · rw [dec_f (fun q => h2 ((i64_lt hm2 hs).1 q)), dec_t (by omega : s.length ≤ most), oite_f, word_loop also s n 0 (by omega) (by omega)]; rfl

/-! ### By definition -/
theorem small_eq (n : Nat) (c : UInt8) : F45 n c = some (letter c, ()) := by
  unfold F45 letter
  cases decide ((97 : UInt8) ≤ c) <;> rfl
theorem val_loop (n : Nat) (s : List UInt8) (hs : s.length < 2 ^ 63) : ∀ (m k : Nat), k ≤ s.length → s.length - k < m →
    F36_R13 n m s (I64 k) = some ((s.drop k).all (okb true) && (decide (1 ≤ s.length) && decide (s.length ≤ 16)), ()) := by
  intro m
  induction m with
  | zero => intro k _ h; omega
  | succ m ih =>
    intro k hk hm
    rw [F36_R13_s]
    unfold F36_L13
    by_cases hlt : k < s.length
    · rw [dec_t ((i64_lt (by omega) hs).2 hlt), oite_t, ojoinA_eq, at_i64_lt (by omega) hlt]
      simp only [obind_s, small_eq]
      unfold F36_J53
      rw [i64_succ, ih (k + 1) (by omega) (by omega), List.drop_eq_getElem_cons hlt, List.all_cons]
      generalize s[k] = c
      unfold okb digit
      cases letter c <;> cases decide ((48 : UInt8) ≤ c) <;> cases decide (c ≤ (57 : UInt8)) <;> cases decide (c = (46 : UInt8)) <;> cases decide (c = (95 : UInt8)) <;> cases decide (c = (45 : UInt8)) <;> rfl
    · rw [dec_f (fun q => hlt ((i64_lt (by omega) hs).1 q)), oite_f]
      have : k = s.length := by omega
      subst this
      have e1 : decide ((1 : Int64) ≤ Int64.ofInt ↑s.length) = decide (1 ≤ s.length) := decide_eq_decide.2 (i64_le (a := 1) (by omega) hs)
      have e2 : decide (Int64.ofInt ↑s.length ≤ (16 : Int64)) = decide (s.length ≤ 16) := decide_eq_decide.2 (i64_le (b := 16) hs (by omega))
      rw [e1, e2, List.drop_length, List.all_nil]
      cases decide (1 ≤ s.length) <;> rfl
theorem val_eq (n : Nat) (s : List UInt8) (hs : s.length < 2 ^ 63) (hn : s.length < n) : F36 n s = some (wordOK 16 true s, ()) := by
  have := val_loop n s hs n 0 (by omega) (by omega)
  unfold F36
  show F36_R13 n n s (I64 0) = _
  rw [this, List.drop_zero]
  unfold wordOK
  cases s.all (okb true) <;> simp
theorem key_loop (n : Nat) (s : List UInt8) (hs : s.length < 2 ^ 63) : ∀ (m k : Nat), k ≤ s.length → s.length - k < m →
    F35_R13 n m s (I64 k) = some ((s.drop k).all (okb false) && (decide (1 ≤ s.length) && decide (s.length ≤ 8)), ()) := by
  intro m
  induction m with
  | zero => intro k _ h; omega
  | succ m ih =>
    intro k hk hm
    rw [F35_R13_s]
    unfold F35_L13
    by_cases hlt : k < s.length
    · rw [dec_t ((i64_lt (by omega) hs).2 hlt), oite_t, at_i64_lt (by omega) hlt]
      simp only [obind_s, small_eq]
      rw [i64_succ, ih (k + 1) (by omega) (by omega), List.drop_eq_getElem_cons hlt, List.all_cons]
      generalize s[k] = c
      unfold okb
      cases letter c <;> rfl
    · rw [dec_f (fun q => hlt ((i64_lt (by omega) hs).1 q)), oite_f]
      have : k = s.length := by omega
      subst this
      have e1 : decide ((1 : Int64) ≤ Int64.ofInt ↑s.length) = decide (1 ≤ s.length) := decide_eq_decide.2 (i64_le (a := 1) (by omega) hs)
      have e2 : decide (Int64.ofInt ↑s.length ≤ (8 : Int64)) = decide (s.length ≤ 8) := decide_eq_decide.2 (i64_le (b := 8) hs (by omega))
      rw [e1, e2, List.drop_length, List.all_nil]
      cases decide (1 ≤ s.length) <;> rfl
theorem key_eq (n : Nat) (s : List UInt8) (hs : s.length < 2 ^ 63) (hn : s.length < n) : F35 n s = some (wordOK 8 false s, ()) := by
  have := key_loop n s hs n 0 (by omega) (by omega)
  unfold F35
  show F35_R13 n n s (I64 0) = _
  rw [this, List.drop_zero]
  unfold wordOK
  cases s.all (okb false) <;> simp
/-- may it be a name? -/
def nameOK (s : List UInt8) : Bool := wordOK 12 true s && letter (s.headD 0)
theorem word_ne {m : Nat} {a : Bool} {s : List UInt8} (h : wordOK m a s = true) : 0 < s.length ∧ s.length ≤ m := by
  unfold wordOK at h
  simp only [Bool.and_eq_true, decide_eq_true_eq] at h
  omega
theorem word_16_12 (s : List UInt8) : (wordOK 16 true s && decide (s.length ≤ 12)) = wordOK 12 true s := by
  unfold wordOK
  by_cases h : s.length ≤ 12
  · rw [dec_t h, dec_t (by omega : s.length ≤ 16)]; simp
  · rw [dec_f h]; simp
end Go.Proofs.YtimmkhgbnfihgaaDoor
