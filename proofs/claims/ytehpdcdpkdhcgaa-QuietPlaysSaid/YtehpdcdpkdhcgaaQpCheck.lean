/- Lemmas moved here from another seat of this repo (tools/port.py). -/
import Derived.Test.YtehpdcdpkdhcgaaQpBase
open Go Go.Sx
namespace Go.Proofs.Ytehpdcdpkdhcgaa

/-! ### Runes -/
theorem ba_get (s : List UInt8) (i : Nat) (h : i < s.length) : ByteArray.get! (⟨s.toArray⟩ : ByteArray) i = s[i] := by
  show (s.toArray)[i]! = s[i]
  simp [h]
theorem rune_small (s : List UInt8) (i : Nat) (h : i < s.length) (hs : s[i].toNat < 128) : runeAt s i = s[i].toNat ∧ runeLen s i = 1 := by
  have e : (ByteArray.get! (⟨s.toArray⟩ : ByteArray) (i + 0)).toNat = s[i].toNat := by rw [Nat.add_zero, ba_get s i h]
  unfold runeAt runeLen Utf8.decode
  dsimp only
  have hs' : (ByteArray.get! (⟨s.toArray⟩ : ByteArray) (i + 0)).toNat < 128 := by rw [e]; exact hs
  rw [if_pos hs']
  exact ⟨e, rfl⟩
theorem pair_ge {c : Prop} [Decidable c] {a b : Nat × Nat} {N : Nat} (ha : c → N ≤ a.1) (hb : ¬ c → N ≤ b.1) : N ≤ (if c then a else b).1 := by
  by_cases h : c
  · rw [if_pos h]; exact ha h
  · rw [if_neg h]; exact hb h
theorem rune_big (s : List UInt8) (i : Nat) (h : i < s.length) (hs : ¬ s[i].toNat < 128) : 128 ≤ runeAt s i := by
  have e : (ByteArray.get! (⟨s.toArray⟩ : ByteArray) (i + 0)).toNat = s[i].toNat := by rw [Nat.add_zero, ba_get s i h]
  have e0 : 128 ≤ Utf8.runeError := by decide
  unfold runeAt Utf8.decode
  dsimp only
  refine pair_ge (fun q => absurd (by rw [← e]; exact q) hs) fun _ => pair_ge (fun _ => pair_ge (fun q => ?_) fun _ => e0) fun _ => pair_ge (fun _ => pair_ge (fun q => ?_) fun _ => e0) fun _ => pair_ge (fun _ => pair_ge (fun q => ?_) fun _ => e0) fun _ => e0
  · exact q
  · simp only [Bool.and_eq_true, decide_eq_true_eq] at q; exact Nat.le_trans (by decide) q.1
  · simp only [Bool.and_eq_true, decide_eq_true_eq] at q; exact Nat.le_trans (by decide) q.1

/-! ### Bytes -/
def letter (c : UInt8) : Bool := decide (97 ≤ c) && decide (c ≤ 122)
def digit (c : UInt8) : Bool := decide (48 ≤ c) && decide (c ≤ 57)
def okb (also : Bool) (c : UInt8) : Bool := letter c || (also && (digit c || decide (c = 46) || decide (c = 95) || decide (c = 45)))
def okI (also : Bool) (c : Int32) : Bool := (decide ((97 : Int32) ≤ c) && decide (c ≤ 122)) || (also && ((decide ((48 : Int32) ≤ c) && decide (c ≤ 57)) || decide (c = 46) || decide (c = 95) || decide (c = 45)))
theorem okI_small (also : Bool) (c : UInt8) : okI also (Int32.ofInt (c.toNat : Int)) = okb also c := by
  have h : ∀ a : Bool, ∀ k : Fin 256, okI a (Int32.ofInt (k.val : Int)) = okb a (UInt8.ofNat k.val) := by decide +kernel
  have := h also ⟨c.toNat, UInt8.toNat_lt c⟩
  rw [this]; simp
theorem i32_toInt {r : Nat} (h : r < 2 ^ 31) : (Int32.ofInt (r : Int)).toInt = r := Int32.toInt_ofInt_of_le (by omega) (by omega)
theorem okI_big (also : Bool) (r : Nat) (h : 128 ≤ r) (h2 : r < 2 ^ 31) : okI also (Int32.ofInt (r : Int)) = false := by
  have e := i32_toInt h2
  have a1 : ¬ Int32.ofInt (r : Int) ≤ 122 := by rw [Int32.le_iff_toInt_le, e]; show ¬ (r : Int) ≤ 122; omega
  have a2 : ¬ Int32.ofInt (r : Int) ≤ 57 := by rw [Int32.le_iff_toInt_le, e]; show ¬ (r : Int) ≤ 57; omega
  have ne : ∀ z : Int32, z.toInt < 128 → ¬ Int32.ofInt (r : Int) = z := fun z hz q => by rw [q] at e; omega
  unfold okI
  rw [dec_f a1, dec_f a2, dec_f (ne 46 (by decide)), dec_f (ne 95 (by decide)), dec_f (ne 45 (by decide))]
  cases also <;> simp
/-- which words: the longest, also digits and signs -/
def wordOK (most : Nat) (also : Bool) (s : List UInt8) : Bool := decide (1 ≤ s.length) && (decide (s.length ≤ most) && s.all (okb also))

theorem word_body (r : Arr [PT.bool, PT.bytes, PT.nat] (Option (Bool × Unit))) (also : Bool) (c : Int32) (s : List UInt8) (k : Nat) :
    oite (decide ((97 : Int32) ≤ c)) (F63_J471 r also c (decide (c ≤ (122 : Int32))) s k) (F63_J471 r also c false s k) = oite (okI also c) (r also s k) (some (false, ())) := by
  unfold F63_J471 okI
  cases decide ((97 : Int32) ≤ c) <;> cases decide (c ≤ (122 : Int32)) <;> cases also <;> cases decide ((48 : Int32) ≤ c) <;> cases decide (c ≤ (57 : Int32)) <;> cases decide (c = (46 : Int32)) <;> cases decide (c = (95 : Int32)) <;> cases decide (c = (45 : Int32)) <;> rfl
theorem word_loop (also : Bool) (s : List UInt8) : ∀ (m k : Nat), k ≤ s.length → s.length - k < m → F63_R29 m also s k = some ((s.drop k).all (okb also), ()) := by
  intro m
  induction m with
  | zero => intro k _ h; omega
  | succ m ih =>
    intro k hk hm
    rw [F63_R29_s]
    unfold F63_L29
    by_cases hlt : k < s.length
    · rw [blt_iff, dec_t hlt, oite_t, ojoinA_eq, word_body, List.drop_eq_getElem_cons hlt, List.all_cons]
      by_cases hs : s[k].toNat < 128
      · obtain ⟨e1, e2⟩ := rune_small s k hlt hs
        rw [e1, e2, okI_small, ih (k + 1) (by omega) (by omega)]
        cases okb also s[k] <;> rfl
      · have hb := rune_big s k hlt hs
        rw [okI_big also _ hb (runeAt_lt s k)]
        have : okb also s[k] = false := by
          rw [← okI_small]; exact okI_big also _ (by omega) (by have := UInt8.toNat_lt s[k]; omega)
        rw [this]; rfl
    · rw [blt_iff, dec_f hlt, oite_f]
      have : k = s.length := by omega
      subst this; simp
theorem word_eq (n most : Nat) (also : Bool) (s : List UInt8) (hs : s.length < 2 ^ 63) (hm : most < n) (hm2 : most < 2 ^ 63) : F63 n (s, I64 most, also) = some (wordOK most also s, ()) := by
  unfold F63 wordOK
  dsimp only
  by_cases h1 : s.length < 1
  · rw [dec_t (p := Int64.ofInt ↑s.length < 1) ((i64_lt (b := 1) hs (by omega)).2 h1), dec_f (by omega : ¬ 1 ≤ s.length)]; rfl
  · rw [dec_f (p := Int64.ofInt ↑s.length < 1) (fun q => h1 ((i64_lt (b := 1) hs (by omega)).1 q)), dec_t (by omega : 1 ≤ s.length), oite_f]
    by_cases h2 : most < s.length
    · rw [dec_t ((i64_lt hm2 hs).2 h2), dec_f (by omega : ¬ s.length ≤ most)]; rfl
    · rw [dec_f (fun q => h2 ((i64_lt hm2 hs).1 q)), dec_t (by omega : s.length ≤ most), oite_f, word_loop also s n 0 (by omega) (by omega)]; rfl

/-! ### By definition -/
theorem small_eq (n : Nat) (c : UInt8) : F42 n c = some (letter c, ()) := by
  unfold F42 letter
  cases decide ((97 : UInt8) ≤ c) <;> rfl
theorem val_loop (n : Nat) (s : List UInt8) (hs : s.length < 2 ^ 63) : ∀ (m k : Nat), k ≤ s.length → s.length - k < m →
    F37_R13 n m s (I64 k) = some ((s.drop k).all (okb true) && (decide (1 ≤ s.length) && decide (s.length ≤ 16)), ()) := by
  intro m
  induction m with
  | zero => intro k _ h; omega
  | succ m ih =>
    intro k hk hm
    rw [F37_R13_s]
    unfold F37_L13
    by_cases hlt : k < s.length
    · rw [dec_t ((i64_lt (by omega) hs).2 hlt), oite_t, ojoinA_eq, at_i64_lt (by omega) hlt]
      simp only [obind_s, small_eq]
      unfold F37_J53
      rw [i64_succ, ih (k + 1) (by omega) (by omega), List.drop_eq_getElem_cons hlt, List.all_cons]
      generalize s[k] = c
      unfold okb digit
      cases letter c <;> cases decide ((48 : UInt8) ≤ c) <;> cases decide (c ≤ (57 : UInt8)) <;> cases decide (c = (46 : UInt8)) <;> cases decide (c = (95 : UInt8)) <;> cases decide (c = (45 : UInt8)) <;> rfl
    · rw [dec_f (fun q => hlt ((i64_lt (by omega) hs).1 q)), oite_f]
      have : k = s.length := by omega
      subst this
      have e1 : decide ((1 : Int64) ≤ Int64.ofInt ↑s.length) = decide (1 ≤ s.length) := decide_eq_decide.2 (i64_le (a := 1) (by omega) hs)
      have e2 : decide (Int64.ofInt ↑s.length ≤ (16 : Int64)) = decide (s.length ≤ 16) := decide_eq_decide.2 (i64_le (b := 16) hs (by omega))
      rw [e1, e2, List.drop_length, List.all_nil]
      cases decide (1 ≤ s.length) <;> rfl
theorem val_eq (n : Nat) (s : List UInt8) (hs : s.length < 2 ^ 63) (hn : s.length < n) : F37 n s = some (wordOK 16 true s, ()) := by
  have := val_loop n s hs n 0 (by omega) (by omega)
  unfold F37
  show F37_R13 n n s (I64 0) = _
  rw [this, List.drop_zero]
  unfold wordOK
  cases s.all (okb true) <;> simp
theorem key_loop (n : Nat) (s : List UInt8) (hs : s.length < 2 ^ 63) : ∀ (m k : Nat), k ≤ s.length → s.length - k < m →
    F36_R13 n m s (I64 k) = some ((s.drop k).all (okb false) && (decide (1 ≤ s.length) && decide (s.length ≤ 8)), ()) := by
  intro m
  induction m with
  | zero => intro k _ h; omega
  | succ m ih =>
    intro k hk hm
    rw [F36_R13_s]
    unfold F36_L13
    by_cases hlt : k < s.length
    · rw [dec_t ((i64_lt (by omega) hs).2 hlt), oite_t, at_i64_lt (by omega) hlt]
      simp only [obind_s, small_eq]
      rw [i64_succ, ih (k + 1) (by omega) (by omega), List.drop_eq_getElem_cons hlt, List.all_cons]
      generalize s[k] = c
      unfold okb
      cases letter c <;> rfl
    · rw [dec_f (fun q => hlt ((i64_lt (by omega) hs).1 q)), oite_f]
      have : k = s.length := by omega
      subst this
      have e1 : decide ((1 : Int64) ≤ Int64.ofInt ↑s.length) = decide (1 ≤ s.length) := decide_eq_decide.2 (i64_le (a := 1) (by omega) hs)
      have e2 : decide (Int64.ofInt ↑s.length ≤ (8 : Int64)) = decide (s.length ≤ 8) := decide_eq_decide.2 (i64_le (b := 8) hs (by omega))
      rw [e1, e2, List.drop_length, List.all_nil]
      cases decide (1 ≤ s.length) <;> rfl
theorem key_eq (n : Nat) (s : List UInt8) (hs : s.length < 2 ^ 63) (hn : s.length < n) : F36 n s = some (wordOK 8 false s, ()) := by
  have := key_loop n s hs n 0 (by omega) (by omega)
  unfold F36
  show F36_R13 n n s (I64 0) = _
  rw [this, List.drop_zero]
  unfold wordOK
  cases s.all (okb false) <;> simp
/-- may it be a name? -/
def nameOK (s : List UInt8) : Bool := wordOK 12 true s && letter (s.headD 0)
theorem word_ne {m : Nat} {a : Bool} {s : List UInt8} (h : wordOK m a s = true) : 0 < s.length ∧ s.length ≤ m := by
  unfold wordOK at h
  simp only [Bool.and_eq_true, decide_eq_true_eq] at h
  omega
theorem word_16_12 (s : List UInt8) : (wordOK 16 true s && decide (s.length ≤ 12)) = wordOK 12 true s := by
  unfold wordOK
  by_cases h : s.length ≤ 12
  · rw [dec_t h, dec_t (by omega : s.length ≤ 16)]; simp
  · rw [dec_f h]; simp
abbrev RefP := List UInt8 × Int64 × List UInt8
abbrev CuP := List AskP × List AskP × List (List UInt8)
abbrev SmT := List (UInt8 × UInt8 × UInt8) × List (UInt8 × UInt8 × UInt8) × UInt8

/-! ### One question -/
def askC (a : AskP) : Int64 :=
  bif wordOK 8 false a.1 then
    bif decide (a.2.1 < 1) then 12 else bif decide (5 < a.2.1) then 12 else
      bif decide (4 ≤ a.2.1) then (bif a.2.2 == [] then 0 else 27) else (bif wordOK 16 true a.2.2 then 0 else 27)
  else 8
theorem key_go (n : Nat) (s : List UInt8) (hs : s.length < 2 ^ 63) (hn : 20 < n) : F55 n s = some (wordOK 8 false s, ()) := by
  unfold F55
  rw [show (8 : Int64) = I64 8 from rfl, word_eq n 8 false s hs (by omega) (by omega)]; rfl
theorem val_go (n : Nat) (s : List UInt8) (hs : s.length < 2 ^ 63) (hn : 20 < n) : F56 n s = some (wordOK 16 true s, ()) := by
  unfold F56
  rw [show (16 : Int64) = I64 16 from rfl, word_eq n 16 true s hs (by omega) (by omega)]; rfl
def FitS (n : Nat) (s : List UInt8) : Prop := s.length < n ∧ s.length < 2 ^ 63
def FitA (n : Nat) (a : AskP) : Prop := FitS n a.1 ∧ FitS n a.2.2
theorem ask_eq (n : Nat) (hn : 20 < n) (a : AskP) (h : FitA n a) : F41 n (a.1, a.2.1, a.2.2) = some (askC a, ()) := by
  obtain ⟨k, op, v⟩ := a
  have h1 : k.length < n := h.1.1
  have h2 : v.length < n := h.2.1
  have h3 : k.length < 2 ^ 63 := h.1.2
  have h4 : v.length < 2 ^ 63 := h.2.2
  unfold F41 askC
  simp only
  rw [key_go n k (by omega) hn]
  simp only [obind_s]
  cases wordOK 8 false k with
  | false => rfl
  | true =>
    simp only [Bool.not_true, oite_f, cond_true, val_go n v (by omega) hn, obind_s]
    cases decide (op < 1) with
    | true => rfl
    | false =>
    cases decide (5 < op) with
    | true => rfl
    | false =>
    by_cases h4 : 4 ≤ op
    · rw [dec_t h4, dec_f (p := op < 4) (by rw [UInt8.not_lt]; exact h4)]
      cases v == [] <;> rfl
    · rw [dec_f h4]
      rw [dec_t (p := op < 4) (by rw [← UInt8.not_le]; exact h4)]
      cases wordOK 16 true v <;> rfl
theorem opI (c : UInt8) (op : UInt8) : decide (I64 op.toNat < I64 c.toNat) = decide (op < c) ∧ decide (I64 c.toNat < I64 op.toNat) = decide (c < op) ∧ decide (I64 c.toNat ≤ I64 op.toNat) = decide (c ≤ op) := by
  have := UInt8.toNat_lt c
  have := UInt8.toNat_lt op
  refine ⟨?_, ?_, ?_⟩ <;> rw [decide_eq_decide]
  · rw [i64_lt (by omega) (by omega), UInt8.lt_iff_toNat_lt]
  · rw [i64_lt (by omega) (by omega), UInt8.lt_iff_toNat_lt]
  · rw [i64_le (by omega) (by omega), UInt8.le_iff_toNat_le]
theorem rask_eq (n : Nat) (a : AskP) (h : FitA n a) : F30 n ((refA a).1, (refA a).2.1, (refA a).2.2) = some (askC a, ()) := by
  obtain ⟨k, op, v⟩ := a
  have h1 : k.length < n := h.1.1
  have h2 : v.length < n := h.2.1
  have h3 : k.length < 2 ^ 63 := h.1.2
  have h4 : v.length < 2 ^ 63 := h.2.2
  unfold F30 askC refA
  simp only
  rw [key_eq n k (by omega) h1]
  have e1 := (opI 1 op).1
  have e5 := (opI 5 op).2.1
  have e4 := (opI 4 op).2.2
  have e4' := (opI 4 op).1
  simp only [show (I64 (1 : UInt8).toNat) = (1 : Int64) from rfl, show (I64 (5 : UInt8).toNat) = (5 : Int64) from rfl, show (I64 (4 : UInt8).toNat) = (4 : Int64) from rfl] at e1 e5 e4 e4'
  rw [e1, e5, e4, e4']
  simp only [obind_s]
  cases wordOK 8 false k with
  | false => rfl
  | true =>
    simp only [Bool.not_true, oite_f, cond_true, val_eq n v (by omega) h2, obind_s]
    cases decide (op < 1) with
    | true => rfl
    | false =>
    cases decide (5 < op) with
    | true => rfl
    | false =>
    by_cases h4 : 4 ≤ op
    · rw [dec_t h4, dec_f (p := op < 4) (by rw [UInt8.not_lt]; exact h4)]
      cases v == [] <;> rfl
    · rw [dec_f h4]
      rw [dec_t (p := op < 4) (by rw [← UInt8.not_le]; exact h4)]
      cases wordOK 16 true v <;> rfl

/-! ### Lists of questions -/
def firstNZ : List Int64 → Int64
  | [] => 0
  | c :: r => bif decide (c = 0) then firstNZ r else c
theorem firstNZ_append (l : List Int64) (c : Int64) : firstNZ (l ++ [c]) = bif decide (firstNZ l = 0) then c else firstNZ l := by
  induction l with
  | nil =>
    simp only [List.nil_append, firstNZ, decide_true, cond_true]
    by_cases h : c = 0
    · rw [dec_t h, h]; rfl
    · rw [dec_f h]; rfl
  | cons a l ih =>
    by_cases h : a = 0
    · simp [firstNZ, h, ih]
    · simp [firstNZ, h]
def asksC (l : List AskP) : Int64 := bif decide (8 < l.length) then 5 else firstNZ (l.map askC)
def FitAs (n : Nat) (l : List AskP) : Prop := l.length ≤ 12 ∧ ∀ a ∈ l, FitA n a
theorem chk_loop (n : Nat) (hn : 20 < n) (l : List AskP) (h : FitAs n l) : ∀ (m k : Nat), k ≤ l.length → l.length - k < m →
    F35_R29 n m l (I64 l.length) (I64 k) = some (firstNZ ((l.drop k).map askC), ()) := by
  obtain ⟨hl, h⟩ := h
  intro m
  induction m with
  | zero => intro k _ h; omega
  | succ m ih =>
    intro k hk hm
    rw [F35_R29_s]
    unfold F35_L29
    by_cases hlt : k < l.length
    · have ha := h l[k] (List.getElem_mem hlt)
      rw [dec_t ((i64_lt (by omega) (by omega)).2 hlt), oite_t, at_i64_lt (by omega) hlt]
      simp only [obind_s, ask_eq n hn _ ha]
      rw [i64_succ, ih (k + 1) (by omega) (by omega), List.drop_eq_getElem_cons hlt, List.map_cons, firstNZ]
      cases decide (askC l[k] = 0) <;> rfl
    · rw [dec_f (fun q => hlt ((i64_lt (by omega) (by omega)).1 q)), oite_f, List.drop_eq_nil_of_le (by omega)]
      rfl
theorem asks_eq (n : Nat) (hn : 20 < n) (l : List AskP) (h : FitAs n l) : F35 n l = some (asksC l, ()) := by
  have := chk_loop n hn l h n 0 (by omega) (by have := h.1; omega)
  have hl := h.1
  have e : decide ((8 : Int64) < I64 l.length) = decide (8 < l.length) := decide_eq_decide.2 (i64_lt (a := 8) (by omega) (by omega))
  unfold F35 asksC
  rw [e]
  cases decide (8 < l.length) with
  | true => rfl
  | false =>
    rw [oite_f]
    refine Eq.trans ?_ this
    rfl
theorem refs_loop (l : List AskP) (hl : l.length ≤ 12) : ∀ (m k : Nat), k ≤ l.length → l.length - k < m →
    F11_R29 m l (I64 l.length) (I64 k) ((l.take k).map refA) = some (l.map refA, ()) := by
  intro m
  induction m with
  | zero => intro k _ h; omega
  | succ m ih =>
    intro k hk hm
    rw [F11_R29_s]
    unfold F11_L29
    by_cases hlt : k < l.length
    · rw [dec_t ((i64_lt (by omega) (by omega)).2 hlt), oite_t, at_i64_lt (by omega) hlt]
      simp only [obind_s]
      rw [ble_t (by simp; omega), oite_t, i64_succ]
      have e : (l.take k).map refA ++ [(l[k].1, Int64.ofInt ↑l[k].2.1.toNat, l[k].2.2)] = (l.take (k + 1)).map refA := by
        rw [List.take_succ_eq_append_getElem hlt, List.map_append]; rfl
      rw [e]
      exact ih (k + 1) (by omega) (by omega)
    · rw [dec_f (fun q => hlt ((i64_lt (by omega) (by omega)).1 q)), oite_f, List.take_of_length_le (by omega)]
theorem refs_eq (n : Nat) (hn : 20 < n) (l : List AskP) (hl : l.length ≤ 12) : F11 n l = some (l.map refA, ()) :=
  refs_loop l hl n 0 (by omega) (by omega)
theorem rasks_loop (n : Nat) (l : List AskP) (h : FitAs n l) : ∀ (m k : Nat), k ≤ l.length → l.length - k < m →
    F19_R29 n m (l.map refA) (I64 k) = some (firstNZ ((l.drop k).map askC), ()) := by
  obtain ⟨hl, h⟩ := h
  intro m
  induction m with
  | zero => intro k _ h; omega
  | succ m ih =>
    intro k hk hm
    rw [F19_R29_s]
    unfold F19_L29
    have hlen : (l.map refA).length = l.length := List.length_map _
    rw [hlen]
    by_cases hlt : k < l.length
    · have ha := h l[k] (List.getElem_mem hlt)
      have hx : at? (l.map refA) (I64 k).toInt = some (refA l[k]) := by rw [at_i64_lt (by omega) (by omega)]; simp
      rw [dec_t ((i64_lt (by omega) (by omega)).2 hlt), oite_t, hx]
      simp only [obind_s, rask_eq n _ ha]
      rw [i64_succ, ih (k + 1) (by omega) (by omega), List.drop_eq_getElem_cons hlt, List.map_cons, firstNZ]
      cases decide (askC l[k] = 0) <;> rfl
    · rw [dec_f (fun q => hlt ((i64_lt (by omega) (by omega)).1 q)), oite_f, List.drop_eq_nil_of_le (by omega)]
      rfl
theorem rasks_eq (n : Nat) (hn : 20 < n) (l : List AskP) (h : FitAs n l) : F19 n (l.map refA) = some (asksC l, ()) := by
  have := rasks_loop n l h n 0 (by omega) (by have := h.1; omega)
  have hl := h.1
  have hlen : (l.map refA).length = l.length := List.length_map _
  have e : decide ((8 : Int64) < I64 l.length) = decide (8 < l.length) := decide_eq_decide.2 (i64_lt (a := 8) (by omega) (by omega))
  unfold F19 asksC
  rw [hlen, e]
  cases decide (8 < l.length) with
  | true => rfl
  | false =>
    rw [oite_f]
    refine Eq.trans ?_ this
    rfl

/-! ### Keys that are to be the same -/
def memB (v : List UInt8) (l : List (List UInt8)) : Bool := l.any fun x => x == v
def keysGo : List (List UInt8) → List (List UInt8) → Int64
  | _, [] => 0
  | done, k :: r => bif wordOK 8 false k then (bif memB k done then 7 else keysGo (done ++ [k]) r) else 8
theorem take_cond {k : Nat} {l : List (List UInt8)} (h : k ≤ l.length) (hl : l.length ≤ 12) : (decide (0 ≤ (I64 k).toInt) && Nat.ble (Int.toNat (I64 k).toInt) l.length && true) = true ∧ List.drop 0 (List.take (Int.toNat (I64 k).toInt) l) = l.take k := by
  rw [i64_toInt (by omega)]
  refine ⟨?_, by simp⟩
  rw [dec_t (by omega), ble_t (by simpa using h)]; rfl
/-! ### One curb -/
def curbC (c : CuP) : Int64 :=
  bif decide (c.1.length = 0) then 2 else bif decide (c.2.1.length = 0) then 2 else
    bif decide (asksC c.1 = 0) then bif decide (asksC c.2.1 = 0) then bif decide (8 < c.2.2.length) then 5 else keysGo [] c.2.2
      else asksC c.2.1
    else asksC c.1
def FitC (n : Nat) (c : CuP) : Prop := FitAs n c.1 ∧ FitAs n c.2.1 ∧ c.2.2.length ≤ 12 ∧ ∀ k ∈ c.2.2, FitS n k
theorem len0 {k : Nat} (h : k < 2 ^ 63) : decide (I64 k = (0 : Int64)) = decide (k = 0) := decide_eq_decide.2 (i64_eq (b := 0) h (by omega))
theorem len8 {k : Nat} (h : k < 2 ^ 63) : decide ((8 : Int64) < I64 k) = decide (8 < k) := decide_eq_decide.2 (i64_lt (a := 8) (by omega) h)
theorem oneAsk (m : Nat) : F9 (m + 30) ([(0, 0, 0)], 1) = some ([([97], 1, [120])], ()) := by kernel_rfl
theorem mod_ltC (x c : UInt8) (hc : 0 < c.toNat) : (x % c).toNat < c.toNat := by rw [UInt8.toNat_mod]; exact Nat.mod_lt _ hc
theorem const_idxC {α : Type} (l : List α) (x c : UInt8) (hc : 0 < c.toNat) (hl : l.length = c.toNat) :
    (decide ((0 : Int) ≤ ↑(UInt8.toNat (x % c))) && Nat.blt (Int.toNat ↑(UInt8.toNat (x % c))) (List.length l)) = true ∧ ∃ y ∈ l, l[Int.toNat ↑(UInt8.toNat (x % c))]? = some y := by
  have h := mod_ltC x c hc
  obtain ⟨h1, h2⟩ := idx_nat (l := l) (k := (x % c).toNat) (by omega)
  exact ⟨h1, _, List.getElem_mem (by omega), h2⟩
theorem small_ask (n : Nat) (z : UInt8 × UInt8 × UInt8) : ∃ a : AskP, F22 n z = some (a, ()) ∧ FitA 8 a := by
  obtain ⟨z0, z1, z2⟩ := z
  unfold F22
  simp only
  obtain ⟨f1, y, f2, f3⟩ := const_idxC [[(97 : UInt8)], [98], [114, 117, 108, 101], [111, 114, 105, 103, 105, 110], [110, 111, 100, 101]] z0 5 (by decide) rfl
  obtain ⟨g1, w, g2, g3⟩ := const_idxC [[(120 : UInt8)], [121], [48], [104, 111, 116], [49]] z2 5 (by decide) rfl
  rw [f1, f3]
  simp only [oite_t, obind_s]
  rw [g1, g3]
  simp only [oite_t, obind_s]
  have hy : y.length < 8 := by simp at f2; rcases f2 with rfl | rfl | rfl | rfl | rfl <;> simp
  have hw : w.length < 8 := by simp at g2; rcases g2 with rfl | rfl | rfl | rfl | rfl <;> simp
  cases decide (4 ≤ 1 + z1 % 5) with
  | true => exact ⟨_, rfl, ⟨hy, by simp only; omega⟩, by simp, by simp⟩
  | false => exact ⟨_, rfl, ⟨hy, by simp only; omega⟩, hw, by simp only; omega⟩
theorem small_loop (n : Nat) (most : Nat) (hmost : most ≤ 12) (l : List (UInt8 × UInt8 × UInt8)) (hl : l.length < 2 ^ 63) : ∀ (m k : Nat) (out : List AskP), k ≤ l.length → l.length - k < m → out.length ≤ k → out.length ≤ most → (∀ a ∈ out, FitA 8 a) →
    ∃ out' : List AskP, F9_R29 n m (I64 most) l (I64 l.length) (I64 k) out = some (out', ()) ∧ out'.length ≤ most ∧ ∀ a ∈ out', FitA 8 a := by
  intro m
  induction m with
  | zero => intros; omega
  | succ m ih =>
    intro k out hk hm h1 h2 h3
    rw [F9_R29_s]
    unfold F9_L29
    by_cases hlt : k < l.length
    · rw [dec_t ((i64_lt (by omega) (by omega)).2 hlt), oite_t, at_i64_lt (by omega) hlt]
      simp only [obind_s]
      by_cases hmo : k < most
      · obtain ⟨a, g1, g2⟩ := small_ask n l[k]
        have g1' : F22 n (Prod.fst l[k], Prod.fst (Prod.snd l[k]), Prod.snd (Prod.snd l[k])) = some (a, ()) := g1
        rw [dec_t ((i64_lt (a := k) (b := most) (by omega) (by omega)).2 hmo), oite_t, g1']
        simp only [obind_s]
        rw [ble_t (by simp; omega), oite_t, i64_succ]
        refine ih (k + 1) _ (by omega) (by omega) (by simp; omega) (by simp; omega) fun p hp => ?_
        rcases List.mem_append.1 hp with h | h
        · exact h3 p h
        · simp at h; subst h; exact g2
      · rw [dec_f (fun q => hmo ((i64_lt (a := k) (b := most) (by omega) (by omega)).1 q)), oite_f, i64_succ]
        exact ih (k + 1) out (by omega) (by omega) (by omega) h2 h3
    · rw [dec_f (fun q => hlt ((i64_lt (by omega) (by omega)).1 q)), oite_f]
      exact ⟨out, rfl, h2, h3⟩
theorem small_asks (n most : Nat) (hmost : most ≤ 12) (l : List (UInt8 × UInt8 × UInt8)) (hl : l.length < n ∧ l.length < 2 ^ 63) : ∃ out : List AskP, F9 n (l, I64 most) = some (out, ()) ∧ out.length ≤ most ∧ ∀ a ∈ out, FitA 8 a :=
  small_loop n most hmost l (by omega) n 0 [] (by omega) (by omega) (by simp) (by simp) (by simp)
abbrev names3 : List (List UInt8) := [[110, 111, 100, 101], [97], [114, 117, 108, 101]]
theorem FitA.up {a : AskP} {m n : Nat} (h : FitA m a) (hm : m ≤ n) : FitA n a := ⟨⟨Nat.lt_of_lt_of_le h.1.1 hm, h.1.2⟩, Nat.lt_of_lt_of_le h.2.1 hm, h.2.2⟩
/-! ### The law -/
abbrev oneC : CuP := ([([97], 1, [120])], [([97], 1, [120])], [])
theorem oneC_ok : curbC oneC = 0 := by decide
theorem oneC_fit {n : Nat} (hn : 20 < n) : FitC n oneC := ⟨⟨by simp, fun a ha => by simp at ha; subst ha; exact ⟨⟨by simp; omega, by simp⟩, by simp; omega, by simp⟩⟩, ⟨by simp, fun a ha => by simp at ha; subst ha; exact ⟨⟨by simp; omega, by simp⟩, by simp; omega, by simp⟩⟩, by simp, by simp⟩
theorem firstNZ_ones : ∀ k : Nat, firstNZ ((List.replicate k oneC).map curbC) = 0
  | 0 => rfl
  | k + 1 => by
    rw [List.replicate_succ, List.map_cons, firstNZ, oneC_ok, firstNZ_ones k]; rfl
theorem u8_next (k : Nat) : UInt8.ofNat k + 1 = UInt8.ofNat (k + 1) := by
  apply UInt8.toNat_inj.1
  rw [UInt8.toNat_add, UInt8.toNat_ofNat', UInt8.toNat_ofNat']
  have : (1 : UInt8).toNat = 1 := rfl
  omega
theorem lenC (a : Int64) (k j : Nat) (ha : a = I64 j) (hj : j < 100) (h : k < 2 ^ 63) : decide (a < I64 k) = decide (j < k) := by
  rw [ha, decide_eq_decide]; exact i64_lt (a := j) (b := k) (by omega) h

/-- A bound on what is handed in. -/
def sumA : List AskP → Nat
  | [] => 0
  | a :: r => a.1.length + a.2.2.length + sumA r
theorem sumA_mem : ∀ (l : List AskP) (a : AskP), a ∈ l → a.1.length + a.2.2.length ≤ sumA l
  | a :: r, b, h => by
    rcases List.mem_cons.1 h with rfl | h
    · simp only [sumA]; omega
    · have := sumA_mem r b h; simp only [sumA]; omega
def sumK : List (List UInt8) → Nat
  | [] => 0
  | a :: r => a.length + sumK r
theorem sumK_mem : ∀ (l : List (List UInt8)) (a : List UInt8), a ∈ l → a.length ≤ sumK l
  | a :: r, b, h => by
    rcases List.mem_cons.1 h with rfl | h
    · simp only [sumK]; omega
    · have := sumK_mem r b h; simp only [sumK]; omega
def sumS : List SmT → Nat
  | [] => 0
  | a :: r => a.1.length + a.2.1.length + sumS r
theorem sumS_mem : ∀ (l : List SmT) (a : SmT), a ∈ l → a.1.length + a.2.1.length ≤ sumS l
  | a :: r, b, h => by
    rcases List.mem_cons.1 h with rfl | h
    · simp only [sumS]; omega
    · have := sumS_mem r b h; simp only [sumS]; omega
end Go.Proofs.Ytehpdcdpkdhcgaa
