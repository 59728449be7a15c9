/- The law CurbChecks: both functions say the same of every curb; a list's answer is its first curb's that isn't right. -/
import Derived.Test.YtlkjacdnnbmmmaaCcWords
open Go Go.Sx
namespace Go.Proofs.Ytlkjacdnnbmmmaa
abbrev AskP := List UInt8 × UInt8 × List UInt8
abbrev RefP := List UInt8 × Int64 × List UInt8
abbrev CuP := List AskP × List AskP × List (List UInt8)
abbrev SmT := List (UInt8 × UInt8 × UInt8) × List (UInt8 × UInt8 × UInt8) × UInt8

/-! ### One question -/
def askC (a : AskP) : Int64 :=
  bif wordOK 8 false a.1 then
    bif decide (a.2.1 < 1) then 12 else bif decide (5 < a.2.1) then 12 else
      bif decide (4 ≤ a.2.1) then (bif a.2.2 == [] then 0 else 27) else (bif wordOK 16 true a.2.2 then 0 else 27)
  else 8
theorem key_go (n : Nat) (s : List UInt8) (hs : s.length < 2 ^ 63) (hn : 20 < n) : F21 n s = some (wordOK 8 false s, ()) := by
  unfold F21
  rw [show (8 : Int64) = I64 8 from rfl, word_eq n 8 false s hs (by omega) (by omega)]; rfl
theorem val_go (n : Nat) (s : List UInt8) (hs : s.length < 2 ^ 63) (hn : 20 < n) : F39 n s = some (wordOK 16 true s, ()) := by
  unfold F39
  rw [show (16 : Int64) = I64 16 from rfl, word_eq n 16 true s hs (by omega) (by omega)]; rfl
def FitS (n : Nat) (s : List UInt8) : Prop := s.length < n ∧ s.length < 2 ^ 63
def FitA (n : Nat) (a : AskP) : Prop := FitS n a.1 ∧ FitS n a.2.2
theorem ask_eq (n : Nat) (hn : 20 < n) (a : AskP) (h : FitA n a) : F32 n (a.1, a.2.1, a.2.2) = some (askC a, ()) := by
  obtain ⟨k, op, v⟩ := a
  have h1 : k.length < n := h.1.1
  have h2 : v.length < n := h.2.1
  have h3 : k.length < 2 ^ 63 := h.1.2
  have h4 : v.length < 2 ^ 63 := h.2.2
  unfold F32 askC
  simp only
  rw [key_go n k (by omega) hn]
  simp only [obind_s]
  cases wordOK 8 false k with
  | false => rfl
  | true =>
    simp only [Bool.not_true, oite_f, cond_true, val_go n v (by omega) hn, obind_s]
    cases decide (op < 1) with
    | true => rfl
    | false =>
    cases decide (5 < op) with
    | true => rfl
    | false =>
    by_cases h4 : 4 ≤ op
    · rw [dec_t h4, dec_f (p := op < 4) (by rw [UInt8.not_lt]; exact h4)]
      cases v == [] <;> rfl
    · rw [dec_f h4]
      rw [dec_t (p := op < 4) (by rw [← UInt8.not_le]; exact h4)]
      cases wordOK 16 true v <;> rfl
def refA (a : AskP) : RefP := (a.1, I64 a.2.1.toNat, a.2.2)
theorem opI (c : UInt8) (op : UInt8) : decide (I64 op.toNat < I64 c.toNat) = decide (op < c) ∧ decide (I64 c.toNat < I64 op.toNat) = decide (c < op) ∧ decide (I64 c.toNat ≤ I64 op.toNat) = decide (c ≤ op) := by
  have := UInt8.toNat_lt c
  have := UInt8.toNat_lt op
  refine ⟨?_, ?_, ?_⟩ <;> rw [decide_eq_decide]
  · rw [i64_lt (by omega) (by omega), UInt8.lt_iff_toNat_lt]
  · rw [i64_lt (by omega) (by omega), UInt8.lt_iff_toNat_lt]
  · rw [i64_le (by omega) (by omega), UInt8.le_iff_toNat_le]
theorem rask_eq (n : Nat) (a : AskP) (h : FitA n a) : F35 n ((refA a).1, (refA a).2.1, (refA a).2.2) = some (askC a, ()) := by
  obtain ⟨k, op, v⟩ := a
  have h1 : k.length < n := h.1.1
  have h2 : v.length < n := h.2.1
  have h3 : k.length < 2 ^ 63 := h.1.2
  have h4 : v.length < 2 ^ 63 := h.2.2
  unfold F35 askC refA
  simp only
  rw [key_eq n k (by omega) h1]
  have e1 := (opI 1 op).1
  have e5 := (opI 5 op).2.1
  have e4 := (opI 4 op).2.2
  have e4' := (opI 4 op).1
  simp only [show (I64 (1 : UInt8).toNat) = (1 : Int64) from rfl, show (I64 (5 : UInt8).toNat) = (5 : Int64) from rfl, show (I64 (4 : UInt8).toNat) = (4 : Int64) from rfl] at e1 e5 e4 e4'
  rw [e1, e5, e4, e4']
  simp only [obind_s]
  cases wordOK 8 false k with
  | false => rfl
  | true =>
    simp only [Bool.not_true, oite_f, cond_true, val_eq n v (by omega) h2, obind_s]
    cases decide (op < 1) with
    | true => rfl
    | false =>
    cases decide (5 < op) with
    | true => rfl
    | false =>
    by_cases h4 : 4 ≤ op
    · rw [dec_t h4, dec_f (p := op < 4) (by rw [UInt8.not_lt]; exact h4)]
      cases v == [] <;> rfl
    · rw [dec_f h4]
      rw [dec_t (p := op < 4) (by rw [← UInt8.not_le]; exact h4)]
      cases wordOK 16 true v <;> rfl

/-! ### Lists of questions -/
def firstNZ : List Int64 → Int64
  | [] => 0
  | c :: r => bif decide (c = 0) then firstNZ r else c
theorem firstNZ_append (l : List Int64) (c : Int64) : firstNZ (l ++ [c]) = bif decide (firstNZ l = 0) then c else firstNZ l := by
  induction l with
  | nil =>
    simp only [List.nil_append, firstNZ, decide_true, cond_true]
    by_cases h : c = 0
    · rw [dec_t h, h]; rfl
    · rw [dec_f h]; rfl
  | cons a l ih =>
    by_cases h : a = 0
    · simp [firstNZ, h, ih]
    · simp [firstNZ, h]
def asksC (l : List AskP) : Int64 := bif decide (8 < l.length) then 5 else firstNZ (l.map askC)
def FitAs (n : Nat) (l : List AskP) : Prop := l.length ≤ 12 ∧ ∀ a ∈ l, FitA n a
theorem asks_loop (n : Nat) (hn : 20 < n) (l : List AskP) (h : FitAs n l) : ∀ (m k : Nat), k ≤ l.length → l.length - k < m →
    F20_R29 n m l (I64 l.length) (I64 k) = some (firstNZ ((l.drop k).map askC), ()) := by
  obtain ⟨hl, h⟩ := h
  intro m
  induction m with
  | zero => intro k _ h; omega
  | succ m ih =>
    intro k hk hm
    rw [F20_R29_s]
    unfold F20_L29
    by_cases hlt : k < l.length
    · have ha := h l[k] (List.getElem_mem hlt)
      rw [dec_t ((i64_lt (by omega) (by omega)).2 hlt), oite_t, at_i64_lt (by omega) hlt]
      simp only [obind_s, ask_eq n hn _ ha]
      rw [i64_succ, ih (k + 1) (by omega) (by omega), List.drop_eq_getElem_cons hlt, List.map_cons, firstNZ]
      cases decide (askC l[k] = 0) <;> rfl
    · rw [dec_f (fun q => hlt ((i64_lt (by omega) (by omega)).1 q)), oite_f, List.drop_eq_nil_of_le (by omega)]
      rfl
theorem asks_eq (n : Nat) (hn : 20 < n) (l : List AskP) (h : FitAs n l) : F20 n l = some (asksC l, ()) := by
  have := asks_loop n hn l h n 0 (by omega) (by have := h.1; omega)
  have hl := h.1
  have e : decide ((8 : Int64) < I64 l.length) = decide (8 < l.length) := decide_eq_decide.2 (i64_lt (a := 8) (by omega) (by omega))
  unfold F20 asksC
  rw [e]
  cases decide (8 < l.length) with
  | true => rfl
  | false =>
    rw [oite_f]
    refine Eq.trans ?_ this
    rfl
theorem refs_loop (l : List AskP) (hl : l.length ≤ 12) : ∀ (m k : Nat), k ≤ l.length → l.length - k < m →
    F23_R29 m l (I64 l.length) (I64 k) ((l.take k).map refA) = some (l.map refA, ()) := by
  intro m
  induction m with
  | zero => intro k _ h; omega
  | succ m ih =>
    intro k hk hm
    rw [F23_R29_s]
    unfold F23_L29
    by_cases hlt : k < l.length
    · rw [dec_t ((i64_lt (by omega) (by omega)).2 hlt), oite_t, at_i64_lt (by omega) hlt]
      simp only [obind_s]
      rw [ble_t (by simp; omega), oite_t, i64_succ]
      have e : (l.take k).map refA ++ [(l[k].1, Int64.ofInt ↑l[k].2.1.toNat, l[k].2.2)] = (l.take (k + 1)).map refA := by
        rw [List.take_succ_eq_append_getElem hlt, List.map_append]; rfl
      rw [e]
      exact ih (k + 1) (by omega) (by omega)
    · rw [dec_f (fun q => hlt ((i64_lt (by omega) (by omega)).1 q)), oite_f, List.take_of_length_le (by omega)]
theorem refs_eq (n : Nat) (hn : 20 < n) (l : List AskP) (hl : l.length ≤ 12) : F23 n l = some (l.map refA, ()) :=
  refs_loop l hl n 0 (by omega) (by omega)
theorem rasks_loop (n : Nat) (l : List AskP) (h : FitAs n l) : ∀ (m k : Nat), k ≤ l.length → l.length - k < m →
    F24_R29 n m (l.map refA) (I64 k) = some (firstNZ ((l.drop k).map askC), ()) := by
  obtain ⟨hl, h⟩ := h
  intro m
  induction m with
  | zero => intro k _ h; omega
  | succ m ih =>
    intro k hk hm
    rw [F24_R29_s]
    unfold F24_L29
    have hlen : (l.map refA).length = l.length := List.length_map _
    rw [hlen]
    by_cases hlt : k < l.length
    · have ha := h l[k] (List.getElem_mem hlt)
      have hx : at? (l.map refA) (I64 k).toInt = some (refA l[k]) := by rw [at_i64_lt (by omega) (by omega)]; simp
      rw [dec_t ((i64_lt (by omega) (by omega)).2 hlt), oite_t, hx]
      simp only [obind_s, rask_eq n _ ha]
      rw [i64_succ, ih (k + 1) (by omega) (by omega), List.drop_eq_getElem_cons hlt, List.map_cons, firstNZ]
      cases decide (askC l[k] = 0) <;> rfl
    · rw [dec_f (fun q => hlt ((i64_lt (by omega) (by omega)).1 q)), oite_f, List.drop_eq_nil_of_le (by omega)]
      rfl
theorem rasks_eq (n : Nat) (hn : 20 < n) (l : List AskP) (h : FitAs n l) : F24 n (l.map refA) = some (asksC l, ()) := by
  have := rasks_loop n l h n 0 (by omega) (by have := h.1; omega)
  have hl := h.1
  have hlen : (l.map refA).length = l.length := List.length_map _
  have e : decide ((8 : Int64) < I64 l.length) = decide (8 < l.length) := decide_eq_decide.2 (i64_lt (a := 8) (by omega) (by omega))
  unfold F24 asksC
  rw [hlen, e]
  cases decide (8 < l.length) with
  | true => rfl
  | false =>
    rw [oite_f]
    refine Eq.trans ?_ this
    rfl

/-! ### Keys that are to be the same -/
def memB (v : List UInt8) (l : List (List UInt8)) : Bool := l.any fun x => x == v
theorem idx_loop (v : List UInt8) (l : List (List UInt8)) (hl : l.length ≤ 12) : ∀ (m k : Nat), k ≤ l.length → l.length - k < m →
    ∃ i, F34_R13 m l v (I64 l.length) (I64 k) = some (i, ()) ∧ decide ((0 : Int64) ≤ i) = memB v (l.drop k) := by
  intro m
  induction m with
  | zero => intro k _ h; omega
  | succ m ih =>
    intro k hk hm
    rw [F34_R13_s]
    unfold F34_L13
    by_cases hlt : k < l.length
    · rw [dec_t ((i64_lt (by omega) (by omega)).2 hlt), oite_t, at_i64_lt (by omega) hlt]
      simp only [obind_s]
      rw [List.drop_eq_getElem_cons hlt]
      unfold memB
      simp only [List.any_cons]
      have hc : (v == l[k]) = (l[k] == v) := Bool.beq_comm
      rw [hc]
      cases l[k] == v with
      | true => exact ⟨I64 k, rfl, by rw [Bool.true_or]; exact dec_t ((i64_le (a := 0) (by omega) (by omega)).2 (by omega))⟩
      | false =>
        rw [oite_f, i64_succ, Bool.false_or]
        exact ih (k + 1) (by omega) (by omega)
    · rw [dec_f (fun q => hlt ((i64_lt (by omega) (by omega)).1 q)), oite_f, List.drop_eq_nil_of_le (by omega)]
      exact ⟨-1, rfl, rfl⟩
theorem has_eq (n : Nat) (hn : 20 < n) (v : List UInt8) (l : List (List UInt8)) (hl : l.length ≤ 12) : F22 n (l, v) = some (memB v l, ()) := by
  obtain ⟨i, h1, h2⟩ := idx_loop v l hl n 0 (by omega) (by omega)
  unfold F22 F34
  simp only
  have h1 : F34_R13 n l v (Int64.ofInt ↑l.length) 0 = some (i, ()) := h1
  rw [h1]
  simp only [obind_s]
  rw [h2]; rfl
theorem among_loop (v : List UInt8) (l : List (List UInt8)) (hl : l.length ≤ 12) : ∀ (m k : Nat), k ≤ l.length → l.length - k < m →
    F26_R13 m v l (I64 k) = some (memB v (l.drop k), ()) := by
  intro m
  induction m with
  | zero => intro k _ h; omega
  | succ m ih =>
    intro k hk hm
    rw [F26_R13_s]
    unfold F26_L13
    by_cases hlt : k < l.length
    · rw [dec_t ((i64_lt (by omega) (by omega)).2 hlt), oite_t, at_i64_lt (by omega) hlt]
      simp only [obind_s]
      rw [List.drop_eq_getElem_cons hlt]
      unfold memB
      simp only [List.any_cons]
      cases l[k] == v with
      | true => rfl
      | false =>
        rw [oite_f, i64_succ, Bool.false_or]
        exact ih (k + 1) (by omega) (by omega)
    · rw [dec_f (fun q => hlt ((i64_lt (by omega) (by omega)).1 q)), oite_f, List.drop_eq_nil_of_le (by omega)]
      rfl
theorem among_eq (n : Nat) (hn : 20 < n) (v : List UInt8) (l : List (List UInt8)) (hl : l.length ≤ 12) : F26 n (v, l) = some (memB v l, ()) :=
  among_loop v l hl n 0 (by omega) (by omega)
def keysGo : List (List UInt8) → List (List UInt8) → Int64
  | _, [] => 0
  | done, k :: r => bif wordOK 8 false k then (bif memB k done then 7 else keysGo (done ++ [k]) r) else 8
theorem take_cond {k : Nat} {l : List (List UInt8)} (h : k ≤ l.length) (hl : l.length ≤ 12) : (decide (0 ≤ (I64 k).toInt) && Nat.ble (Int.toNat (I64 k).toInt) l.length && true) = true ∧ List.drop 0 (List.take (Int.toNat (I64 k).toInt) l) = l.take k := by
  rw [i64_toInt (by omega)]
  refine ⟨?_, by simp⟩
  rw [dec_t (by omega), ble_t (by simpa using h)]; rfl
theorem keys_loop (n : Nat) (hn : 20 < n) (c0 c1 : List AskP) (l : List (List UInt8)) (hl : l.length ≤ 12) (h : ∀ k ∈ l, FitS n k) : ∀ (m k : Nat), k ≤ l.length → l.length - k < m →
    F11_R125 n m l (I64 l.length) (I64 k) c0 c1 l = some (keysGo (l.take k) (l.drop k), ()) := by
  intro m
  induction m with
  | zero => intro k _ h; omega
  | succ m ih =>
    intro k hk hm
    rw [F11_R125_s]
    unfold F11_L125
    by_cases hlt : k < l.length
    · have ha := h l[k] (List.getElem_mem hlt)
      obtain ⟨e1, e2⟩ := take_cond (k := k) (l := l) (by omega) hl
      rw [dec_t ((i64_lt (by omega) (by omega)).2 hlt), oite_t, at_i64_lt (by omega) hlt]
      simp only [obind_s, key_go n _ ha.2 hn]
      rw [e1, e2, oite_t, has_eq n hn _ _ (by simp; omega)]
      simp only [obind_s]
      rw [List.drop_eq_getElem_cons hlt, keysGo, i64_succ, ih (k + 1) (by omega) (by omega), List.take_succ_eq_append_getElem hlt]
      cases wordOK 8 false l[k] with
      | false => rfl
      | true => cases memB l[k] (l.take k) <;> rfl
    · rw [dec_f (fun q => hlt ((i64_lt (by omega) (by omega)).1 q)), oite_f, List.drop_eq_nil_of_le (by omega)]
      rfl
theorem rkeys_loop (n : Nat) (hn : 20 < n) (c0 c1 : List RefP) (l : List (List UInt8)) (hl : l.length ≤ 12) (h : ∀ k ∈ l, FitS n k) : ∀ (m k : Nat), k ≤ l.length → l.length - k < m →
    F13_R253 n m (I64 k) c0 c1 l = some (keysGo (l.take k) (l.drop k), ()) := by
  intro m
  induction m with
  | zero => intro k _ h; omega
  | succ m ih =>
    intro k hk hm
    rw [F13_R253_s]
    unfold F13_L253
    by_cases hlt : k < l.length
    · have ha := h l[k] (List.getElem_mem hlt)
      obtain ⟨e1, e2⟩ := take_cond (k := k) (l := l) (by omega) hl
      rw [dec_t ((i64_lt (by omega) (by omega)).2 hlt), oite_t, at_i64_lt (by omega) hlt]
      simp only [obind_s, key_eq n _ ha.2 ha.1]
      rw [e1, e2, oite_t, among_eq n hn _ _ (by simp; omega)]
      simp only [obind_s]
      rw [List.drop_eq_getElem_cons hlt, keysGo, i64_succ, ih (k + 1) (by omega) (by omega), List.take_succ_eq_append_getElem hlt]
      cases wordOK 8 false l[k] with
      | false => rfl
      | true => cases memB l[k] (l.take k) <;> rfl
    · rw [dec_f (fun q => hlt ((i64_lt (by omega) (by omega)).1 q)), oite_f, List.drop_eq_nil_of_le (by omega)]
      rfl

/-! ### One curb -/
def curbC (c : CuP) : Int64 :=
  bif decide (c.1.length = 0) then 2 else bif decide (c.2.1.length = 0) then 2 else
    bif decide (asksC c.1 = 0) then bif decide (asksC c.2.1 = 0) then bif decide (8 < c.2.2.length) then 5 else keysGo [] c.2.2
      else asksC c.2.1
    else asksC c.1
def FitC (n : Nat) (c : CuP) : Prop := FitAs n c.1 ∧ FitAs n c.2.1 ∧ c.2.2.length ≤ 12 ∧ ∀ k ∈ c.2.2, FitS n k
theorem len0 {k : Nat} (h : k < 2 ^ 63) : decide (I64 k = (0 : Int64)) = decide (k = 0) := decide_eq_decide.2 (i64_eq (b := 0) h (by omega))
theorem len8 {k : Nat} (h : k < 2 ^ 63) : decide ((8 : Int64) < I64 k) = decide (8 < k) := decide_eq_decide.2 (i64_lt (a := 8) (by omega) h)
theorem curb_eq (n : Nat) (hn : 20 < n) (c : CuP) (h : FitC n c) : F11 n (c.1, c.2.1, c.2.2) = some (curbC c, ()) := by
  obtain ⟨c0, c1, c2⟩ := c
  obtain ⟨h0, h1, h2, h3⟩ := h
  simp only at h0 h1 h2 h3
  have e0 := h0.1
  have e1 := h1.1
  have k3 : F11_R125 n n c2 (Int64.ofInt ↑c2.length) 0 c0 c1 c2 = some (keysGo [] c2, ()) := keys_loop n hn c0 c1 c2 h2 h3 n 0 (by omega) (by omega)
  have a0 := asks_eq n hn c0 h0
  have a1 := asks_eq n hn c1 h1
  unfold F11 curbC
  simp only
  rw [len0 (by omega), len0 (by omega)]
  cases decide (c0.length = 0) with
  | true => rfl
  | false =>
  cases decide (c1.length = 0) with
  | true => rfl
  | false =>
  simp only [oite_f, cond_false]
  obtain ⟨m, rfl⟩ : ∃ m, n = m + 3 := ⟨n - 3, by omega⟩
  have step : ∀ (j : Nat), j < 2 → ∀ r, F11_R29 (m + 3) (r + 1) (Int64.ofInt ↑[c0, c1].length) (I64 j) c0 c1 c2 [c0, c1] = obind ([c0, c1][j]?) fun x => obind (F20 (m + 3) x) fun y => oite (!decide (y.1 = 0)) (some (y.1, ())) (F11_R29 (m + 3) r (Int64.ofInt ↑[c0, c1].length) (I64 j + 1) c0 c1 c2 [c0, c1]) := by
    intro j hj r
    rw [F11_R29_s]
    unfold F11_L29
    have hj' : j < [c0, c1].length := hj
    rw [dec_t ((i64_lt (a := j) (b := [c0, c1].length) (by omega) (by simp)).2 hj'), oite_t, (idx_i64 hj' (by omega)).1, oite_t, (idx_i64 hj' (by omega)).2, List.getElem?_eq_getElem hj']
  have s0 := step 0 (by omega) (m + 2)
  have s1 := step 1 (by omega) (m + 1)
  refine s0.trans ?_
  simp only [List.getElem?_cons_zero, obind_s, a0]
  cases decide (asksC c0 = 0) with
  | false => rfl
  | true =>
  simp only [Bool.not_true, oite_f, cond_true]
  refine s1.trans ?_
  simp only [List.getElem?_cons_succ, List.getElem?_cons_zero, obind_s, a1]
  cases decide (asksC c1 = 0) with
  | false => rfl
  | true =>
  simp only [Bool.not_true, oite_f, cond_true]
  have s2 : F11_R29 (m + 3) (m + 1) (Int64.ofInt ↑[c0, c1].length) (I64 1 + 1) c0 c1 c2 [c0, c1] = oite (decide ((8 : Int64) < Int64.ofInt ↑c2.length)) (some (5, ())) (F11_R125 (m + 3) (m + 3) c2 (Int64.ofInt ↑c2.length) 0 c0 c1 c2) := by
    rw [F11_R29_s]
    unfold F11_L29
    rw [dec_f (p := I64 1 + 1 < Int64.ofInt ↑[c0, c1].length) (show ¬ ((I64 1 + 1 : Int64) < (2 : Int64)) by decide), oite_f]
  rw [s2, k3, len8 (by omega)]
  cases decide (8 < c2.length) <;> rfl
theorem rcurb_eq (n : Nat) (hn : 20 < n) (c : CuP) (h : FitC n c) : F13 n (c.1.map refA, c.2.1.map refA, c.2.2) = some (curbC c, ()) := by
  obtain ⟨c0, c1, c2⟩ := c
  obtain ⟨h0, h1, h2, h3⟩ := h
  simp only at h0 h1 h2 h3
  have e0 := h0.1
  have e1 := h1.1
  have k3 : F13_R253 n n 0 (c0.map refA) (c1.map refA) c2 = some (keysGo [] c2, ()) := rkeys_loop n hn (c0.map refA) (c1.map refA) c2 h2 h3 n 0 (by omega) (by omega)
  have a0 := rasks_eq n hn c0 h0
  have a1 := rasks_eq n hn c1 h1
  unfold F13 curbC
  simp only
  rw [List.length_map, List.length_map, len0 (by omega), len0 (by omega), a0, a1, k3, len8 (by omega)]
  cases decide (c0.length = 0) with
  | true => rfl
  | false =>
  cases decide (c1.length = 0) with
  | true => rfl
  | false =>
  simp only [oite_f, cond_false, obind_s]
  cases decide (asksC c0 = 0) with
  | false => rfl
  | true =>
  cases decide (asksC c1 = 0) with
  | false => rfl
  | true => cases decide (8 < c2.length) <;> rfl
theorem cref_eq (n : Nat) (hn : 20 < n) (c : CuP) (h : FitC n c) : F12 n (c.1, c.2.1, c.2.2) = some ((c.1.map refA, c.2.1.map refA, c.2.2), ()) := by
  unfold F12
  simp only
  rw [refs_eq n hn c.1 h.1.1, refs_eq n hn c.2.1 h.2.1.1]
  rfl
theorem list_loop (n : Nat) (hn : 20 < n) (l : List CuP) (hl : l.length ≤ 50) (h : ∀ c ∈ l, FitC n c) : ∀ (m k : Nat), k ≤ l.length → l.length - k < m →
    F15_R29 n m l (I64 l.length) (I64 k) = some (firstNZ ((l.drop k).map curbC), ()) := by
  intro m
  induction m with
  | zero => intro k _ h; omega
  | succ m ih =>
    intro k hk hm
    rw [F15_R29_s]
    unfold F15_L29
    by_cases hlt : k < l.length
    · have ha := h l[k] (List.getElem_mem hlt)
      rw [dec_t ((i64_lt (by omega) (by omega)).2 hlt), oite_t, at_i64_lt (by omega) hlt]
      simp only [obind_s, curb_eq n hn _ ha]
      rw [i64_succ, ih (k + 1) (by omega) (by omega), List.drop_eq_getElem_cons hlt, List.map_cons, firstNZ]
      cases decide (curbC l[k] = 0) <;> rfl
    · rw [dec_f (fun q => hlt ((i64_lt (by omega) (by omega)).1 q)), oite_f, List.drop_eq_nil_of_le (by omega)]
      rfl
theorem list_eq (n : Nat) (hn : 60 < n) (l : List CuP) (hl : l.length ≤ 50) (h : ∀ c ∈ l, FitC n c) : F15 n l = some (bif decide (32 < l.length) then 5 else firstNZ (l.map curbC), ()) := by
  have k : F15_R29 n n l (Int64.ofInt ↑l.length) 0 = some (firstNZ (l.map curbC), ()) := list_loop n (by omega) l hl h n 0 (by omega) (by omega)
  have e : decide ((32 : Int64) < I64 l.length) = decide (32 < l.length) := decide_eq_decide.2 (i64_lt (a := 32) (by omega) (by omega))
  unfold F15
  rw [k, e]
  cases decide (32 < l.length) <;> rfl
end Go.Proofs.Ytlkjacdnnbmmmaa
