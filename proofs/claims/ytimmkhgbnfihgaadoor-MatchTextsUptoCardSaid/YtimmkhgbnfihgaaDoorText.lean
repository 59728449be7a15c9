/- Questions written: the code's text and the document's; right questions' text read again is these questions. In plain Lean. -/
import Derived.Test.YtimmkhgbnfihgaaDoorParse
open Go Go.Sx
namespace Go.Proofs.YtimmkhgbnfihgaaDoor
/-! ### Lists of questions are the same as themselves -/
theorem refl_loop (x : List AskP) (hx : x.length ≤ 12) (m : Nat) : ∀ k, k ≤ x.length → x.length - k < m →
    F11_R29 m x x (I64 x.length) (I64 k) = some (true, ()) ∧ F12_R29 m (x.map refA) (x.map refA) (I64 x.length) (I64 k) = some (true, ()) := by
  induction m with
  | zero => intros; omega
  | succ m ih =>
    intro k hk hm
    rw [F11_R29_s, F12_R29_s]
    unfold F11_L29 F12_L29
    by_cases hlt : k < x.length
    · have hx' : at? (x.map refA) (I64 k).toInt = some (refA x[k]) := by rw [at_i64_lt (by omega) (by simpa using hlt)]; simp
      rw [dec_t ((i64_lt (by omega) (by omega)).2 hlt), oite_t, oite_t, at_i64_lt (by omega) hlt, hx']
      simp only [obind_s, i64_succ, beq_self_eq_true, Bool.true_and, Bool.not_true, oite_f, decide_true]
      exact ih (k + 1) (by omega) (by omega)
    · rw [dec_f (fun q => hlt ((i64_lt (by omega) (by omega)).1 q)), oite_f, oite_f]
      exact ⟨rfl, rfl⟩
theorem asks_refl (n : Nat) (hn : 20 < n) (x : List AskP) (hx : x.length ≤ 12) : F11 n (x, x) = some (true, ()) ∧ F12 n (x.map refA, x.map refA) = some (true, ()) := by
  obtain ⟨h1, h2⟩ := refl_loop x hx n 0 (by omega) (by omega)
  unfold F11 F12
  simp only [decide_true, Bool.not_true, oite_f, List.length_map]
  exact ⟨h1, h2⟩
/-! ### Texts -/
def signOf (op : UInt8) : List UInt8 := if op = 1 then [61] else if op = 2 then [33, 61] else [94, 61]
def textA (a : AskP) : List UInt8 :=
  if a.2.1 = 1 ∨ a.2.1 = 2 ∨ a.2.1 = 3 then a.1 ++ signOf a.2.1 ++ a.2.2 else if a.2.1 = 4 then a.1 else if a.2.1 = 5 then [33] ++ a.1 else []
def szA (a : AskP) : Nat := a.1.length + a.2.2.length + 3
def tot : List AskP → Nat
  | [] => 0
  | a :: r => szA a + tot r
theorem sign_len (op : UInt8) : (signOf op).length ≤ 2 := by
  unfold signOf
  split
  · decide
  split <;> decide
theorem text_len (a : AskP) : (textA a).length ≤ a.1.length + a.2.2.length + 2 := by
  obtain ⟨k, op, v⟩ := a
  have h := sign_len op
  unfold textA
  simp only
  split
  · simp only [List.length_append]; omega
  split
  · omega
  split
  · simp only [List.length_append, List.length_cons, List.length_nil]; omega
  · simp
theorem dself (c : UInt8) : decide (c = c) = true := decide_eq_true rfl
theorem text_one (n : Nat) (a : AskP) (h : szA a ≤ 4294967296) : F37 n (a.1, a.2.1, a.2.2) = some (textA a, ()) := by
  obtain ⟨k, op, v⟩ := a
  have h : k.length + v.length + 3 ≤ 4294967296 := h
  unfold F37 textA signOf
  simp only
  by_cases h1 : op = 1
  · subst h1
    rw [dself, oite_t, ble_t (by simp; omega), oite_t, ble_t (by simp; omega)]; rfl
  by_cases h2 : op = 2
  · subst h2
    rw [dec_f h1, oite_f, dself, oite_t, ble_t (by simp; omega), oite_t, ble_t (by simp; omega)]; rfl
  by_cases h3 : op = 3
  · subst h3
    rw [dec_f h1, oite_f, dec_f h2, oite_f, dself, oite_t, ble_t (by simp; omega), oite_t, ble_t (by simp; omega)]; rfl
  rw [dec_f h1, dec_f h2, dec_f h3, oite_f, oite_f, oite_f, if_neg (by simp [h1, h2, h3])]
  by_cases h4 : op = 4
  · subst h4; rfl
  rw [dec_f h4, oite_f, if_neg h4]
  by_cases h5 : op = 5
  · subst h5
    rw [dself, oite_t, ble_t (by simp; omega)]; rfl
  rw [dec_f h5, oite_f, if_neg h5]
theorem tot_drop {l : List AskP} {k : Nat} (h : k < l.length) : tot (l.drop k) = szA l[k] + tot (l.drop (k + 1)) := by
  rw [List.drop_eq_getElem_cons h]; rfl
theorem tot_le : ∀ (l : List AskP) (a : AskP), a ∈ l → szA a ≤ tot l
  | [], _, h => by simp at h
  | x :: r, a, h => by
    unfold tot
    rcases List.mem_cons.1 h with rfl | h
    · omega
    · have := tot_le r a h; omega
def textL (l : List AskP) : List UInt8 := if l = [] then [42] else Lib.join (l.map textA) [44]
theorem tail_len : ∀ l : List AskP, (Lib.joinTail [44] (l.map textA)).length ≤ tot l
  | [] => by simp [Lib.joinTail]
  | a :: r => by
    have h1 := tail_len r
    have h2 := text_len a
    have e : Lib.joinTail [44] ((a :: r).map textA) = [44] ++ textA a ++ Lib.joinTail [44] (r.map textA) := by simp [Lib.joinTail]
    rw [e]
    simp only [List.length_append, List.length_cons, List.length_nil, tot, szA]
    omega
theorem join_lenA (l : List AskP) : (Lib.join (l.map textA) [44]).length ≤ tot l := by
  cases l with
  | nil => simp [Lib.join_nil, tot]
  | cons a r =>
    have h1 := tail_len r
    have h2 := text_len a
    rw [List.map_cons, Lib.join_cons]
    simp only [List.length_append, tot, szA]
    omega
theorem textL_len (l : List AskP) : (textL l).length ≤ tot l + 1 := by
  have := join_lenA l
  unfold textL
  split
  · simp
  · omega
theorem text_loop (n : Nat) (l : List AskP) (hl : l.length ≤ 12) (ht : tot l ≤ 4294967296) (m : Nat) : ∀ (k : Nat), k ≤ l.length → l.length - k < m →
    F21_R61 n m l (I64 l.length) (I64 k) ((l.take k).map textA) = some (Lib.join (l.map textA) [44], ()) := by
  induction m with
  | zero => intros; omega
  | succ m ih =>
    intro k hk hm
    rw [F21_R61_s]
    unfold F21_L61
    by_cases hlt : k < l.length
    · have h1 := tot_le l l[k] (List.getElem_mem hlt)
      rw [dec_t ((i64_lt (by omega) (by omega)).2 hlt), oite_t, at_i64_lt (by omega) hlt]
      simp only [obind_s]
      rw [text_one n l[k] (by omega)]
      simp only [obind_s]
      have e : (l.take k).map textA ++ [textA l[k]] = (l.take (k + 1)).map textA := by rw [List.take_succ_eq_append_getElem hlt, List.map_append]; rfl
      rw [ble_t (by simp; omega), oite_t, i64_succ, e]
      exact ih (k + 1) (by omega) (by omega)
    · rw [dec_f (fun q => hlt ((i64_lt (by omega) (by omega)).1 q)), oite_f, List.take_of_length_le (by omega)]
      have hj := join_lenA l
      have e : F38 n (l.map textA, [44]) = some (Lib.join (l.map textA) [44], ()) := by
        show oite (Nat.ble (l.map textA).length 140737488355328 && Nat.ble (Lib.join (l.map textA) [44]).length 140737488355328) (some (Lib.join (l.map textA) [44], ())) none = _
        rw [ble_t (by simp; omega), ble_t (by omega)]; rfl
      rw [e]; rfl
theorem text_eq (n : Nat) (hn : 20 < n) (l : List AskP) (hl : l.length ≤ 12) (ht : tot l ≤ 4294967296) : F21 n l = some (textL l, ()) := by
  unfold F21 textL
  cases l with
  | nil => rfl
  | cons a r =>
    rw [dec_f (p := Int64.ofInt ↑(a :: r).length = 0) (fun q => absurd ((i64_eq (b := 0) (by omega) (by omega)).1 q) (by simp)), oite_f, if_neg (by simp)]
    exact text_loop n (a :: r) hl ht n 0 (by omega) (by omega)
theorem opR (c : UInt8) (op : UInt8) : decide (Int64.ofInt ↑(UInt8.toNat op) = Int64.ofInt ↑(UInt8.toNat c)) = decide (op = c) := kDec op c
theorem round_text (J : Arr [PT.list (CTs.cons CT.str (CTs.cons (CT.int IntKind.i64) (CTs.cons CT.str CTs.nil))), PT.bytes, PT.int IntKind.i64] (Option (List UInt8 × Unit)))
    (l : List RefP) (a : AskP) (s : List UInt8) (i : Int64) (hi : at? l (Int64.toInt i) = some (refA a)) (hs : s.length + szA a ≤ 4294967296) :
    F24_J490 J l s i = J l (s ++ textA a) i := by
  unfold F24_J490
  rw [hi]
  simp only [obind_s]
  obtain ⟨k, op, v⟩ := a
  have hs : s.length + (k.length + v.length + 3) ≤ 4294967296 := hs
  have d (c : UInt8) : decide ((refA (k, op, v)).2.1 = Int64.ofInt ↑(UInt8.toNat c)) = decide (op = c) := kDec op c
  rw [show (1 : Int64) = Int64.ofInt ↑(UInt8.toNat 1) from rfl, show (2 : Int64) = Int64.ofInt ↑(UInt8.toNat 2) from rfl, show (3 : Int64) = Int64.ofInt ↑(UInt8.toNat 3) from rfl,
    show (4 : Int64) = Int64.ofInt ↑(UInt8.toNat 4) from rfl, show (5 : Int64) = Int64.ofInt ↑(UInt8.toNat 5) from rfl, d 1, d 2, d 3, d 4, d 5]
  have er : refA (k, op, v) = (k, Int64.ofInt ↑(UInt8.toNat op), v) := rfl
  rw [er]
  unfold textA signOf
  simp only
  by_cases h1 : op = 1
  · subst h1
    rw [dself, oite_t, ble_t (by omega), oite_t, ble_t (by simp; omega), oite_t, ble_t (by simp; omega), oite_t]
    simp
  by_cases h2 : op = 2
  · subst h2
    rw [dec_f h1, oite_f, dself, oite_t, ble_t (by omega), oite_t, ble_t (by simp; omega), oite_t, ble_t (by simp; omega), oite_t]
    simp
  by_cases h3 : op = 3
  · subst h3
    rw [dec_f h1, oite_f, dec_f h2, oite_f, dself, oite_t, ble_t (by omega), oite_t, ble_t (by simp; omega), oite_t, ble_t (by simp; omega), oite_t]
    simp
  rw [dec_f h1, dec_f h2, dec_f h3, oite_f, oite_f, oite_f, if_neg (by simp [h1, h2, h3])]
  by_cases h4 : op = 4
  · subst h4
    rw [dself, oite_t, ble_t (by omega), oite_t]
    simp
  rw [dec_f h4, oite_f, if_neg h4]
  by_cases h5 : op = 5
  · subst h5
    rw [dself, oite_t, ble_t (by simp; omega), oite_t, ble_t (by simp; omega), oite_t]
    simp
  rw [dec_f h5, oite_f, if_neg h5, List.append_nil]
def joined (l : List AskP) (k : Nat) : List UInt8 := if k = 0 then Lib.join (l.map textA) [44] else Lib.joinTail [44] ((l.drop k).map textA)
theorem joined_step (l : List AskP) (k : Nat) (h : k < l.length) : joined l k = (if k = 0 then [] else [44]) ++ textA l[k] ++ joined l (k + 1) := by
  unfold joined
  rw [if_neg (by omega : ¬ k + 1 = 0), List.drop_eq_getElem_cons h]
  by_cases hk : k = 0
  · subst hk
    rw [if_pos rfl, if_pos rfl]
    cases l with
    | nil => simp at h
    | cons a r => rw [List.map_cons, Lib.join_cons]; simp
  · have e : Lib.joinTail [44] ((l[k] :: l.drop (k + 1)).map textA) = [44] ++ textA l[k] ++ Lib.joinTail [44] ((l.drop (k + 1)).map textA) := rfl
    rw [if_neg hk, if_neg hk, e]
theorem joined_len (l : List AskP) (k : Nat) : (joined l k).length ≤ tot (l.drop k) := by
  unfold joined
  split
  · rename_i h; subst h; exact join_lenA l
  · exact tail_len _
theorem ref_text_loop (l : List AskP) (hl : l.length ≤ 12) (m : Nat) : ∀ (k : Nat) (s : List UInt8), k ≤ l.length → l.length - k < m → s.length + tot (l.drop k) + 1 ≤ 4294967296 →
    F24_R61 m (l.map refA) s (I64 k) = some (if k = l.length then s else s ++ joined l k, ()) := by
  induction m with
  | zero => intros; omega
  | succ m ih =>
    intro k s hk hm ht
    rw [F24_R61_s]
    unfold F24_L61
    simp only [List.length_map]
    by_cases hlt : k < l.length
    · have hx' : at? (l.map refA) (I64 k).toInt = some (refA l[k]) := by rw [at_i64_lt (by omega) (by simpa using hlt)]; simp
      have htd := tot_drop hlt
      rw [dec_t ((i64_lt (by omega) (by omega)).2 hlt), oite_t, if_neg (by omega), joined_step l k hlt]
      simp only [ojoinA_eq]
      have hend (s' : List UInt8) (hs' : s'.length + szA l[k] + tot (l.drop (k + 1)) ≤ 4294967296 ∧ (s'.length + 0 = s'.length)) (h1 : s'.length ≤ s.length + 1) :
          F24_J490 (F24_J245 (F24_R61 m)) (l.map refA) s' (I64 k) = some (s' ++ textA l[k] ++ joined l (k + 1), ()) := by
        have h2 := text_len l[k]
        have h3 : szA l[k] = l[k].1.length + l[k].2.2.length + 3 := rfl
        rw [round_text _ _ l[k] s' (I64 k) hx' (by omega)]
        unfold F24_J245
        rw [i64_succ, ih (k + 1) _ (by omega) (by omega) (by simp only [List.length_append]; omega)]
        by_cases he : k + 1 = l.length
        · rw [if_pos he]
          have : joined l (k + 1) = [] := by unfold joined; rw [if_neg (by omega), List.drop_eq_nil_of_le (by omega)]; rfl
          rw [this, List.append_nil]
        · rw [if_neg he]
      have h3 : 3 ≤ szA l[k] := by unfold szA; omega
      by_cases hk0 : k = 0
      · rw [dec_f (p := (0 : Int64) < _) (fun q => absurd ((i64_lt (a := 0) (by omega) (by omega)).1 q) (by omega)), oite_f, hend s ⟨by omega, rfl⟩ (by omega), if_pos hk0]
        simp
      · rw [dec_t (p := (0 : Int64) < _) ((i64_lt (a := 0) (by omega) (by omega)).2 (by omega)), oite_t, ble_t (by simp; omega), oite_t, hend (s ++ [44]) ⟨by simp only [List.length_append, List.length_cons, List.length_nil]; omega, rfl⟩ (by simp), if_neg hk0]
        simp
    · rw [dec_f (fun q => hlt ((i64_lt (by omega) (by omega)).1 q)), oite_f, if_pos (by omega)]
theorem ref_text (n : Nat) (hn : 20 < n) (l : List AskP) (hl : l.length ≤ 12) (ht : tot l + 1 ≤ 4294967296) : F24 n (l.map refA) = some (textL l, ()) := by
  unfold F24 textL
  cases l with
  | nil => rfl
  | cons a r =>
    rw [dec_f (p := Int64.ofInt ↑((a :: r).map refA).length = 0) (fun q => absurd ((i64_eq (b := 0) (by simp at hl ⊢; omega) (by omega)).1 q) (by simp)), oite_f, if_neg (by simp)]
    have h := ref_text_loop (a :: r) hl n 0 [] (by omega) (by omega) (by simp only [List.drop_zero, List.length_nil]; omega)
    rw [if_neg (by simp)] at h
    exact h.trans (by simp [joined])
/-! ### Right questions, written and read again -/
theorem ok_not {c : UInt8} (h : okb true c = true) : c ≠ 33 ∧ c ≠ 44 ∧ c ≠ 61 ∧ c ≠ 94 ∧ c ≠ 42 := by
  refine ⟨?_, ?_, ?_, ?_, ?_⟩ <;> (rintro rfl; revert h; decide)
theorem ok_also {b : Bool} {c : UInt8} (h : okb b c = true) : okb true c = true := by
  cases b with
  | true => exact h
  | false => unfold okb at *; simp at h; simp [h]
theorem word_all {m : Nat} {b : Bool} {s : List UInt8} (h : wordOK m b s = true) : s ≠ [] ∧ ∀ c ∈ s, okb true c = true := by
  unfold wordOK at h
  simp only [Bool.and_eq_true, decide_eq_true_eq, List.all_eq_true] at h
  exact ⟨fun e => by rw [e] at h; simp at h, fun c hc => ok_also (h.2.2 c hc)⟩
def Right (a : AskP) : Prop := wordOK 8 false a.1 = true ∧ (((a.2.1 = 1 ∨ a.2.1 = 2 ∨ a.2.1 = 3) ∧ wordOK 16 true a.2.2 = true) ∨ ((a.2.1 = 4 ∨ a.2.1 = 5) ∧ a.2.2 = []))
theorem right_ok {a : AskP} (h : Right a) : askC a = 0 := by
  obtain ⟨k, op, v⟩ := a
  obtain ⟨h1, h2⟩ := h
  simp only at h1 h2
  unfold askC
  simp only [h1, cond_true]
  rcases h2 with ⟨rfl | rfl | rfl, h⟩ | ⟨rfl | rfl, rfl⟩
  · rw [h]; rfl
  · rw [h]; rfl
  · rw [h]; rfl
  · rfl
  · rfl
theorem index_no (c : UInt8) (t : List UInt8) : ∀ s : List UInt8, c ∉ s → Lib.index s (c :: t) = -1
  | [], _ => rfl
  | b :: l, h => by
    have hb : ¬ c = b := fun e => h (by simp [e])
    have hp : (c :: t).isPrefixOf (b :: l) = false := by simp [List.isPrefixOf, hb]
    unfold Lib.index
    rw [if_neg (by rw [hp]; simp), index_no c t l (fun q => h (List.mem_cons_of_mem _ q))]
    rfl
theorem index_at (c : UInt8) (t v : List UInt8) : ∀ k : List UInt8, c ∉ k → Lib.index (k ++ (c :: t) ++ v) (c :: t) = k.length
  | [], _ => by
    have hp : (c :: t).isPrefixOf (c :: (t ++ v)) = true := by rw [List.isPrefixOf_iff_prefix]; exact ⟨v, rfl⟩
    show Lib.index (c :: (t ++ v)) (c :: t) = 0
    unfold Lib.index
    rw [if_pos hp]
  | b :: l, h => by
    have hb : ¬ c = b := fun e => h (by simp [e])
    have hp : (c :: t).isPrefixOf (b :: (l ++ (c :: t) ++ v)) = false := by simp [List.isPrefixOf, hb]
    have ih := index_at c t v l (fun q => h (List.mem_cons_of_mem _ q))
    show Lib.index (b :: (l ++ (c :: t) ++ v)) (c :: t) = _
    unfold Lib.index
    have hz : ((l.length : Int) == -1) = false := by rw [beq_eq_false_iff_ne]; omega
    rw [if_neg (by rw [hp]; simp), ih, hz]
    simp
theorem cut_at (k sg v : List UInt8) (h : Lib.index (k ++ sg ++ v) sg = k.length) : Lib.cut (k ++ sg ++ v) sg = (k, v, true) := by
  unfold Lib.cut
  rw [h, if_pos (by omega)]
  simp
theorem head_no {s : List UInt8} (h : ∀ c ∈ s.head?, c ≠ 33) : ¬ s.take 1 = [33] := by
  cases s with
  | nil => simp
  | cons a r => simp at h ⊢; exact h
theorem back_ask {a : AskP} (h : Right a) : askOf (textA a) = a := by
  obtain ⟨k, op, v⟩ := a
  obtain ⟨h1, h2⟩ := h
  simp only at h1 h2
  obtain ⟨k0, k1⟩ := word_all h1
  have no (c : UInt8) (hc : c = 33 ∨ c = 44 ∨ c = 61 ∨ c = 94 ∨ c = 42) : c ∉ k := fun q => by
    have := ok_not (k1 c q)
    rcases hc with rfl | rfl | rfl | rfl | rfl <;> simp at this
  have hd (t : List UInt8) : ¬ (k ++ t).take 1 = [33] := by
    cases k with
    | nil => exact absurd rfl k0
    | cons b r => simp; exact (ok_not (k1 b (by simp))).1
  unfold textA signOf
  simp only
  rcases h2 with ⟨h3, h4⟩ | ⟨h3, rfl⟩
  · rw [if_pos h3]
    obtain ⟨_, v1⟩ := word_all h4
    have nv (c : UInt8) (hc : c = 33 ∨ c = 44 ∨ c = 61 ∨ c = 94 ∨ c = 42) : c ∉ v := fun q => by
      have := ok_not (v1 c q)
      rcases hc with rfl | rfl | rfl | rfl | rfl <;> simp at this
    rcases h3 with rfl | rfl | rfl
    · rw [if_pos rfl]
      unfold askOf
      have i0 : Lib.index (k ++ [61] ++ v) [33, 61] = -1 := index_no 33 [61] _ (by simp [no, nv])
      have i1 : Lib.index (k ++ [61] ++ v) [94, 61] = -1 := index_no 94 [61] _ (by simp [no, nv])
      have i2 : Lib.index (k ++ [61] ++ v) [61] = k.length := index_at 61 [] v k (no 61 (by simp))
      rw [if_neg (by rw [List.append_assoc]; exact hd _), i0, if_neg (by decide), i1, if_neg (by decide), i2, if_pos (by omega), cut_at k [61] v i2]
    · rw [if_neg (by decide), if_pos rfl]
      unfold askOf
      have i0 : Lib.index (k ++ [33, 61] ++ v) [33, 61] = k.length := index_at 33 [61] v k (no 33 (by simp))
      rw [if_neg (by rw [List.append_assoc]; exact hd _), i0, if_pos (by omega), cut_at k [33, 61] v i0]
    · rw [if_neg (by decide), if_neg (by decide)]
      unfold askOf
      have i0 : Lib.index (k ++ [94, 61] ++ v) [33, 61] = -1 := index_no 33 [61] _ (by simp [no, nv])
      have i1 : Lib.index (k ++ [94, 61] ++ v) [94, 61] = k.length := index_at 94 [61] v k (no 94 (by simp))
      rw [if_neg (by rw [List.append_assoc]; exact hd _), i0, if_neg (by decide), i1, if_pos (by omega), cut_at k [94, 61] v i1]
  · rcases h3 with rfl | rfl
    · rw [if_neg (by decide), if_pos rfl]
      unfold askOf
      have h0 := hd []
      rw [List.append_nil] at h0
      rw [if_neg h0, index_no 33 [61] k (no 33 (by simp)), if_neg (by decide), index_no 94 [61] k (no 94 (by simp)), if_neg (by decide), index_no 61 [] k (no 61 (by simp)), if_neg (by decide)]
    · rw [if_neg (by decide), if_neg (by decide), if_pos rfl]
      unfold askOf
      rw [if_pos (by simp)]
      simp
theorem text_no {a : AskP} (h : Right a) : textA a ≠ [] ∧ 44 ∉ textA a ∧ 42 ∉ textA a := by
  obtain ⟨k, op, v⟩ := a
  obtain ⟨h1, h2⟩ := h
  simp only at h1 h2
  obtain ⟨k0, k1⟩ := word_all h1
  have n44 : 44 ∉ k := fun q => (ok_not (k1 _ q)).2.1 rfl
  have n42 : 42 ∉ k := fun q => (ok_not (k1 _ q)).2.2.2.2 rfl
  unfold textA signOf
  simp only
  rcases h2 with ⟨h3, h4⟩ | ⟨h3, rfl⟩
  · obtain ⟨_, v1⟩ := word_all h4
    have v44 : 44 ∉ v := fun q => (ok_not (v1 _ q)).2.1 rfl
    have v42 : 42 ∉ v := fun q => (ok_not (v1 _ q)).2.2.2.2 rfl
    rw [if_pos h3]
    rcases h3 with rfl | rfl | rfl <;> simp [n44, n42, v44, v42]
  · rcases h3 with rfl | rfl <;> simp [n44, n42, k0]
theorem pieces_app (c : UInt8) (rest : List UInt8) : ∀ x : List UInt8, c ∉ x → pieces c (x ++ rest) = glue x (pieces c rest)
  | [], _ => by simp [glue_nil]
  | b :: x, h => by
    have hb : ¬ b = c := fun e => h (by simp [e])
    rw [List.cons_append, pieces_eq, if_neg hb, pieces_app c rest x (fun q => h (List.mem_cons_of_mem _ q))]
    simp [glue]
theorem pieces_join (c : UInt8) : ∀ (r : List (List UInt8)) (x : List UInt8), (∀ p ∈ x :: r, c ∉ p) → pieces c (x ++ Lib.joinTail [c] r) = x :: r
  | [], x, h => by
    have := pieces_app c [] x (h x (by simp))
    rw [show Lib.joinTail [c] [] = [] from rfl, this]
    simp [glue, pieces]
  | y :: r, x, h => by
    have ih := pieces_join c r y (fun p hp => h p (List.mem_cons_of_mem _ hp))
    have e : Lib.joinTail [c] (y :: r) = c :: (y ++ Lib.joinTail [c] r) := by simp [Lib.joinTail]
    rw [e, pieces_app c _ x (h x (by simp)), glue_hit, ih]
theorem parse_back : ∀ (l out : List AskP), (∀ a ∈ l, Right a) → out.length + l.length ≤ 8 → parseL (l.map textA) out = (out ++ l, 0)
  | [], out, _, _ => by simp [parseL]
  | a :: r, out, h, hl => by
    have ha := h a (by simp)
    rw [List.map_cons]
    unfold parseL
    simp only [List.length_cons] at hl
    rw [back_ask ha, if_neg (fun q => q (right_ok ha)), if_neg (by omega), parse_back r _ (fun b hb => h b (List.mem_cons_of_mem _ hb)) (by simp; omega)]
    simp
theorem back_all (l : List AskP) (h : ∀ a ∈ l, Right a) (hl : l.length ≤ 8) (ht : tot l < 65536) : parseV (textL l) = (l, 0) := by
  have hlen := textL_len l
  unfold parseV
  rw [if_neg (by omega)]
  cases l with
  | nil => rfl
  | cons a r =>
    have e : textL (a :: r) = textA a ++ Lib.joinTail [44] (r.map textA) := by
      unfold textL; rw [if_neg (by simp), List.map_cons, Lib.join_cons]
    obtain ⟨t1, _, t3⟩ := text_no (h a (by simp))
    have hne : ¬ textL (a :: r) = [42] := by
      rw [e]
      intro q
      cases hc : textA a with
      | nil => exact t1 hc
      | cons b s =>
        rw [hc] at q t3
        simp at q
        exact t3 (by simp [q.1])
    rw [if_neg hne, e, pieces_join 44 (r.map textA) (textA a) fun p hp => by
      rw [← List.map_cons] at hp
      obtain ⟨b, hb, rfl⟩ := List.mem_map.1 hp
      exact (text_no (h b hb)).2.1]
    exact parse_back (a :: r) [] h (by simpa using hl)
end Go.Proofs.YtimmkhgbnfihgaaDoor
