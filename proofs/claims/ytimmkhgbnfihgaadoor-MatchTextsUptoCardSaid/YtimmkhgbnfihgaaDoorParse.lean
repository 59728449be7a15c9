/- Questions' texts, in plain Lean: a text cut at commas, one question read, a list read: the code's way and the document's give the same. -/
import Derived.Test.YtimmkhgbnfihgaaDoorNHLaw
open Go Go.Sx
namespace Go.Proofs.YtimmkhgbnfihgaaDoor
/-! ### A text cut at a sign -/
def pieces (c : UInt8) : List UInt8 → List (List UInt8)
  | [] => [[]]
  | x :: l => if x = c then [] :: pieces c l else (x :: (pieces c l).headD []) :: (pieces c l).tail
def glue (p : List UInt8) (L : List (List UInt8)) : List (List UInt8) := (p ++ L.headD []) :: L.tail
theorem pieces_cons (c : UInt8) : ∀ l, ∃ p r, pieces c l = p :: r
  | [] => ⟨_, _, rfl⟩
  | x :: l => by unfold pieces; split <;> exact ⟨_, _, rfl⟩
theorem glue_nil (c : UInt8) (l : List UInt8) : glue [] (pieces c l) = pieces c l := by
  obtain ⟨p, r, h⟩ := pieces_cons c l
  rw [h]; rfl
theorem glue_hit (p : List UInt8) (c : UInt8) (l : List UInt8) : glue p (pieces c (c :: l)) = p :: pieces c l := by simp [pieces, glue]
theorem glue_miss (p : List UInt8) (x c : UInt8) (l : List UInt8) (h : x ≠ c) : glue p (pieces c (x :: l)) = glue (p ++ [x]) (pieces c l) := by simp [pieces, glue, h]
theorem pieces_len (c : UInt8) : ∀ l : List UInt8, (pieces c l).length ≤ l.length + 1
  | [] => by simp [pieces]
  | x :: l => by
    have := pieces_len c l
    unfold pieces
    split
    · simp only [List.length_cons]; omega
    · simp only [List.length_cons, List.length_tail]; omega
theorem pieces_mem (c : UInt8) : ∀ (l : List UInt8), ∀ p ∈ pieces c l, p.length ≤ l.length
  | [], p, h => by simp [pieces] at h; subst h; simp
  | x :: l, p, h => by
    have ih := pieces_mem c l
    obtain ⟨q, r, e⟩ := pieces_cons c l
    unfold pieces at h
    rw [e] at h ih
    split at h
    · rcases List.mem_cons.1 h with rfl | h
      · simp
      · have := ih p h; simp only [List.length_cons]; omega
    · rcases List.mem_cons.1 h with rfl | h
      · have := ih q (by simp); simpa using this
      · have := ih p (List.mem_cons_of_mem _ h); simp only [List.length_cons]; omega
theorem split_loop (c : UInt8) (s : List UInt8) (hs : s.length ≤ 70000) (m : Nat) : ∀ (i j : Nat) (out : List (List UInt8)), i ≤ s.length → j ≤ i → out.length ≤ i → s.length - i < m →
    F41_R61 m s c (I64 j) (I64 i) out = some (out ++ glue ((s.take i).drop j) (pieces c (s.drop i)), ()) := by
  induction m with
  | zero => intros; omega
  | succ m ih =>
    intro i j out hi hj ho hm
    rw [F41_R61_s]
    unfold F41_L61
    have e1 := i64_toInt (k := i) (by omega)
    have e2 := i64_toInt (k := j) (by omega)
    by_cases hlt : i < s.length
    · rw [dec_t ((i64_lt (by omega) (by omega)).2 hlt), oite_t, at_i64_lt (by omega) hlt]
      simp only [obind_s, i64_succ]
      have hd : s.drop i = s[i] :: s.drop (i + 1) := List.drop_eq_getElem_cons hlt
      by_cases hc : s[i] = c
      · rw [dec_t hc, oite_t, e1, e2]
        have hb : (decide ((0 : Int) ≤ (i : Int)) && Nat.ble (Int.toNat (i : Int)) s.length && (decide ((0 : Int) ≤ (j : Int)) && Nat.ble (Int.toNat (j : Int)) (Int.toNat (i : Int)))) = true := by
          rw [ble_t (by omega), ble_t (by omega)]; simp
        rw [hb, oite_t, ble_t (by simp; omega), oite_t, ih (i + 1) (i + 1) _ (by omega) (by omega) (by simp; omega) (by omega), hd, hc, glue_hit]
        have hz : (s.take (i + 1)).drop (i + 1) = [] := List.drop_eq_nil_of_le (by rw [List.length_take]; omega)
        rw [hz, glue_nil]
        simp
      · rw [dec_f hc, oite_f, ih (i + 1) j out (by omega) (by omega) (by omega) (by omega), hd, glue_miss _ _ _ _ hc]
        have hz : (s.take (i + 1)).drop j = (s.take i).drop j ++ [s[i]] := by
          rw [List.take_succ_eq_append_getElem hlt, List.drop_append_of_le_length (by simp; omega)]
        rw [hz]
    · have hi' : i = s.length := by omega
      subst hi'
      rw [dec_f (fun q => hlt ((i64_lt (by omega) (by omega)).1 q)), oite_f, e2]
      have hb : (decide ((0 : Int) ≤ (j : Int)) && Nat.ble (Int.toNat (j : Int)) s.length) = true := by rw [ble_t (by omega)]; simp
      rw [hb, oite_t, ble_t (by simp; omega), oite_t]
      simp [glue, pieces]
theorem split_eq (n : Nat) (c : UInt8) (s : List UInt8) (hs : s.length ≤ 70000) (hn : s.length < n) : F41 n (s, c) = some (pieces c s, ()) := by
  have h := split_loop c s hs n 0 0 [] (by omega) (by omega) (by simp) (by omega)
  have e : F41 n (s, c) = F41_R61 n s c (I64 0) (I64 0) [] := rfl
  rw [e, h]
  simp [glue_nil]
theorem pieces_eq (c x : UInt8) (l : List UInt8) : pieces c (x :: l) = if x = c then [] :: pieces c l else (x :: (pieces c l).headD []) :: (pieces c l).tail := rfl
theorem index1 (c : UInt8) : ∀ s : List UInt8, (Lib.index s [c] = -1 ∧ pieces c s = [s]) ∨ (∃ i : Nat, Lib.index s [c] = i ∧ i < s.length ∧ pieces c s = s.take i :: pieces c (s.drop (i + 1)))
  | [] => Or.inl ⟨rfl, rfl⟩
  | x :: l => by
    unfold Lib.index
    rw [pieces_eq]
    by_cases h : x = c
    · right
      refine ⟨0, ?_, by simp, ?_⟩
      · rw [if_pos (by simp [List.isPrefixOf, h])]; rfl
      · simp [h]
    · have hp : ([c] : List UInt8).isPrefixOf (x :: l) = false := by simp [List.isPrefixOf]; exact fun e => h e.symm
      rw [if_neg (by rw [hp]; simp), if_neg h]
      rcases index1 c l with ⟨h1, h2⟩ | ⟨i, h1, h2, h3⟩
      · left
        rw [h1, h2]
        exact ⟨rfl, rfl⟩
      · right
        refine ⟨i + 1, ?_, by simp only [List.length_cons]; omega, ?_⟩
        · have hz : ((i : Int) == -1) = false := by rw [beq_eq_false_iff_ne]; omega
          rw [h1, hz]; simp
        · rw [h3]; simp
theorem split_pieces (c : UInt8) : ∀ (fuel : Nat) (s : List UInt8), s.length < fuel → Lib.splitK [c] 0 (Lib.countFrom [c] fuel s) s = pieces c s
  | 0, _, h => by omega
  | fuel + 1, s, h => by
    unfold Lib.countFrom
    rcases index1 c s with ⟨h1, h2⟩ | ⟨i, h1, h2, h3⟩
    · rw [h1, h2]; rfl
    · have hz : (Lib.index s [c] == -1) = false := by rw [h1, beq_eq_false_iff_ne]; omega
      rw [hz, if_neg (by simp), Nat.add_comm 1, Lib.splitK, hz, if_neg (by simp), h1, h3]
      have := split_pieces c fuel (s.drop (i + 1)) (by simp only [List.length_drop]; omega)
      simpa using this
theorem splitL (n : Nat) (s : List UInt8) (hs : s.length ≤ 70000) : F39 n (s, [44]) = some (pieces 44 s, ()) := by
  show oite (Nat.blt s.length 4294967281 && Nat.blt 0 ([44] : List UInt8).length) (some (Lib.split s [44], ())) none = _
  have h1 : (Nat.blt s.length 4294967281 && Nat.blt 0 ([44] : List UInt8).length) = true := by rw [blt_iff, dec_t (by omega)]; rfl
  have h2 : Lib.split s [44] = pieces 44 s := split_pieces 44 (s.length + 1) s (by omega)
  rw [h1, oite_t, h2]
/-! ### A sign's place -/
theorem occ_slice (s x : List UInt8) (k : Nat) : (List.drop k (List.take (k + x.length) s) == x) = Lib.occAt s x k := by
  rw [Bool.eq_iff_iff, beq_iff_eq, List.drop_take, Nat.add_sub_cancel_left]
  unfold Lib.occAt
  rw [List.isPrefixOf_iff_prefix, List.prefix_iff_eq_take]
  exact eq_comm
theorem index_bound (s x : List UInt8) (h : 0 ≤ Lib.index s x) : ∃ i : Nat, Lib.index s x = i ∧ i + x.length ≤ s.length := by
  have := Lib.index_room s x h
  exact ⟨(Lib.index s x).toNat, by omega, by omega⟩
theorem at_loop (s x : List UInt8) (hs : s.length ≤ 70000) (hx : x.length ≤ 10) (hx0 : 0 < x.length) (m : Nat) : ∀ k : Nat, k ≤ s.length + 1 → s.length + 1 - k < m → (∀ j, j < k → Lib.occAt s x j = false) →
    F42_R13 m s x (I64 k) = some (Int64.ofInt (Lib.index s x), ()) := by
  induction m with
  | zero => intros; omega
  | succ m ih =>
    intro k hk hm hj
    rw [F42_R13_s]
    unfold F42_L13
    rw [show Int64.ofInt ↑x.length = I64 x.length from rfl, show Int64.ofInt ↑s.length = I64 s.length from rfl, i64_add]
    by_cases hlt : k + x.length ≤ s.length
    · have e1 := i64_toInt (k := k) (by omega)
      have e2 := i64_toInt (k := k + x.length) (by omega)
      rw [dec_t ((i64_le (by omega) (by omega)).2 hlt), oite_t, e1, e2]
      have hb : (decide ((0 : Int) ≤ ((k + x.length : Nat) : Int)) && Nat.ble (Int.toNat ((k + x.length : Nat) : Int)) s.length && (decide ((0 : Int) ≤ (k : Int)) && Nat.ble (Int.toNat (k : Int)) (Int.toNat ((k + x.length : Nat) : Int)))) = true := by
        rw [ble_t (by omega), ble_t (by omega)]; simp; omega
      rw [hb, oite_t]
      simp only [Int.toNat_natCast, occ_slice]
      cases ho : Lib.occAt s x k with
      | true => rw [oite_t, Lib.index_first (by omega) ho hj]
      | false =>
        rw [oite_f, i64_succ]
        refine ih (k + 1) (by omega) (by omega) fun j hj' => ?_
        rcases Nat.lt_or_ge j k with h | h
        · exact hj j h
        · have : j = k := by omega
          rw [this, ho]
    · rw [dec_f (fun q => hlt ((i64_le (by omega) (by omega)).1 q)), oite_f]
      rcases Lib.index_spec s x with ⟨h1, _⟩ | ⟨i, h1, h2, h3, _⟩
      · rw [h1]; rfl
      · have := Lib.index_room s x (by omega)
        have := hj i (by omega)
        rw [h3] at this
        cases this
theorem at_eq (n : Nat) (s x : List UInt8) (hs : s.length ≤ 70000) (hx : x.length ≤ 10) (hx0 : 0 < x.length) (hn : s.length + 1 < n) : F42 n (s, x) = some (Int64.ofInt (Lib.index s x), ()) :=
  at_loop s x hs hx hx0 n 0 (by omega) (by omega) fun _ h => by omega
/-! ### One question read -/
def signsL : List (List UInt8) := [[33, 61], [94, 61], [61]]
def opsL : List Int64 := [2, 3, 1]
def askOf (s : List UInt8) : AskP :=
  if s.take 1 = [33] then (s.drop 1, 5, []) else
  if 0 ≤ Lib.index s [33, 61] then ((Lib.cut s [33, 61]).1, 2, (Lib.cut s [33, 61]).2.1) else
  if 0 ≤ Lib.index s [94, 61] then ((Lib.cut s [94, 61]).1, 3, (Lib.cut s [94, 61]).2.1) else
  if 0 ≤ Lib.index s [61] then ((Lib.cut s [61]).1, 1, (Lib.cut s [61]).2.1) else (s, 4, [])
theorem ask_fit (n : Nat) (s : List UInt8) (hs : s.length < n) (h2 : s.length < 2 ^ 63) : FitA n (askOf s) := by
  have c1 := cut_len s [33, 61]
  have c2 := cut_len s [94, 61]
  have c3 := cut_len s [61]
  unfold askOf FitA FitS
  split
  · simp only [List.length_drop, List.length_nil]; omega
  split
  · simp only; omega
  split
  · simp only; omega
  split
  · simp only; omega
  · simp only [List.length_nil]; omega
theorem cutG (s : List UInt8) (x : List UInt8) (h : s.length ≤ 70000) (n : Nat) : F52 n (s, x) = some (Lib.cut s x, ()) := by
  show oite (Nat.blt s.length 4294967281) (some (Lib.cut s x, ())) none = _
  rw [blt_iff, dec_t (by omega)]; rfl
theorem cut_found (s x : List UInt8) : (Lib.cut s x).2.2 = decide (0 ≤ Lib.index s x) := by
  unfold Lib.cut
  split
  · rename_i h; rw [dec_t h]
  · rename_i h; rw [dec_f h]
theorem cutPre (n : Nat) (s : List UInt8) (hs : s.length ≤ 70000) : F50 n (s, [33]) = some ((if s.take 1 = [33] then s.drop 1 else s, decide (s.take 1 = [33])), ()) := by
  have h := pre s [33] (by omega) (by simp)
  have e : F43 n (s, [33]) = some (decide (([33] : List UInt8).length ≤ s.length) && (s.take ([33] : List UInt8).length == [33]), ()) := h
  unfold F50 F58
  rw [e]
  simp only [obind_s, List.length_cons, List.length_nil, Nat.zero_add]
  by_cases hp : s.take 1 = [33]
  · have hl : 1 ≤ s.length := by
      have := congrArg List.length hp
      simp at this; omega
    have ht : (decide (1 ≤ s.length) && (s.take 1 == [33])) = true := by rw [hp, dec_t hl]; rfl
    rw [ht, if_pos hp, dec_t hp]
    have hb : (decide ((0 : Int) ≤ Int64.toInt (Int64.ofInt ↑(1 : Nat))) && Nat.ble (Int.toNat (Int64.toInt (Int64.ofInt ↑(1 : Nat)))) s.length) = true := by
      rw [show Int64.toInt (Int64.ofInt ↑(1 : Nat)) = 1 from rfl, show Int.toNat 1 = 1 from rfl, ble_t hl]; rfl
    simp only [Bool.not_true, oite_f]
    rw [hb, oite_t, show Int.toNat (Int64.toInt (Int64.ofInt ↑(1 : Nat))) = 1 from rfl]
    simp only [obind_s, List.take_length]
  · have ht : (decide (1 ≤ s.length) && (s.take 1 == [33])) = false := by
      rw [show (s.take 1 == [33]) = false from by rw [beq_eq_false_iff_ne]; exact hp, Bool.and_false]
    rw [ht, if_neg hp, dec_f hp]
    rfl
theorem step0 (n m : Nat) (s : List UInt8) : F40_R29 n (m + 1) s signsL 3 0 [] 0 [] = obind (F52 n (s, [33, 61])) fun x => oite x.1.2.2 (obind (F19 n (x.1.1, 2, x.1.2.1)) fun y => some (((x.1.1, 2, x.1.2.1), y.1), ())) (F40_R29 n m s signsL 3 1 [] 0 []) := by
  rw [F40_R29_s]; rfl
theorem step1 (n m : Nat) (s : List UInt8) : F40_R29 n (m + 1) s signsL 3 1 [] 0 [] = obind (F52 n (s, [94, 61])) fun x => oite x.1.2.2 (obind (F19 n (x.1.1, 3, x.1.2.1)) fun y => some (((x.1.1, 3, x.1.2.1), y.1), ())) (F40_R29 n m s signsL 3 2 [] 0 []) := by
  rw [F40_R29_s]; rfl
theorem step2 (n m : Nat) (s : List UInt8) : F40_R29 n (m + 1) s signsL 3 2 [] 0 [] = obind (F52 n (s, [61])) fun x => oite x.1.2.2 (obind (F19 n (x.1.1, 1, x.1.2.1)) fun y => some (((x.1.1, 1, x.1.2.1), y.1), ())) (F40_R29 n m s signsL 3 3 [] 0 []) := by
  rw [F40_R29_s]; rfl
theorem step3 (n m : Nat) (s : List UInt8) : F40_R29 n (m + 1) s signsL 3 3 [] 0 [] = obind (F19 n (s, 4, [])) fun y => some (((s, 4, []), y.1), ()) := by
  rw [F40_R29_s]; rfl
theorem parse_eq (n : Nat) (hn : 20 < n) (s : List UInt8) (hs : s.length < n) (hs2 : s.length ≤ 70000) : F40 n s = some ((askOf s, askC (askOf s)), ()) := by
  have hf := ask_fit n s hs (by omega)
  have ha := ask_eq n hn (askOf s) hf
  unfold F40
  rw [cutPre n s hs2]
  simp only [obind_s]
  by_cases hp : s.take 1 = [33]
  · have e : askOf s = (s.drop 1, 5, []) := by unfold askOf; rw [if_pos hp]
    rw [e] at ha ⊢
    rw [dec_t hp, oite_t, if_pos hp, ha]
    rfl
  · rw [dec_f hp, oite_f]
    obtain ⟨m, rfl⟩ : ∃ m, n = m + 4 := ⟨n - 4, by omega⟩
    rw [show F51 (m + 4) () = some (signsL, ()) from rfl]
    simp only [obind_s]
    have s0 : F40_R29 (m + 4) (m + 4) s signsL (Int64.ofInt ↑signsL.length) 0 [] 0 [] = _ := step0 (m + 4) (m + 3) s
    rw [s0, cutG s _ hs2]
    simp only [obind_s, cut_found]
    by_cases h0 : 0 ≤ Lib.index s [33, 61]
    · have e : askOf s = ((Lib.cut s [33, 61]).1, 2, (Lib.cut s [33, 61]).2.1) := by unfold askOf; rw [if_neg hp, if_pos h0]
      rw [e] at ha ⊢
      rw [dec_t h0, oite_t, ha]
      rfl
    rw [dec_f h0, oite_f, step1 (m + 4) (m + 2), cutG s _ hs2]
    simp only [obind_s, cut_found]
    by_cases h1 : 0 ≤ Lib.index s [94, 61]
    · have e : askOf s = ((Lib.cut s [94, 61]).1, 3, (Lib.cut s [94, 61]).2.1) := by unfold askOf; rw [if_neg hp, if_neg h0, if_pos h1]
      rw [e] at ha ⊢
      rw [dec_t h1, oite_t, ha]
      rfl
    rw [dec_f h1, oite_f, step2 (m + 4) (m + 1), cutG s _ hs2]
    simp only [obind_s, cut_found]
    by_cases h2 : 0 ≤ Lib.index s [61]
    · have e : askOf s = ((Lib.cut s [61]).1, 1, (Lib.cut s [61]).2.1) := by unfold askOf; rw [if_neg hp, if_neg h0, if_neg h1, if_pos h2]
      rw [e] at ha ⊢
      rw [dec_t h2, oite_t, ha]
      rfl
    have e : askOf s = (s, 4, []) := by unfold askOf; rw [if_neg hp, if_neg h0, if_neg h1, if_neg h2]
    rw [e] at ha ⊢
    rw [dec_f h2, oite_f, step3 (m + 4) m, ha]
    rfl
/-! ### The document's way for one question -/
def pick (p sg : List UInt8) (op : Int64) (a : RefP) : RefP := if 0 ≤ Lib.index p sg then ((Lib.cut p sg).1, op, (Lib.cut p sg).2.1) else a
abbrev OutT := Option ((List (List UInt8 × Int64 × List UInt8) × Int64) × Unit)
abbrev JT := Arr [PT.list (CTs.cons CT.str CTs.nil), PT.int IntKind.i64, PT.list (CTs.cons CT.str CTs.nil), PT.list (CTs.cons (CT.int IntKind.i64) CTs.nil), PT.list (CTs.cons CT.str (CTs.cons (CT.int IntKind.i64) (CTs.cons CT.str CTs.nil))), PT.bytes, PT.int IntKind.i64, PT.bytes] OutT
theorem pick_step (n : Nat) (J : JT) (m : Nat) (parts : List (List UInt8)) (i : Int64) (p : List UInt8) (hp : p.length ≤ 70000) (hn : p.length + 1 < n) (k : Nat) (sg : List UInt8) (op : Int64) (hk : k < 3)
    (h1 : signsL[k]? = some sg) (h2 : opsL[k]? = some op) (h3 : sg.length ≤ 10) (h4 : 0 < sg.length) (out : List RefP) (a : RefP) :
    F23_R522935 n J (m + 1) parts i p (I64 k) signsL opsL out a.1 a.2.1 a.2.2 = F23_R522935 n J m parts i p (I64 k - 1) signsL opsL out (pick p sg op a).1 (pick p sg op a).2.1 (pick p sg op a).2.2 := by
  rw [F23_R522935_s]
  unfold F23_L522935
  have e0 := i64_toInt (k := k) (by omega)
  have hb1 : (decide ((0 : Int) ≤ (k : Int)) && Nat.blt (Int.toNat (k : Int)) signsL.length) = true := by rw [blt_iff, dec_t (p := Int.toNat (k : Int) < signsL.length) (by simp [signsL]; omega)]; simp
  have hb2 : (decide ((0 : Int) ≤ (k : Int)) && Nat.blt (Int.toNat (k : Int)) opsL.length) = true := by rw [blt_iff, dec_t (p := Int.toNat (k : Int) < opsL.length) (by simp [opsL]; omega)]; simp
  rw [dec_t (p := (0 : Int64) ≤ I64 k) ((i64_le (a := 0) (by omega) (by omega)).2 (by omega)), oite_t, e0, hb1, oite_t, Int.toNat_natCast, h1]
  simp only [obind_s]
  rw [at_eq n p sg hp h3 h4 hn]
  simp only [obind_s]
  by_cases hf : 0 ≤ Lib.index p sg
  · obtain ⟨q, e1, e2⟩ := index_bound p sg hf
    have e3 : pick p sg op a = (p.take q, op, p.drop (q + sg.length)) := by
      unfold pick Lib.cut
      rw [if_pos hf, if_pos hf, e1]; rfl
    rw [e3, e1]
    have e4 := i64_toInt (k := q) (by omega)
    have e5 := i64_toInt (k := q + sg.length) (by omega)
    rw [dec_t (p := (0 : Int64) ≤ I64 q) ((i64_le (a := 0) (by omega) (by omega)).2 (by omega)), oite_t, e4, show Int64.ofInt ↑sg.length = I64 sg.length from rfl, i64_add, e5]
    have hc1 : (decide ((0 : Int) ≤ (q : Int)) && Nat.ble (Int.toNat (q : Int)) p.length && true) = true := by rw [ble_t (by omega)]; simp
    have hc2 : (decide ((0 : Int) ≤ ((q + sg.length : Nat) : Int)) && Nat.ble (Int.toNat ((q + sg.length : Nat) : Int)) p.length) = true := by rw [ble_t (by omega)]; simp; omega
    rw [Int.toNat_natCast] at hb1 hb2
    rw [hc1, oite_t, hb2, oite_t, h2]
    simp only [obind_s, oite_t]
    rw [hc2, oite_t, Int.toNat_natCast, Int.toNat_natCast, List.take_length]
    rfl
  · have e3 : pick p sg op a = a := by unfold pick; rw [if_neg hf]
    have e4 : Lib.index p sg = -1 := by have := Lib.index_ge p sg; omega
    rw [e3, e4, dec_f (p := (0 : Int64) ≤ Int64.ofInt (-1)) (by decide), oite_f]
theorem pick_end (n : Nat) (J : JT) (m : Nat) (parts : List (List UInt8)) (i : Int64) (p : List UInt8) (out : List RefP) (a : RefP) :
    F23_R522935 n J (m + 1) parts i p (-1) signsL opsL out a.1 a.2.1 a.2.2 = J parts i signsL opsL out a.1 a.2.1 a.2.2 := by
  rw [F23_R522935_s]; rfl
theorem pick_ask (p : List UInt8) (h : ¬ p.take 1 = [33]) : pick p [33, 61] 2 (pick p [94, 61] 3 (pick p [61] 1 (p, 4, []))) = refA (askOf p) := by
  unfold askOf
  rw [if_neg h]
  by_cases h0 : 0 ≤ Lib.index p [33, 61]
  · rw [pick, if_pos h0, if_pos h0]; rfl
  rw [pick, if_neg h0, if_neg h0]
  by_cases h1 : 0 ≤ Lib.index p [94, 61]
  · rw [pick, if_pos h1, if_pos h1]; rfl
  rw [pick, if_neg h1, if_neg h1]
  by_cases h2 : 0 ≤ Lib.index p [61]
  · rw [pick, if_pos h2, if_pos h2]; rfl
  rw [pick, if_neg h2, if_neg h2]; rfl
theorem pick_loop (n : Nat) (J : JT) (parts : List (List UInt8)) (i : Int64) (p : List UInt8) (hp : p.length ≤ 70000) (hn : p.length + 5 < n) (out : List RefP) (h : ¬ p.take 1 = [33]) :
    F23_R522935 n J n parts i p 2 signsL opsL out p 4 [] = J parts i signsL opsL out (refA (askOf p)).1 (refA (askOf p)).2.1 (refA (askOf p)).2.2 := by
  obtain ⟨m, e⟩ : ∃ m, n = m + 4 := ⟨n - 4, by omega⟩
  have s0 := pick_step n J (m + 3) parts i p hp (by omega) 2 [61] 1 (by omega) rfl rfl (by decide) (by decide) out (p, 4, [])
  have s1 := pick_step n J (m + 2) parts i p hp (by omega) 1 [94, 61] 3 (by omega) rfl rfl (by decide) (by decide) out (pick p [61] 1 (p, 4, []))
  have s2 := pick_step n J (m + 1) parts i p hp (by omega) 0 [33, 61] 2 (by omega) rfl rfl (by decide) (by decide) out (pick p [94, 61] 3 (pick p [61] 1 (p, 4, [])))
  have s3 := pick_end n J m parts i p out (pick p [33, 61] 2 (pick p [94, 61] 3 (pick p [61] 1 (p, 4, []))))
  rw [pick_ask p h] at s2 s3
  rw [show F23_R522935 n J n = F23_R522935 n J (m + 3 + 1) from by rw [← e]]
  exact s0.trans (s1.trans (s2.trans s3))
/-! ### A list read -/
def parseL : List (List UInt8) → List AskP → List AskP × Int64
  | [], out => (out, 0)
  | p :: r, out => if askC (askOf p) ≠ 0 then ([], askC (askOf p)) else if out.length = 8 then ([], 5) else parseL r (out ++ [askOf p])
def parseV (s : List UInt8) : List AskP × Int64 := if 65536 < s.length then ([], 4) else if s = [42] then ([], 0) else parseL (pieces 44 s) []
theorem parseL_len : ∀ (l : List (List UInt8)) (out : List AskP), out.length ≤ 8 → (parseL l out).1.length ≤ 8
  | [], out, h => h
  | p :: r, out, h => by
    unfold parseL
    split
    · simp
    split
    · simp
    · exact parseL_len r _ (by simp; omega)
theorem parseV_len (s : List UInt8) : (parseV s).1.length ≤ 8 := by
  unfold parseV
  split
  · simp
  split
  · simp
  · exact parseL_len _ _ (by simp)
theorem parse_loop (n : Nat) (hn : 20 < n) (parts : List (List UInt8)) (hl : parts.length ≤ 70000) (hp : ∀ p ∈ parts, p.length < n ∧ p.length ≤ 70000) (m : Nat) : ∀ (k : Nat) (out : List AskP), k ≤ parts.length → parts.length - k < m → out.length ≤ 8 →
    F22_R125 n m (I64 parts.length) (I64 k) out parts = some (parseL (parts.drop k) out, ()) := by
  induction m with
  | zero => intros; omega
  | succ m ih =>
    intro k out hk hm ho
    rw [F22_R125_s]
    unfold F22_L125
    by_cases hlt : k < parts.length
    · obtain ⟨b1, b2⟩ := idx_i64 (l := parts) hlt (by omega)
      have hq := hp parts[k] (List.getElem_mem hlt)
      have hd : parts.drop k = parts[k] :: parts.drop (k + 1) := List.drop_eq_getElem_cons hlt
      rw [dec_t ((i64_lt (by omega) (by omega)).2 hlt), oite_t, b1, oite_t, b2]
      simp only [obind_s]
      rw [parse_eq n hn _ hq.1 hq.2, hd]
      simp only [obind_s, i64_succ]
      unfold parseL
      by_cases hc : askC (askOf parts[k]) = 0
      · rw [dec_t hc, if_neg (fun h => h hc), Bool.not_true, oite_f, ble_t (by simp; omega), oite_t]
        by_cases h8 : out.length = 8
        · rw [if_pos h8, dec_t (p := (8 : Int64) < _) ((i64_lt (a := 8) (by omega) (by simp; omega)).2 (by simp; omega)), oite_t]
        · rw [if_neg h8, dec_f (p := (8 : Int64) < _) (fun q => absurd ((i64_lt (a := 8) (by omega) (by simp; omega)).1 q) (by simp; omega)), oite_f]
          exact ih (k + 1) _ (by omega) (by omega) (by simp; omega)
      · rw [dec_f hc, if_pos hc]; rfl
    · rw [dec_f (fun q => hlt ((i64_lt (by omega) (by omega)).1 q)), oite_f, List.drop_eq_nil_of_le (by omega)]
      rfl
theorem ref_loopP (n : Nat) (parts : List (List UInt8)) (hl : parts.length ≤ 70000) (hp : ∀ p ∈ parts, p.length + 5 < n ∧ p.length ≤ 70000) (m : Nat) : ∀ (k : Nat) (out : List AskP), k ≤ parts.length → parts.length - k < m → out.length ≤ 8 →
    F23_R1021 n m parts (I64 k) signsL opsL (out.map refA) = some (((parseL (parts.drop k) out).1.map refA, (parseL (parts.drop k) out).2), ()) := by
  induction m with
  | zero => intros; omega
  | succ m ih =>
    intro k out hk hm ho
    rw [F23_R1021_s]
    unfold F23_L1021
    by_cases hlt : k < parts.length
    · have hq := hp parts[k] (List.getElem_mem hlt)
      have hd : parts.drop k = parts[k] :: parts.drop (k + 1) := List.drop_eq_getElem_cons hlt
      rw [dec_t ((i64_lt (by omega) (by omega)).2 hlt), oite_t, at_i64_lt (by omega) hlt, hd]
      generalize parts[k] = p at hq
      simp only [obind_s, ojoinA_eq]
      have hz : F23_J32683 n (F23_R1021 n m) parts (I64 k) signsL opsL (out.map refA) (refA (askOf p)).1 (refA (askOf p)).2.1 (refA (askOf p)).2.2 = some (((parseL (p :: parts.drop (k + 1)) out).1.map refA, (parseL (p :: parts.drop (k + 1)) out).2), ()) := by
        unfold F23_J32683
        rw [rask_eq n _ (ask_fit n p (by omega) (by omega))]
        simp only [obind_s, List.length_map]
        unfold parseL
        by_cases hc : askC (askOf p) = 0
        · rw [dec_t hc, if_neg (fun h => h hc), Bool.not_true, oite_f]
          by_cases h8 : out.length = 8
          · rw [if_pos h8, dec_t (p := Int64.ofInt ↑out.length = 8) (by rw [h8]; rfl), oite_t]; rfl
          · rw [if_neg h8, dec_f (p := Int64.ofInt ↑out.length = 8) (fun q => h8 ((i64_eq (b := 8) (by omega) (by omega)).1 q)), oite_f, ble_t (by simp; omega), oite_t, i64_succ]
            have := ih (k + 1) (out ++ [askOf p]) (by omega) (by omega) (by simp; omega)
            rw [List.map_append] at this
            exact this
        · rw [dec_f hc, if_pos hc]; rfl
      by_cases h0 : 0 < p.length
      · rw [dec_t (p := (0 : Int64) < _) ((i64_lt (a := 0) (by omega) (by omega)).2 h0), oite_t, show at? p (Int64.toInt (0 : Int64)) = some p[0] from at_i64_lt (k := 0) (by omega) h0]
        simp only [obind_s]
        unfold F23_J65366
        by_cases h33 : p[0] = 33
        · have ht : p.take 1 = [33] := by rw [List.take_one, List.head?_eq_getElem?, List.getElem?_eq_getElem h0, h33]; rfl
          have e : askOf p = (p.drop 1, 5, []) := by unfold askOf; rw [if_pos ht]
          rw [dec_t h33, oite_t, show Int.toNat (Int64.toInt (1 : Int64)) = 1 from rfl, ble_t (by omega), oite_t, List.take_length]
          rw [e] at hz
          exact hz
        · have ht : ¬ p.take 1 = [33] := by rw [List.take_one, List.head?_eq_getElem?, List.getElem?_eq_getElem h0]; simp; exact h33
          rw [dec_f h33, oite_f]
          exact (pick_loop n _ parts (I64 k) p (by omega) (by omega) _ ht).trans hz
      · have hp0 : p = [] := List.length_eq_zero_iff.1 (by omega)
        have ht : ¬ p.take 1 = [33] := by rw [hp0]; simp
        rw [dec_f (p := (0 : Int64) < _) (fun q => h0 ((i64_lt (a := 0) (by omega) (by omega)).1 q)), oite_f]
        unfold F23_J65366
        rw [oite_f]
        exact (pick_loop n _ parts (I64 k) p (by omega) (by omega) _ ht).trans hz
    · rw [dec_f (fun q => hlt ((i64_lt (by omega) (by omega)).1 q)), oite_f, List.drop_eq_nil_of_le (by omega)]
      rfl
theorem parseA (n : Nat) (hn : 70020 < n) (s : List UInt8) (hs : s.length < 2 ^ 63) : F22 n s = some (parseV s, ()) := by
  unfold F22 parseV
  by_cases h1 : 65536 < s.length
  · rw [dec_t (p := (65536 : Int64) < _) ((i64_lt (a := 65536) (by omega) hs).2 h1), oite_t, if_pos h1]
  · rw [dec_f (p := (65536 : Int64) < _) (fun q => h1 ((i64_lt (a := 65536) (by omega) hs).1 q)), oite_f, if_neg h1]
    by_cases h2 : s = [42]
    · rw [if_pos h2, h2]; rfl
    · rw [if_neg h2, show (s == [42]) = false from by rw [beq_eq_false_iff_ne]; exact h2, oite_f, splitL n s (by omega)]
      simp only [obind_s]
      have hl := pieces_len 44 s
      exact parse_loop n (by omega) _ (by omega) (fun p hp => by have := pieces_mem 44 s p hp; omega) n 0 [] (by omega) (by omega) (by simp)
theorem parseB (n : Nat) (hn : 70020 < n) (s : List UInt8) (hs : s.length < 2 ^ 63) : F23 n s = some (((parseV s).1.map refA, (parseV s).2), ()) := by
  unfold F23 parseV
  by_cases h1 : 65536 < s.length
  · rw [dec_t (p := (65536 : Int64) < _) ((i64_lt (a := 65536) (by omega) hs).2 h1), oite_t, if_pos h1]; rfl
  · rw [dec_f (p := (65536 : Int64) < _) (fun q => h1 ((i64_lt (a := 65536) (by omega) hs).1 q)), oite_f, if_neg h1]
    by_cases h2 : s = [42]
    · rw [if_pos h2, h2]; rfl
    · rw [if_neg h2, show (s == [42]) = false from by rw [beq_eq_false_iff_ne]; exact h2, oite_f, split_eq n 44 s (by omega) (by omega)]
      simp only [obind_s]
      have hl := pieces_len 44 s
      exact ref_loopP n _ (by omega) (fun p hp => by have := pieces_mem 44 s p hp; omega) n 0 [] (by omega) (by omega) (by simp)
end Go.Proofs.YtimmkhgbnfihgaaDoor
