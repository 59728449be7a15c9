/- The laws MatchNames and MatchHolds: labels with the rule and the origin; whether questions are the same; how they are answered. -/
import Derived.Test.YtimmkhgbnfihgaaDoorCheck
open Go Go.Sx
namespace Go.Proofs.YtimmkhgbnfihgaaDoor
theorem cutE (s : List UInt8) (x : List UInt8) (h : s.length < 100) (n : Nat) : F52 n (s, x) = some (Lib.cut s x, ()) := by
  show oite (Nat.blt s.length 4294967281) (some (Lib.cut s x, ())) none = _
  rw [show Nat.blt s.length 4294967281 = true from by rw [Nat.blt_eq]; omega]; rfl
theorem parse1 (m : Nat) : F40 (m + 30) [97, 61, 98] = some ((([97], 1, [98]), 0), ()) := by
  unfold F40
  rw [show F50 (m + 30) ([97, 61, 98], [33]) = some (([97, 61, 98], false), ()) from by kernel_rfl, show F51 (m + 30) () = some ([[33, 61], [94, 61], [61]], ()) from rfl]
  simp only [obind_s, oite_f]
  have c1 := cutE [97, 61, 98] [33, 61] (by decide) (m + 30)
  have c2 := cutE [97, 61, 98] [94, 61] (by decide) (m + 30)
  have c3 := cutE [97, 61, 98] [61] (by decide) (m + 30)
  rw [show Lib.cut [97, 61, 98] [33, 61] = ([97, 61, 98], [], false) from by decide] at c1
  rw [show Lib.cut [97, 61, 98] [94, 61] = ([97, 61, 98], [], false) from by decide] at c2
  rw [show Lib.cut [97, 61, 98] [61] = ([97], [98], true) from by decide] at c3
  have k0 : F19 (m + 30) ([97], 1, [98]) = some (0, ()) := by kernel_rfl
  have s0 : F40_R29 (m + 30) (m + 30) [97, 61, 98] [[33, 61], [94, 61], [61]] (Int64.ofInt ↑([[33, 61], [94, 61], [61]] : List (List UInt8)).length) 0 [] 0 [] = F40_R29 (m + 30) (m + 29) [97, 61, 98] [[33, 61], [94, 61], [61]] 3 1 [] 0 [] := by
    rw [F40_R29_s]
    unfold F40_L29
    rw [show decide ((0 : Int64) < Int64.ofInt ↑([[33, 61], [94, 61], [61]] : List (List UInt8)).length) = true from rfl, oite_t, show at? ([[33, 61], [94, 61], [61]] : List (List UInt8)) (Int64.toInt 0) = some [33, 61] from rfl]
    simp only [obind_s, c1, oite_f]; rfl
  have s1 : F40_R29 (m + 30) (m + 29) [97, 61, 98] [[33, 61], [94, 61], [61]] 3 1 [] 0 [] = F40_R29 (m + 30) (m + 28) [97, 61, 98] [[33, 61], [94, 61], [61]] 3 2 [] 0 [] := by
    rw [F40_R29_s]
    unfold F40_L29
    rw [show decide ((1 : Int64) < 3) = true from rfl, oite_t, show at? ([[33, 61], [94, 61], [61]] : List (List UInt8)) (Int64.toInt 1) = some [94, 61] from rfl]
    simp only [obind_s, c2, oite_f]; rfl
  have s2 : F40_R29 (m + 30) (m + 28) [97, 61, 98] [[33, 61], [94, 61], [61]] 3 2 [] 0 [] = some ((([97], 1, [98]), 0), ()) := by
    rw [F40_R29_s]
    unfold F40_L29
    rw [show decide ((2 : Int64) < 3) = true from rfl, oite_t, show at? ([[33, 61], [94, 61], [61]] : List (List UInt8)) (Int64.toInt 2) = some [61] from rfl]
    simp only [obind_s, c3, oite_t]
    rw [show (decide ((0 : Int) ≤ Int64.toInt 2) && Nat.blt (Int.toNat (Int64.toInt 2)) ([2, 3, 1] : List UInt8).length) = true from rfl, oite_t, show ([2, 3, 1] : List UInt8)[Int.toNat (Int64.toInt 2)]? = some 1 from rfl]
    simp only [obind_s, k0]
  exact s0.trans (s1.trans s2)
theorem parse2 (m : Nat) : F40 (m + 30) [33, 99] = some ((([99], 5, []), 0), ()) := by
  unfold F40
  rw [show F50 (m + 30) ([33, 99], [33]) = some (([99], true), ()) from by kernel_rfl]
  simp only [obind_s, oite_t]
  rw [show F19 (m + 30) ([99], 5, []) = some (0, ()) from by kernel_rfl]; rfl
theorem splitA (n : Nat) : F39 n ([97, 61, 98, 44, 33, 99], [44]) = some ([[97, 61, 98], [33, 99]], ()) := by
  show oite (Nat.blt ([97, 61, 98, 44, 33, 99] : List UInt8).length 4294967281 && Nat.blt 0 ([44] : List UInt8).length) (some (Lib.split [97, 61, 98, 44, 33, 99] [44], ())) none = _
  rw [show Lib.split [97, 61, 98, 44, 33, 99] [44] = [[97, 61, 98], [33, 99]] from by decide]; rfl
theorem awakeM (m : Nat) : F7 (m + 30) () = some (true, ()) := by
  have hp : F22 (m + 30) [97, 61, 98, 44, 33, 99] = some (([([97], 1, [98]), ([99], 5, [])], 0), ()) := by
    unfold F22
    rw [show decide ((65536 : Int64) < Int64.ofInt ↑([97, 61, 98, 44, 33, 99] : List UInt8).length) = false from rfl, oite_f, show (([97, 61, 98, 44, 33, 99] : List UInt8) == [42]) = false from rfl, oite_f, splitA]
    simp only [obind_s]
    have p1 := parse1 m
    have p2 := parse2 m
    have s0 : F22_R125 (m + 30) (m + 30) (Int64.ofInt ↑([[97, 61, 98], [33, 99]] : List (List UInt8)).length) 0 [] [[97, 61, 98], [33, 99]] = F22_R125 (m + 30) (m + 29) 2 1 [([97], 1, [98])] [[97, 61, 98], [33, 99]] := by
      rw [F22_R125_s]
      unfold F22_L125
      rw [show decide ((0 : Int64) < Int64.ofInt ↑([[97, 61, 98], [33, 99]] : List (List UInt8)).length) = true from rfl, oite_t, show (decide ((0 : Int) ≤ Int64.toInt 0) && Nat.blt (Int.toNat (Int64.toInt 0)) ([[97, 61, 98], [33, 99]] : List (List UInt8)).length) = true from rfl, oite_t,
        show ([[97, 61, 98], [33, 99]] : List (List UInt8))[Int.toNat (Int64.toInt 0)]? = some [97, 61, 98] from rfl]
      simp only [obind_s, p1, decide_true, Bool.not_true, oite_f]
      rfl
    have s1 : F22_R125 (m + 30) (m + 29) 2 1 [([97], 1, [98])] [[97, 61, 98], [33, 99]] = F22_R125 (m + 30) (m + 28) 2 2 [([97], 1, [98]), ([99], 5, [])] [[97, 61, 98], [33, 99]] := by
      rw [F22_R125_s]
      unfold F22_L125
      rw [show decide ((1 : Int64) < 2) = true from rfl, oite_t, show (decide ((0 : Int) ≤ Int64.toInt 1) && Nat.blt (Int.toNat (Int64.toInt 1)) ([[97, 61, 98], [33, 99]] : List (List UInt8)).length) = true from rfl, oite_t,
        show ([[97, 61, 98], [33, 99]] : List (List UInt8))[Int.toNat (Int64.toInt 1)]? = some [33, 99] from rfl]
      simp only [obind_s, p2, decide_true, Bool.not_true, oite_f]
      rfl
    have s2 : F22_R125 (m + 30) (m + 28) 2 2 [([97], 1, [98]), ([99], 5, [])] [[97, 61, 98], [33, 99]] = some (([([97], 1, [98]), ([99], 5, [])], 0), ()) := by
      rw [F22_R125_s]; rfl
    exact s0.trans (s1.trans s2)
  unfold F7
  rw [hp]; rfl

/-! ### Names -/
theorem same_pairs (a : List Pair) (ha : a.length ≤ 100) (m : Nat) : ∀ k, k ≤ a.length → a.length - k < m → F9_R29 m a a (I64 k) = some (true, ()) := by
  induction m with
  | zero => intros; omega
  | succ m ih =>
    intro k hk hm
    rw [F9_R29_s]
    unfold F9_L29
    by_cases hlt : k < a.length
    · rw [dec_t ((i64_lt (by omega) (by omega)).2 hlt), oite_t, at_i64_lt (by omega) hlt]
      simp only [obind_s, beq_self_eq_true, Bool.true_and, Bool.not_true, oite_f, i64_succ]
      exact ih (k + 1) (by omega) (by omega)
    · rw [dec_f (fun q => hlt ((i64_lt (by omega) (by omega)).1 q)), oite_f]
theorem same_pair (n : Nat) (a : List Pair) (ha : a.length ≤ 100) (hn : a.length < n) : F9 n (a, a) = some (true, ()) := by
  unfold F9
  simp only [decide_true, Bool.not_true, oite_f]
  exact same_pairs a ha n 0 (by omega) (by omega)
theorem asks_same (x y : List AskP) (hx : x.length ≤ 12) (hl : x.length = y.length) (m : Nat) : ∀ k, k ≤ x.length → x.length - k < m →
    ∃ b, F11_R29 m x y (I64 x.length) (I64 k) = some (b, ()) ∧ F12_R29 m (x.map refA) (y.map refA) (I64 x.length) (I64 k) = some (b, ()) := by
  induction m with
  | zero => intros; omega
  | succ m ih =>
    intro k hk hm
    rw [F11_R29_s, F12_R29_s]
    unfold F11_L29 F12_L29
    by_cases hlt : k < x.length
    · have hx' : at? (x.map refA) (I64 k).toInt = some (refA x[k]) := by rw [at_i64_lt (by omega) (by simpa using hlt)]; simp
      have hy' : at? (y.map refA) (I64 k).toInt = some (refA (y[k]'(by omega))) := by rw [at_i64_lt (by omega) (by simp; omega)]; simp
      rw [dec_t ((i64_lt (by omega) (by omega)).2 hlt), oite_t, oite_t, at_i64_lt (by omega) hlt, at_i64_lt (by omega) (by omega), hx', hy']
      simp only [obind_s, i64_succ]
      have e : decide ((refA x[k]).2.1 = (refA (y[k]'(by omega))).2.1) = decide (x[k].2.1 = (y[k]'(by omega)).2.1) := kDec _ _
      obtain ⟨b, h1, h2⟩ := ih (k + 1) (by omega) (by omega)
      rw [e, h1, h2]
      simp only [refA]
      cases (!(x[k].1 == (y[k]'(by omega)).1 && (decide (x[k].2.1 = (y[k]'(by omega)).2.1) && (x[k].2.2 == (y[k]'(by omega)).2.2 && true)))) with
      | true => exact ⟨false, rfl, rfl⟩
      | false => exact ⟨b, rfl, rfl⟩
    · rw [dec_f (fun q => hlt ((i64_lt (by omega) (by omega)).1 q)), oite_f, oite_f]
      exact ⟨true, rfl, rfl⟩
theorem asks_both (n : Nat) (hn : 20 < n) (x y : List AskP) (hx : x.length ≤ 12) (hy : y.length ≤ 12) : ∃ b, F11 n (x, y) = some (b, ()) ∧ F12 n (x.map refA, y.map refA) = some (b, ()) := by
  unfold F11 F12
  simp only [List.length_map]
  by_cases h : x.length = y.length
  · rw [dec_t (p := Int64.ofInt ↑x.length = Int64.ofInt ↑y.length) (by rw [h])]
    exact asks_same x y hx h n 0 (by omega) (by omega)
  · rw [dec_f (p := Int64.ofInt ↑x.length = Int64.ofInt ↑y.length) (fun q => h ((i64_eq (by omega) (by omega)).1 q))]
    exact ⟨false, rfl, rfl⟩
theorem end_names (n : Nat) (hn : 40 < n) (x y : List AskP) (hx : x.length ≤ 12) (hy : y.length ≤ 12) (o : UInt8) (rule : List UInt8) (l : List Pair) (hl : l.length ≤ 12) (s : UInt8) (p : UInt64) (v : UInt8) (u : Int64) :
    (obind (F10 n (o, rule, l, s, p, v, u)) fun x_3 => obind (F9 n (namesOf o rule l, x_3.1)) fun x_4 => oite x_4.1 (obind (F9 n (l, l)) fun x_5 => oite x_5.1 (obind (F11 n (x, y)) fun x_6 => obind (F13 n x) fun x_7 => obind (F13 n y) fun x_8 => obind (F12 n (x_7.1, x_8.1)) fun x_9 => some (x_6.1 == x_9.1, ())) (some (false, ()))) (some (false, ()))) = some (true, ()) := by
  obtain ⟨b, h1, h2⟩ := asks_both n (by omega) x y hx hy
  have hnl := names_len o rule l
  rw [names_b n (by omega) o rule l (by omega) s p v u]
  simp only [obind_s]
  rw [same_pair n _ (by omega) (by omega)]
  simp only [obind_s, oite_t]
  rw [same_pair n _ (by omega) (by omega)]
  simp only [obind_s, oite_t]
  rw [h1, ref_spec n (by omega) x hx, ref_spec n (by omega) y hy]
  simp only [obind_s]
  rw [h2, obind_s, beq_self_eq_true]
theorem names_at (o : UInt8) (rule : List UInt8) (l : List Pair) (k : Nat) (hk : k < l.length) : (namesOf o rule l)[k]? = some l[k] := by
  unfold namesOf
  rw [List.append_assoc, List.getElem?_append_left hk, List.getElem?_eq_getElem hk]
theorem names_loop (n : Nat) (hn : 40 < n) (x y : List AskP) (hx : x.length ≤ 12) (hy : y.length ≤ 12) (o : UInt8) (rule : List UInt8) (l : List Pair) (hl : l.length ≤ 12) (s : UInt8) (p : UInt64) (v : UInt8) (u : Int64) (m : Nat) :
    ∀ k, k ≤ (namesOf o rule l).length → (namesOf o rule l).length - k < m → F3_R253 n m x y (namesOf o rule l) (I64 (namesOf o rule l).length) (I64 k) o rule l s p v u l = some (true, ()) := by
  have hnl := names_len o rule l
  have hge : l.length ≤ (namesOf o rule l).length := by unfold namesOf; simp only [List.length_append]; omega
  induction m with
  | zero => intros; omega
  | succ m ih =>
    intro k hk hm
    rw [F3_R253_s]
    unfold F3_L253
    by_cases hlt : k < (namesOf o rule l).length
    · rw [dec_t ((i64_lt (by omega) (by omega)).2 hlt), oite_t]
      have nx := ih (k + 1) (by omega) (by omega)
      rw [← i64_succ] at nx
      by_cases hk2 : k < l.length
      · have e : (namesOf o rule l)[k] = l[k] := by
          have := names_at o rule l k hk2
          rw [List.getElem?_eq_getElem hlt] at this
          exact Option.some.inj this
        rw [dec_t ((i64_lt (a := k) (b := l.length) (by omega) (by omega)).2 hk2), oite_t, at_i64_lt (by omega) hlt, at_i64_lt (by omega) hk2, e]
        simp only [obind_s, beq_self_eq_true, Bool.true_and, Bool.not_true, oite_f]
        exact nx
      · rw [dec_f (fun q => hk2 ((i64_lt (a := k) (b := l.length) (by omega) (by omega)).1 q)), oite_f]
        exact nx
    · rw [dec_f (fun q => hlt ((i64_lt (by omega) (by omega)).1 q)), oite_f]
      exact end_names n hn x y hx hy o rule l hl s p v u
theorem lenD (a : Int64) (k j : Nat) (ha : a = I64 j) (hj : j < 100) (h : k < 2 ^ 63) : decide (a < I64 k) = decide (j < k) := by
  rw [ha, decide_eq_decide]; exact i64_lt (a := j) (b := k) (by omega) h
theorem matchNames_true : ∀ x : sig3.In, PTys.fits sig3.ps x → ∃ n y, F3 n x = some y ∧ PTys.hd (.one (.c .bool)) .nil y.1 = true := by
  rintro ⟨⟨o, rule, l, s, p, v, u⟩, x, y⟩ hfit
  have h1 := hfit.1
  have h2 := hfit.2.1
  have h3 := hfit.2.2.1
  simp only [PTy.fits, CTs.fits, CT.fits] at h1 h2 h3
  have hl : l.length < 2 ^ 63 := h1.2.2.1.1
  have hx : x.length < 2 ^ 63 := h2.1
  have hy : y.length < 2 ^ 63 := h3.1
  refine ⟨100 + 30, (true, ()), ?_, rfl⟩
  have e0 : ∀ n, F3 n ((o, rule, l, s, p, v, u), x, y) = obind (F7 n ()) fun b => oite (!b.1) (some (false, ())) (oite (decide ((12 : Int64) < I64 l.length)) (some (true, ())) (oite (decide ((12 : Int64) < I64 x.length)) (some (true, ())) (oite (decide ((12 : Int64) < I64 y.length)) (some (true, ()))
      (oite (Nat.ble (0 + l.length) 4294967296) (obind (F8 n (o, rule, l, s, p, v, u)) fun z => F3_R253 n n x y z.1 (I64 z.1.length) 0 o rule l s p v u ([] ++ l)) none)))) := fun n => rfl
  refine (e0 _).trans ?_
  rw [awakeM, obind_s, lenD 12 l.length 12 rfl (by omega) hl, lenD 12 x.length 12 rfl (by omega) hx, lenD 12 y.length 12 rfl (by omega) hy]
  simp only [Bool.not_true, oite_f]
  by_cases q1 : 12 < l.length
  · rw [dec_t q1]; rfl
  by_cases q2 : 12 < x.length
  · rw [dec_f q1, dec_t q2]; rfl
  by_cases q3 : 12 < y.length
  · rw [dec_f q1, dec_f q2, dec_t q3]; rfl
  rw [dec_f q1, dec_f q2, dec_f q3]
  simp only [oite_f]
  rw [ble_t (by omega), oite_t, names_a (100 + 30) (by omega) o rule l (by omega) s p v u]
  simp only [obind_s, List.nil_append]
  have hnl := names_len o rule l
  exact names_loop (100 + 30) (by omega) x y (by omega) (by omega) o rule l (by omega) s p v u (100 + 30) 0 (by omega) (by omega)

/-! ### Answers -/
theorem each_ask (n : Nat) (hn : 40 < n) (l : List Pair) (hl : l.length ≤ 12) (hf : Fit l) (asks : List AskP) (ha : FitAs n asks) (rec : Int64 → Option (Bool × Unit)) (t1 t3 : Int64) (t5 : List (List AskP)) (hrec : rec (t1 + 1) = some (true, ())) (r : _) (hr : ∀ i, r l t3 i t5 = rec i) (m : Nat) :
    ∀ k, k ≤ asks.length → asks.length - k < m → F4_R7863 n r m l t3 t1 asks (I64 asks.length) (I64 k) t5 = some (true, ()) := by
  obtain ⟨ha, hx⟩ := ha
  induction m with
  | zero => intros; omega
  | succ m ih =>
    intro k hk hm
    rw [F4_R7863_s]
    unfold F4_L7863
    by_cases hlt : k < asks.length
    · have hk' := hx asks[k] (List.getElem_mem hlt)
      obtain ⟨b1, b2⟩ := holds_both n (by omega) asks[k] l (by omega) hf hk'.2.2
      have b2' : F18 n ((asks[k].1, Int64.ofInt ↑asks[k].2.1.toNat, asks[k].2.2), l) = _ := b2
      have c1 := ask_eq n (by omega) asks[k] hk'
      have c2 : F20 n (asks[k].1, Int64.ofInt ↑asks[k].2.1.toNat, asks[k].2.2) = _ := rask_eq n asks[k] hk'
      rw [dec_t ((i64_lt (by omega) (by omega)).2 hlt), oite_t, at_i64_lt (by omega) hlt]
      simp only [obind_s]
      rw [show F17 n ((asks[k].1, asks[k].2.1, asks[k].2.2), l) = _ from b1]
      simp only [obind_s]
      rw [b2']
      simp only [obind_s, beq_self_eq_true, Bool.not_true, oite_f]
      rw [c1]
      simp only [obind_s]
      rw [c2]
      simp only [obind_s, decide_true, Bool.not_true, oite_f, i64_succ]
      exact ih (k + 1) (by omega) (by omega)
    · rw [dec_f (fun q => hlt ((i64_lt (by omega) (by omega)).1 q)), oite_f]
      rw [hr]; exact hrec
theorem holds_loop (n : Nat) (hn : 40 < n) (l : List Pair) (hl : l.length ≤ 12) (hf : Fit l) (t : List (List AskP)) (ht : t.length = 2) (hx : ∀ a ∈ t, FitAs n a) (m : Nat) :
    ∀ k, k ≤ 2 → 2 - k < m → F4_R61 n m l (I64 2) (I64 k) t = some (true, ()) := by
  induction m with
  | zero => intros; omega
  | succ m ih =>
    intro k hk hm
    rw [F4_R61_s]
    unfold F4_L61
    by_cases hlt : k < 2
    · have hx' := hx _ (List.getElem_mem (show k < t.length by omega))
      obtain ⟨g1, g2⟩ := idx_i64 (l := t) (k := k) (by omega) (by omega)
      have hask : AskFit (t[k]'(by omega)) := fun x hm' => (hx'.2 x hm').2.2
      obtain ⟨a1, a2⟩ := all_loop n (by omega) (t[k]'(by omega)) hx'.1 hask l (by omega) hf n 0 (by omega) (by have := hx'.1; omega)
      have a1' : F15 n (t[k]'(by omega), l) = some (allA (t[k]'(by omega)) l, ()) := a1
      have a2' : F16 n ((t[k]'(by omega)).map refA, l) = some (allA (t[k]'(by omega)) l, ()) := a2
      rw [dec_t ((i64_lt (a := k) (b := 2) (by omega) (by omega)).2 hlt), oite_t, g1, oite_t, g2]
      simp only [obind_s]
      rw [a1', ref_spec n (by omega) _ hx'.1]
      simp only [obind_s]
      rw [a2']
      simp only [obind_s, beq_self_eq_true, Bool.not_true, oite_f]
      exact each_ask n hn l hl hf _ hx' (fun i => F4_R61 n m l (I64 2) i t) (I64 k) (I64 2) t (by rw [i64_succ]; exact ih (k + 1) (by omega) (by omega)) (F4_R61 n m) (fun i => rfl) n 0 (by omega) (by have := hx'.1; omega)
    · rw [dec_f (fun q => hlt ((i64_lt (a := k) (b := 2) (by omega) (by omega)).1 q)), oite_f]
theorem sum_up {n : Nat} {l : List AskP} (h : ∀ a ∈ l, FitA 8 a) (hl : l.length ≤ 12) (hn : 8 ≤ n) : FitAs n l := ⟨hl, fun a ha => (h a ha).up hn⟩
theorem matchHolds_true : ∀ x : sig4.In, PTys.fits sig4.ps x → ∃ n y, F4 n x = some y ∧ PTys.hd (.one (.c .bool)) .nil y.1 = true := by
  rintro ⟨asks, sm, l⟩ hfit
  have h1 := hfit.1
  have h2 := hfit.2.1
  have h3 := hfit.2.2.1
  simp only [PTy.fits, CTs.fits, CT.fits] at h1 h2 h3
  obtain ⟨a0, a1⟩ := h1
  obtain ⟨s0, _⟩ := h2
  obtain ⟨l0, l1⟩ := h3
  have a0 : asks.length < 2 ^ 63 := a0
  have s0 : sm.length < 2 ^ 63 := s0
  have l0 : l.length < 2 ^ 63 := l0
  obtain ⟨n, hn⟩ : ∃ n, n = (sumA asks + 100) + 30 := ⟨_, rfl⟩
  refine ⟨n, (true, ()), ?_, rfl⟩
  have aw : F7 n () = some (true, ()) := by rw [hn]; exact awakeM _
  have e0 : F4 n (asks, sm, l) = obind (F7 n ()) fun b => oite (!b.1) (some (false, ())) (oite (decide ((12 : Int64) < I64 asks.length)) (some (true, ())) (oite (decide ((8 : Int64) < I64 sm.length)) (some (true, ())) (oite (decide ((12 : Int64) < I64 l.length)) (some (true, ()))
      (obind (F14 n (sm, I64 8)) fun z => F4_R61 n n l (I64 2) 0 [asks, z.1])))) := rfl
  refine e0.trans ?_
  rw [aw, obind_s, lenD 12 asks.length 12 rfl (by omega) a0, lenD 8 sm.length 8 rfl (by omega) s0, lenD 12 l.length 12 rfl (by omega) l0]
  simp only [Bool.not_true, oite_f]
  by_cases q1 : 12 < asks.length
  · rw [dec_t q1]; rfl
  by_cases q2 : 8 < sm.length
  · rw [dec_f q1, dec_t q2]; rfl
  by_cases q3 : 12 < l.length
  · rw [dec_f q1, dec_f q2, dec_t q3]; rfl
  rw [dec_f q1, dec_f q2, dec_f q3]
  simp only [oite_f]
  obtain ⟨out, o1, o2, o3⟩ := small_asks n 8 (by omega) sm ⟨by omega, s0⟩
  rw [o1]
  simp only [obind_s]
  have hfitA : FitAs n asks := by
    refine ⟨by omega, fun a ha => ?_⟩
    obtain ⟨i, hi, rfl⟩ := List.getElem_of_mem ha
    have := sumA_mem asks _ (List.getElem_mem hi)
    obtain ⟨g1, _, g2, _⟩ := a1 i hi
    exact ⟨⟨by omega, g1⟩, by omega, g2⟩
  have hfl : Fit l := fun p hp => by
    obtain ⟨i, hi, rfl⟩ := List.getElem_of_mem hp
    exact (l1 i hi).2.1
  exact holds_loop n (by omega) l (by omega) hfl [asks, out] rfl (fun a ha => by
    rcases List.mem_cons.1 ha with rfl | ha
    · exact hfitA
    · simp at ha; subst ha; exact sum_up o3 (by omega) (by omega)) n 0 (by omega) (by omega)
end Go.Proofs.YtimmkhgbnfihgaaDoor
