/- Words as a condition: the two readers answer alike, and the words of a condition are read back. -/
import Derived.Test.YtbogfhocjpicjaaCoWords
open Go Go.Sx
namespace Go.Proofs.Ytbogfhocjpicjaa
def resA (n : Nat) (k : UInt8) (r : Int64 × Bool) (q : UInt64 × Bool) : Option (((UInt8 × Int64 × UInt64) × Int64) × Unit) :=
  oite (!r.2) (some (((0, 0, 0), 27), ())) (oite (!q.2) (some (((0, 0, 0), 27), ())) (obind (F22 n (k, r.1, q.1)) fun x => oite (!decide (x.1 = 0)) (some (((0, 0, 0), x.1), ())) (some (((k, r.1, q.1), 0), ()))))
def resB (n : Nat) (k : UInt8) (r : Int64 × Bool) (q : UInt64 × Bool) : Option (((Int64 × Int64 × UInt64) × Int64) × Unit) :=
  oite (!r.2) (some (((0, 0, 0), 27), ())) (oite (!q.2) (some (((0, 0, 0), 27), ())) (obind (F13 n (Int64.ofInt ↑(UInt8.toNat k), r.1, q.1)) fun x => oite (!decide (x.1 = 0)) (some (((0, 0, 0), x.1), ())) (some (((Int64.ofInt ↑(UInt8.toNat k), r.1, q.1), 0), ()))))
def Same (a : Option (((UInt8 × Int64 × UInt64) × Int64) × Unit)) (b : Option (((Int64 × Int64 × UInt64) × Int64) × Unit)) : Prop :=
  ∃ k l t e, a = some (((k, l, t), e), ()) ∧ b = some (((Int64.ofInt ↑(UInt8.toNat k), l, t), e), ())
theorem same_err (e : Int64) : Same (some (((0, 0, 0), e), ())) (some (((0, 0, 0), e), ())) := ⟨0, 0, 0, e, rfl, rfl⟩
theorem res_same (n : Nat) (k : UInt8) (r : Int64 × Bool) (q : UInt64 × Bool) : Same (resA n k r q) (resB n k r q) := by
  obtain ⟨l, b⟩ := r
  obtain ⟨t, c⟩ := q
  cases b
  · exact same_err 27
  cases c
  · exact same_err 27
  obtain ⟨e, h1, h2, _⟩ := check_same n k l t
  unfold resA resB
  dsimp only
  rw [h1, h2]
  show Same (oite (!decide (e = 0)) (some (((0, 0, 0), e), ())) (some (((k, l, t), 0), ()))) (oite (!decide (e = 0)) (some (((0, 0, 0), e), ())) (some (((Int64.ofInt ↑(UInt8.toNat k), l, t), 0), ())))
  by_cases h : e = 0
  · rw [dec_t h]; exact ⟨k, l, t, 0, rfl, rfl⟩
  · rw [dec_f h]; exact same_err e
theorem lenI (l : List (List UInt8)) (hl : l.length ≤ 6) (c : Nat) (hc : c ≤ 6) : decide (Int64.ofInt ↑(List.length l) = I64 c) = decide (l.length = c) := decide_eq_decide.2 (i64_eq (by omega) (by omega))
theorem at2 (a b : List UInt8) : at? [a, b] (Int64.toInt (1 : Int64)) = some b := at_i64_lt (xs := [a, b]) (k := 1) (by omega) (by simp)
theorem at2l (a b : List UInt8) : at? [a, b] (Int64.toInt (Int64.ofInt ↑(List.length [a, b]) - (1 : Int64))) = some b := by
  have : Int64.ofInt ↑(List.length [a, b]) - (1 : Int64) = I64 1 := i64_sub (a := 2) (b := 1) (by omega)
  rw [this]; exact at2 a b
theorem at3 (a b c : List UInt8) : at? [a, b, c] (Int64.toInt (1 : Int64)) = some b := at_i64_lt (xs := [a, b, c]) (k := 1) (by omega) (by simp)
theorem at3l (a b c : List UInt8) : at? [a, b, c] (Int64.toInt (Int64.ofInt ↑(List.length [a, b, c]) - (1 : Int64))) = some c := by
  have : Int64.ofInt ↑(List.length [a, b, c]) - (1 : Int64) = I64 2 := i64_sub (a := 3) (b := 1) (by omega)
  rw [this]; exact at_i64_lt (xs := [a, b, c]) (k := 2) (by omega) (by simp)
theorem is2 (a b : List UInt8) : decide (Int64.ofInt ↑(List.length [a, b]) = (2 : Int64)) = true := (lenI [a, b] (by simp) 2 (by omega)).trans (dec_t rfl)
theorem is3 (a b c : List UInt8) : decide (Int64.ofInt ↑(List.length [a, b, c]) = (3 : Int64)) = true := (lenI [a, b, c] (by simp) 3 (by omega)).trans (dec_t rfl)
theorem zero_num (n : Nat) (hn : 20 < n) : F16 n ([48], 1048576) = some ((0, true), ()) := num_dg n hn 0 (by omega) 1048576
theorem zero_signed (n : Nat) (hn : 20 < n) : F18 n [48] = some ((0, true), ()) := read_signed n hn 0
theorem endA_1 (n : Nat) (hn : 20 < n) (w w1 : List UInt8) (r : Int64 × Bool) (h : F18 n w1 = some (r, ())) : endA n [w, w1] 1 = resA n 1 r (0, true) := by
  show F20_J63 n [w, w1] 2 0 0 0 1 0 0 = _
  unfold F20_J63
  rw [is2, at2, at2l]
  show F20_J1023 n w1 [48] 0 0 0 1 0 0 = _
  unfold F20_J1023 resA
  rw [h, zero_num n hn]
  rfl
theorem endB_1 (n : Nat) (w w1 : List UInt8) (r : Int64 × Bool) (h : F19 n w1 = some (r, ())) : endB n [w, w1] 1 = resB n 1 r (0, true) := by
  unfold endB
  rw [is2]
  show F21_J62 n [w, w1] false 0 0 0 1 0 0 = _
  unfold F21_J62
  rw [at2]
  show obind (F19 n w1) _ = _
  rw [h]
  rfl
theorem offA_1 (n : Nat) (ws : List (List UInt8)) (hl : ws.length ≤ 6) (h : ws.length ≠ 2) : endA n ws 1 = some (((0, 0, 0), 2), ()) := by
  show F20_J63 n ws 2 0 0 0 1 0 0 = _
  unfold F20_J63
  have e : decide (Int64.ofInt ↑(List.length ws) = (2 : Int64)) = false := (lenI ws hl 2 (by omega)).trans (dec_f h)
  rw [e]
  rfl
theorem offB_1 (n : Nat) (ws : List (List UInt8)) (hl : ws.length ≤ 6) (h : ws.length ≠ 2) : endB n ws 1 = some (((0, 0, 0), 2), ()) := by
  unfold endB
  have e : decide (Int64.ofInt ↑(List.length ws) = (2 : Int64)) = false := (lenI ws hl 2 (by omega)).trans (dec_f h)
  rw [e]
  rfl
theorem endA_2 (n : Nat) (hn : 20 < n) (w w1 : List UInt8) (r : Int64 × Bool) (h : F18 n w1 = some (r, ())) : endA n [w, w1] 2 = resA n 2 r (0, true) := by
  show F20_J63 n [w, w1] 2 0 0 0 2 0 0 = _
  unfold F20_J63
  rw [is2, at2, at2l]
  show F20_J1023 n w1 [48] 0 0 0 2 0 0 = _
  unfold F20_J1023 resA
  rw [h, zero_num n hn]
  rfl
theorem endB_2 (n : Nat) (w w1 : List UInt8) (r : Int64 × Bool) (h : F19 n w1 = some (r, ())) : endB n [w, w1] 2 = resB n 2 r (0, true) := by
  unfold endB
  rw [is2]
  show F21_J62 n [w, w1] false 0 0 0 2 0 0 = _
  unfold F21_J62
  rw [at2]
  show obind (F19 n w1) _ = _
  rw [h]
  rfl
theorem offA_2 (n : Nat) (ws : List (List UInt8)) (hl : ws.length ≤ 6) (h : ws.length ≠ 2) : endA n ws 2 = some (((0, 0, 0), 2), ()) := by
  show F20_J63 n ws 2 0 0 0 2 0 0 = _
  unfold F20_J63
  have e : decide (Int64.ofInt ↑(List.length ws) = (2 : Int64)) = false := (lenI ws hl 2 (by omega)).trans (dec_f h)
  rw [e]
  rfl
theorem offB_2 (n : Nat) (ws : List (List UInt8)) (hl : ws.length ≤ 6) (h : ws.length ≠ 2) : endB n ws 2 = some (((0, 0, 0), 2), ()) := by
  unfold endB
  have e : decide (Int64.ofInt ↑(List.length ws) = (2 : Int64)) = false := (lenI ws hl 2 (by omega)).trans (dec_f h)
  rw [e]
  rfl
theorem endA_3 (n : Nat) (hn : 20 < n) (w w1 : List UInt8) (q : UInt64 × Bool) (h : F16 n (w1, 1048576) = some (q, ())) : endA n [w, w1] 3 = resA n 3 (0, true) q := by
  show F20_J63 n [w, w1] 2 0 0 0 3 0 0 = _
  unfold F20_J63
  rw [is2, at2, at2l]
  show F20_J1023 n [48] w1 0 0 0 3 0 0 = _
  unfold F20_J1023 resA
  rw [h, zero_signed n hn]
  rfl
theorem endB_3 (n : Nat) (w w1 : List UInt8) (q : UInt64 × Bool) (h : F17 n (w1, 1048576) = some (q, ())) : endB n [w, w1] 3 = resB n 3 (0, true) q := by
  unfold endB
  rw [is2]
  show F21_J127 n [w, w1] 0 0 0 3 0 0 = _
  unfold F21_J127
  rw [at2l]
  show obind (F17 n (w1, 1048576)) _ = _
  rw [h]
  rfl
theorem offA_3 (n : Nat) (ws : List (List UInt8)) (hl : ws.length ≤ 6) (h : ws.length ≠ 2) : endA n ws 3 = some (((0, 0, 0), 2), ()) := by
  show F20_J63 n ws 2 0 0 0 3 0 0 = _
  unfold F20_J63
  have e : decide (Int64.ofInt ↑(List.length ws) = (2 : Int64)) = false := (lenI ws hl 2 (by omega)).trans (dec_f h)
  rw [e]
  rfl
theorem offB_3 (n : Nat) (ws : List (List UInt8)) (hl : ws.length ≤ 6) (h : ws.length ≠ 2) : endB n ws 3 = some (((0, 0, 0), 2), ()) := by
  unfold endB
  have e : decide (Int64.ofInt ↑(List.length ws) = (2 : Int64)) = false := (lenI ws hl 2 (by omega)).trans (dec_f h)
  rw [e]
  rfl
theorem endA_4 (n : Nat) (w w1 w2 : List UInt8) (r : Int64 × Bool) (q : UInt64 × Bool) (h : F18 n w1 = some (r, ())) (h' : F16 n (w2, 1048576) = some (q, ())) : endA n [w, w1, w2] 4 = resA n 4 r q := by
  show F20_J63 n [w, w1, w2] 3 0 0 0 4 0 0 = _
  unfold F20_J63
  rw [is3, at3, at3l]
  show F20_J1023 n w1 w2 0 0 0 4 0 0 = _
  unfold F20_J1023 resA
  rw [h, h']
  rfl
theorem endB_4 (n : Nat) (w w1 w2 : List UInt8) (r : Int64 × Bool) (q : UInt64 × Bool) (h : F19 n w1 = some (r, ())) (h' : F17 n (w2, 1048576) = some (q, ())) : endB n [w, w1, w2] 4 = resB n 4 r q := by
  unfold endB
  rw [is3]
  show F21_J62 n [w, w1, w2] false 0 0 0 4 0 0 = _
  unfold F21_J62
  rw [at3]
  show obind (F19 n w1) (fun x => oite (!x.1.2) (some (((0, 0, 0), 27), ())) (F21_J127 n [w, w1, w2] 0 0 0 4 x.1.1 0)) = _
  rw [h, obind_s]
  unfold F21_J127
  rw [at3l]
  show oite (!r.2) (some (((0, 0, 0), 27), ())) (obind (F17 n (w2, 1048576)) fun y => oite (!y.1.2) (some (((0, 0, 0), 27), ())) (F21_J255 n 0 0 0 4 r.1 y.1.1)) = _
  rw [h']
  rfl
theorem offA_4 (n : Nat) (ws : List (List UInt8)) (hl : ws.length ≤ 6) (h : ws.length ≠ 3) : endA n ws 4 = some (((0, 0, 0), 2), ()) := by
  show F20_J63 n ws 3 0 0 0 4 0 0 = _
  unfold F20_J63
  have e : decide (Int64.ofInt ↑(List.length ws) = (3 : Int64)) = false := (lenI ws hl 3 (by omega)).trans (dec_f h)
  rw [e]
  rfl
theorem offB_4 (n : Nat) (ws : List (List UInt8)) (hl : ws.length ≤ 6) (h : ws.length ≠ 3) : endB n ws 4 = some (((0, 0, 0), 2), ()) := by
  unfold endB
  have e : decide (Int64.ofInt ↑(List.length ws) = (3 : Int64)) = false := (lenI ws hl 3 (by omega)).trans (dec_f h)
  rw [e]
  rfl
theorem endA_5 (n : Nat) (w w1 w2 : List UInt8) (r : Int64 × Bool) (q : UInt64 × Bool) (h : F18 n w1 = some (r, ())) (h' : F16 n (w2, 1048576) = some (q, ())) : endA n [w, w1, w2] 5 = resA n 5 r q := by
  show F20_J63 n [w, w1, w2] 3 0 0 0 5 0 0 = _
  unfold F20_J63
  rw [is3, at3, at3l]
  show F20_J1023 n w1 w2 0 0 0 5 0 0 = _
  unfold F20_J1023 resA
  rw [h, h']
  rfl
theorem endB_5 (n : Nat) (w w1 w2 : List UInt8) (r : Int64 × Bool) (q : UInt64 × Bool) (h : F19 n w1 = some (r, ())) (h' : F17 n (w2, 1048576) = some (q, ())) : endB n [w, w1, w2] 5 = resB n 5 r q := by
  unfold endB
  rw [is3]
  show F21_J62 n [w, w1, w2] false 0 0 0 5 0 0 = _
  unfold F21_J62
  rw [at3]
  show obind (F19 n w1) (fun x => oite (!x.1.2) (some (((0, 0, 0), 27), ())) (F21_J127 n [w, w1, w2] 0 0 0 5 x.1.1 0)) = _
  rw [h, obind_s]
  unfold F21_J127
  rw [at3l]
  show oite (!r.2) (some (((0, 0, 0), 27), ())) (obind (F17 n (w2, 1048576)) fun y => oite (!y.1.2) (some (((0, 0, 0), 27), ())) (F21_J255 n 0 0 0 5 r.1 y.1.1)) = _
  rw [h']
  rfl
theorem offA_5 (n : Nat) (ws : List (List UInt8)) (hl : ws.length ≤ 6) (h : ws.length ≠ 3) : endA n ws 5 = some (((0, 0, 0), 2), ()) := by
  show F20_J63 n ws 3 0 0 0 5 0 0 = _
  unfold F20_J63
  have e : decide (Int64.ofInt ↑(List.length ws) = (3 : Int64)) = false := (lenI ws hl 3 (by omega)).trans (dec_f h)
  rw [e]
  rfl
theorem offB_5 (n : Nat) (ws : List (List UInt8)) (hl : ws.length ≤ 6) (h : ws.length ≠ 3) : endB n ws 5 = some (((0, 0, 0), 2), ()) := by
  unfold endB
  have e : decide (Int64.ofInt ↑(List.length ws) = (3 : Int64)) = false := (lenI ws hl 3 (by omega)).trans (dec_f h)
  rw [e]
  rfl
theorem len2 {l : List (List UInt8)} (h : l.length = 2) : ∃ a b, l = [a, b] := by
  match l, h with
  | [a, b], _ => exact ⟨a, b, rfl⟩
theorem len3 {l : List (List UInt8)} (h : l.length = 3) : ∃ a b c, l = [a, b, c] := by
  match l, h with
  | [a, b, c], _ => exact ⟨a, b, c, rfl⟩
theorem end_same (n : Nat) (hn : 20 < n) (ws : List (List UInt8)) (hl : ws.length ≤ 6) (hw : ∀ w ∈ ws, w.length < 2 ^ 63) (k : Nat) (hk : k = 0 ∨ k = 1 ∨ k = 2 ∨ k = 3 ∨ k = 4 ∨ k = 5) :
    Same (endA n ws (UInt8.ofNat k)) (endB n ws (I64 k)) := by
  rcases hk with rfl | rfl | rfl | rfl | rfl | rfl
  · exact same_err 2
  · by_cases h : ws.length = 2
    · obtain ⟨a, b, rfl⟩ := len2 h
      obtain ⟨r, h1, h2⟩ := signed_same n hn b (hw b (by simp))
      have ha : endA n [a, b] (UInt8.ofNat 1) = _ := endA_1 n hn a b r h1
      have hb : endB n [a, b] (I64 1) = _ := endB_1 n a b r h2
      rw [ha, hb]
      exact res_same n 1 r (0, true)
    · have ha : endA n ws (UInt8.ofNat 1) = _ := offA_1 n ws hl h
      have hb : endB n ws (I64 1) = _ := offB_1 n ws hl h
      rw [ha, hb]
      exact same_err 2
  · by_cases h : ws.length = 2
    · obtain ⟨a, b, rfl⟩ := len2 h
      obtain ⟨r, h1, h2⟩ := signed_same n hn b (hw b (by simp))
      have ha : endA n [a, b] (UInt8.ofNat 2) = _ := endA_2 n hn a b r h1
      have hb : endB n [a, b] (I64 2) = _ := endB_2 n a b r h2
      rw [ha, hb]
      exact res_same n 2 r (0, true)
    · have ha : endA n ws (UInt8.ofNat 2) = _ := offA_2 n ws hl h
      have hb : endB n ws (I64 2) = _ := offB_2 n ws hl h
      rw [ha, hb]
      exact same_err 2
  · by_cases h : ws.length = 2
    · obtain ⟨a, b, rfl⟩ := len2 h
      obtain ⟨r, h1, h2⟩ := num_same n hn b 1048576 (hw b (by simp))
      have ha : endA n [a, b] (UInt8.ofNat 3) = _ := endA_3 n hn a b r h1
      have hb : endB n [a, b] (I64 3) = _ := endB_3 n a b r h2
      rw [ha, hb]
      exact res_same n 3 (0, true) r
    · have ha : endA n ws (UInt8.ofNat 3) = _ := offA_3 n ws hl h
      have hb : endB n ws (I64 3) = _ := offB_3 n ws hl h
      rw [ha, hb]
      exact same_err 2
  · by_cases h : ws.length = 3
    · obtain ⟨a, b, c, rfl⟩ := len3 h
      obtain ⟨r, h1, h2⟩ := signed_same n hn b (hw b (by simp))
      obtain ⟨q, h3, h4⟩ := num_same n hn c 1048576 (hw c (by simp))
      have ha : endA n [a, b, c] (UInt8.ofNat 4) = _ := endA_4 n a b c r q h1 h3
      have hb : endB n [a, b, c] (I64 4) = _ := endB_4 n a b c r q h2 h4
      rw [ha, hb]
      exact res_same n 4 r q
    · have ha : endA n ws (UInt8.ofNat 4) = _ := offA_4 n ws hl h
      have hb : endB n ws (I64 4) = _ := offB_4 n ws hl h
      rw [ha, hb]
      exact same_err 2
  · by_cases h : ws.length = 3
    · obtain ⟨a, b, c, rfl⟩ := len3 h
      obtain ⟨r, h1, h2⟩ := signed_same n hn b (hw b (by simp))
      obtain ⟨q, h3, h4⟩ := num_same n hn c 1048576 (hw c (by simp))
      have ha : endA n [a, b, c] (UInt8.ofNat 5) = _ := endA_5 n a b c r q h1 h3
      have hb : endB n [a, b, c] (I64 5) = _ := endB_5 n a b c r q h2 h4
      rw [ha, hb]
      exact res_same n 5 r q
    · have ha : endA n ws (UInt8.ofNat 5) = _ := offA_5 n ws hl h
      have hb : endB n ws (I64 5) = _ := offB_5 n ws hl h
      rw [ha, hb]
      exact same_err 2
theorem parse_same (n : Nat) (hn : 20 < n) (ws : List (List UInt8)) (hl : ws.length ≤ 6) (hw : ∀ w ∈ ws, w.length < 2 ^ 63) : Same (F20 (n + 6) ws) (F21 (n + 6) ws) := by
  match ws, hl, hw with
  | [], _, _ => exact same_err 2
  | w :: ws, hl, hw =>
    rw [kind_a n w ws hl, kind_b n w ws hl]
    exact end_same (n + 6) (by omega) (w :: ws) hl hw (kw w) (kw_cases w)

/-! ### A condition's own words -/
def each (k : UInt8) (lim : Int64) (t : UInt64) : List (List UInt8) :=
  if k = 1 then [nm 1, sgn lim] else if k = 2 then [nm 2, sgn lim] else if k = 3 then [nm 3, dg 20 t.toNat] else if k = 4 then [nm 4, sgn lim, dg 20 t.toNat] else if k = 5 then [nm 5, sgn lim, dg 20 t.toNat] else []
theorem read_ticks (n : Nat) (hn : 20 < n) (t : UInt64) (ht : t ≤ 1048576) : F16 n (dg 20 t.toNat, 1048576) = some ((t, true), ()) := by
  have h1 : t.toNat ≤ 1048576 := by rw [UInt64.le_iff_toNat_le] at ht; exact ht
  have := num_dg n hn t.toNat (by omega) 1048576
  rw [this, UInt64.ofNat_toNat, dec_t ht]
theorem res_ok (n : Nat) (k : UInt8) (l : Int64) (t : UInt64) (h : F22 n (k, l, t) = some (0, ())) : resA n k (l, true) (t, true) = some (((k, l, t), 0), ()) := by
  unfold resA
  dsimp only
  rw [h]
  rfl
theorem read_back (n : Nat) (hn : 20 < n) (k : UInt8) (l : Int64) (t : UInt64) (h : F22 (n + 6) (k, l, t) = some (0, ())) : F20 (n + 6) (each k l t) = some (((k, l, t), 0), ()) := by
  obtain ⟨e, h1, _, h3⟩ := check_same (n + 6) k l t
  have he : e = 0 := by rw [h] at h1; injection h1 with h1; exact (congrArg Prod.fst h1).symm
  obtain ⟨hk, k12, k3, k345⟩ := h3 he
  rcases hk with rfl | rfl | rfl | rfl | rfl
  · have ht := k12 (by decide)
    subst ht
    have hw : kw (nm 1) = 1 := by decide
    show F20 (n + 6) [nm 1, sgn l] = _
    rw [kind_a n _ _ (by simp), hw]
    have ha : endA (n + 6) [nm 1, sgn l] (UInt8.ofNat 1) = _ := endA_1 (n + 6) (by omega) _ _ _ (read_signed (n + 6) (by omega) l)
    rw [ha]
    exact res_ok _ _ _ _ h
  · have ht := k12 (by decide)
    subst ht
    have hw : kw (nm 2) = 2 := by decide
    show F20 (n + 6) [nm 2, sgn l] = _
    rw [kind_a n _ _ (by simp), hw]
    have ha : endA (n + 6) [nm 2, sgn l] (UInt8.ofNat 2) = _ := endA_2 (n + 6) (by omega) _ _ _ (read_signed (n + 6) (by omega) l)
    rw [ha]
    exact res_ok _ _ _ _ h
  · have hl := k3 rfl
    subst hl
    have hw : kw (nm 3) = 3 := by decide
    show F20 (n + 6) [nm 3, dg 20 t.toNat] = _
    rw [kind_a n _ _ (by simp), hw]
    have ha : endA (n + 6) [nm 3, dg 20 t.toNat] (UInt8.ofNat 3) = _ := endA_3 (n + 6) (by omega) _ _ _ (read_ticks (n + 6) (by omega) t (k345 (by decide)))
    rw [ha]
    exact res_ok _ _ _ _ h
  · have hw : kw (nm 4) = 4 := by decide
    show F20 (n + 6) [nm 4, sgn l, dg 20 t.toNat] = _
    rw [kind_a n _ _ (by simp), hw]
    have ha : endA (n + 6) [nm 4, sgn l, dg 20 t.toNat] (UInt8.ofNat 4) = _ := endA_4 (n + 6) _ _ _ _ _ (read_signed (n + 6) (by omega) l) (read_ticks (n + 6) (by omega) t (k345 (by decide)))
    rw [ha]
    exact res_ok _ _ _ _ h
  · have hw : kw (nm 5) = 5 := by decide
    show F20 (n + 6) [nm 5, sgn l, dg 20 t.toNat] = _
    rw [kind_a n _ _ (by simp), hw]
    have ha : endA (n + 6) [nm 5, sgn l, dg 20 t.toNat] (UInt8.ofNat 5) = _ := endA_5 (n + 6) _ _ _ _ _ (read_signed (n + 6) (by omega) l) (read_ticks (n + 6) (by omega) t (k345 (by decide)))
    rw [ha]
    exact res_ok _ _ _ _ h

/-! ### Its text, printed both ways -/
def joinW : List (List UInt8) → List UInt8
  | [] => []
  | [a] => a
  | a :: b :: l => a ++ [32] ++ joinW (b :: l)
def text (k : UInt8) (lim : Int64) (t : UInt64) : List UInt8 := joinW (each k lim t)
theorem dgl (x : UInt64) : (dg 20 x.toNat).length ≤ 20 := dg_len 20 19 x.toNat (pow20 x)
theorem put_in {R : Type} {m : Option (List UInt8 × Unit)} {d : List UInt8} (p : List UInt8) (f : List UInt8 → Option R) (h : m = some (d, ())) (hd : p.length + d.length ≤ 4294967296) : obind m (fun x => oite (Nat.ble (p.length + x.1.length) 4294967296) (f x.1) none) = f d := by
  rw [h, obind_s, ble_t hd, oite_t]
theorem text_a (n : Nat) (hn : 30 < n) (k : UInt8) (lim : Int64) (t : UInt64) : F23 n (k, lim, t) = some (text k lim t, ()) := by
  have hl := sgn_len lim
  have ht := dgl t
  unfold F23 text each
  dsimp only
  by_cases h1 : k = 1
  · rw [dec_t h1, oite_t, if_pos h1]
    rw [signed_a n hn lim, obind_s, ble_t (by simp only [List.length_cons, List.length_nil]; omega), oite_t]
    rfl
  rw [dec_f h1, oite_f, if_neg h1]
  by_cases h2 : k = 2
  · rw [dec_t h2, oite_t, if_pos h2]
    rw [signed_a n hn lim, obind_s, ble_t (by simp only [List.length_cons, List.length_nil]; omega), oite_t]
    rfl
  rw [dec_f h2, oite_f, if_neg h2]
  by_cases h3 : k = 3
  · rw [dec_t h3, oite_t, if_pos h3]
    rw [printed n hn t]
    erw [obind_s]
    rw [ble_t (by simp only [List.length_cons, List.length_nil]; omega), oite_t]
    rfl
  rw [dec_f h3, oite_f, if_neg h3]
  by_cases h4 : k = 4
  · rw [dec_t h4, oite_t, if_pos h4, signed_a n hn lim, obind_s, ble_t (by simp only [List.length_cons, List.length_nil]; omega), oite_t, ble_t (by simp only [List.length_cons, List.length_nil, List.length_append]; omega), oite_t, printed n hn t]
    erw [obind_s]
    rw [ble_t (by simp only [List.length_cons, List.length_nil, List.length_append]; omega), oite_t]
    simp [joinW, nm]
  rw [dec_f h4, oite_f, if_neg h4]
  by_cases h5 : k = 5
  · rw [dec_t h5, oite_t, if_pos h5, signed_a n hn lim, obind_s, ble_t (by simp only [List.length_cons, List.length_nil]; omega), oite_t, ble_t (by simp only [List.length_cons, List.length_nil, List.length_append]; omega), oite_t, printed n hn t]
    erw [obind_s]
    rw [ble_t (by simp only [List.length_cons, List.length_nil, List.length_append]; omega), oite_t]
    simp [joinW, nm]
  rw [dec_f h5, oite_f, if_neg h5]
  rfl
theorem text_b (n : Nat) (hn : 30 < n) (k : UInt8) (lim : Int64) (t : UInt64) : F24 n (Int64.ofInt ↑(UInt8.toNat k), lim, t) = some (text k lim t, ()) := by
  have hl := sgn_len lim
  have ht := dgl t
  by_cases hk : kinds k
  · rcases hk with rfl | rfl | rfl | rfl | rfl
    · show obind (F30 n lim) (fun x => oite (Nat.ble (List.length (nm 1 ++ [32]) + x.1.length) 4294967296) (F24_J31 n (nm 1 ++ [32] ++ x.1) 1 lim t) none) = _
      rw [put_in _ (fun d => F24_J31 n (nm 1 ++ [32] ++ d) 1 lim t) (signed_b n hn lim) (by simp only [nm, List.length_cons, List.length_nil, List.length_append]; omega)]
      rfl
    · show obind (F30 n lim) (fun x => oite (Nat.ble (List.length (nm 2 ++ [32]) + x.1.length) 4294967296) (F24_J31 n (nm 2 ++ [32] ++ x.1) 2 lim t) none) = _
      rw [put_in _ (fun d => F24_J31 n (nm 2 ++ [32] ++ d) 2 lim t) (signed_b n hn lim) (by simp only [nm, List.length_cons, List.length_nil, List.length_append]; omega)]
      rfl
    · show obind (F31 n t) (fun x : List UInt8 × Unit => oite (Nat.ble (List.length (nm 3 ++ [32]) + x.1.length) 4294967296) (some (nm 3 ++ [32] ++ x.1, ())) none) = _
      rw [itoa n hn t]
      erw [obind_s]
      rw [ble_t (by simp only [nm, List.length_cons, List.length_nil, List.length_append]; omega), oite_t]
      rfl
    · show obind (F30 n lim) (fun x => oite (Nat.ble (List.length (nm 4 ++ [32]) + x.1.length) 4294967296) (F24_J31 n (nm 4 ++ [32] ++ x.1) 4 lim t) none) = _
      rw [put_in _ (fun d => F24_J31 n (nm 4 ++ [32] ++ d) 4 lim t) (signed_b n hn lim) (by simp only [nm, List.length_cons, List.length_nil, List.length_append]; omega)]
      unfold F24_J31
      rw [dec_t (by decide), oite_t, itoa n hn t]
      erw [obind_s]
      rw [ble_t (by simp only [nm, List.length_cons, List.length_nil, List.length_append]; omega), oite_t, ble_t (by simp only [nm, List.length_cons, List.length_nil, List.length_append]; omega), oite_t]
      simp [text, each, joinW]
    · show obind (F30 n lim) (fun x => oite (Nat.ble (List.length (nm 5 ++ [32]) + x.1.length) 4294967296) (F24_J31 n (nm 5 ++ [32] ++ x.1) 5 lim t) none) = _
      rw [put_in _ (fun d => F24_J31 n (nm 5 ++ [32] ++ d) 5 lim t) (signed_b n hn lim) (by simp only [nm, List.length_cons, List.length_nil, List.length_append]; omega)]
      unfold F24_J31
      rw [dec_t (by decide), oite_t, itoa n hn t]
      erw [obind_s]
      rw [ble_t (by simp only [nm, List.length_cons, List.length_nil, List.length_append]; omega), oite_t, ble_t (by simp only [nm, List.length_cons, List.length_nil, List.length_append]; omega), oite_t]
      simp [text, each, joinW]
  · have e : ∀ c : UInt8, (c = 1 ∨ c = 2 ∨ c = 3 ∨ c = 4 ∨ c = 5) → k ≠ c := fun c hc h => hk (h ▸ hc)
    have ht : text k lim t = [] := by
      unfold text each
      rw [if_neg (e 1 (by decide)), if_neg (e 2 (by decide)), if_neg (e 3 (by decide)), if_neg (e 4 (by decide)), if_neg (e 5 (by decide))]
      rfl
    rw [ht]
    unfold F24
    dsimp only
    have hi : (Int64.ofInt ↑(UInt8.toNat k)).toInt = (k.toNat : Int) := i64_toInt (k := k.toNat) (by have := UInt8.toNat_lt k; omega)
    by_cases h0 : k = 0
    · subst h0; rfl
    · have n0 : k.toNat ≠ 0 := fun h => h0 (UInt8.toNat_inj.1 h)
      have ne : ∀ c : UInt8, (c = 1 ∨ c = 2 ∨ c = 3 ∨ c = 4 ∨ c = 5) → k.toNat ≠ c.toNat := fun c hc h => e c hc (UInt8.toNat_inj.1 h)
      have n1 := ne 1 (by decide)
      have n2 := ne 2 (by decide)
      have n3 := ne 3 (by decide)
      have n4 := ne 4 (by decide)
      have n5 := ne 5 (by decide)
      have z1 : (1 : UInt8).toNat = 1 := rfl
      have z2 : (2 : UInt8).toNat = 2 := rfl
      have z3 : (3 : UInt8).toNat = 3 := rfl
      have z4 : (4 : UInt8).toNat = 4 := rfl
      have z5 : (5 : UInt8).toNat = 5 := rfl
      have c1 : ¬ Int64.ofInt ↑(UInt8.toNat k) < (1 : Int64) := fun q => by rw [Int64.lt_iff_toInt_lt, hi] at q; have : (1 : Int64).toInt = 1 := rfl; omega
      have c5 : (5 : Int64) < Int64.ofInt ↑(UInt8.toNat k) := by rw [Int64.lt_iff_toInt_lt, hi]; have : (5 : Int64).toInt = 5 := rfl; omega
      rw [dec_f c1, oite_f, dec_t c5, oite_t]
end Go.Proofs.Ytbogfhocjpicjaa
