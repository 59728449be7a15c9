/- The law BoardNone in plain Lean. -/
import Derived.Test.YtegncnhhofbmiaaBnApply
open Go Go.Sx
namespace Go.Proofs.Ytegncnhhofbmiaa
theorem same16_loop (l : List Pair) (hl : l.length < 2 ^ 63) : ∀ (m k : Nat), k ≤ l.length → l.length - k < m → F16_R29 m l l (I64 k) = some (true, ()) := by
  intro m
  induction m with
  | zero => intro k _ h; omega
  | succ m ih =>
    intro k hk hm
    rw [F16_R29_s]
    unfold F16_L29
    by_cases hlt : k < l.length
    · rw [dec_t ((i64_lt (by omega) hl).2 hlt), oite_t, at_i64_lt (by omega) hlt]
      simp only [obind_s, beq_self_eq_true, Bool.and_true, Bool.not_true, oite_f]
      rw [i64_succ]; exact ih (k + 1) (by omega) (by omega)
    · rw [dec_f (fun q => hlt ((i64_lt (by omega) hl).1 q)), oite_f]
theorem same16 (n : Nat) (l : List Pair) (hl : l.length < 2 ^ 63) (hn : l.length < n) : F16 n (l, l) = some (true, ()) := by
  unfold F16
  simp only [decide_true, Bool.not_true, oite_f]
  exact same16_loop l hl n 0 (by omega) (by omega)
theorem event_ok (n : Nat) (hn : 20 < n) (a b c : UInt8) (d e f : UInt16) (g h i : UInt8) (j : Bool) : ∃ x : ItT, F8 n (false, a, b, c, d, e, f, g, h, i, j) = some (x, ()) ∧ Small x ∧ x.1 = false := by
  obtain ⟨x, h1, h2, h3⟩ := item_small n hn (false, a, b, c, d, e, f, g, h, i, j)
  exact ⟨x, h1, h2, h3⟩
theorem BOK.nil : BOK [] := ⟨List.nodup_nil, fun e h => (by cases h), fun e h => (by cases h), fun e h => (by cases h)⟩
theorem awake (n : Nat) (hn : 20 < n) : F5 n () = some (true, ()) := by
  have hx : Small (false, 0, 1, 0, [120], [], 2, 0, 0, 0, 0, 0, 0) := ⟨by decide, by simp, by simp, by simp⟩
  have h17 : F17 n [((1 : UInt64), ((false, 0, 1, 0, [120], [], 2, 0, 0, 0, 0, 0, 0) : ItT)), ((2 : UInt64), ((true, 0, 0, 0, [], [], 0, 0, 0, 0, 0, 2, 4) : ItT))] =
      some ((some ((appl [] 1 (false, 0, 1, 0, [120], [], 2, 0, 0, 0, 0, 0, 0)).map (upd 0 2), (List.replicate 32 (0 : UInt64)).set 0 3, ()), 0), ()) := by
    have h6 : F6 n () = some (some ([], List.replicate 32 0, ()), ()) := rfl
    unfold F17
    rw [h6, obind_s]
    obtain ⟨m, rfl⟩ : ∃ m, n = m + 3 := ⟨n - 3, by omega⟩
    show F17_R29 (m + 3) (m + 2 + 1) _ (I64 2) (I64 0) _ = _
    rw [F17_R29_s]
    unfold F17_L29
    rw [dec_t ((i64_lt (a := 0) (b := 2) (by omega) (by omega)).2 (by omega)), oite_t, at_i64_lt (by omega) (by simp), obind_s]
    refine (congrArg (fun z => obind z _) (apply_ok (m + 3) hn [] (List.replicate 32 0) 1 (false, 0, 1, 0, [120], [], 2, 0, 0, 0, 0, 0, 0) hx rfl)).trans ?_
    rw [obind_s, show (!decide ((0 : Int64) = 0)) = false from rfl, oite_f, i64_succ]
    show F17_R29 (m + 3) (m + 1 + 1) _ _ _ _ = _
    rw [F17_R29_s]
    unfold F17_L29
    rw [dec_t ((i64_lt (a := 1) (b := 2) (by omega) (by omega)).2 (by omega)), oite_t, at_i64_lt (by omega) (by simp), obind_s]
    obtain ⟨k1, k2, _⟩ := BOK.nil.appl 1 hx rfl
    refine (congrArg (fun z => obind z _) (gap_ok (m + 3) (appl [] 1 (false, 0, 1, 0, [120], [], 2, 0, 0, 0, 0, 0, 0)) (List.replicate 32 0) (by simp) k1.nd (by simp at k2; omega) hn 2 0 (by decide) 2 4 (by decide))).trans ?_
    rw [obind_s, show (!decide ((0 : Int64) = 0)) = false from rfl, oite_f, i64_succ]
    show F17_R29 (m + 3) (m + 1) _ _ _ _ = _
    rw [F17_R29_s]
    unfold F17_L29
    rw [dec_f (fun q => by have := (i64_lt (a := 2) (b := 2) (by omega) (by omega)).1 q; omega), oite_f]
    rfl
  unfold F5
  have h18 : F18 n (0, 1, 0, [120], [], 2, 0, 0, 0) = some ((false, 0, 1, 0, [120], [], 2, 0, 0, 0, 0, 0, 0), ()) := rfl
  have h10 : F10 n (0, 2, 4) = some ((true, 0, 0, 0, [], [], 0, 0, 0, 0, 0, 2, 4), ()) := rfl
  rw [h18, obind_s, h10, obind_s]
  refine (congrArg (fun z => obind z _) h17).trans ?_
  rw [obind_s]
  have hl : look (0, [120], textOf [], 0) ((appl [] 1 (false, 0, 1, 0, [120], [], 2, 0, 0, 0, 0, 0, 0)).map (upd 0 2)) = (0, [120], [], 3, 2, 0, 0) := rfl
  have hs : (mget KV AV (0, [120], textOf [], 0) ((appl [] 1 (false, 0, 1, 0, [120], [], 2, 0, 0, 0, 0, 0, 0)).map (upd 0 2))).isSome = true := rfl
  have hg := get_ok n ((appl [] 1 (false, 0, 1, 0, [120], [], 2, 0, 0, 0, 0, 0, 0)).map (upd 0 2)) ((List.replicate 32 (0 : UInt64)).set 0 3) 0 [120] [] 0 (by simp) (by simp) (by rw [hl]; simp)
  refine (congrArg (fun z => obind z _) hg).trans ?_
  rw [obind_s, hl, hs]
  rfl

theorem counts_none (n : Nat) (hn : 1 ≤ n) : F14 n none = some ((0, 0, 0), none) := by
  obtain ⟨m, rfl⟩ : ∃ m, n = m + 1 := ⟨n - 1, by omega⟩
  unfold F14
  show F14_R13 (m + 1) 0 0 0 0 (I64 0) (I64 0) none [] = _
  rw [F14_R13_s]
  unfold F14_L13
  rw [dec_f (fun q => by have := (i64_lt (a := 0) (b := 0) (by omega) (by omega)).1 q; omega), oite_f]
/-- What is answered is written over; the board keeps what it had. -/
theorem over_loop (n : Nat) (hn : 20 < n) (x : ItT) (hx : Small x) (s : SmT) (h8 : F8 n s = some (x, ())) (y : ItT) (b : Ents) (gaps : List UInt64)
    (hlook : look (keyOf x) b = newA none 0 x ∨ ∃ t, look (keyOf x) b = newA none t x) (hsome : (mget KV AV (keyOf x) b).isSome = true) :
    ∀ (m j : Nat) (c : List Pair), c.length ≤ 3 → j ≤ c.length → c.length - j < m →
    F4_R32765 n m false 0 0 0 1 (I64 c.length) (I64 j) y.1 y.2.1 y.2.2.1 y.2.2.2.1 y.2.2.2.2.1 y.2.2.2.2.2.1 y.2.2.2.2.2.2.1 y.2.2.2.2.2.2.2.1 y.2.2.2.2.2.2.2.2.1 y.2.2.2.2.2.2.2.2.2.1 y.2.2.2.2.2.2.2.2.2.2.1 y.2.2.2.2.2.2.2.2.2.2.2.1 y.2.2.2.2.2.2.2.2.2.2.2.2
      s.1 s.2.1 s.2.2.1 s.2.2.2.1 s.2.2.2.2.1 s.2.2.2.2.2.1 s.2.2.2.2.2.2.1 s.2.2.2.2.2.2.2.1 s.2.2.2.2.2.2.2.2.1 s.2.2.2.2.2.2.2.2.2.1 s.2.2.2.2.2.2.2.2.2.2 (some (b, gaps, ())) c = some (true, ()) := by
  intro m
  induction m with
  | zero => intros; omega
  | succ m ih =>
    intro j c hc hj hm
    rw [F4_R32765_s]
    unfold F4_L32765
    by_cases hlt : j < c.length
    case pos =>
      rw [dec_t ((i64_lt (by omega) (by omega)).2 hlt), oite_t, show Nat.beq 1 1 = true from rfl, oite_t]
      obtain ⟨q1, q2⟩ := idx_i64 hlt (by omega)
      rw [q1, q2, oite_t, obind_s, i64_succ]
      have := ih (j + 1) (c.set (Int.toNat (Int64.toInt (I64 j))) ([122, 122], c[j].2)) (by rw [List.length_set]; exact hc) (by rw [List.length_set]; omega) (by rw [List.length_set]; omega)
      rw [List.length_set] at this
      exact this
    rw [dec_f (fun q => hlt ((i64_lt (by omega) (by omega)).1 q)), oite_f]
    refine (congrArg (fun z => obind z _) h8).trans ?_
    rw [obind_s]
    obtain ⟨t, hl⟩ : ∃ t, look (keyOf x) b = newA none t x := by
      rcases hlook with h | h
      · exact ⟨_, h⟩
      · exact h
    have hg := get_ok n b gaps x.2.1 x.2.2.2.2.1 x.2.2.2.2.2.1 x.2.2.2.2.2.2.2.2.2.1 hx.each hx.labs (by
      show (look (keyOf x) b).2.2.1.length ≤ 1000
      rw [hl]; show x.2.2.2.2.2.1.length ≤ 1000; have := hx.labs; omega)
    refine (congrArg (fun z => obind z _) hg).trans ?_
    rw [obind_s]
    have hl' : look (x.2.1, x.2.2.2.2.1, textOf x.2.2.2.2.2.1, x.2.2.2.2.2.2.2.2.2.1) b = newA none t x := hl
    have hs' : (mget KV AV (x.2.1, x.2.2.2.2.1, textOf x.2.2.2.2.2.1, x.2.2.2.2.2.2.2.2.2.1) b).isSome = true := hsome
    have h7 : F7 n (none, 0, y) = some (1, none) := rfl
    refine (congrArg (fun z => obind z _) h7).trans ?_
    rw [obind_s]
    have h9 : F9 n none = some ((0, []), none) := rfl
    have h15 : F15 n (none, 3) = some (0, none) := rfl
    have h16 : F16 n ((newA none t x).2.2.1, x.2.2.2.2.2.1) = some (true, ()) := same16 n x.2.2.2.2.2.1 (by have := hx.labs; omega) (by have := hx.labs; omega)
    simp only [hl', hs']
    rw [show decide True = true from rfl, oite_t, show (!false) = true from rfl, oite_t, show decide ((0 : Int64) + 0 + 0 = 0) = true from rfl, oite_t, h9, obind_s, show decide (Int64.ofInt ↑(0 : Nat) = 0) = true from rfl, oite_t, h15, obind_s,
      show decide ((0 : UInt64) = 0) = true from rfl, oite_t, oite_t]
    refine (congrArg (fun z => obind z _) h16).trans ?_
    rfl
theorem boardNone_true : ∀ x : sig4.In, PTys.fits sig4.ps x → ∃ n y, F4 n x = some y ∧ PTys.hd (.one (.c .bool)) .nil y.1 = true := by
  rintro ⟨y, s, now⟩ hfit
  obtain ⟨y0, y1, y2, y3, y4, y5, y6, y7, y8, y9, y10, y11, y12⟩ := y
  obtain ⟨s0, s1, s2, s3, s4, s5, s6, s7, s8, s9, s10⟩ := s
  have hy := hfit.1
  simp only [PTy.fits, CTs.fits, CT.fits] at hy
  have hlen : y5.length < 2 ^ 63 := hy.2.2.2.2.2.1.1
  refine ⟨100, (true, ()), ?_, rfl⟩
  unfold F4
  rw [awake 100 (by omega), obind_s, show (!true) = false from rfl, oite_f]
  by_cases h12 : y5.length ≤ 12
  case neg =>
    rw [show decide ((12 : Int64) < Int64.ofInt ↑(List.length y5)) = true from dec_t ((i64_lt (a := 12) (by omega) hlen).2 (by omega)), oite_t]
  rw [show decide ((12 : Int64) < Int64.ofInt ↑(List.length y5)) = false from dec_f fun q => by have := (i64_lt (a := 12) (by omega) hlen).1 q; omega, oite_f]
  have h13 : F13 100 (none, 0, [120], [], 0) = some (((0, [], [], 0, 0, 0, 0), false), none) := rfl
  have h6 : F6 100 () = some (some ([], List.replicate 32 0, ()), ()) := rfl
  rw [h13, obind_s, counts_none 100 (by omega), obind_s, h6, obind_s]
  obtain ⟨x, h1, h2, h3⟩ := event_ok 100 (by omega) s1 s2 s3 s4 s5 s6 s7 (s8 ||| 3) s9 s10
  refine (congrArg (fun z => obind z _) h1).trans ?_
  rw [obind_s]
  refine (congrArg (fun z => obind z _) (apply_ok 100 (by omega) [] (List.replicate 32 0) (now % 100) x h2 h3)).trans ?_
  rw [obind_s]
  have happ : appl [] (now % 100) x = [(keyOf x, newA none (now % 100) x)] := rfl
  have h9 : F9 100 (some ([(keyOf x, newA none (now % 100) x)], List.replicate 32 0, ())) = some ((1, x.2.2.2.2.2.1), some ([(keyOf x, newA none (now % 100) x)], List.replicate 32 0, ())) := by
    show oite (Nat.ble 30 100 && Nat.ble (List.length x.2.2.2.2.2.1) 20) _ none = _
    rw [show Nat.ble 30 100 = true from rfl, ble_t (by have := h2.labs; omega)]; rfl
  refine (congrArg (fun z => obind z _) h9).trans ?_
  rw [obind_s, show (!decide (Int64.ofInt ↑(1 : Nat) = 1)) = false from rfl, oite_f, show Nat.beq 1 1 = true from rfl, oite_t]
  have hm : mget KV AV (keyOf x) [(keyOf x, newA none (now % 100) x)] = some (newA none (now % 100) x) := by rw [mget, keqb, dec_t rfl]
  exact over_loop 100 (by omega) x h2 (false, s1, s2, s3, s4, s5, s6, s7, s8 ||| 3, s9, s10) h1 (y0, y1, y2, y3, y4, y5, y6, y7, y8, y9, y10, y11, y12) [(keyOf x, newA none (now % 100) x)] (List.replicate 32 0)
    (.inr ⟨now % 100, by show (mget KV AV (keyOf x) _).getD zA = _; rw [hm]; rfl⟩) (by rw [hm]; rfl) 100 0 x.2.2.2.2.2.1 h2.labs (by omega) (by have := h2.labs; omega)
end Go.Proofs.Ytegncnhhofbmiaa
