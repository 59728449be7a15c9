/- Words as a condition: what both readers answer. -/
import Derived.Test.YtbogfhocjpicjaaCoSigned
open Go Go.Sx
namespace Go.Proofs.Ytbogfhocjpicjaa
/-! ### May it be one? -/
theorem not_lt1 (t : UInt64) : decide ((1 : UInt64) ≤ t) = !decide (t < 1) := by
  by_cases h : t < 1
  · rw [dec_t h, dec_f (by rw [UInt64.le_iff_toNat_le]; rw [UInt64.lt_iff_toNat_lt] at h; omega)]; rfl
  · rw [dec_f h, dec_t (by rw [UInt64.le_iff_toNat_le]; rw [UInt64.lt_iff_toNat_lt] at h; omega)]; rfl
theorem not_gt (t : UInt64) : decide (t ≤ 1048576) = !decide ((1048576 : UInt64) < t) := by
  by_cases h : (1048576 : UInt64) < t
  · rw [dec_t h, dec_f (by rw [UInt64.le_iff_toNat_le]; rw [UInt64.lt_iff_toNat_lt] at h; omega)]; rfl
  · rw [dec_f h, dec_t (by rw [UInt64.le_iff_toNat_le]; rw [UInt64.lt_iff_toNat_lt] at h; omega)]; rfl
theorem not_neg (l : Int64) : decide ((0 : Int64) ≤ l) = !decide (l < 0) := by
  by_cases h : l < 0
  · rw [dec_t h, dec_f (by rw [Int64.le_iff_toInt_le]; rw [Int64.lt_iff_toInt_lt] at h; omega)]; rfl
  · rw [dec_f h, dec_t (by rw [Int64.le_iff_toInt_le]; rw [Int64.lt_iff_toInt_lt] at h; omega)]; rfl
abbrev kinds (k : UInt8) : Prop := k = 1 ∨ k = 2 ∨ k = 3 ∨ k = 4 ∨ k = 5
theorem check_same (n : Nat) (k : UInt8) (lim : Int64) (t : UInt64) : ∃ e, F22 n (k, lim, t) = some (e, ()) ∧ F13 n (Int64.ofInt ↑(UInt8.toNat k), lim, t) = some (e, ()) ∧ (e = 0 → kinds k ∧ (k = 1 ∨ k = 2 → t = 0) ∧ (k = 3 → lim = 0) ∧ (k = 3 ∨ k = 4 ∨ k = 5 → t ≤ 1048576)) := by
  by_cases hk : kinds k
  · rcases hk with rfl | rfl | rfl | rfl | rfl
    · by_cases ht : t = 0
      · subst ht
        refine ⟨0, rfl, ?_, fun _ => ⟨by decide, fun _ => rfl, fun h => by simp at h, fun h => by simp at h⟩⟩
        unfold F13
        dsimp only
        rw [dec_f (by decide), oite_f, dec_f (by decide), oite_f, ojoinA_eq, not_lt1, dec_t (show (0 : UInt64) < 1 by decide)]
        rfl
      · refine ⟨6, ?_, ?_, fun h => by cases h⟩
        · unfold F22
          dsimp only
          rw [ojoinA_eq]
          simp only [dec_f ht]
          rfl
        · unfold F13
          dsimp only
          rw [dec_f (by decide), oite_f, dec_f (by decide), oite_f, ojoinA_eq]
          have J : ∀ b, F13_J7 b (Int64.ofInt ↑(UInt8.toNat 1)) lim t = some (6, ()) := fun b => by
            unfold F13_J7
            rw [ojoinA_eq, dec_t (by decide), oite_t, dec_f ht]
            rfl
          cases decide ((1 : UInt64) ≤ t) <;> cases decide (t ≤ 1048576) <;> first | exact J _ | (simp only [oite_t, oite_f]; exact J _)
    · by_cases ht : t = 0
      · subst ht
        refine ⟨0, rfl, ?_, fun _ => ⟨by decide, fun _ => rfl, fun h => by simp at h, fun h => by simp at h⟩⟩
        unfold F13
        dsimp only
        rw [dec_f (by decide), oite_f, dec_f (by decide), oite_f, ojoinA_eq, not_lt1, dec_t (show (0 : UInt64) < 1 by decide)]
        rfl
      · refine ⟨6, ?_, ?_, fun h => by cases h⟩
        · unfold F22
          dsimp only
          rw [ojoinA_eq]
          simp only [dec_f ht]
          rfl
        · unfold F13
          dsimp only
          rw [dec_f (by decide), oite_f, dec_f (by decide), oite_f, ojoinA_eq]
          have J : ∀ b, F13_J7 b (Int64.ofInt ↑(UInt8.toNat 2)) lim t = some (6, ()) := fun b => by
            unfold F13_J7
            rw [ojoinA_eq, dec_t (by decide), oite_t, dec_f ht]
            rfl
          cases decide ((1 : UInt64) ≤ t) <;> cases decide (t ≤ 1048576) <;> first | exact J _ | (simp only [oite_t, oite_f]; exact J _)
    · refine ⟨if lim = 0 ∧ ¬ t < 1 ∧ ¬ (1048576 : UInt64) < t then 0 else 6, ?_, ?_, fun h => ?_⟩
      · unfold F22
        dsimp only
        rw [ojoinA_eq]
        show oite (!decide (lim = 0)) (some (6, ())) (F22_J26 3 lim t) = _
        by_cases hl : lim = 0
        · subst hl
          rw [dec_t rfl]
          show F22_J26 3 0 t = _
          unfold F22_J26
          rw [dec_f (by decide), oite_f]
          by_cases h1 : t < 1
          · rw [dec_t h1, oite_t, if_neg (fun h => h.2.1 h1)]
          · rw [dec_f h1, oite_f]
            by_cases h2 : (1048576 : UInt64) < t
            · rw [dec_t h2, oite_t, if_neg (fun h => h.2.2 h2)]
            · rw [dec_f h2, oite_f, if_pos ⟨rfl, h1, h2⟩]
        · rw [dec_f hl, if_neg (fun h => hl h.1)]
          rfl
      · unfold F13
        dsimp only
        rw [dec_f (by decide), oite_f, dec_f (by decide), oite_f, ojoinA_eq, not_lt1, not_gt, not_neg]
        have J : ∀ b, F13_J7 b (Int64.ofInt ↑(UInt8.toNat 3)) lim t = oite (!decide (lim = 0)) (some (6, ())) (oite (!b) (some (6, ())) (some (0, ()))) := fun b => rfl
        simp only [J]
        by_cases hl : lim = 0
        · subst hl
          rw [dec_t rfl, dec_f (show ¬ (0 : Int64) < 0 by decide)]
          by_cases h1 : t < 1
          · rw [dec_t h1, if_neg (fun h => h.2.1 h1)]; rfl
          · rw [dec_f h1]
            by_cases h2 : (1048576 : UInt64) < t
            · rw [dec_t h2, if_neg (fun h => h.2.2 h2)]; rfl
            · rw [dec_f h2, if_pos ⟨rfl, h1, h2⟩]; rfl
        · rw [dec_f hl, if_neg (fun h => hl h.1)]
          cases decide (t < 1) <;> cases decide ((1048576 : UInt64) < t) <;> rfl
      · split at h
        · rename_i hh
          refine ⟨by decide, fun h => by simp at h, fun _ => hh.1, fun _ => ?_⟩
          rw [UInt64.le_iff_toNat_le]; have := hh.2.2; rw [UInt64.lt_iff_toNat_lt] at this; omega
        · cases h
    · refine ⟨if ¬ lim < 0 ∧ ¬ t < 1 ∧ ¬ (1048576 : UInt64) < t then 0 else 6, ?_, ?_, fun h => ?_⟩
      · show F22_J26 4 lim t = _
        unfold F22_J26
        by_cases hl : lim < 0
        · rw [dec_t hl, oite_t, if_neg (fun h => h.1 hl)]
        · rw [dec_f hl, oite_f]
          by_cases h1 : t < 1
          · rw [dec_t h1, oite_t, if_neg (fun h => h.2.1 h1)]
          · rw [dec_f h1, oite_f]
            by_cases h2 : (1048576 : UInt64) < t
            · rw [dec_t h2, oite_t, if_neg (fun h => h.2.2 h2)]
            · rw [dec_f h2, oite_f, if_pos ⟨hl, h1, h2⟩]
      · unfold F13
        dsimp only
        rw [dec_f (by decide), oite_f, dec_f (by decide), oite_f, ojoinA_eq, not_lt1, not_gt, not_neg]
        have J : ∀ b, F13_J7 b (Int64.ofInt ↑(UInt8.toNat 4)) lim t = oite (!b) (some (6, ())) (some (0, ())) := fun b => rfl
        simp only [J]
        by_cases hl : lim < 0
        · rw [dec_t hl, if_neg (fun h => h.1 hl)]
          cases decide (t < 1) <;> cases decide ((1048576 : UInt64) < t) <;> rfl
        · rw [dec_f hl]
          by_cases h1 : t < 1
          · rw [dec_t h1, if_neg (fun h => h.2.1 h1)]; rfl
          · rw [dec_f h1]
            by_cases h2 : (1048576 : UInt64) < t
            · rw [dec_t h2, if_neg (fun h => h.2.2 h2)]; rfl
            · rw [dec_f h2, if_pos ⟨hl, h1, h2⟩]; rfl
      · split at h
        · rename_i hh
          refine ⟨by decide, fun h => by simp at h, fun h => by simp at h, fun _ => ?_⟩
          rw [UInt64.le_iff_toNat_le]; have := hh.2.2; rw [UInt64.lt_iff_toNat_lt] at this; omega
        · cases h
    · refine ⟨if ¬ lim < 0 ∧ ¬ t < 1 ∧ ¬ (1048576 : UInt64) < t then 0 else 6, ?_, ?_, fun h => ?_⟩
      · show F22_J26 5 lim t = _
        unfold F22_J26
        by_cases hl : lim < 0
        · rw [dec_t hl, oite_t, if_neg (fun h => h.1 hl)]
        · rw [dec_f hl, oite_f]
          by_cases h1 : t < 1
          · rw [dec_t h1, oite_t, if_neg (fun h => h.2.1 h1)]
          · rw [dec_f h1, oite_f]
            by_cases h2 : (1048576 : UInt64) < t
            · rw [dec_t h2, oite_t, if_neg (fun h => h.2.2 h2)]
            · rw [dec_f h2, oite_f, if_pos ⟨hl, h1, h2⟩]
      · unfold F13
        dsimp only
        rw [dec_f (by decide), oite_f, dec_f (by decide), oite_f, ojoinA_eq, not_lt1, not_gt, not_neg]
        have J : ∀ b, F13_J7 b (Int64.ofInt ↑(UInt8.toNat 5)) lim t = oite (!b) (some (6, ())) (some (0, ())) := fun b => rfl
        simp only [J]
        by_cases hl : lim < 0
        · rw [dec_t hl, if_neg (fun h => h.1 hl)]
          cases decide (t < 1) <;> cases decide ((1048576 : UInt64) < t) <;> rfl
        · rw [dec_f hl]
          by_cases h1 : t < 1
          · rw [dec_t h1, if_neg (fun h => h.2.1 h1)]; rfl
          · rw [dec_f h1]
            by_cases h2 : (1048576 : UInt64) < t
            · rw [dec_t h2, if_neg (fun h => h.2.2 h2)]; rfl
            · rw [dec_f h2, if_pos ⟨hl, h1, h2⟩]; rfl
      · split at h
        · rename_i hh
          refine ⟨by decide, fun h => by simp at h, fun h => by simp at h, fun _ => ?_⟩
          rw [UInt64.le_iff_toNat_le]; have := hh.2.2; rw [UInt64.lt_iff_toNat_lt] at this; omega
        · cases h
  · have e : ∀ c : UInt8, (c = 1 ∨ c = 2 ∨ c = 3 ∨ c = 4 ∨ c = 5) → k ≠ c := fun c hc h => hk (h ▸ hc)
    refine ⟨12, ?_, ?_, fun h => by cases h⟩
    · unfold F22
      dsimp only
      rw [ojoinA_eq, dec_f (e 1 (by decide)), dec_f (e 2 (by decide)), dec_f (e 3 (by decide)), dec_f (e 4 (by decide)), dec_f (e 5 (by decide))]
      rfl
    · unfold F13
      dsimp only
      have hi : (Int64.ofInt ↑(UInt8.toNat k)).toInt = (k.toNat : Int) := i64_toInt (k := k.toNat) (by have := UInt8.toNat_lt k; omega)
      by_cases h0 : k = 0
      · subst h0; rfl
      · have n0 : k.toNat ≠ 0 := fun h => h0 (UInt8.toNat_inj.1 h)
        have ne : ∀ c : UInt8, (c = 1 ∨ c = 2 ∨ c = 3 ∨ c = 4 ∨ c = 5) → k.toNat ≠ c.toNat := fun c hc h => e c hc (UInt8.toNat_inj.1 h)
        have n1 := ne 1 (by decide)
        have n2 := ne 2 (by decide)
        have n3 := ne 3 (by decide)
        have n4 := ne 4 (by decide)
        have n5 := ne 5 (by decide)
        have z1 : (1 : UInt8).toNat = 1 := rfl
        have z2 : (2 : UInt8).toNat = 2 := rfl
        have z3 : (3 : UInt8).toNat = 3 := rfl
        have z4 : (4 : UInt8).toNat = 4 := rfl
        have z5 : (5 : UInt8).toNat = 5 := rfl
        have c1 : ¬ Int64.ofInt ↑(UInt8.toNat k) < (1 : Int64) := fun q => by rw [Int64.lt_iff_toInt_lt, hi] at q; have : (1 : Int64).toInt = 1 := rfl; omega
        have c5 : (5 : Int64) < Int64.ofInt ↑(UInt8.toNat k) := by rw [Int64.lt_iff_toInt_lt, hi]; have : (5 : Int64).toInt = 5 := rfl; omega
        rw [dec_f c1, oite_f, dec_t c5, oite_t]

/-! ### The first word -/
def nm (i : Nat) : List UInt8 := match i with | 1 => [97, 98, 111, 118, 101] | 2 => [98, 101, 108, 111, 119] | 3 => [97, 98, 115, 101, 110, 116] | 4 => [114, 105, 115, 101, 115] | _ => [102, 97, 108, 108, 115]
def kw (w : List UInt8) : Nat := if w == nm 5 then 5 else if w == nm 4 then 4 else if w == nm 3 then 3 else if w == nm 2 then 2 else if w == nm 1 then 1 else 0
theorem kw_le (w : List UInt8) : kw w ≤ 5 := by unfold kw; repeat' (first | split | omega)
theorem kw_cases (w : List UInt8) : kw w = 0 ∨ kw w = 1 ∨ kw w = 2 ∨ kw w = 3 ∨ kw w = 4 ∨ kw w = 5 := by have := kw_le w; omega
def endA (n : Nat) (words : List (List UInt8)) (c0 : UInt8) : Option (((UInt8 × Int64 × UInt64) × Int64) × Unit) :=
  oite (decide (c0 = 4)) (F20_J63 n words 3 0 0 0 c0 0 0) (oite (decide (c0 = 5)) (F20_J63 n words 3 0 0 0 c0 0 0) (F20_J63 n words 2 0 0 0 c0 0 0))
theorem pos_len (w : List UInt8) (ws : List (List UInt8)) (h : (w :: ws).length ≤ 6) : decide ((0 : Int64) < Int64.ofInt ↑(List.length (w :: ws))) = true := dec_t ((i64_lt (a := 0) (b := (w :: ws).length) (by omega) (by omega)).2 (by simp))
theorem stepA0 (n m : Nat) (w : List UInt8) (ws : List (List UInt8)) (h : (w :: ws).length ≤ 6) (c0 : UInt8) :
    F20_R61 n (m + 1) (w :: ws) 5 0 0 0 0 c0 0 0 [[97, 98, 111, 118, 101], [98, 101, 108, 111, 119], [97, 98, 115, 101, 110, 116], [114, 105, 115, 101, 115], [102, 97, 108, 108, 115]] = F20_R61 n m (w :: ws) 5 1 0 0 0 (if w == nm 1 then 1 else c0) 0 0 [[97, 98, 111, 118, 101], [98, 101, 108, 111, 119], [97, 98, 115, 101, 110, 116], [114, 105, 115, 101, 115], [102, 97, 108, 108, 115]] := by
  rw [F20_R61_s]
  unfold F20_L61
  rw [pos_len w ws h]
  show oite (w == nm 1) (F20_R61 n m (w :: ws) 5 1 0 0 0 1 0 0 [[97, 98, 111, 118, 101], [98, 101, 108, 111, 119], [97, 98, 115, 101, 110, 116], [114, 105, 115, 101, 115], [102, 97, 108, 108, 115]]) (F20_R61 n m (w :: ws) 5 1 0 0 0 c0 0 0 [[97, 98, 111, 118, 101], [98, 101, 108, 111, 119], [97, 98, 115, 101, 110, 116], [114, 105, 115, 101, 115], [102, 97, 108, 108, 115]]) = _
  cases w == nm 1 <;> rfl
theorem stepA1 (n m : Nat) (w : List UInt8) (ws : List (List UInt8)) (h : (w :: ws).length ≤ 6) (c0 : UInt8) :
    F20_R61 n (m + 1) (w :: ws) 5 1 0 0 0 c0 0 0 [[97, 98, 111, 118, 101], [98, 101, 108, 111, 119], [97, 98, 115, 101, 110, 116], [114, 105, 115, 101, 115], [102, 97, 108, 108, 115]] = F20_R61 n m (w :: ws) 5 2 0 0 0 (if w == nm 2 then 2 else c0) 0 0 [[97, 98, 111, 118, 101], [98, 101, 108, 111, 119], [97, 98, 115, 101, 110, 116], [114, 105, 115, 101, 115], [102, 97, 108, 108, 115]] := by
  rw [F20_R61_s]
  unfold F20_L61
  rw [pos_len w ws h]
  show oite (w == nm 2) (F20_R61 n m (w :: ws) 5 2 0 0 0 2 0 0 [[97, 98, 111, 118, 101], [98, 101, 108, 111, 119], [97, 98, 115, 101, 110, 116], [114, 105, 115, 101, 115], [102, 97, 108, 108, 115]]) (F20_R61 n m (w :: ws) 5 2 0 0 0 c0 0 0 [[97, 98, 111, 118, 101], [98, 101, 108, 111, 119], [97, 98, 115, 101, 110, 116], [114, 105, 115, 101, 115], [102, 97, 108, 108, 115]]) = _
  cases w == nm 2 <;> rfl
theorem stepA2 (n m : Nat) (w : List UInt8) (ws : List (List UInt8)) (h : (w :: ws).length ≤ 6) (c0 : UInt8) :
    F20_R61 n (m + 1) (w :: ws) 5 2 0 0 0 c0 0 0 [[97, 98, 111, 118, 101], [98, 101, 108, 111, 119], [97, 98, 115, 101, 110, 116], [114, 105, 115, 101, 115], [102, 97, 108, 108, 115]] = F20_R61 n m (w :: ws) 5 3 0 0 0 (if w == nm 3 then 3 else c0) 0 0 [[97, 98, 111, 118, 101], [98, 101, 108, 111, 119], [97, 98, 115, 101, 110, 116], [114, 105, 115, 101, 115], [102, 97, 108, 108, 115]] := by
  rw [F20_R61_s]
  unfold F20_L61
  rw [pos_len w ws h]
  show oite (w == nm 3) (F20_R61 n m (w :: ws) 5 3 0 0 0 3 0 0 [[97, 98, 111, 118, 101], [98, 101, 108, 111, 119], [97, 98, 115, 101, 110, 116], [114, 105, 115, 101, 115], [102, 97, 108, 108, 115]]) (F20_R61 n m (w :: ws) 5 3 0 0 0 c0 0 0 [[97, 98, 111, 118, 101], [98, 101, 108, 111, 119], [97, 98, 115, 101, 110, 116], [114, 105, 115, 101, 115], [102, 97, 108, 108, 115]]) = _
  cases w == nm 3 <;> rfl
theorem stepA3 (n m : Nat) (w : List UInt8) (ws : List (List UInt8)) (h : (w :: ws).length ≤ 6) (c0 : UInt8) :
    F20_R61 n (m + 1) (w :: ws) 5 3 0 0 0 c0 0 0 [[97, 98, 111, 118, 101], [98, 101, 108, 111, 119], [97, 98, 115, 101, 110, 116], [114, 105, 115, 101, 115], [102, 97, 108, 108, 115]] = F20_R61 n m (w :: ws) 5 4 0 0 0 (if w == nm 4 then 4 else c0) 0 0 [[97, 98, 111, 118, 101], [98, 101, 108, 111, 119], [97, 98, 115, 101, 110, 116], [114, 105, 115, 101, 115], [102, 97, 108, 108, 115]] := by
  rw [F20_R61_s]
  unfold F20_L61
  rw [pos_len w ws h]
  show oite (w == nm 4) (F20_R61 n m (w :: ws) 5 4 0 0 0 4 0 0 [[97, 98, 111, 118, 101], [98, 101, 108, 111, 119], [97, 98, 115, 101, 110, 116], [114, 105, 115, 101, 115], [102, 97, 108, 108, 115]]) (F20_R61 n m (w :: ws) 5 4 0 0 0 c0 0 0 [[97, 98, 111, 118, 101], [98, 101, 108, 111, 119], [97, 98, 115, 101, 110, 116], [114, 105, 115, 101, 115], [102, 97, 108, 108, 115]]) = _
  cases w == nm 4 <;> rfl
theorem stepA4 (n m : Nat) (w : List UInt8) (ws : List (List UInt8)) (h : (w :: ws).length ≤ 6) (c0 : UInt8) :
    F20_R61 n (m + 1) (w :: ws) 5 4 0 0 0 c0 0 0 [[97, 98, 111, 118, 101], [98, 101, 108, 111, 119], [97, 98, 115, 101, 110, 116], [114, 105, 115, 101, 115], [102, 97, 108, 108, 115]] = F20_R61 n m (w :: ws) 5 5 0 0 0 (if w == nm 5 then 5 else c0) 0 0 [[97, 98, 111, 118, 101], [98, 101, 108, 111, 119], [97, 98, 115, 101, 110, 116], [114, 105, 115, 101, 115], [102, 97, 108, 108, 115]] := by
  rw [F20_R61_s]
  unfold F20_L61
  rw [pos_len w ws h]
  show oite (w == nm 5) (F20_R61 n m (w :: ws) 5 5 0 0 0 5 0 0 [[97, 98, 111, 118, 101], [98, 101, 108, 111, 119], [97, 98, 115, 101, 110, 116], [114, 105, 115, 101, 115], [102, 97, 108, 108, 115]]) (F20_R61 n m (w :: ws) 5 5 0 0 0 c0 0 0 [[97, 98, 111, 118, 101], [98, 101, 108, 111, 119], [97, 98, 115, 101, 110, 116], [114, 105, 115, 101, 115], [102, 97, 108, 108, 115]]) = _
  cases w == nm 5 <;> rfl
theorem kind_a (n : Nat) (w : List UInt8) (ws : List (List UInt8)) (h : (w :: ws).length ≤ 6) : F20 (n + 6) (w :: ws) = endA (n + 6) (w :: ws) (UInt8.ofNat (kw w)) := by
  show F20_R61 (n + 6) (n + 6) (w :: ws) 5 0 0 0 0 0 0 0 [[97, 98, 111, 118, 101], [98, 101, 108, 111, 119], [97, 98, 115, 101, 110, 116], [114, 105, 115, 101, 115], [102, 97, 108, 108, 115]] = _
  rw [stepA0 _ _ _ _ h, stepA1 _ _ _ _ h, stepA2 _ _ _ _ h, stepA3 _ _ _ _ h, stepA4 _ _ _ _ h, F20_R61_s]
  unfold F20_L61
  rw [dec_f (by decide), oite_f, ojoinA_eq]
  have : (if w == nm 5 then (5 : UInt8) else if w == nm 4 then 4 else if w == nm 3 then 3 else if w == nm 2 then 2 else if w == nm 1 then 1 else 0) = UInt8.ofNat (kw w) := by
    unfold kw
    repeat' (first | split | rfl)
  rw [this]
  rfl
def endB (n : Nat) (w : List (List UInt8)) (c0 : Int64) : Option (((Int64 × Int64 × UInt64) × Int64) × Unit) :=
  oite (decide (c0 = 0)) (F21_J62 n w true 0 0 0 c0 0 0) (oite (decide (c0 < 4)) (oite (!decide (Int64.ofInt ↑(List.length w) = 2)) (F21_J62 n w true 0 0 0 c0 0 0) (oite (decide (4 ≤ c0)) (F21_J62 n w (!decide (Int64.ofInt ↑(List.length w) = 3)) 0 0 0 c0 0 0) (F21_J62 n w false 0 0 0 c0 0 0)))
    (oite (decide (4 ≤ c0)) (F21_J62 n w (!decide (Int64.ofInt ↑(List.length w) = 3)) 0 0 0 c0 0 0) (F21_J62 n w false 0 0 0 c0 0 0)))
theorem stepB1 (n m : Nat) (w : List UInt8) (ws : List (List UInt8)) (h : (w :: ws).length ≤ 6) (c0 : Int64) :
    F21_R61 n (m + 1) (w :: ws) 1 0 0 0 [[], [97, 98, 111, 118, 101], [98, 101, 108, 111, 119], [97, 98, 115, 101, 110, 116], [114, 105, 115, 101, 115], [102, 97, 108, 108, 115]] c0 0 0 = F21_R61 n m (w :: ws) 2 0 0 0 [[], [97, 98, 111, 118, 101], [98, 101, 108, 111, 119], [97, 98, 115, 101, 110, 116], [114, 105, 115, 101, 115], [102, 97, 108, 108, 115]] (if w == nm 1 then 1 else c0) 0 0 := by
  rw [F21_R61_s]
  unfold F21_L61
  rw [pos_len w ws h]
  show oite (w == nm 1) (F21_R61 n m (w :: ws) 2 0 0 0 [[], [97, 98, 111, 118, 101], [98, 101, 108, 111, 119], [97, 98, 115, 101, 110, 116], [114, 105, 115, 101, 115], [102, 97, 108, 108, 115]] 1 0 0) (F21_R61 n m (w :: ws) 2 0 0 0 [[], [97, 98, 111, 118, 101], [98, 101, 108, 111, 119], [97, 98, 115, 101, 110, 116], [114, 105, 115, 101, 115], [102, 97, 108, 108, 115]] c0 0 0) = _
  cases w == nm 1 <;> rfl
theorem stepB2 (n m : Nat) (w : List UInt8) (ws : List (List UInt8)) (h : (w :: ws).length ≤ 6) (c0 : Int64) :
    F21_R61 n (m + 1) (w :: ws) 2 0 0 0 [[], [97, 98, 111, 118, 101], [98, 101, 108, 111, 119], [97, 98, 115, 101, 110, 116], [114, 105, 115, 101, 115], [102, 97, 108, 108, 115]] c0 0 0 = F21_R61 n m (w :: ws) 3 0 0 0 [[], [97, 98, 111, 118, 101], [98, 101, 108, 111, 119], [97, 98, 115, 101, 110, 116], [114, 105, 115, 101, 115], [102, 97, 108, 108, 115]] (if w == nm 2 then 2 else c0) 0 0 := by
  rw [F21_R61_s]
  unfold F21_L61
  rw [pos_len w ws h]
  show oite (w == nm 2) (F21_R61 n m (w :: ws) 3 0 0 0 [[], [97, 98, 111, 118, 101], [98, 101, 108, 111, 119], [97, 98, 115, 101, 110, 116], [114, 105, 115, 101, 115], [102, 97, 108, 108, 115]] 2 0 0) (F21_R61 n m (w :: ws) 3 0 0 0 [[], [97, 98, 111, 118, 101], [98, 101, 108, 111, 119], [97, 98, 115, 101, 110, 116], [114, 105, 115, 101, 115], [102, 97, 108, 108, 115]] c0 0 0) = _
  cases w == nm 2 <;> rfl
theorem stepB3 (n m : Nat) (w : List UInt8) (ws : List (List UInt8)) (h : (w :: ws).length ≤ 6) (c0 : Int64) :
    F21_R61 n (m + 1) (w :: ws) 3 0 0 0 [[], [97, 98, 111, 118, 101], [98, 101, 108, 111, 119], [97, 98, 115, 101, 110, 116], [114, 105, 115, 101, 115], [102, 97, 108, 108, 115]] c0 0 0 = F21_R61 n m (w :: ws) 4 0 0 0 [[], [97, 98, 111, 118, 101], [98, 101, 108, 111, 119], [97, 98, 115, 101, 110, 116], [114, 105, 115, 101, 115], [102, 97, 108, 108, 115]] (if w == nm 3 then 3 else c0) 0 0 := by
  rw [F21_R61_s]
  unfold F21_L61
  rw [pos_len w ws h]
  show oite (w == nm 3) (F21_R61 n m (w :: ws) 4 0 0 0 [[], [97, 98, 111, 118, 101], [98, 101, 108, 111, 119], [97, 98, 115, 101, 110, 116], [114, 105, 115, 101, 115], [102, 97, 108, 108, 115]] 3 0 0) (F21_R61 n m (w :: ws) 4 0 0 0 [[], [97, 98, 111, 118, 101], [98, 101, 108, 111, 119], [97, 98, 115, 101, 110, 116], [114, 105, 115, 101, 115], [102, 97, 108, 108, 115]] c0 0 0) = _
  cases w == nm 3 <;> rfl
theorem stepB4 (n m : Nat) (w : List UInt8) (ws : List (List UInt8)) (h : (w :: ws).length ≤ 6) (c0 : Int64) :
    F21_R61 n (m + 1) (w :: ws) 4 0 0 0 [[], [97, 98, 111, 118, 101], [98, 101, 108, 111, 119], [97, 98, 115, 101, 110, 116], [114, 105, 115, 101, 115], [102, 97, 108, 108, 115]] c0 0 0 = F21_R61 n m (w :: ws) 5 0 0 0 [[], [97, 98, 111, 118, 101], [98, 101, 108, 111, 119], [97, 98, 115, 101, 110, 116], [114, 105, 115, 101, 115], [102, 97, 108, 108, 115]] (if w == nm 4 then 4 else c0) 0 0 := by
  rw [F21_R61_s]
  unfold F21_L61
  rw [pos_len w ws h]
  show oite (w == nm 4) (F21_R61 n m (w :: ws) 5 0 0 0 [[], [97, 98, 111, 118, 101], [98, 101, 108, 111, 119], [97, 98, 115, 101, 110, 116], [114, 105, 115, 101, 115], [102, 97, 108, 108, 115]] 4 0 0) (F21_R61 n m (w :: ws) 5 0 0 0 [[], [97, 98, 111, 118, 101], [98, 101, 108, 111, 119], [97, 98, 115, 101, 110, 116], [114, 105, 115, 101, 115], [102, 97, 108, 108, 115]] c0 0 0) = _
  cases w == nm 4 <;> rfl
theorem stepB5 (n m : Nat) (w : List UInt8) (ws : List (List UInt8)) (h : (w :: ws).length ≤ 6) (c0 : Int64) :
    F21_R61 n (m + 1) (w :: ws) 5 0 0 0 [[], [97, 98, 111, 118, 101], [98, 101, 108, 111, 119], [97, 98, 115, 101, 110, 116], [114, 105, 115, 101, 115], [102, 97, 108, 108, 115]] c0 0 0 = F21_R61 n m (w :: ws) 6 0 0 0 [[], [97, 98, 111, 118, 101], [98, 101, 108, 111, 119], [97, 98, 115, 101, 110, 116], [114, 105, 115, 101, 115], [102, 97, 108, 108, 115]] (if w == nm 5 then 5 else c0) 0 0 := by
  rw [F21_R61_s]
  unfold F21_L61
  rw [pos_len w ws h]
  show oite (w == nm 5) (F21_R61 n m (w :: ws) 6 0 0 0 [[], [97, 98, 111, 118, 101], [98, 101, 108, 111, 119], [97, 98, 115, 101, 110, 116], [114, 105, 115, 101, 115], [102, 97, 108, 108, 115]] 5 0 0) (F21_R61 n m (w :: ws) 6 0 0 0 [[], [97, 98, 111, 118, 101], [98, 101, 108, 111, 119], [97, 98, 115, 101, 110, 116], [114, 105, 115, 101, 115], [102, 97, 108, 108, 115]] c0 0 0) = _
  cases w == nm 5 <;> rfl
theorem kind_b (n : Nat) (w : List UInt8) (ws : List (List UInt8)) (h : (w :: ws).length ≤ 6) : F21 (n + 6) (w :: ws) = endB (n + 6) (w :: ws) (I64 (kw w)) := by
  show F21_R61 (n + 6) (n + 6) (w :: ws) 1 0 0 0 [[], [97, 98, 111, 118, 101], [98, 101, 108, 111, 119], [97, 98, 115, 101, 110, 116], [114, 105, 115, 101, 115], [102, 97, 108, 108, 115]] 0 0 0 = _
  rw [stepB1 _ _ _ _ h, stepB2 _ _ _ _ h, stepB3 _ _ _ _ h, stepB4 _ _ _ _ h, stepB5 _ _ _ _ h, F21_R61_s]
  unfold F21_L61
  rw [dec_f (by decide), oite_f, ojoinA_eq]
  have : (if w == nm 5 then (5 : Int64) else if w == nm 4 then 4 else if w == nm 3 then 3 else if w == nm 2 then 2 else if w == nm 1 then 1 else 0) = I64 (kw w) := by
    unfold kw
    repeat' (first | split | rfl)
  rw [this]
  rfl
end Go.Proofs.Ytbogfhocjpicjaa
