/- The law GroupOrder in plain Lean. -/
import Derived.Test.YtcfckkmiaeegpaaSmall
open Go Go.Sx
namespace Go.Proofs.Ytcfckkmiaeegpaa
def Ord3 {α : Type} (c : α → α → Int64) : Prop := ∀ a b, (c a b = -1 ∧ c b a = 1) ∨ (c a b = 1 ∧ c b a = -1) ∨ (c a b = 0 ∧ c b a = 0 ∧ a = b)
theorem Ord3.refl {α : Type} {c : α → α → Int64} (h : Ord3 c) (a : α) : c a a = 0 := by
  rcases h a a with ⟨h1, h2⟩ | ⟨h1, h2⟩ | ⟨h1, _⟩
  · rw [h1] at h2; exact absurd h2 (by decide)
  · rw [h1] at h2; exact absurd h2 (by decide)
  · exact h1
def or3 (x y : Int64) : Int64 := if x = 0 then y else x
theorem Ord3.both {α β : Type} {c : α → α → Int64} {d : β → β → Int64} (hc : Ord3 c) (hd : Ord3 d) : Ord3 fun (a b : α × β) => or3 (c a.1 b.1) (d a.2 b.2) := by
  rintro ⟨a, x⟩ ⟨b, y⟩
  simp only [or3]
  rcases hc a b with ⟨h1, h2⟩ | ⟨h1, h2⟩ | ⟨h1, h2, rfl⟩
  · rw [h1, h2]; exact .inl ⟨rfl, rfl⟩
  · rw [h1, h2]; exact .inr (.inl ⟨rfl, rfl⟩)
  · rw [h1]
    rcases hd x y with ⟨k1, k2⟩ | ⟨k1, k2⟩ | ⟨k1, k2, rfl⟩
    · exact .inl ⟨k1, k2⟩
    · exact .inr (.inl ⟨k1, k2⟩)
    · exact .inr (.inr ⟨k1, k2, rfl⟩)
def cL {α : Type} (c : α → α → Int64) : List α → List α → Int64
  | [], [] => 0
  | [], _ :: _ => -1
  | _ :: _, [] => 1
  | x :: a, y :: b => or3 (c x y) (cL c a b)
theorem Ord3.list {α : Type} {c : α → α → Int64} (hc : Ord3 c) : Ord3 (cL c) := by
  intro a
  induction a with
  | nil =>
    intro b
    cases b with
    | nil => exact .inr (.inr ⟨rfl, rfl, rfl⟩)
    | cons y b => exact .inl ⟨rfl, rfl⟩
  | cons x a ih =>
    intro b
    cases b with
    | nil => exact .inr (.inl ⟨rfl, rfl⟩)
    | cons y b =>
      simp only [cL, or3]
      rcases hc x y with ⟨h1, h2⟩ | ⟨h1, h2⟩ | ⟨h1, h2, rfl⟩
      · rw [h1, h2]; exact .inl ⟨rfl, rfl⟩
      · rw [h1, h2]; exact .inr (.inl ⟨rfl, rfl⟩)
      · rw [h1]
        rcases ih b with ⟨k1, k2⟩ | ⟨k1, k2⟩ | ⟨k1, k2, rfl⟩
        · exact .inl ⟨k1, k2⟩
        · exact .inr (.inl ⟨k1, k2⟩)
        · exact .inr (.inr ⟨k1, k2, rfl⟩)
theorem bl_irrefl : ∀ a : List UInt8, bytesLt a a = false
  | [] => rfl
  | x :: a => by
    have := bl_irrefl a
    show (decide (x < x) || (x == x && bytesLt a a)) = false
    rw [this]
    simp
theorem bl_tri : ∀ a b : List UInt8, (bytesLt a b = true ∧ bytesLt b a = false) ∨ (bytesLt a b = false ∧ bytesLt b a = true) ∨ (bytesLt a b = false ∧ bytesLt b a = false ∧ a = b)
  | [], [] => .inr (.inr ⟨rfl, rfl, rfl⟩)
  | [], y :: b => .inl ⟨rfl, rfl⟩
  | x :: a, [] => .inr (.inl ⟨rfl, rfl⟩)
  | x :: a, y :: b => by
    have e1 : bytesLt (x :: a) (y :: b) = (decide (x < y) || (x == y && bytesLt a b)) := rfl
    have e2 : bytesLt (y :: b) (x :: a) = (decide (y < x) || (y == x && bytesLt b a)) := rfl
    rw [e1, e2]
    rcases Nat.lt_trichotomy x.toNat y.toNat with h | h | h
    · refine .inl ⟨?_, ?_⟩
      · rw [dec_t (UInt8.lt_iff_toNat_lt.2 h)]; rfl
      · rw [dec_f (fun q => by have := UInt8.lt_iff_toNat_lt.1 q; omega), show (y == x) = false from beq_eq_false_iff_ne.2 (fun q => by rw [q] at h; omega)]; rfl
    · have hxy : x = y := UInt8.toNat_inj.1 h
      subst hxy
      rw [dec_f (fun q => by have := UInt8.lt_iff_toNat_lt.1 q; omega), show (x == x) = true from beq_self_eq_true x]
      simp only [Bool.false_or, Bool.true_and]
      rcases bl_tri a b with h | h | ⟨h1, h2, rfl⟩
      · exact .inl h
      · exact .inr (.inl h)
      · exact .inr (.inr ⟨h1, h2, rfl⟩)
    · refine .inr (.inl ⟨?_, ?_⟩)
      · rw [dec_f (fun q => by have := UInt8.lt_iff_toNat_lt.1 q; omega), show (x == y) = false from beq_eq_false_iff_ne.2 (fun q => by rw [q] at h; omega)]; rfl
      · rw [dec_t (UInt8.lt_iff_toNat_lt.2 h)]; rfl
def cS (a b : List UInt8) : Int64 := if bytesLt a b then -1 else if bytesLt b a then 1 else 0
theorem cS_ord : Ord3 cS := by
  intro a b
  unfold cS
  rcases bl_tri a b with ⟨h1, h2⟩ | ⟨h1, h2⟩ | ⟨h1, h2, rfl⟩
  · rw [h1, h2]; exact .inl ⟨rfl, rfl⟩
  · rw [h1, h2]; exact .inr (.inl ⟨rfl, rfl⟩)
  · rw [h1]; exact .inr (.inr ⟨rfl, rfl, rfl⟩)
def cU (a b : UInt8) : Int64 := if a < b then -1 else if b < a then 1 else 0
theorem cU_ord : Ord3 cU := by
  intro a b
  unfold cU
  rcases Nat.lt_trichotomy a.toNat b.toNat with h | h | h
  · have h1 := UInt8.lt_iff_toNat_lt.2 h
    have h2 : ¬ b < a := fun q => by have := UInt8.lt_iff_toNat_lt.1 q; omega
    rw [if_pos h1, if_neg h2, if_pos h1]; exact .inl ⟨rfl, rfl⟩
  · have := UInt8.toNat_inj.1 h
    subst this
    have h2 : ¬ a < a := fun q => by have := UInt8.lt_iff_toNat_lt.1 q; omega
    rw [if_neg h2, if_neg h2]; exact .inr (.inr ⟨rfl, rfl, rfl⟩)
  · have h1 := UInt8.lt_iff_toNat_lt.2 h
    have h2 : ¬ a < b := fun q => by have := UInt8.lt_iff_toNat_lt.1 q; omega
    rw [if_neg h2, if_pos h1, if_pos h1]; exact .inr (.inl ⟨rfl, rfl⟩)
def cP (x y : Pair) : Int64 := or3 (cS x.1 y.1) (cS x.2 y.2)
theorem cP_ord : Ord3 cP := cS_ord.both cS_ord
abbrev cA (x y : UInt8 × List UInt8 × List Pair) : Int64 := or3 (cU x.1 y.1) (or3 (cS x.2.1 y.2.1) (cL cP x.2.2 y.2.2))
theorem cA_ord : Ord3 cA := cU_ord.both (cS_ord.both cP_ord.list)
theorem f20 (n : Nat) (x y : List UInt8) : F20 n (x, y) = some (cS x y, ()) := by
  unfold F20 F36
  simp only [obind_s]
  rw [show (!(x == x)) = false from by simp, show (!(y == y)) = false from by simp, oite_f, oite_f]
  unfold cS
  rcases bl_tri x y with ⟨h1, h2⟩ | ⟨h1, h2⟩ | ⟨h1, h2, rfl⟩
  · rw [h1]; rfl
  · have hne : (x == y) = false := beq_eq_false_iff_ne.2 (fun q => by rw [q, bl_irrefl] at h2; cases h2)
    rw [h1, h2, hne]; rfl
  · rw [h1, show (x == x) = true from by simp]; rfl
theorem f19 (n : Nat) (x y : UInt8) : F19 n (x, y) = some (cU x y, ()) := by
  unfold F19 F35
  simp only [obind_s]
  rw [show (!decide True) = false from rfl, oite_f, oite_f]
  unfold cU
  by_cases h1 : x < y
  · rw [dec_t h1, if_pos h1]; rfl
  · rw [dec_f h1, if_neg h1, oite_f]
    by_cases h2 : y < x
    · rw [dec_t h2, if_pos h2]; rfl
    · rw [dec_f h2, if_neg h2]; rfl
theorem f18_2 (k : Nat) (a b : Int64) : F18 (k + 5) [a, b] = some (or3 a b, ()) := by
  have e : F18 (k + 5) [a, b] = oite (!decide (a = 0)) (some (a, ())) (oite (!decide (b = 0)) (some (b, ())) (some (0, ()))) := by kernel_rfl
  rw [e]
  unfold or3
  by_cases h : a = 0
  · rw [dec_t h, if_pos h]
    by_cases h' : b = 0
    · rw [dec_t h', h']; rfl
    · rw [dec_f h']; rfl
  · rw [dec_f h, if_neg h]; rfl
theorem f18_3 (k : Nat) (a b c : Int64) : F18 (k + 5) [a, b, c] = some (or3 a (or3 b c), ()) := by
  have e : F18 (k + 5) [a, b, c] = oite (!decide (a = 0)) (some (a, ())) (oite (!decide (b = 0)) (some (b, ())) (oite (!decide (c = 0)) (some (c, ())) (some (0, ())))) := by kernel_rfl
  rw [e]
  unfold or3
  by_cases h : a = 0
  · rw [dec_t h, if_pos h]
    by_cases h' : b = 0
    · rw [dec_t h', if_pos h']
      by_cases h2 : c = 0
      · rw [dec_t h2, h2]; rfl
      · rw [dec_f h2]; rfl
    · rw [dec_f h', if_neg h']; rfl
  · rw [dec_f h, if_neg h]; rfl
theorem f38 (k : Nat) (x y : Pair) : F38 (k + 5) (x, y) = some (cP x y, ()) := by
  unfold F38
  simp only
  rw [f20]
  simp only [obind_s]
  rw [f20]
  simp only [obind_s]
  rw [f18_2]
  rfl
theorem f37 (k : Nat) (a b : List Pair) (ha : a.length ≤ 1000) (hb : b.length ≤ 1000) (m : Nat) : ∀ j, j ≤ a.length → j ≤ b.length → a.length - j < m → F37_R13 (k + 5) m a b a (I64 a.length) (I64 j) = some (cL cP (a.drop j) (b.drop j), ()) := by
  induction m with
  | zero => intros; omega
  | succ m ih =>
    intro j hja hjb hm
    rw [F37_R13_s]
    unfold F37_L13
    by_cases hlt : j < a.length
    · rw [dec_t ((i64_lt (by omega) (by omega)).2 hlt), oite_t, at_i64_lt (by omega) hlt]
      simp only [obind_s]
      rw [show (List.drop j a) = a[j] :: a.drop (j + 1) from List.drop_eq_getElem_cons hlt]
      by_cases hlb : j < b.length
      · rw [dec_f (fun q => by have := (i64_le (by omega) (by omega)).1 (show I64 b.length ≤ I64 j from q); omega), oite_f, at_i64_lt (by omega) hlb]
        simp only [obind_s]
        rw [f38 k a[j] b[j], show (List.drop j b) = b[j] :: b.drop (j + 1) from List.drop_eq_getElem_cons hlb]
        simp only [obind_s, cL, or3]
        by_cases hz : cP a[j] b[j] = 0
        · rw [dec_t hz, if_pos hz]
          rw [show (!true) = false from rfl, oite_f, i64_succ]
          exact ih (j + 1) (by omega) (by omega) (by omega)
        · rw [dec_f hz, if_neg hz]; rfl
      · rw [dec_t (show I64 b.length ≤ I64 j from (i64_le (by omega) (by omega)).2 (by omega)), oite_t, show b.drop j = [] from List.drop_eq_nil_of_le (by omega)]
        rfl
    · rw [dec_f (fun q => hlt ((i64_lt (by omega) (by omega)).1 q)), oite_f, show a.drop j = [] from List.drop_eq_nil_of_le (by omega)]
      have e : decide (Int64.ofInt ↑a.length < Int64.ofInt ↑b.length) = decide (a.length < b.length) := by rw [decide_eq_decide]; exact i64_lt (by omega) (by omega)
      rw [e]
      by_cases hlb : j < b.length
      · rw [dec_t (by omega), show (List.drop j b) = b[j] :: b.drop (j + 1) from List.drop_eq_getElem_cons hlb]; rfl
      · rw [dec_f (by omega), show b.drop j = [] from List.drop_eq_nil_of_le (by omega)]; rfl
theorem f21 (k : Nat) (a b : List Pair) (ha : a.length ≤ 20) (hb : b.length ≤ 20) : F21 (k + 30) (a, b) = some (cL cP a b, ()) := by
  unfold F21 F37
  simp only
  rw [show F37_R13 (k + 30) (k + 30) a b a (Int64.ofInt ↑a.length) 0 = some (cL cP a b, ()) from f37 (k + 25) a b (by omega) (by omega) (k + 30) 0 (by omega) (by omega) (by omega)]
  rfl
theorem f39 (n : Nat) (x y : Pair) : F39 n (x, y) = some (decide (cP x y = -1), ()) := by
  unfold F39
  simp only
  have z : ∀ a b : List UInt8, decide (cS a b = -1) = bytesLt a b := fun a b => by
    unfold cS
    rcases bl_tri a b with ⟨h1, h2⟩ | ⟨h1, h2⟩ | ⟨h1, h2, rfl⟩
    · rw [h1]; rfl
    · rw [h1, h2]; rfl
    · rw [h1]; rfl
  unfold cP or3
  by_cases he : x.1 = y.1
  · rw [he, cS_ord.refl, if_pos rfl, z, show (!(y.1 == y.1)) = false from by simp]; rfl
  · have : cS x.1 y.1 ≠ 0 := by
      rcases cS_ord x.1 y.1 with ⟨h, _⟩ | ⟨h, _⟩ | ⟨_, _, h⟩
      · rw [h]; decide
      · rw [h]; decide
      · exact absurd h he
    rw [if_neg this, z, show (x.1 == y.1) = false from beq_eq_false_iff_ne.2 he]; rfl
theorem f22 (k : Nat) (a b : List Pair) (ha : a.length ≤ 1000) (hb : b.length ≤ 1000) (m : Nat) : ∀ j, j ≤ a.length → j ≤ b.length → a.length - j < m → F22_R13 k F22_J3 m a b (I64 j) = some (cL cP (a.drop j) (b.drop j), ()) := by
  induction m with
  | zero => intros; omega
  | succ m ih =>
    intro j hja hjb hm
    rw [F22_R13_s]
    unfold F22_L13
    have e1 : decide (Int64.ofInt ↑a.length < Int64.ofInt ↑b.length) = decide (a.length < b.length) := by rw [decide_eq_decide]; exact i64_lt (by omega) (by omega)
    have e2 : decide (Int64.ofInt ↑b.length < Int64.ofInt ↑a.length) = decide (b.length < a.length) := by rw [decide_eq_decide]; exact i64_lt (by omega) (by omega)
    have ea : decide (I64 j < Int64.ofInt ↑a.length) = decide (j < a.length) := by rw [decide_eq_decide]; exact i64_lt (by omega) (by omega)
    have eb : decide (I64 j < Int64.ofInt ↑b.length) = decide (j < b.length) := by rw [decide_eq_decide]; exact i64_lt (by omega) (by omega)
    rw [ea, eb]
    by_cases hlt : j < a.length
    · rw [dec_t hlt, oite_t, show (List.drop j a) = a[j] :: a.drop (j + 1) from List.drop_eq_getElem_cons hlt]
      by_cases hlb : j < b.length
      · rw [dec_t hlb, oite_t, at_i64_lt (by omega) hlt]
        simp only [obind_s]
        rw [at_i64_lt (by omega) hlb]
        simp only [obind_s]
        rw [f39 k a[j] b[j]]
        simp only [obind_s]
        rw [f39 k b[j] a[j]]
        simp only [obind_s]
        rw [show (List.drop j b) = b[j] :: b.drop (j + 1) from List.drop_eq_getElem_cons hlb]
        simp only [cL, or3]
        rcases cP_ord a[j] b[j] with ⟨h1, h2⟩ | ⟨h1, h2⟩ | ⟨h1, h2, _⟩
        · rw [h1]; rfl
        · rw [h1, h2]; rfl
        · rw [h1, h2, if_pos rfl, show decide ((0 : Int64) = -1) = false from rfl, oite_f, oite_f, i64_succ]
          exact ih (j + 1) (by omega) (by omega) (by omega)
      · rw [dec_f hlb, oite_f, show b.drop j = [] from List.drop_eq_nil_of_le (by omega)]
        unfold F22_J3
        rw [e1, e2, dec_f (by omega), oite_f, dec_t (by omega)]; rfl
    · rw [dec_f hlt, oite_f, show a.drop j = [] from List.drop_eq_nil_of_le (by omega)]
      unfold F22_J3
      rw [e1, e2]
      by_cases hlb : j < b.length
      · rw [dec_t (by omega), show (List.drop j b) = b[j] :: b.drop (j + 1) from List.drop_eq_getElem_cons hlb]; rfl
      · rw [dec_f (by omega), oite_f, dec_f (by omega), show b.drop j = [] from List.drop_eq_nil_of_le (by omega)]; rfl
theorem f22' (k : Nat) (a b : List Pair) (ha : a.length ≤ 20) (hb : b.length ≤ 20) : F22 (k + 30) (a, b) = some (cL cP a b, ()) := by
  unfold F22
  simp only [ojoinA_eq]
  exact f22 (k + 30) a b (by omega) (by omega) (k + 30) 0 (by omega) (by omega) (by omega)
theorem f23 (a b : List Pair) (ha : a.length ≤ 1000) (hb : a.length = b.length) (m : Nat) : ∀ j, j ≤ a.length → a.length - j < m → F23_R29 m a b (I64 j) = some (decide (a.drop j = b.drop j), ()) := by
  induction m with
  | zero => intros; omega
  | succ m ih =>
    intro j hja hm
    rw [F23_R29_s]
    unfold F23_L29
    have ea : decide (I64 j < Int64.ofInt ↑a.length) = decide (j < a.length) := by rw [decide_eq_decide]; exact i64_lt (by omega) (by omega)
    rw [ea]
    by_cases hlt : j < a.length
    · have hlb : j < b.length := by omega
      rw [dec_t hlt, oite_t, at_i64_lt (by omega) hlt]
      simp only [obind_s]
      rw [at_i64_lt (by omega) hlb]
      simp only [obind_s]
      rw [show (List.drop j a) = a[j] :: a.drop (j + 1) from List.drop_eq_getElem_cons hlt, show (List.drop j b) = b[j] :: b.drop (j + 1) from List.drop_eq_getElem_cons hlb, i64_succ]
      have e : (a[j].1 == b[j].1 && (a[j].2 == b[j].2 && true)) = decide (a[j] = b[j]) := by
        rw [Bool.and_true]
        generalize a[j] = x
        generalize b[j] = y
        obtain ⟨x1, x2⟩ := x
        obtain ⟨y1, y2⟩ := y
        rw [Bool.eq_iff_iff]
        simp
      rw [e]
      by_cases hq : a[j] = b[j]
      · rw [dec_t hq, show (!true) = false from rfl, oite_f, ih (j + 1) (by omega) (by omega)]
        refine congrArg (fun z => some (z, ())) ?_
        rw [decide_eq_decide]
        exact ⟨fun q => by rw [hq, q], fun q => (List.cons.inj q).2⟩
      · rw [dec_f hq, show (!false) = true from rfl, oite_t, dec_f (fun q => hq (List.cons.inj q).1)]
    · rw [dec_f hlt, oite_f, show a.drop j = [] from List.drop_eq_nil_of_le (by omega), show b.drop j = [] from List.drop_eq_nil_of_le (by omega)]
      rfl
theorem f23' (k : Nat) (a b : List Pair) (ha : a.length ≤ 20) (hb : b.length ≤ 20) : F23 (k + 30) (a, b) = some (decide (a = b), ()) := by
  unfold F23
  simp only
  have e1 : decide (Int64.ofInt ↑a.length = Int64.ofInt ↑b.length) = decide (a.length = b.length) := by rw [decide_eq_decide]; exact i64_eq (by omega) (by omega)
  rw [e1]
  by_cases h : a.length = b.length
  · rw [dec_t h, show (!true) = false from rfl, oite_f]
    exact f23 a b (by omega) h (k + 30) 0 (by omega) (by omega)
  · rw [dec_f h, show (!false) = true from rfl, oite_t, dec_f (fun q => h (by rw [q]))]
theorem cmp8 (k : Nat) (o r l s p v u) (o' r' l' s' p' v' u') (hl : l.length ≤ 20) (hl' : l'.length ≤ 20) : F8 (k + 30) ((o, r, l, s, p, v, u), o', r', l', s', p', v', u') = some (cA (o, r, l) (o', r', l'), ()) := by
  unfold F8
  simp only
  rw [f19]
  simp only [obind_s]
  rw [f20]
  simp only [obind_s]
  rw [f21 k _ _ hl hl']
  simp only [obind_s]
  rw [f18_3 (k + 25)]
  rfl
theorem or3_neg (x y : Int64) : decide (or3 x y < 0) = if x = 0 then decide (y < 0) else decide (x < 0) := by unfold or3; split <;> rfl
theorem less9 (k : Nat) (o r l s p v u) (o' r' l' s' p' v' u') (hl : l.length ≤ 20) (hl' : l'.length ≤ 20) : F9 (k + 30) ((o, r, l, s, p, v, u), o', r', l', s', p', v', u') = some (decide (cA (o, r, l) (o', r', l') < 0), ()) := by
  have e : decide (cA (o, r, l) (o', r', l') < 0) = (if cU o o' = 0 then (if cS r r' = 0 then decide (cL cP l l' < 0) else decide (cS r r' < 0)) else decide (cU o o' < 0)) := by
    rw [show cA (o, r, l) (o', r', l') = or3 (cU o o') (or3 (cS r r') (cL cP l l')) from rfl, or3_neg, or3_neg]
  rw [e]
  unfold F9
  simp only
  by_cases ho : o = o'
  · subst ho
    rw [dec_t (rfl : o = o), show (!true) = false from rfl, oite_f, cU_ord.refl, if_pos rfl]
    by_cases hr : r = r'
    · subst hr
      rw [show (!(r == r)) = false from by simp, oite_f, f22' k _ _ hl hl', cS_ord.refl, if_pos rfl]
      rfl
    · rw [show (r == r') = false from beq_eq_false_iff_ne.2 hr, show (!false) = true from rfl, oite_t]
      unfold cS
      rcases bl_tri r r' with ⟨h1, h2⟩ | ⟨h1, h2⟩ | ⟨h1, h2, h⟩
      · rw [h1]; rfl
      · rw [h1, h2]; rfl
      · exact absurd h hr
  · rw [dec_f ho, show (!false) = true from rfl, oite_t]
    by_cases h1 : o < o'
    · rw [show cU o o' = -1 from if_pos h1, dec_t h1]; rfl
    · have h2 : o' < o := UInt8.lt_iff_toNat_lt.2 (by
        have a : ¬ o.toNat < o'.toNat := fun q => h1 (UInt8.lt_iff_toNat_lt.2 q)
        have b : o.toNat ≠ o'.toNat := fun q => ho (UInt8.toNat_inj.1 q)
        omega)
      rw [show cU o o' = 1 from (if_neg h1).trans (if_pos h2), dec_f h1]; rfl
theorem one10 (k : Nat) (o r l s p v u) (o' r' l' s' p' v' u') (hl : l.length ≤ 20) (hl' : l'.length ≤ 20) : F10 (k + 30) ((o, r, l, s, p, v, u), o', r', l', s', p', v', u') = some (decide (cA (o, r, l) (o', r', l') = 0), ()) := by
  have key : decide (cA (o, r, l) (o', r', l') = 0) = decide (o = o' ∧ r = r' ∧ l = l') := by
    rw [decide_eq_decide]
    constructor
    · intro h
      rcases cA_ord (o, r, l) (o', r', l') with ⟨h1, _⟩ | ⟨h1, _⟩ | ⟨_, _, h1⟩
      · rw [h] at h1; exact absurd h1 (by decide)
      · rw [h] at h1; exact absurd h1 (by decide)
      · injection h1 with a b; injection b with b c; exact ⟨a, b, c⟩
    · rintro ⟨rfl, rfl, rfl⟩
      exact cA_ord.refl _
  rw [key]
  unfold F10
  simp only
  by_cases ho : o = o'
  · rw [dec_t ho, oite_t]
    by_cases hr : r = r'
    · subst hr
      rw [show (r == r) = true from by simp, oite_t, f23' k _ _ hl hl']
      simp [obind_s, ho]
    · rw [show (r == r') = false from beq_eq_false_iff_ne.2 hr, oite_f, dec_f (fun q => hr q.2.1)]
  · rw [dec_f ho, oite_f, dec_f (fun q => ho q.1)]
abbrev Al2 := UInt8 × List UInt8 × List Pair × UInt8 × UInt64 × UInt8 × Int64 × UInt8 × List UInt8 × List Pair × UInt8 × UInt64 × UInt8 × Int64
theorem ord_round (k m : Nat) (j : Nat) (t : List Al2) (ht : t.length = 2) (hj : j < 2) (hfit : ∀ x ∈ t, x.2.2.1.length ≤ 20 ∧ x.2.2.2.2.2.2.2.2.2.1.length ≤ 20) :
    F3_R61 (k + 30) (m + 1) 2 (I64 j) t = F3_R61 (k + 30) m 2 (I64 (j + 1)) t := by
  rw [F3_R61_s]
  unfold F3_L61
  obtain ⟨i1, i2⟩ := idx_i64 (l := t) (k := j) (by omega) (by omega)
  rw [dec_t (show I64 j < 2 from (i64_lt (b := 2) (by omega) (by decide)).2 hj), oite_t, i1, oite_t, i2]
  simp only [obind_s]
  have hf := hfit t[j] (List.getElem_mem _)
  generalize t[j] = x at hf
  obtain ⟨o, r, l, s, p, v, u, o', r', l', s', p', v', u'⟩ := x
  simp only at hf ⊢
  rw [cmp8 k _ _ _ _ _ _ _ _ _ _ _ _ _ _ hf.1 hf.2]
  simp only [obind_s]
  rw [less9 k _ _ _ _ _ _ _ _ _ _ _ _ _ _ hf.1 hf.2]
  simp only [obind_s]
  rw [less9 k _ _ _ _ _ _ _ _ _ _ _ _ _ _ hf.2 hf.1]
  simp only [obind_s]
  rw [one10 k _ _ _ _ _ _ _ _ _ _ _ _ _ _ hf.1 hf.2]
  simp only [obind_s, i64_succ]
  rcases cA_ord (o, r, l) (o', r', l') with ⟨h1, h2⟩ | ⟨h1, h2⟩ | ⟨h1, h2, _⟩ <;> rw [h1, h2] <;> rfl
theorem labs_len (a b c : UInt8) : (labs a b c).length ≤ 3 := by
  unfold labs
  have := one_len 0 a
  have := one_len 1 b
  have := one_len 2 c
  simp only [List.length_append]
  omega
theorem groupOrder_true : ∀ x : sig3.In, PTys.fits sig3.ps x → ∃ n y, F3 n x = some y ∧ PTys.hd (.one (.c .bool)) .nil y.1 = true := by
  rintro ⟨⟨o, r, l, s, p, v, u⟩, ⟨o', r', l', s', p', v', u'⟩, ⟨a0, a1, a2, a3, a4, a5⟩, b0, b1, b2, b3, b4, b5⟩ hfit
  obtain ⟨k, hk⟩ : ∃ k, k = 60 := ⟨60, rfl⟩
  refine ⟨k + 30, (true, ()), ?_, rfl⟩
  obtain ⟨st, p1, v1, u1, ha⟩ := alert_ok (k + 20) a0 a1 a2 a3 a4 a5
  obtain ⟨st', p2, v2, u2, hb⟩ := alert_ok (k + 20) b0 b1 b2 b3 b4 b5
  unfold F3
  simp only
  rw [show F6 (k + 30) () = some (true, ()) from by
    have := awake (k - 10)
    rwa [show k - 10 + 40 = k + 30 by omega] at this]
  simp only [obind_s]
  rw [show (!true) = false from rfl, oite_f]
  have g1 := hfit.1
  have g2 := hfit.2.1
  simp only [PTy.fits, CTs.fits, CT.fits] at g1 g2
  have hl1 : l.length < 2 ^ 63 := g1.2.2.1.1
  have hl2 : l'.length < 2 ^ 63 := g2.2.2.1.1
  have e1 : decide (12 < Int64.ofInt ↑l.length) = decide (12 < l.length) := by rw [decide_eq_decide]; exact i64_lt (a := 12) (by omega) (by omega)
  have e2 : decide (12 < Int64.ofInt ↑l'.length) = decide (12 < l'.length) := by rw [decide_eq_decide]; exact i64_lt (a := 12) (by omega) (by omega)
  rw [e1, e2]
  by_cases h1 : 12 < l.length
  · rw [dec_t h1]; rfl
  · rw [dec_f h1, oite_f]
    by_cases h2 : 12 < l'.length
    · rw [dec_t h2]; rfl
    · rw [dec_f h2, oite_f, ha]
      simp only [obind_s]
      rw [hb]
      simp only [obind_s]
      have q1 := labs_len a2 a3 a4
      have q2 := labs_len b2 b3 b4
      have r0 := ord_round k (k + 29) 0 [(o, r, l, s, p, v, u, o', r', l', s', p', v', u'), (a0 % 3, ruleOf a1, labs a2 a3 a4, st, p1, v1, u1, b0 % 3, ruleOf b1, labs b2 b3 b4, st', p2, v2, u2)] rfl (by omega) (by
        intro x hx
        simp only [List.mem_cons, List.not_mem_nil, or_false] at hx
        rcases hx with rfl | rfl
        · exact ⟨by show l.length ≤ 20; omega, by show l'.length ≤ 20; omega⟩
        · exact ⟨by show (labs a2 a3 a4).length ≤ 20; omega, by show (labs b2 b3 b4).length ≤ 20; omega⟩)
      have r1 := ord_round k (k + 28) 1 [(o, r, l, s, p, v, u, o', r', l', s', p', v', u'), (a0 % 3, ruleOf a1, labs a2 a3 a4, st, p1, v1, u1, b0 % 3, ruleOf b1, labs b2 b3 b4, st', p2, v2, u2)] rfl (by omega) (by
        intro x hx
        simp only [List.mem_cons, List.not_mem_nil, or_false] at hx
        rcases hx with rfl | rfl
        · exact ⟨by show l.length ≤ 20; omega, by show l'.length ≤ 20; omega⟩
        · exact ⟨by show (labs a2 a3 a4).length ≤ 20; omega, by show (labs b2 b3 b4).length ≤ 20; omega⟩)
      refine Eq.trans r0 (Eq.trans r1 ?_)
      rw [F3_R61_s]
      unfold F3_L61
      rw [show decide (I64 (1 + 1) < 2) = false from rfl, oite_f]
end Go.Proofs.Ytcfckkmiaeegpaa
