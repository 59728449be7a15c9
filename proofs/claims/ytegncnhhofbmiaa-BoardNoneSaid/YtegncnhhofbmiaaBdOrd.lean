/- The order of alerts, and of the board's keys, in plain Lean. -/
import Derived.Test.YtegncnhhofbmiaaBdTy
import Derived.Test.YtegncnhhofbmiaaSxPlain
open Go Go.Sx
namespace Go.Proofs.Ytegncnhhofbmiaa
open Go.Sort
/-! three answers -/
def Ord3 {α : Type} (c : α → α → Int64) : Prop := ∀ a b, (c a b = -1 ∧ c b a = 1) ∨ (c a b = 1 ∧ c b a = -1) ∨ (c a b = 0 ∧ c b a = 0 ∧ a = b)
theorem Ord3.refl {α : Type} {c : α → α → Int64} (h : Ord3 c) (a : α) : c a a = 0 := by
  rcases h a a with ⟨h1, h2⟩ | ⟨h1, h2⟩ | ⟨h1, _⟩
  · rw [h1] at h2; exact absurd h2 (by decide)
  · rw [h1] at h2; exact absurd h2 (by decide)
  · exact h1
def or3 (x y : Int64) : Int64 := if x = 0 then y else x
theorem Ord3.both {α β : Type} {c : α → α → Int64} {d : β → β → Int64} (hc : Ord3 c) (hd : Ord3 d) : Ord3 fun (a b : α × β) => or3 (c a.1 b.1) (d a.2 b.2) := by
  rintro ⟨a, x⟩ ⟨b, y⟩
  simp only [or3]
  rcases hc a b with ⟨h1, h2⟩ | ⟨h1, h2⟩ | ⟨h1, h2, rfl⟩
  · rw [h1, h2]; exact .inl ⟨rfl, rfl⟩
  · rw [h1, h2]; exact .inr (.inl ⟨rfl, rfl⟩)
  · rw [h1]
    rcases hd x y with ⟨k1, k2⟩ | ⟨k1, k2⟩ | ⟨k1, k2, rfl⟩
    · exact .inl ⟨k1, k2⟩
    · exact .inr (.inl ⟨k1, k2⟩)
    · exact .inr (.inr ⟨k1, k2, rfl⟩)
def cL {α : Type} (c : α → α → Int64) : List α → List α → Int64
  | [], [] => 0
  | [], _ :: _ => -1
  | _ :: _, [] => 1
  | x :: a, y :: b => or3 (c x y) (cL c a b)
theorem Ord3.list {α : Type} {c : α → α → Int64} (hc : Ord3 c) : Ord3 (cL c) := by
  intro a
  induction a with
  | nil =>
    intro b
    cases b with
    | nil => exact .inr (.inr ⟨rfl, rfl, rfl⟩)
    | cons y b => exact .inl ⟨rfl, rfl⟩
  | cons x a ih =>
    intro b
    cases b with
    | nil => exact .inr (.inl ⟨rfl, rfl⟩)
    | cons y b =>
      simp only [cL, or3]
      rcases hc x y with ⟨h1, h2⟩ | ⟨h1, h2⟩ | ⟨h1, h2, rfl⟩
      · rw [h1, h2]; exact .inl ⟨rfl, rfl⟩
      · rw [h1, h2]; exact .inr (.inl ⟨rfl, rfl⟩)
      · rw [h1]
        rcases ih b with ⟨k1, k2⟩ | ⟨k1, k2⟩ | ⟨k1, k2, rfl⟩
        · exact .inl ⟨k1, k2⟩
        · exact .inr (.inl ⟨k1, k2⟩)
        · exact .inr (.inr ⟨k1, k2, rfl⟩)
/-! bytes -/
theorem bl_irrefl : ∀ a : List UInt8, bytesLt a a = false
  | [] => rfl
  | x :: a => by
    have := bl_irrefl a
    show (decide (x < x) || (x == x && bytesLt a a)) = false
    rw [this]
    simp
theorem bl_tri : ∀ a b : List UInt8, (bytesLt a b = true ∧ bytesLt b a = false) ∨ (bytesLt a b = false ∧ bytesLt b a = true) ∨ (bytesLt a b = false ∧ bytesLt b a = false ∧ a = b)
  | [], [] => .inr (.inr ⟨rfl, rfl, rfl⟩)
  | [], y :: b => .inl ⟨rfl, rfl⟩
  | x :: a, [] => .inr (.inl ⟨rfl, rfl⟩)
  | x :: a, y :: b => by
    have e1 : bytesLt (x :: a) (y :: b) = (decide (x < y) || (x == y && bytesLt a b)) := rfl
    have e2 : bytesLt (y :: b) (x :: a) = (decide (y < x) || (y == x && bytesLt b a)) := rfl
    rw [e1, e2]
    rcases Nat.lt_trichotomy x.toNat y.toNat with h | h | h
    · refine .inl ⟨?_, ?_⟩
      · rw [dec_t (UInt8.lt_iff_toNat_lt.2 h)]; rfl
      · rw [dec_f (fun q => by have := UInt8.lt_iff_toNat_lt.1 q; omega), show (y == x) = false from beq_eq_false_iff_ne.2 (fun q => by rw [q] at h; omega)]; rfl
    · have hxy : x = y := UInt8.toNat_inj.1 h
      subst hxy
      rw [dec_f (fun q => by have := UInt8.lt_iff_toNat_lt.1 q; omega), show (x == x) = true from beq_self_eq_true x]
      simp only [Bool.false_or, Bool.true_and]
      rcases bl_tri a b with h | h | ⟨h1, h2, rfl⟩
      · exact .inl h
      · exact .inr (.inl h)
      · exact .inr (.inr ⟨h1, h2, rfl⟩)
    · refine .inr (.inl ⟨?_, ?_⟩)
      · rw [dec_f (fun q => by have := UInt8.lt_iff_toNat_lt.1 q; omega), show (x == y) = false from beq_eq_false_iff_ne.2 (fun q => by rw [q] at h; omega)]; rfl
      · rw [dec_t (UInt8.lt_iff_toNat_lt.2 h)]; rfl
def cS (a b : List UInt8) : Int64 := if bytesLt a b then -1 else if bytesLt b a then 1 else 0
theorem cS_ord : Ord3 cS := by
  intro a b
  unfold cS
  rcases bl_tri a b with ⟨h1, h2⟩ | ⟨h1, h2⟩ | ⟨h1, h2, rfl⟩
  · rw [h1, h2]; exact .inl ⟨rfl, rfl⟩
  · rw [h1, h2]; exact .inr (.inl ⟨rfl, rfl⟩)
  · rw [h1]; exact .inr (.inr ⟨rfl, rfl, rfl⟩)
def cU (a b : UInt8) : Int64 := if a < b then -1 else if b < a then 1 else 0
theorem cU_ord : Ord3 cU := by
  intro a b
  unfold cU
  rcases Nat.lt_trichotomy a.toNat b.toNat with h | h | h
  · have h1 := UInt8.lt_iff_toNat_lt.2 h
    have h2 : ¬ b < a := fun q => by have := UInt8.lt_iff_toNat_lt.1 q; omega
    rw [if_pos h1, if_neg h2, if_pos h1]; exact .inl ⟨rfl, rfl⟩
  · have := UInt8.toNat_inj.1 h
    subst this
    have h2 : ¬ a < a := fun q => by have := UInt8.lt_iff_toNat_lt.1 q; omega
    rw [if_neg h2, if_neg h2]; exact .inr (.inr ⟨rfl, rfl, rfl⟩)
  · have h1 := UInt8.lt_iff_toNat_lt.2 h
    have h2 : ¬ a < b := fun q => by have := UInt8.lt_iff_toNat_lt.1 q; omega
    rw [if_neg h2, if_pos h1, if_pos h1]; exact .inr (.inl ⟨rfl, rfl⟩)
def cP (x y : Pair) : Int64 := or3 (cS x.1 y.1) (cS x.2 y.2)
theorem cP_ord : Ord3 cP := cS_ord.both cS_ord
abbrev cA (x y : UInt8 × List UInt8 × List Pair) : Int64 := or3 (cU x.1 y.1) (or3 (cS x.2.1 y.2.1) (cL cP x.2.2 y.2.2))
theorem cA_ord : Ord3 cA := cU_ord.both (cS_ord.both cP_ord.list)
/-! what the functions answer -/
theorem f37 (n : Nat) (x y : List UInt8) : F37 n (x, y) = some (cS x y, ()) := by
  unfold F37 F55
  simp only [obind_s]
  rw [show (!(x == x)) = false from by simp, show (!(y == y)) = false from by simp, oite_f, oite_f]
  unfold cS
  rcases bl_tri x y with ⟨h1, h2⟩ | ⟨h1, h2⟩ | ⟨h1, h2, rfl⟩
  · rw [h1]; rfl
  · have hne : (x == y) = false := beq_eq_false_iff_ne.2 (fun q => by rw [q, bl_irrefl] at h2; cases h2)
    rw [h1, h2, hne]; rfl
  · rw [h1, show (x == x) = true from by simp]; rfl
theorem f36 (n : Nat) (x y : UInt8) : F36 n (x, y) = some (cU x y, ()) := by
  unfold F36 F54
  simp only [obind_s]
  rw [show (!decide True) = false from rfl, oite_f, oite_f]
  unfold cU
  by_cases h1 : x < y
  · rw [dec_t h1, if_pos h1]; rfl
  · rw [dec_f h1, if_neg h1, oite_f]
    by_cases h2 : y < x
    · rw [dec_t h2, if_pos h2]; rfl
    · rw [dec_f h2, if_neg h2]; rfl
theorem f35_2 (k : Nat) (a b : Int64) : F35 (k + 5) [a, b] = some (or3 a b, ()) := by
  have e : F35 (k + 5) [a, b] = oite (!decide (a = 0)) (some (a, ())) (oite (!decide (b = 0)) (some (b, ())) (some (0, ()))) := by kernel_rfl
  rw [e]
  unfold or3
  by_cases h : a = 0
  · rw [dec_t h, if_pos h]
    by_cases h' : b = 0
    · rw [dec_t h', h']; rfl
    · rw [dec_f h']; rfl
  · rw [dec_f h, if_neg h]; rfl
theorem f35_3 (k : Nat) (a b c : Int64) : F35 (k + 5) [a, b, c] = some (or3 a (or3 b c), ()) := by
  have e : F35 (k + 5) [a, b, c] = oite (!decide (a = 0)) (some (a, ())) (oite (!decide (b = 0)) (some (b, ())) (oite (!decide (c = 0)) (some (c, ())) (some (0, ())))) := by kernel_rfl
  rw [e]
  unfold or3
  by_cases h : a = 0
  · rw [dec_t h, if_pos h]
    by_cases h' : b = 0
    · rw [dec_t h', if_pos h']
      by_cases h2 : c = 0
      · rw [dec_t h2, h2]; rfl
      · rw [dec_f h2]; rfl
    · rw [dec_f h', if_neg h']; rfl
  · rw [dec_f h, if_neg h]; rfl
theorem f57 (k : Nat) (x y : Pair) : F57 (k + 5) (x, y) = some (cP x y, ()) := by
  unfold F57
  simp only
  rw [f37]
  simp only [obind_s]
  rw [f37]
  simp only [obind_s]
  rw [f35_2]
  rfl
theorem f56 (k : Nat) (a b : List Pair) (ha : a.length ≤ 1000) (hb : b.length ≤ 1000) (m : Nat) : ∀ j, j ≤ a.length → j ≤ b.length → a.length - j < m → F56_R13 (k + 5) m a b a (I64 a.length) (I64 j) = some (cL cP (a.drop j) (b.drop j), ()) := by
  induction m with
  | zero => intros; omega
  | succ m ih =>
    intro j hja hjb hm
    rw [F56_R13_s]
    unfold F56_L13
    by_cases hlt : j < a.length
    · rw [dec_t ((i64_lt (by omega) (by omega)).2 hlt), oite_t, at_i64_lt (by omega) hlt]
      simp only [obind_s]
      rw [show (List.drop j a) = a[j] :: a.drop (j + 1) from List.drop_eq_getElem_cons hlt]
      by_cases hlb : j < b.length
      · rw [dec_f (fun q => by have := (i64_le (by omega) (by omega)).1 (show I64 b.length ≤ I64 j from q); omega), oite_f, at_i64_lt (by omega) hlb]
        simp only [obind_s]
        rw [f57 k a[j] b[j], show (List.drop j b) = b[j] :: b.drop (j + 1) from List.drop_eq_getElem_cons hlb]
        simp only [obind_s, cL, or3]
        by_cases hz : cP a[j] b[j] = 0
        · rw [dec_t hz, if_pos hz]
          rw [show (!true) = false from rfl, oite_f, i64_succ]
          exact ih (j + 1) (by omega) (by omega) (by omega)
        · rw [dec_f hz, if_neg hz]; rfl
      · rw [dec_t (show I64 b.length ≤ I64 j from (i64_le (by omega) (by omega)).2 (by omega)), oite_t, show b.drop j = [] from List.drop_eq_nil_of_le (by omega)]
        rfl
    · rw [dec_f (fun q => hlt ((i64_lt (by omega) (by omega)).1 q)), oite_f, show a.drop j = [] from List.drop_eq_nil_of_le (by omega)]
      have e : decide (Int64.ofInt ↑a.length < Int64.ofInt ↑b.length) = decide (a.length < b.length) := by rw [decide_eq_decide]; exact i64_lt (by omega) (by omega)
      rw [e]
      by_cases hlb : j < b.length
      · rw [dec_t (by omega), show (List.drop j b) = b[j] :: b.drop (j + 1) from List.drop_eq_getElem_cons hlb]; rfl
      · rw [dec_f (by omega), show b.drop j = [] from List.drop_eq_nil_of_le (by omega)]; rfl
theorem f38 (k : Nat) (a b : List Pair) (ha : a.length ≤ 20) (hb : b.length ≤ 20) : F38 (k + 30) (a, b) = some (cL cP a b, ()) := by
  unfold F38 F56
  simp only
  rw [show F56_R13 (k + 30) (k + 30) a b a (Int64.ofInt ↑a.length) 0 = some (cL cP a b, ()) from f56 (k + 25) a b (by omega) (by omega) (k + 30) 0 (by omega) (by omega) (by omega)]
  rfl
theorem c3 {α : Type} {c : α → α → Int64} (h : Ord3 c) (a b : α) : c a b = -1 ∨ c a b = 1 ∨ c a b = 0 := by
  rcases h a b with ⟨h, _⟩ | ⟨h, _⟩ | ⟨h, _⟩
  · exact .inl h
  · exact .inr (.inl h)
  · exact .inr (.inr h)
theorem cmp25 (k : Nat) (o r l s p v u) (o' r' l' s' p' v' u') (hl : l.length ≤ 20) (hl' : l'.length ≤ 20) : F25 (k + 30) ((o, r, l, s, p, v, u), o', r', l', s', p', v', u') = some (cA (o, r, l) (o', r', l'), ()) := by
  unfold F25
  simp only
  rw [f36]
  simp only [obind_s]
  rw [f37]
  simp only [obind_s]
  rw [f38 k _ _ hl hl']
  simp only [obind_s]
  rw [f35_3 (k + 25)]
  rfl
abbrev Tr3 {α : Type} (c : α → α → Int64) : Prop := ∀ a b d, c a b = -1 → c b d = -1 → c a d = -1
theorem bl_trans : ∀ a b d : List UInt8, bytesLt a b = true → bytesLt b d = true → bytesLt a d = true
  | a, [], _, h, _ => by
    have e : bytesLt a [] = false := by cases a <;> rfl
    rw [e] at h; cases h
  | _, _ :: _, [], _, h => by cases h
  | [], _ :: _, _ :: _, _, _ => rfl
  | x :: a, y :: b, z :: d, h, k => by
    have e1 : bytesLt (x :: a) (y :: b) = (decide (x < y) || (x == y && bytesLt a b)) := rfl
    have e2 : bytesLt (y :: b) (z :: d) = (decide (y < z) || (y == z && bytesLt b d)) := rfl
    have e3 : bytesLt (x :: a) (z :: d) = (decide (x < z) || (x == z && bytesLt a d)) := rfl
    rw [e1, Bool.or_eq_true, Bool.and_eq_true, decide_eq_true_eq, beq_iff_eq] at h
    rw [e2, Bool.or_eq_true, Bool.and_eq_true, decide_eq_true_eq, beq_iff_eq] at k
    rw [e3, Bool.or_eq_true, Bool.and_eq_true, decide_eq_true_eq, beq_iff_eq]
    rcases h with h | ⟨rfl, h⟩
    · rcases k with k | ⟨rfl, k⟩
      · exact .inl (UInt8.lt_trans h k)
      · exact .inl h
    · rcases k with k | ⟨rfl, k⟩
      · exact .inl k
      · exact .inr ⟨rfl, bl_trans a b d h k⟩
theorem cS_neg (a b : List UInt8) : cS a b = -1 ↔ bytesLt a b = true := by
  unfold cS
  cases bytesLt a b with
  | true => simp
  | false => cases bytesLt b a <;> simp
theorem cS_tr : Tr3 cS := fun _ _ _ h k => (cS_neg _ _).2 (bl_trans _ _ _ ((cS_neg _ _).1 h) ((cS_neg _ _).1 k))
theorem Tr3.both {α β : Type} {c : α → α → Int64} {d : β → β → Int64} (hc : Ord3 c) (_hd : Ord3 d) (tc : Tr3 c) (td : Tr3 d) : Tr3 fun (a b : α × β) => or3 (c a.1 b.1) (d a.2 b.2) := by
  rintro ⟨a, x⟩ ⟨b, y⟩ ⟨e, z⟩ h k
  unfold or3 at *
  simp only at *
  rcases hc a b with ⟨h1, _⟩ | ⟨h1, _⟩ | ⟨h1, _, rfl⟩
  · rcases hc b e with ⟨k1, _⟩ | ⟨k1, _⟩ | ⟨k1, _, rfl⟩
    · rw [tc a b e h1 k1]; rfl
    · rw [k1, if_neg (by decide)] at k; exact absurd k (by decide)
    · rw [h1]; rfl
  · rw [h1, if_neg (by decide)] at h; exact absurd h (by decide)
  · rw [h1] at h
    rcases hc a e with ⟨k1, _⟩ | ⟨k1, _⟩ | ⟨k1, _, rfl⟩
    · rw [k1]; rfl
    · rw [k1, if_neg (by decide)] at k; exact absurd k (by decide)
    · rw [k1] at k ⊢
      exact td x y z h k
theorem Tr3.list {α : Type} {c : α → α → Int64} (hc : Ord3 c) (tc : Tr3 c) : Tr3 (cL c)
  | [], [], _, h, _ => absurd h (by simp only [cL]; decide)
  | [], _ :: _, [], _, k => absurd k (by simp only [cL]; decide)
  | [], _ :: _, _ :: _, _, _ => rfl
  | _ :: _, [], _, h, _ => absurd h (by simp only [cL]; decide)
  | _ :: _, _ :: _, [], _, k => absurd k (by simp only [cL]; decide)
  | x :: a, y :: b, z :: e, h, k => by
    simp only [cL, or3] at *
    rcases hc x y with ⟨h1, _⟩ | ⟨h1, _⟩ | ⟨h1, _, rfl⟩
    · rcases hc y z with ⟨k1, _⟩ | ⟨k1, _⟩ | ⟨k1, _, rfl⟩
      · rw [tc x y z h1 k1]; rfl
      · rw [k1, if_neg (by decide)] at k; exact absurd k (by decide)
      · rw [h1]; rfl
    · rw [h1, if_neg (by decide)] at h; exact absurd h (by decide)
    · rw [h1] at h
      rcases hc x z with ⟨k1, _⟩ | ⟨k1, _⟩ | ⟨k1, _, rfl⟩
      · rw [k1]; rfl
      · rw [k1, if_neg (by decide)] at k; exact absurd k (by decide)
      · rw [k1] at k ⊢
        exact Tr3.list hc tc a b e h k
theorem cU_neg (a b : UInt8) : cU a b = -1 ↔ a < b := by
  unfold cU
  by_cases h : a < b
  · simp [h]
  · by_cases h' : b < a <;> simp [h, h']
theorem cU_tr : Tr3 cU := fun _ _ _ h k => (cU_neg _ _).2 (UInt8.lt_trans ((cU_neg _ _).1 h) ((cU_neg _ _).1 k))
theorem cP_tr : Tr3 cP := Tr3.both cS_ord cS_ord cS_tr cS_tr
theorem cA_tr : Tr3 cA := Tr3.both cU_ord (cS_ord.both cP_ord.list) cU_tr (Tr3.both cS_ord cP_ord.list cS_tr (Tr3.list cP_ord cP_tr))
/-! the board's own order -/
abbrev KV : VT := .agg keyE
abbrev AV : VT := .agg alertE
abbrev zA : Alert := (0, [], [], 0, 0, 0, 0)
/-- what is kept at a key (the zero alert: nothing) -/
abbrev look (k : Key) (ents : List (Key × Alert)) : Alert := (mget KV AV k ents).getD zA
/-- what List compares of an alert -/
abbrev core (a : Alert) : UInt8 × List UInt8 × List Pair := (a.1, a.2.1, a.2.2.1)
theorem f24 (k : Nat) (ents : List (Key × Alert)) (x y : Key) (hx : (look x ents).2.2.1.length ≤ 20) (hy : (look y ents).2.2.1.length ≤ 20) :
    F24 (k + 30) (x, y, some (some ents)) = some (or3 (cA (core (look x ents)) (core (look y ents))) (Int64.ofInt (x.2.2.2.toNat : Int) - Int64.ofInt (y.2.2.2.toNat : Int)), ()) := by
  unfold F24
  simp only [obind_s]
  have h := cmp25 k (look x ents).1 (look x ents).2.1 (look x ents).2.2.1 (look x ents).2.2.2.1 (look x ents).2.2.2.2.1 (look x ents).2.2.2.2.2.1 (look x ents).2.2.2.2.2.2
    (look y ents).1 (look y ents).2.1 (look y ents).2.2.1 (look y ents).2.2.2.1 (look y ents).2.2.2.2.1 (look y ents).2.2.2.2.2.1 (look y ents).2.2.2.2.2.2 hx hy
  refine (congrArg (fun m => obind m _) h).trans ?_
  simp only [obind_s]
  unfold or3
  by_cases hz : cA (core (look x ents)) (core (look y ents)) = 0
  · rw [if_pos hz]
    have hz' : cA ((look x ents).1, (look x ents).2.1, (look x ents).2.2.1) ((look y ents).1, (look y ents).2.1, (look y ents).2.2.1) = 0 := hz
    rw [dec_t hz']; rfl
  · rw [if_neg hz]
    have hz' : ¬ cA ((look x ents).1, (look x ents).2.1, (look x ents).2.2.1) ((look y ents).1, (look y ents).2.1, (look y ents).2.2.1) = 0 := hz
    rw [dec_f hz']; rfl
theorem own_sub (a b : UInt8) : (Int64.ofInt (a.toNat : Int) - Int64.ofInt (b.toNat : Int)).toInt = (a.toNat : Int) - b.toNat := by
  have := a.toNat_lt
  have := b.toNat_lt
  rw [← Int64.ofInt_sub]
  exact Int64.toInt_ofInt_of_le (by omega) (by omega)
/-- What holds of a board's entries: no key twice; a key says its alert's origin, rule and labels. -/
structure KeysOK (ents : List (Key × Alert)) : Prop where
  nd : (ents.map Prod.fst).Nodup
  ok : ∀ e ∈ ents, e.2.2.2.1.length ≤ 20
  tx : ∃ f : List Pair → List UInt8, ∀ e ∈ ents, e.1.1 = e.2.1 ∧ e.1.2.1 = e.2.2.1 ∧ e.1.2.2.1 = f e.2.2.2.1
theorem keqb (a b : Key) : VT.eqb KV a b = decide (a = b) := by
  obtain ⟨a1, a2, a3, a4⟩ := a
  obtain ⟨b1, b2, b3, b4⟩ := b
  show (decide (a1 = b1) && (a2 == b2 && (a3 == b3 && (decide (a4 = b4) && true)))) = _
  rw [Bool.eq_iff_iff]
  simp only [Bool.and_eq_true, decide_eq_true_eq, beq_iff_eq, Prod.mk.injEq, and_true]
theorem mget_mem {ents : List (Key × Alert)} (hn : (ents.map Prod.fst).Nodup) {e : Key × Alert} (he : e ∈ ents) : mget KV AV e.1 ents = some e.2 := by
  induction ents with
  | nil => cases he
  | cons a r ih =>
    rw [List.map_cons, List.nodup_cons] at hn
    unfold mget
    rcases List.mem_cons.1 he with rfl | he
    · rw [keqb, dec_t rfl]
    · rw [keqb, dec_f (fun q => hn.1 (List.mem_map.2 ⟨e, he, q⟩))]
      exact ih hn.2 he
theorem look_mem {ents : List (Key × Alert)} (hn : (ents.map Prod.fst).Nodup) {e : Key × Alert} (he : e ∈ ents) : look e.1 ents = e.2 := by
  show (mget KV AV e.1 ents).getD zA = _
  rw [mget_mem hn he]; rfl
/-- The order of keys. -/
def cKey (ents : List (Key × Alert)) (x y : Key) : Int64 := or3 (cA (core (look x ents)) (core (look y ents))) (Int64.ofInt (x.2.2.2.toNat : Int) - Int64.ofInt (y.2.2.2.toNat : Int))
theorem cfK_eq (k : Nat) {ents : List (Key × Alert)} (h : KeysOK ents) {x y : Key} (hx : x ∈ ents.map Prod.fst) (hy : y ∈ ents.map Prod.fst) :
    F24 (k + 30) (x, y, some (some ents)) = some (cKey ents x y, ()) ∧ cfK (k + 30) ents x y = (cKey ents x y).toInt := by
  obtain ⟨ex, hex, rfl⟩ := List.mem_map.1 hx
  obtain ⟨ey, hey, rfl⟩ := List.mem_map.1 hy
  have := f24 k ents ex.1 ey.1 (by rw [look_mem h.nd hex]; exact h.ok _ hex) (by rw [look_mem h.nd hey]; exact h.ok _ hey)
  refine ⟨this, ?_⟩
  unfold cfK
  rw [this]; rfl
/-- less, in plain words -/
def klt (a b : (UInt8 × List UInt8 × List Pair) × UInt8) : Prop := cA a.1 b.1 = -1 ∨ (a.1 = b.1 ∧ a.2 < b.2)
theorem klt_irrefl (a) : ¬ klt a a := by
  rintro (h | ⟨_, h⟩)
  · rw [cA_ord.refl] at h; exact absurd h (by decide)
  · exact absurd (UInt8.lt_iff_toNat_lt.1 h) (by omega)
theorem klt_trans {a b c} (h : klt a b) (k : klt b c) : klt a c := by
  rcases h with h | ⟨h, h'⟩
  · rcases k with k | ⟨k, _⟩
    · exact .inl (cA_tr _ _ _ h k)
    · left; rw [← k]; exact h
  · rcases k with k | ⟨k, k'⟩
    · left; rw [h]; exact k
    · exact .inr ⟨h.trans k, UInt8.lt_trans h' k'⟩
theorem klt_tri (a b) : klt a b ∨ klt b a ∨ a = b := by
  obtain ⟨a, o⟩ := a
  obtain ⟨b, p⟩ := b
  rcases cA_ord a b with ⟨h, _⟩ | ⟨_, h⟩ | ⟨_, _, rfl⟩
  · exact .inl (.inl h)
  · exact .inr (.inl (.inl h))
  · rcases Nat.lt_trichotomy o.toNat p.toNat with h | h | h
    · exact .inl (.inr ⟨rfl, UInt8.lt_iff_toNat_lt.2 h⟩)
    · right; right; rw [UInt8.toNat_inj.1 h]
    · exact .inr (.inl (.inr ⟨rfl, UInt8.lt_iff_toNat_lt.2 h⟩))
abbrev full (ents : List (Key × Alert)) (x : Key) : (UInt8 × List UInt8 × List Pair) × UInt8 := (core (look x ents), x.2.2.2)
theorem cKey_neg (ents : List (Key × Alert)) (x y : Key) : (cKey ents x y).toInt < 0 ↔ klt (full ents x) (full ents y) := by
  unfold cKey or3 klt
  show _ ↔ cA (core (look x ents)) (core (look y ents)) = -1 ∨ (core (look x ents) = core (look y ents) ∧ x.2.2.2 < y.2.2.2)
  generalize core (look x ents) = p
  generalize core (look y ents) = q
  rcases cA_ord p q with ⟨h, _⟩ | ⟨h, _⟩ | ⟨h, _, h'⟩
  · rw [h, if_neg (by decide)]
    exact ⟨fun _ => .inl rfl, fun _ => by decide⟩
  · rw [h, if_neg (by decide)]
    refine ⟨fun q => absurd q (by decide), ?_⟩
    rintro (q | ⟨q, _⟩)
    · exact absurd q (by decide)
    · rw [q, cA_ord.refl] at h; exact absurd h (by decide)
  · rw [h, if_pos rfl, own_sub]
    constructor
    · intro q; exact .inr ⟨h', UInt8.lt_iff_toNat_lt.2 (by omega)⟩
    · rintro (q | ⟨_, q⟩)
      · exact absurd q (by decide)
      · have := UInt8.lt_iff_toNat_lt.1 q; omega
theorem full_inj {ents : List (Key × Alert)} (h : KeysOK ents) {x y : Key} (hx : x ∈ ents.map Prod.fst) (hy : y ∈ ents.map Prod.fst) (he : full ents x = full ents y) : x = y := by
  obtain ⟨ex, hex, rfl⟩ := List.mem_map.1 hx
  obtain ⟨ey, hey, rfl⟩ := List.mem_map.1 hy
  obtain ⟨f, hf⟩ := h.tx
  obtain ⟨a1, a2, a3⟩ := hf ex hex
  obtain ⟨b1, b2, b3⟩ := hf ey hey
  simp only [full, core, Prod.mk.injEq] at he
  rw [look_mem h.nd hex, look_mem h.nd hey] at he
  obtain ⟨⟨c1, c2, c3⟩, c4⟩ := he
  refine Prod.ext ?_ (Prod.ext ?_ (Prod.ext ?_ c4))
  · rw [a1, b1, c1]
  · show ex.1.2.1 = ey.1.2.1
    rw [a2, b2, c2]
  · show ex.1.2.2.1 = ey.1.2.2.1
    rw [a3, b3, c3]
theorem sort_ok (k : Nat) {ents : List (Key × Alert)} (h : KeysOK ents) {xs : List Key} (hx : ∀ x ∈ xs, x ∈ ents.map Prod.fst) (hxl : xs.length < 1000) : SortOK (k + 30) ents xs := by
  have neg : ∀ {x y : Key}, x ∈ xs → y ∈ xs → (ltC (cfK (k + 30) ents) x y = true ↔ klt (full ents x) (full ents y)) := fun {x y} h1 h2 => by
    unfold ltC
    rw [decide_eq_true_iff, (cfK_eq k h (hx _ h1) (hx _ h2)).2]
    exact cKey_neg ents x y
  have negf : ∀ {x y : Key}, x ∈ xs → y ∈ xs → (ltC (cfK (k + 30) ents) x y = false ↔ ¬ klt (full ents x) (full ents y)) := fun {x y} h1 h2 => by
    rw [← neg h1 h2]; simp
  refine ⟨by omega, fun a ha b hb => by rw [(cfK_eq k h (hx _ ha) (hx _ hb)).1]; rfl, ⟨?_, ?_, ?_⟩, ?_⟩
  · rintro ⟨x, h1⟩
    exact (negf h1 h1).2 (klt_irrefl _)
  · rintro ⟨x, h1⟩ ⟨y, h2⟩ ⟨z, h3⟩ q1 q2
    exact (neg h1 h3).2 (klt_trans ((neg h1 h2).1 q1) ((neg h2 h3).1 q2))
  · rintro ⟨x, h1⟩ ⟨y, h2⟩ ⟨z, h3⟩ q1 q2
    refine (negf h1 h3).2 fun q => ?_
    have q1 := (negf h1 h2).1 q1
    have q2 := (negf h2 h3).1 q2
    rcases klt_tri (full ents x) (full ents y) with e | e | e
    · exact q1 e
    · exact q2 (klt_trans e q)
    · rw [e] at q; exact q2 q
  · intro a ha b hb q1 q2
    rcases klt_tri (full ents a) (full ents b) with e | e | e
    · exact absurd e ((negf ha hb).1 q1)
    · exact absurd e ((negf hb ha).1 q2)
    · exact full_inj h (hx _ ha) (hx _ hb) e
end Go.Proofs.Ytegncnhhofbmiaa
