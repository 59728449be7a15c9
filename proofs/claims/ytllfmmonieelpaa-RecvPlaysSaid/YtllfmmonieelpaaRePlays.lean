/- The law RecvPlays, its parts: the model's window beside the program's. -/
import Derived.Test.YtllfmmonieelpaaReFns4
import Derived.Test.YtllfmmonieelpaaReOrder
open Go Go.Sx
namespace Go.Proofs.Ytllfmmonieelpaa
abbrev ModT := Int64 × UInt64 × UInt64 × MapI
/-! ### What is found -/
def fi (seq : UInt64) (L : MapI) : Int64 := match Go.Sx.mix KU VI seq L with | none => -1 | some j => I64 j
theorem eqb_dec (a b : UInt64) : VT.eqb KU a b = decide (a = b) := rfl
theorem find_loop (seq : UInt64) (w : Int64) (want old : UInt64) (L : MapI) (hL : L.length < 2 ^ 62) : ∀ (m k : Nat), k ≤ L.length → L.length - k < m →
    F16_R13 m seq (I64 k) (some (w, want, old, L)) = some ((match Go.Sx.mix KU VI seq (L.drop k) with | none => -1 | some j => I64 (k + j)), some (w, want, old, L)) := by
  intro m
  induction m with
  | zero => intro k _ h; omega
  | succ m ih =>
    intro k hk hm
    rw [F16_R13_s]
    unfold F16_L13
    rw [obind_s]
    dsimp only
    by_cases hlt : k < L.length
    · obtain ⟨i1, i2⟩ := idx_i64 (l := L) (k := k) hlt (by omega)
      rw [dec_t ((i64_lt (by omega) (by omega)).2 hlt), oite_t, i1, oite_t, i2, obind_s]
      have e1 : L.drop k = L[k] :: L.drop (k + 1) := List.drop_eq_getElem_cons hlt
      rw [e1]
      unfold Go.Sx.mix
      rw [eqb_dec]
      by_cases he : seq = L[k].1
      · rw [dec_t he, dec_t he.symm, oite_t]; rfl
      · rw [dec_f he, dec_f (fun q => he q.symm), oite_f, i64_succ, ih (k + 1) (by omega) (by omega)]
        cases Go.Sx.mix KU VI seq (L.drop (k + 1)) with
        | none => rfl
        | some j => simp only [Option.map_some]; congr 3; omega
    · rw [dec_f (fun q => hlt ((i64_lt (by omega) (by omega)).1 q)), oite_f, List.drop_eq_nil_of_le (by omega)]
      rfl
theorem find_eq (n : Nat) (seq : UInt64) (w : Int64) (want old : UInt64) (L : MapI) (hL : L.length < 2 ^ 62) (hn : L.length < n) :
    F16 n (some (w, want, old, L), seq) = some (fi seq L, some (w, want, old, L)) := by
  unfold F16
  have := find_loop seq w want old L hL n 0 (by omega) (by omega)
  dsimp only
  rw [show (0 : Int64) = I64 0 from rfl, this]
  unfold fi
  simp only [List.drop_zero, Nat.zero_add]
theorem fi_pos (seq : UInt64) (L : MapI) (hL : L.length < 2 ^ 62) : decide ((0 : Int64) ≤ fi seq L) = (mget KU VI seq L).isSome := by
  unfold fi
  cases hm : Go.Sx.mix KU VI seq L with
  | none => rw [(mix_none hm).1]; rfl
  | some j =>
    obtain ⟨p, h1, _, h3, _⟩ := mix_some hm
    rw [h3]
    have hj : j < L.length := by rcases Nat.lt_or_ge j L.length with h | h; exact h; rw [List.getElem?_eq_none h] at h1; cases h1
    exact dec_t ((i64_le (a := 0) (by omega) (by omega)).2 (by omega))
theorem fi_neg (seq : UInt64) (L : MapI) (hL : L.length < 2 ^ 62) : decide (fi seq L < (0 : Int64)) = !(mget KU VI seq L).isSome := by
  rw [← fi_pos seq L hL]
  by_cases h : (0 : Int64) ≤ fi seq L
  · rw [dec_t h, dec_f (fun q => by rw [Int64.lt_iff_toInt_lt] at q; rw [Int64.le_iff_toInt_le] at h; omega)]; rfl
  · rw [dec_f h, dec_t (by rw [Int64.lt_iff_toInt_lt]; rw [Int64.le_iff_toInt_le] at h; omega)]; rfl
/-! ### Take, Next -/
theorem mtake_eq (n : Nat) (hn : 20 < n) (w : Int64) (want old : UInt64) (L : MapI) (hL : L.length < 1000) (hLn : L.length < n) (seq : UInt64) (x : ItT) (hf : FitI x n) :
    F15 n (some (w, want, old, L), seq, x) =
      if seq < want ∨ (mget KU VI seq L).isSome = true then some (17, some (w, want, old + 1, L))
      else if want + UInt64.ofInt w.toInt ≤ seq then some (19, some (w, want, old, L))
      else if itCheck x = 0 then some (0, some (w, want, old, mput KU VI seq x L)) else some (itCheck x, some (w, want, old, L)) := by
  have h1 := rit_eq n hn x hf
  obtain ⟨x0, x1, x2, x3, x4, x5, x6, x7, x8, x9, x10, x11, x12⟩ := x
  unfold F15
  dsimp only
  rw [ojoinA_eq, obind_s]
  dsimp only
  by_cases hs : seq < want
  · rw [dec_t hs, oite_t, if_pos (.inl hs)]
    rfl
  · rw [dec_f hs, oite_f, find_eq n seq w want old L (by omega) hLn, obind_s]
    dsimp only
    rw [fi_pos seq L (by omega)]
    cases hg : (mget KU VI seq L).isSome with
    | true => rw [if_pos (.inr rfl)]; rfl
    | false =>
      rw [if_neg (by simp [hs])]
      unfold F15_J6
      rw [oite_f, obind_s]
      by_cases hw : want + UInt64.ofInt w.toInt ≤ seq
      · rw [dec_t hw, oite_t, if_pos hw]
      · rw [dec_f hw, oite_f, if_neg hw, h1, obind_s]
        by_cases hc : itCheck (x0, x1, x2, x3, x4, x5, x6, x7, x8, x9, x10, x11, x12) = 0
        · rw [dec_t hc, if_pos hc]
          simp only [Bool.not_true, oite_f]
          rw [ble_t (by simp; omega), oite_t]
          have : Go.Sx.mix KU VI seq L = none := by
            cases hm : Go.Sx.mix KU VI seq L with
            | none => rfl
            | some j => obtain ⟨p, _, _, h3, _⟩ := mix_some hm; rw [h3] at hg; cases hg
          rw [(mix_none this).2.1]
        · rw [dec_f hc, if_neg hc]
          simp only [Bool.not_false, oite_t]
theorem mnext_eq (n : Nat) (w : Int64) (want old : UInt64) (L : MapI) (hL : L.length < 1000) (hLn : L.length < n) :
    F14 n (some (w, want, old, L)) = if (mget KU VI want L).isSome = true then some (0, some (w, want + 1, old, mdel KU VI want L)) else some (14, some (w, want, old, L)) := by
  unfold F14
  rw [obind_s]
  dsimp only
  rw [find_eq n want w want old L (by omega) hLn, obind_s]
  dsimp only
  rw [fi_neg want L (by omega)]
  cases hg : (mget KU VI want L).isSome with
  | false => rw [if_neg (by simp)]; rfl
  | true =>
    rw [if_pos rfl]
    simp only [Bool.not_true, oite_f]
    rw [obind_s]
    cases hm : Go.Sx.mix KU VI want L with
    | none => rw [(mix_none hm).1] at hg; cases hg
    | some j =>
      obtain ⟨p, h1, _, _, _, h5⟩ := mix_some hm
      have hj : j < L.length := by rcases Nat.lt_or_ge j L.length with h | h; exact h; rw [List.getElem?_eq_none h] at h1; cases h1
      have hfi : fi want L = I64 j := by unfold fi; rw [hm]
      rw [hfi, h5]
      have e1 : (I64 j).toInt = (j : Int) := i64_toInt (by omega)
      have e2 : (I64 j + 1).toInt = ((j + 1 : Nat) : Int) := by rw [i64_succ]; exact i64_toInt (by omega)
      rw [e1, e2]
      have c1 : (decide ((0 : Int) ≤ (j : Int)) && Nat.ble (Int.toNat (j : Int)) (List.length L) && true) = true := by
        rw [Int.toNat_natCast, ble_t (by omega), dec_t (by omega)]; rfl
      have c2 : (decide ((0 : Int) ≤ ((j + 1 : Nat) : Int)) && Nat.ble (Int.toNat ((j + 1 : Nat) : Int)) (List.length L)) = true := by
        rw [Int.toNat_natCast, ble_t (by omega), dec_t (by omega)]; rfl
      dsimp only
      rw [c1, oite_t, c2, Int.toNat_natCast, Int.toNat_natCast, ble_t (by simp; omega), oite_t, oite_t, ble_t (by simp; omega), oite_t]
      simp only [List.drop_zero, Nat.sub_zero, List.nil_append]
      rw [List.eraseIdx_eq_take_drop_succ, List.take_of_length_le (l := L.drop (j + 1)) (by simp)]

/-! ### The bits -/
def VB (h : Nat → Bool) : Nat → Nat → Nat
  | _, 0 => 0
  | j, c + 1 => (if h j then 1 else 0) + 2 * VB h (j + 1) c
theorem VB_lt (h : Nat → Bool) : ∀ c j, VB h j c < 2 ^ c
  | 0, _ => by simp [VB]
  | c + 1, j => by
    have := VB_lt h c (j + 1)
    unfold VB
    rw [Nat.pow_succ]
    split <;> omega
theorem VB_end (h : Nat → Bool) : ∀ c j, VB h j (c + 1) = VB h j c + (if h (j + c) then 2 ^ c else 0)
  | 0, j => by simp [VB]
  | c + 1, j => by
    have := VB_end h c (j + 1)
    rw [VB, this, VB, show j + 1 + c = j + (c + 1) by omega, Nat.pow_succ]
    split <;> split <;> omega
def hb (want : UInt64) (m : MapI) (j : Nat) : Bool := (mget KU VI (want + 1 + UInt64.ofNat j) m).isSome
theorem shl1 {k : Nat} (hk : k < 64) : (IK.shl IntKind.u64 1 ↑(UInt64.toNat (UInt64.ofNat k))).toNat = 2 ^ k := by
  have e : (UInt64.ofNat k).toNat = k := by rw [UInt64.toNat_ofNat']; omega
  unfold IK.shl
  rw [e, Int.toNat_natCast]
  have : min k (IntKind.bits IntKind.u64) = k := by show min k 64 = k; omega
  rw [this]
  have h1 : IK.toInt IntKind.u64 1 * 2 ^ k = ((2 ^ k : Nat) : Int) := by
    show (1 : Int) * 2 ^ k = _
    rw [Int.one_mul]; norm_cast
  rw [h1]
  show (UInt64.ofInt ((2 ^ k : Nat) : Int)).toNat = _
  rw [u64_ofInt, UInt64.toNat_ofNat']
  exact Nat.mod_eq_of_lt (Nat.pow_lt_pow_right (by omega) hk)
theorem or_bit {x k : Nat} (h : x < 2 ^ k) : x ||| 2 ^ k = x + 2 ^ k := by
  have := Nat.two_pow_add_eq_or_of_lt h 1
  rw [Nat.mul_one] at this
  rw [Nat.or_comm, ← this]; omega
theorem real_bits (n : Nat) (w : Int64) (want : UInt64) (m : MapI) (old : UInt64) : ∀ (c k f : Nat) (b : UInt64), k + c = 64 → c < f → b.toNat = VB (hb want m) 0 k →
    F17_R29 n f b (UInt64.ofNat k) (some (w, want, m, old)) = some ((want - 1, UInt64.ofNat (VB (hb want m) 0 64)), some (w, want, m, old)) := by
  intro c
  induction c with
  | zero =>
    intro k f b hk hf hb'
    obtain ⟨f, rfl⟩ : ∃ g, f = g + 1 := ⟨f - 1, by omega⟩
    have : k = 64 := by omega
    subst this
    rw [F17_R29_s]
    unfold F17_L29
    rw [dec_f (by decide), oite_f, obind_s]
    dsimp only
    rw [← hb', UInt64.ofNat_toNat]
  | succ c ih =>
    intro k f b hk hf hb'
    obtain ⟨f, rfl⟩ : ∃ g, f = g + 1 := ⟨f - 1, by omega⟩
    have e : (UInt64.ofNat k).toNat = k := by rw [UInt64.toNat_ofNat']; omega
    have c1 : UInt64.ofNat k < 64 := by rw [UInt64.lt_iff_toNat_lt, e]; show k < 64; omega
    have e2 : UInt64.ofNat k + 1 = UInt64.ofNat (k + 1) := by
      apply UInt64.toNat_inj.1
      rw [UInt64.toNat_add, e, UInt64.toNat_ofNat']; rfl
    have hlt := VB_lt (hb want m) k 0
    rw [F17_R29_s]
    unfold F17_L29
    rw [dec_t c1, oite_t, obind_s]
    dsimp only
    rw [has_eq, obind_s]
    dsimp only
    show oite (hb want m k) _ _ = _
    have hend := VB_end (hb want m) k 0
    rw [Nat.zero_add] at hend
    cases hh : hb want m k with
    | true =>
      rw [oite_t, e2]
      refine ih (k + 1) f _ (by omega) (by omega) ?_
      rw [UInt64.toNat_or, shl1 (by omega), hb', or_bit hlt, hend, hh]; rfl
    | false =>
      rw [oite_f, e2]
      refine ih (k + 1) f _ (by omega) (by omega) ?_
      rw [hb', hend, hh]; rfl
theorem ack_eq (n : Nat) (hn : 100 < n) (w : Int64) (want : UInt64) (m : MapI) (old : UInt64) :
    F17 n (some (w, want, m, old)) = some ((want - 1, UInt64.ofNat (VB (hb want m) 0 64)), some (w, want, m, old)) :=
  real_bits n w want m old 64 0 n 0 (by omega) (by omega) rfl
theorem model_bits (n : Nat) (w : Int64) (want old : UInt64) (L : MapI) (hL : L.length < 1000) (hLn : L.length < n) : ∀ (c f : Nat) (b : UInt64), c ≤ 64 → c < f → b.toNat = VB (hb want L) c (64 - c) →
    F19_R29 n f b (I64 c - 1) (some (w, want, old, L)) = some (UInt64.ofNat (VB (hb want L) 0 64), some (w, want, old, L)) := by
  intro c
  induction c with
  | zero =>
    intro f b _ hf hb'
    obtain ⟨f, rfl⟩ : ∃ g, f = g + 1 := ⟨f - 1, by omega⟩
    rw [F19_R29_s]
    unfold F19_L29
    rw [dec_f (by decide), oite_f]
    rw [Nat.sub_zero] at hb'
    rw [← hb', UInt64.ofNat_toNat]
  | succ c ih =>
    intro f b hc hf hb'
    obtain ⟨f, rfl⟩ : ∃ g, f = g + 1 := ⟨f - 1, by omega⟩
    have e1 : I64 (c + 1) - 1 = I64 c := i64_sub (a := c + 1) (b := 1) (by omega)
    have e2 : UInt64.ofInt (I64 c).toInt = UInt64.ofNat c := by rw [i64_toInt (by omega), u64_ofInt]
    have hlt := VB_lt (hb want L) (64 - (c + 1)) (c + 1)
    have hp : 2 ^ (64 - (c + 1)) ≤ 2 ^ 63 := Nat.pow_le_pow_right (by omega) (by omega)
    have hV : VB (hb want L) c (64 - c) = (if hb want L c then 1 else 0) + 2 * VB (hb want L) (c + 1) (64 - (c + 1)) := by
      rw [show 64 - c = 64 - (c + 1) + 1 by omega]; rfl
    have hmul : (b * 2).toNat = 2 * b.toNat := by
      rw [UInt64.toNat_mul]
      show b.toNat * 2 % 2 ^ 64 = _
      omega
    rw [F19_R29_s, e1]
    unfold F19_L29
    have c0 : (0 : Int64) ≤ I64 c := (i64_le (a := 0) (by omega) (by omega)).2 (by omega)
    rw [dec_t c0, oite_t, obind_s]
    dsimp only
    rw [find_eq n _ w want old L (by omega) hLn, obind_s]
    dsimp only
    rw [fi_pos _ L (by omega), e2]
    show oite (hb want L c) _ _ = _
    cases hh : hb want L c with
    | true =>
      rw [oite_t]
      refine ih f _ (by omega) (by omega) ?_
      rw [UInt64.toNat_add, hmul, hV, hh, hb']
      show (2 * VB (hb want L) (c + 1) (64 - (c + 1)) + 1) % 2 ^ 64 = 1 + 2 * VB (hb want L) (c + 1) (64 - (c + 1))
      omega
    | false =>
      rw [oite_f]
      refine ih f _ (by omega) (by omega) ?_
      rw [hmul, hV, hh, hb']
      simp
theorem mbits_eq (n : Nat) (hn : 1000 < n) (w : Int64) (want old : UInt64) (L : MapI) (hL : L.length < 1000) :
    F19 n (some (w, want, old, L)) = some (UInt64.ofNat (VB (hb want L) 0 64), some (w, want, old, L)) :=
  model_bits n w want old L hL (by omega) 64 n 0 (by omega) (by omega) rfl
end Go.Proofs.Ytllfmmonieelpaa
