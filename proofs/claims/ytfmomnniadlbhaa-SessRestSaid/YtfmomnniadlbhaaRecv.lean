/- Lemmas moved here from another seat of this repo (tools/port.py). -/
import Derived.Test.YtfmomnniadlbhaaSpool
open Go Go.Sx
namespace Go.Proofs.Ytfmomnniadlbhaa
namespace Rc
abbrev KU : VT := VT.one (CT.int IntKind.u64)
abbrev VI : VT := VT.agg (CTs.cons CT.bool (CTs.cons (CT.int IntKind.u8) (CTs.cons (CT.int IntKind.u64) (CTs.cons (CT.int IntKind.u64) (CTs.cons CT.str (CTs.cons (CT.ro (CTs.cons CT.str (CTs.cons CT.str CTs.nil))) (CTs.cons (CT.int IntKind.u8) (CTs.cons (CT.int IntKind.u8) (CTs.cons (CT.int IntKind.i64) (CTs.cons (CT.int IntKind.u8) (CTs.cons (CT.int IntKind.u8) (CTs.cons (CT.int IntKind.u64) (CTs.cons (CT.int IntKind.u64) CTs.nil)))))))))))))
abbrev MapI := List (UInt64 × ItT)
abbrev RecT := Int64 × UInt64 × MapI × UInt64
theorem clone_eq (n : Nat) (x : ItT) (h : x.2.2.2.2.2.1.length ≤ 1000) : F50 n x = some (x, ()) := by
 unfold F50
 rw [ble_t (by omega), oite_t]
 rfl
theorem has_eq (n : Nat) (r : RecT) (k : UInt64) : F52 n (some r, k) = some ((mget KU VI k r.2.2.1).isSome, some r) := rfl
theorem take_eq (n : Nat) (hn : 20 < n) (w : Int64) (want : UInt64) (m : MapI) (old seq : UInt64) (x : ItT) (N : Nat) (hf : FitI x N) (hl : x.2.2.2.2.2.1.length ≤ 1000) :
  F37 n (some (w, want, m, old), seq, x) =
   if seq < want ∨ (mget KU VI seq m).isSome = true then some (17, some (w, want, m, old + 1))
   else if UInt64.ofInt w.toInt ≤ seq - want then some (19, some (w, want, m, old))
   else if itCheck x = 0 then some (0, some (w, want, mput KU VI seq x m, old)) else some (itCheck x, some (w, want, m, old)) := by
 have h1 := it_eq n N hn x hf
 have h2 := clone_eq n x hl
 obtain ⟨x0, x1, x2, x3, x4, x5, x6, x7, x8, x9, x10, x11, x12⟩ := x
 unfold F37
 dsimp only [oelim]
 rw [ojoinA_rw]
 by_cases hs : seq < want
 ·rw [dec_t hs, oite_t, if_pos (.inl hs)]
  rfl
 ·rw [dec_f hs, oite_f, has_eq, obind_s]
  dsimp only
  cases hg : (mget KU VI seq m).isSome with
  | true => rw [if_pos (.inr rfl)]; rfl
  | false =>
   rw [if_neg (by simp [hs])]
   unfold F37_J27
   rw [oite_f, obind_s]
   by_cases hw : UInt64.ofInt w.toInt ≤ seq - want
   ·rw [dec_t hw, oite_t, if_pos hw]
   ·rw [dec_f hw, oite_f, if_neg hw, h1, obind_s]
    by_cases hc : itCheck (x0, x1, x2, x3, x4, x5, x6, x7, x8, x9, x10, x11, x12) = 0
    ·rw [dec_t hc, if_pos hc]
     simp only [Bool.not_true, oite_f]
     rw [h2, obind_s]
    ·rw [dec_f hc, if_neg hc]
     simp only [Bool.not_false, oite_t]
theorem next_eq (n : Nat) (w : Int64) (want : UInt64) (m : MapI) (old : UInt64) :
  F56 n (some (w, want, m, old)) = if (mget KU VI want m).isSome = true then some (0, some (w, want + 1, mdel KU VI want m, old)) else some (14, some (w, want, m, old)) := by
 unfold F56
 dsimp only [oelim]
 rw [has_eq, obind_s]
 dsimp only
 cases (mget KU VI want m).isSome with
 | true => rw [if_pos rfl]; rfl
 | false => rw [if_neg (by simp)]; rfl
theorem eqb_u64 {a b : UInt64} (h : VT.eqb KU a b = true) : a = b := by
 have h : decide ((a : UInt64) = b) = true := h
 exact of_decide_eq_true h
theorem mget_mem (k : UInt64) : ∀ (m : MapI) (y : ItT), mget KU VI k m = some y → (k, y) ∈ m
 | [], _, h => by cases h
 | p :: r, y, h => by
  unfold mget at h
  cases he : VT.eqb KU k p.1 with
  | true => rw [he] at h; simp only [Option.some.injEq] at h; rw [eqb_u64 he, ← h]; exact List.mem_cons_self
  | false => rw [he] at h; exact List.mem_cons_of_mem _ (mget_mem k r y h)
theorem mput_mem (k : UInt64) (x : ItT) : ∀ (m : MapI) (p : UInt64 × ItT), p ∈ mput KU VI k x m → p ∈ m ∨ p = (k, x)
 | [], p, h => by right; simpa [mput] using h
 | q :: r, p, h => by
  unfold mput at h
  cases he : VT.eqb KU k q.1 with
  | true =>
   rw [he] at h
   rcases List.mem_cons.1 h with h | h
   ·exact .inr h
   ·exact .inl (List.mem_cons_of_mem _ h)
  | false =>
   rw [he] at h
   rcases List.mem_cons.1 h with h | h
   ·exact .inl (h ▸ List.mem_cons_self)
   ·rcases mput_mem k x r p h with h | h
    ·exact .inl (List.mem_cons_of_mem _ h)
    ·exact .inr h
theorem mdel_len (k : UInt64) : ∀ (m : MapI), (mget KU VI k m).isSome = true → (mdel KU VI k m).length + 1 = m.length
 | [], h => by cases h
 | q :: r, h => by
  unfold mget at h
  unfold mdel
  cases he : VT.eqb KU k q.1 with
  | true => rfl
  | false => rw [he] at h; have := mdel_len k r h; simp only [List.length_cons]; omega

theorem peek_none (n : Nat) (w : Int64) (want : UInt64) (m : MapI) (old : UInt64) (hg : mget KU VI want m = none) :
  F54 n (some (w, want, m, old)) = some (((false, 0, 0, 0, [], [], 0, 0, 0, 0, 0, 0, 0), false), some (w, want, m, old)) := by
 unfold F54
 dsimp only [oelim]
 rw [has_eq, obind_s]
 dsimp only
 rw [hg]
 rfl
theorem peek_some (n : Nat) (w : Int64) (want : UInt64) (m : MapI) (old : UInt64) (y : ItT) (hl : y.2.2.2.2.2.1.length ≤ 1000) (hg : mget KU VI want m = some y) :
  F54 n (some (w, want, m, old)) = some ((y, true), some (w, want, m, old)) := by
 have hc := clone_eq n y hl
 obtain ⟨y0, y1, y2, y3, y4, y5, y6, y7, y8, y9, y10, y11, y12⟩ := y
 unfold F54
 dsimp only [oelim]
 rw [has_eq, obind_s]
 dsimp only
 rw [hg]
 dsimp only [Option.isSome, Option.getD]
 simp only [Bool.not_true, oite_f, obind_s]
 rw [hg]
 dsimp only
 rw [hc, obind_s]
theorem u64_succ {a : UInt64} (h : a.toNat < 2 ^ 60) : (a + 1).toNat = a.toNat + 1 := by
 rw [UInt64.toNat_add]
 show (a.toNat + 1) % 2 ^ 64 = _
 omega
theorem u64_ofInt (c : Nat) : UInt64.ofInt (c : Int) = UInt64.ofNat c := by
 apply UInt64.toNat_inj.1
 rw [UInt64.toNat_ofNat']
 simp [UInt64.ofInt]
 omega
abbrev ModT := Int64 × UInt64 × UInt64 × MapI
theorem eqb_dec (a b : UInt64) : VT.eqb KU a b = decide (a = b) := rfl
def VB (h : Nat → Bool) : Nat → Nat → Nat
 | _, 0 => 0
 | j, c + 1 => (if h j then 1 else 0) + 2 * VB h (j + 1) c
theorem VB_lt (h : Nat → Bool) : ∀ c j, VB h j c < 2 ^ c
 | 0, _ => by simp [VB]
 | c + 1, j => by
  have := VB_lt h c (j + 1)
  unfold VB
  rw [Nat.pow_succ]
  split <;> omega
theorem VB_end (h : Nat → Bool) : ∀ c j, VB h j (c + 1) = VB h j c + (if h (j + c) then 2 ^ c else 0)
 | 0, j => by simp [VB]
 | c + 1, j => by
  have := VB_end h c (j + 1)
  rw [VB, this, VB, show j + 1 + c = j + (c + 1) by omega, Nat.pow_succ]
  split <;> split <;> omega
def hb (want : UInt64) (m : MapI) (j : Nat) : Bool := (mget KU VI (want + 1 + UInt64.ofNat j) m).isSome
theorem shl1 {k : Nat} (hk : k < 64) : (IK.shl IntKind.u64 1 ↑(UInt64.toNat (UInt64.ofNat k))).toNat = 2 ^ k := by
 have e : (UInt64.ofNat k).toNat = k := by rw [UInt64.toNat_ofNat']; omega
 unfold IK.shl
 rw [e, Int.toNat_natCast]
 have : min k (IntKind.bits IntKind.u64) = k := by show min k 64 = k; omega
 rw [this]
 have h1 : IK.toInt IntKind.u64 1 * 2 ^ k = ((2 ^ k : Nat) : Int) := by
  show (1 : Int) * 2 ^ k = _
  rw [Int.one_mul]; norm_cast
 rw [h1]
 show (UInt64.ofInt ((2 ^ k : Nat) : Int)).toNat = _
 rw [u64_ofInt, UInt64.toNat_ofNat']
 exact Nat.mod_eq_of_lt (Nat.pow_lt_pow_right (by omega) hk)
theorem or_bit {x k : Nat} (h : x < 2 ^ k) : x ||| 2 ^ k = x + 2 ^ k := by
 have := Nat.two_pow_add_eq_or_of_lt h 1
 rw [Nat.mul_one] at this
 rw [Nat.or_comm, ← this]; omega
theorem real_bits (n : Nat) (w : Int64) (want : UInt64) (m : MapI) (old : UInt64) : ∀ (c k f : Nat) (b : UInt64), k + c = 64 → c < f → b.toNat = VB (hb want m) 0 k →
  F36_R29 n f b (UInt64.ofNat k) (some (w, want, m, old)) = some ((want - 1, UInt64.ofNat (VB (hb want m) 0 64)), some (w, want, m, old)) := by
 intro c
 induction c with
 | zero =>
  intro k f b hk hf hb'
  obtain ⟨f, rfl⟩ : ∃ g, f = g + 1 := ⟨f - 1, by omega⟩
  have : k = 64 := by omega
  subst this
  rw [F36_R29_s]
  unfold F36_L29
  rw [dec_f (by decide), oite_f, obind_s]
  dsimp only
  rw [← hb', UInt64.ofNat_toNat]
 | succ c ih =>
  intro k f b hk hf hb'
  obtain ⟨f, rfl⟩ : ∃ g, f = g + 1 := ⟨f - 1, by omega⟩
  have e : (UInt64.ofNat k).toNat = k := by rw [UInt64.toNat_ofNat']; omega
  have c1 : UInt64.ofNat k < 64 := by rw [UInt64.lt_iff_toNat_lt, e]; show k < 64; omega
  have e2 : UInt64.ofNat k + 1 = UInt64.ofNat (k + 1) := by
   apply UInt64.toNat_inj.1
   rw [UInt64.toNat_add, e, UInt64.toNat_ofNat']; rfl
  have hlt := VB_lt (hb want m) k 0
  rw [F36_R29_s]
  unfold F36_L29
  rw [dec_t c1, oite_t, obind_s]
  dsimp only
  rw [has_eq, obind_s]
  dsimp only
  show oite (hb want m k) _ _ = _
  have hend := VB_end (hb want m) k 0
  rw [Nat.zero_add] at hend
  cases hh : hb want m k with
  | true =>
   rw [oite_t, e2]
   refine ih (k + 1) f _ (by omega) (by omega) ?_
   rw [UInt64.toNat_or, shl1 (by omega), hb', or_bit hlt, hend, hh]; rfl
  | false =>
   rw [oite_f, e2]
   refine ih (k + 1) f _ (by omega) (by omega) ?_
   rw [hb', hend, hh]; rfl
theorem ack_eq (n : Nat) (hn : 100 < n) (w : Int64) (want : UInt64) (m : MapI) (old : UInt64) :
  F36 n (some (w, want, m, old)) = some ((want - 1, UInt64.ofNat (VB (hb want m) 0 64)), some (w, want, m, old)) :=
 real_bits n w want m old 64 0 n 0 (by omega) (by omega) rfl
theorem pig : ∀ (w : Nat) (l : List Nat), l.Nodup → (∀ x ∈ l, x < w) → l.length ≤ w
 | 0, [], _, _ => Nat.le_refl _
 | 0, x :: _, _, h => absurd (h x (by simp)) (by omega)
 | w + 1, l, hn, h => by
  have ih := pig w (l.erase w) (hn.erase w) fun x hx => by
   have h1 := (hn.mem_erase_iff).1 hx
   have := h x h1.2
   omega
  have := List.length_erase (a := w) (l := l)
  rw [this] at ih
  split at ih <;> omega
structure Fine (W : Nat) (want : UInt64) (m : MapI) : Prop where
 nd : (m.map fun p => p.1.toNat).Nodup
 rng : ∀ p ∈ m, want.toNat ≤ p.1.toNat ∧ p.1.toNat < want.toNat + W
 lab : ∀ p ∈ m, p.2.2.2.2.2.2.1.length ≤ 12
theorem Fine.len {W : Nat} {want : UInt64} {m : MapI} (h : Fine W want m) : m.length ≤ W := by
 have := pig W ((m.map fun p => p.1.toNat).map fun k => k - want.toNat) ?_ ?_
 ·simpa using this
 ·have : ∀ l : List Nat, (∀ x ∈ l, want.toNat ≤ x) → l.Nodup → (l.map fun k => k - want.toNat).Nodup := by
   intro l
   induction l with
   | nil => intro _ _; simp
   | cons a r ih =>
    intro h1 h2
    rw [List.nodup_cons] at h2
    rw [List.map_cons, List.nodup_cons]
    refine ⟨fun hm => ?_, ih (fun x hx => h1 x (by simp [hx])) h2.2⟩
    obtain ⟨x, hx, e⟩ := List.mem_map.1 hm
    have e : x - want.toNat = a - want.toNat := e
    have a1 := h1 a (by simp)
    have a2 := h1 x (by simp [hx])
    exact h2.1 (by rw [show a = x by omega]; exact hx)
  refine this _ (fun x hx => ?_) h.nd
  obtain ⟨p, hp, rfl⟩ := List.mem_map.1 hx
  exact (h.rng p hp).1
 ·intro x hx
  simp only [List.map_map, List.mem_map, Function.comp] at hx
  obtain ⟨p, hp, rfl⟩ := hx
  have := h.rng p hp
  omega
theorem mget_none {k : UInt64} : ∀ {m : MapI}, mget KU VI k m = none → ∀ p ∈ m, p.1 ≠ k
 | [], _, p, hp => by cases hp
 | q :: r, h, p, hp => by
  unfold mget at h
  cases he : VT.eqb KU k q.1 with
  | true => rw [he] at h; cases h
  | false =>
   rw [he] at h
   rcases List.mem_cons.1 hp with rfl | hp
   ·intro e
    rw [eqb_dec, e] at he
    simp at he
   ·exact mget_none h p hp
theorem mput_none {k : UInt64} {x : ItT} {m : MapI} (h : mget KU VI k m = none) : mput KU VI k x m = m ++ [(k, x)] := by
 have : Go.Sx.mix KU VI k m = none := by
  cases hm : Go.Sx.mix KU VI k m with
  | none => rfl
  | some j => obtain ⟨p, _, _, h3, _⟩ := mix_some hm; rw [h3] at h; cases h
 rw [(mix_none this).2.1]
theorem Fine.put {W : Nat} {want : UInt64} {m : MapI} (h : Fine W want m) {k : UInt64} {x : ItT} (hg : mget KU VI k m = none) (h1 : want.toNat ≤ k.toNat) (h2 : k.toNat < want.toNat + W) (h3 : x.2.2.2.2.2.1.length ≤ 12) :
  Fine W want (mput KU VI k x m) := by
 rw [mput_none hg]
 refine ⟨?_, ?_, ?_⟩
 ·rw [List.map_append]
  refine List.nodup_append.2 ⟨h.nd, by simp, ?_⟩
  intro a ha b hb e
  obtain ⟨p, hp, rfl⟩ := List.mem_map.1 ha
  simp at hb
  exact mget_none hg p hp (UInt64.toNat_inj.1 (by omega))
 ·intro p hp
  rcases List.mem_append.1 hp with hp | hp
  ·exact h.rng p hp
  ·simp at hp; subst hp; exact ⟨h1, h2⟩
 ·intro p hp
  rcases List.mem_append.1 hp with hp | hp
  ·exact h.lab p hp
  ·simp at hp; subst hp; exact h3
theorem mdel_sub (k : UInt64) : ∀ (m : MapI), (mdel KU VI k m).Sublist m
 | [] => by simp [mdel]
 | q :: r => by
  unfold mdel
  cases he : VT.eqb KU k q.1 with
  | true => exact List.sublist_cons_self q r
  | false => exact (mdel_sub k r).cons_cons q
theorem mdel_ne (k : UInt64) : ∀ (m : MapI), (m.map fun p => p.1.toNat).Nodup → ∀ p ∈ mdel KU VI k m, p.1 ≠ k
 | [], _, p, hp => by cases hp
 | q :: r, hn, p, hp => by
  rw [List.map_cons, List.nodup_cons] at hn
  unfold mdel at hp
  cases he : VT.eqb KU k q.1 with
  | true =>
   rw [he] at hp
   intro e
   refine hn.1 (List.mem_map.2 ⟨p, hp, ?_⟩)
   rw [e, eqb_u64 he]
  | false =>
   rw [he] at hp
   rcases List.mem_cons.1 hp with rfl | hp
   ·intro e
    rw [eqb_dec, e] at he
    simp at he
   ·exact mdel_ne k r hn.2 p hp
theorem Fine.next {W : Nat} {want : UInt64} {m : MapI} (h : Fine W want m) (hw : want.toNat < 2 ^ 60) : Fine W (want + 1) (mdel KU VI want m) := by
 have hs := mdel_sub want m
 refine ⟨(hs.map _).nodup h.nd, fun p hp => ?_, fun p hp => h.lab p (hs.subset hp)⟩
 have h1 := h.rng p (hs.subset hp)
 have h2 := mdel_ne want m h.nd p hp
 have h3 : p.1.toNat ≠ want.toNat := fun e => h2 (UInt64.toNat_inj.1 e)
 rw [u64_succ hw]
 omega
end Rc
end Go.Proofs.Ytfmomnniadlbhaa
