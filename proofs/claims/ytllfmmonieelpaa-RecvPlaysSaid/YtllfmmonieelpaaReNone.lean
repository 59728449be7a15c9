/- The law RecvNone: nil ones; windows that can't be; items that may not be. -/
import Derived.Test.YtllfmmonieelpaaReItem
open Go Go.Sx
namespace Go.Proofs.Ytllfmmonieelpaa
abbrev KU : VT := VT.one (CT.int IntKind.u64)
abbrev VI : VT := VT.agg (CTs.cons CT.bool (CTs.cons (CT.int IntKind.u8) (CTs.cons (CT.int IntKind.u64) (CTs.cons (CT.int IntKind.u64) (CTs.cons CT.str (CTs.cons (CT.ro (CTs.cons CT.str (CTs.cons CT.str CTs.nil))) (CTs.cons (CT.int IntKind.u8) (CTs.cons (CT.int IntKind.u8) (CTs.cons (CT.int IntKind.i64) (CTs.cons (CT.int IntKind.u8) (CTs.cons (CT.int IntKind.u8) (CTs.cons (CT.int IntKind.u64) (CTs.cons (CT.int IntKind.u64) CTs.nil)))))))))))))
abbrev MapI := List (UInt64 × ItT)
abbrev RecT := Int64 × UInt64 × MapI × UInt64
theorem new_eq (n : Nat) (w : Int64) : F8 n w = if 1 ≤ w.toInt ∧ w.toInt ≤ 64 then some ((some (w, 1, [], 0), 0), ()) else some ((none, 19), ()) := by
  unfold F8
  have c1 : ((w < 1) ↔ w.toInt < 1) := Int64.lt_iff_toInt_lt
  have c2 : (((64 : Int64) < w) ↔ 64 < w.toInt) := Int64.lt_iff_toInt_lt
  by_cases h1 : w.toInt < 1
  · rw [dec_t (c1.2 h1), oite_t, if_neg (by omega)]
  · rw [dec_f (fun q => h1 (c1.1 q)), oite_f]
    by_cases h2 : 64 < w.toInt
    · rw [dec_t (c2.2 h2), oite_t, if_neg (by omega)]
    · rw [dec_f (fun q => h2 (c2.1 q)), oite_f, if_pos (by omega)]
theorem clone_eq (n : Nat) (x : ItT) (h : x.2.2.2.2.2.1.length ≤ 1000) : F25 n x = some (x, ()) := by
  unfold F25
  rw [ble_t (by omega), oite_t]
  rfl
theorem has_eq (n : Nat) (r : RecT) (k : UInt64) : F23 n (some r, k) = some ((mget KU VI k r.2.2.1).isSome, some r) := rfl
theorem take_eq (n : Nat) (hn : 20 < n) (w : Int64) (want : UInt64) (m : MapI) (old seq : UInt64) (x : ItT) (N : Nat) (hf : FitI x N) (hl : x.2.2.2.2.2.1.length ≤ 1000) :
    F10 n (some (w, want, m, old), seq, x) =
      if seq < want ∨ (mget KU VI seq m).isSome = true then some (17, some (w, want, m, old + 1))
      else if UInt64.ofInt w.toInt ≤ seq - want then some (19, some (w, want, m, old))
      else if itCheck x = 0 then some (0, some (w, want, mput KU VI seq x m, old)) else some (itCheck x, some (w, want, m, old)) := by
  have h1 := it_eq n N hn x hf
  have h2 := clone_eq n x hl
  obtain ⟨x0, x1, x2, x3, x4, x5, x6, x7, x8, x9, x10, x11, x12⟩ := x
  unfold F10
  dsimp only [oelim]
  rw [ojoinA_eq]
  by_cases hs : seq < want
  · rw [dec_t hs, oite_t, if_pos (.inl hs)]
    rfl
  · rw [dec_f hs, oite_f, has_eq, obind_s]
    dsimp only
    cases hg : (mget KU VI seq m).isSome with
    | true => rw [if_pos (.inr rfl)]; rfl
    | false =>
      rw [if_neg (by simp [hs])]
      unfold F10_J27
      rw [oite_f, obind_s]
      by_cases hw : UInt64.ofInt w.toInt ≤ seq - want
      · rw [dec_t hw, oite_t, if_pos hw]
      · rw [dec_f hw, oite_f, if_neg hw, h1, obind_s]
        by_cases hc : itCheck (x0, x1, x2, x3, x4, x5, x6, x7, x8, x9, x10, x11, x12) = 0
        · rw [dec_t hc, if_pos hc]
          simp only [Bool.not_true, oite_f]
          rw [h2, obind_s]
        · rw [dec_f hc, if_neg hc]
          simp only [Bool.not_false, oite_t]
theorem next_eq (n : Nat) (w : Int64) (want : UInt64) (m : MapI) (old : UInt64) :
    F13 n (some (w, want, m, old)) = if (mget KU VI want m).isSome = true then some (0, some (w, want + 1, mdel KU VI want m, old)) else some (14, some (w, want, m, old)) := by
  unfold F13
  dsimp only [oelim]
  rw [has_eq, obind_s]
  dsimp only
  cases (mget KU VI want m).isSome with
  | true => rw [if_pos rfl]; rfl
  | false => rw [if_neg (by simp)]; rfl
theorem awakeR (m : Nat) : F7 (m + 100) () = some (true, ()) := by kernel_rfl
theorem one_item (n : Nat) (hn : 20 < n) (x : ItT) (hf : FitI x n) (hl : x.2.2.2.2.2.1.length ≤ 1000) :
    ∃ c r, F10 n (some (1, 1, [], 0), 1, x) = some (c, some r) ∧ c = itCheck x ∧ ∃ q, F13 n (some r) = some q ∧ (decide (q.1 = 0) == decide (itCheck x = 0)) = true := by
  rw [take_eq n hn 1 1 [] 0 1 x n hf hl, if_neg (by decide), if_neg (by decide)]
  by_cases hc : itCheck x = 0
  · rw [if_pos hc]
    refine ⟨_, _, rfl, hc.symm, ?_⟩
    rw [next_eq, if_pos (by rfl)]
    exact ⟨_, rfl, by rw [hc]; rfl⟩
  · rw [if_neg hc]
    refine ⟨_, _, rfl, rfl, ?_⟩
    rw [next_eq, if_neg (by decide)]
    exact ⟨_, rfl, by rw [dec_f hc]; rfl⟩
theorem none_end (n : Nat) (hn : 20 < n) (seq : UInt64) (x0 x1 x2 x3 x4 x5 x6 x7 x8 x9 x10 x11 x12 : _) (hf : FitI (x0, x1, x2, x3, x4, x5, x6, x7, x8, x9, x10, x11, x12) n) (hl : x5.length ≤ 1000) :
    (obind (F10 n (none, seq, x0, x1, x2, x3, x4, x5, x6, x7, x8, x9, x10, x11, x12)) fun x_8 => oite (decide (x_8.1 = 1)) (obind (F13 n none) fun x_9 => oite (decide (x_9.1 = 1)) (oite (!false) (oite (decide ((0 : UInt64) + 0 + 0 + 0 = 0)) (oite (decide ((0 : Int64) = 0)) (obind (F10 n (some (1, 1, [], 0), 1, x0, x1, x2, x3, x4, x5, x6, x7, x8, x9, x10, x11, x12)) fun x_10 => oite (decide (x_10.1 = itCheck (x0, x1, x2, x3, x4, x5, x6, x7, x8, x9, x10, x11, x12))) (obind (F13 n x_10.2) fun x_11 => some (decide (x_11.1 = 0) == decide (itCheck (x0, x1, x2, x3, x4, x5, x6, x7, x8, x9, x10, x11, x12) = 0), ())) (some (false, ()))) (some (false, ()))) (some (false, ()))) (some (false, ()))) (some (false, ()))) (some (false, ()))) = (some (true, ()) : Option (Bool × Unit)) := by
  obtain ⟨c, r, h1, h2, q, h3, h4⟩ := one_item n hn (x0, x1, x2, x3, x4, x5, x6, x7, x8, x9, x10, x11, x12) hf hl
  have e1 : F10 n (none, seq, x0, x1, x2, x3, x4, x5, x6, x7, x8, x9, x10, x11, x12) = some (1, none) := rfl
  have e2 : F13 n none = some (1, none) := rfl
  rw [e1, obind_s]
  simp only [decide_true, oite_t]
  rw [e2, obind_s]
  simp only [decide_true, oite_t, Bool.not_false]
  rw [dec_t (show (0 : UInt64) + 0 + 0 + 0 = 0 from rfl), oite_t, h1, obind_s]
  dsimp only
  rw [dec_t h2, oite_t, h3, obind_s, h4]
theorem none_law (n : Nat) (hn : 20 < n) (w : Int64) (seq : UInt64) (x : ItT) (hx : x.2.2.2.2.2.1.length < 2 ^ 63) (hf : FitI x (n + 100)) : F6 (n + 100) (w, seq, x) = some (true, ()) := by
  have hr := rit_eq (n + 100) (by omega) x hf
  have hend := none_end (n + 100) (by omega) seq
  obtain ⟨x0, x1, x2, x3, x4, x5, x6, x7, x8, x9, x10, x11, x12⟩ := x
  have hend := hend x0 x1 x2 x3 x4 x5 x6 x7 x8 x9 x10 x11 x12 hf
  dsimp only at hx
  unfold F6
  dsimp only
  rw [awakeR, obind_s]
  simp only [Bool.not_true, oite_f]
  by_cases hl : 12 < x5.length
  · have c : (12 : Int64) < Int64.ofInt ↑(List.length x5) := (i64_lt (a := 12) (by omega) hx).2 hl
    rw [dec_t c, oite_t]
  · have c : ¬ (12 : Int64) < Int64.ofInt ↑(List.length x5) := fun q => hl ((i64_lt (a := 12) (by omega) hx).1 q)
    have hend := hend (by omega)
    have e3 : F11 (n + 100) none = some (((false, 0, 0, 0, [], [], 0, 0, 0, 0, 0, 0, 0), false), none) := rfl
    have e4 : F17 (n + 100) none = some ((0, 0), none) := rfl
    have e5 : F18 (n + 100) none = some ((0, 0, 0), none) := rfl
    have c1 : (((1 : Int64) ≤ w) ↔ 1 ≤ w.toInt) := Int64.le_iff_toInt_le
    have c2 : ((w ≤ (64 : Int64)) ↔ w.toInt ≤ 64) := Int64.le_iff_toInt_le
    have hw1 : F8 (n + 100) 1 = some ((some (1, 1, [], 0), 0), ()) := by rw [new_eq, if_pos (by decide)]
    have good : 1 ≤ w.toInt ∧ w.toInt ≤ 64 → ∀ r, F6_J511 (n + 100) seq 0 false 0 0 0 0 0 true x0 x1 x2 x3 x4 x5 x6 x7 x8 x9 x10 x11 x12 r = some (true, ()) := fun h r => by
      unfold F6_J511
      rw [hw1, obind_s, hr, obind_s]
      simp only [decide_true, beq_self_eq_true, oite_t]
      exact hend
    have bad : ∀ b : Bool, b = false → F6_J511 (n + 100) seq 19 false 0 0 0 0 0 b x0 x1 x2 x3 x4 x5 x6 x7 x8 x9 x10 x11 x12 none = some (true, ()) := fun b hb => by
      subst hb
      unfold F6_J511
      rw [hw1, obind_s, hr, obind_s]
      have : (decide ((19 : Int64) = 0) == false) = true := by decide
      rw [this, oite_t, oite_f, dec_t (show (19 : Int64) = 19 from rfl), oite_t]
      exact hend
    rw [dec_f c, oite_f, new_eq]
    by_cases h : 1 ≤ w.toInt ∧ w.toInt ≤ 64
    · rw [if_pos h, obind_s, e3, obind_s, e4, obind_s, e5, obind_s, ojoinA_eq, dec_t (c1.2 h.1), oite_t, dec_t (c2.2 h.2)]
      exact good h _
    · rw [if_neg h, obind_s, e3, obind_s, e4, obind_s, e5, obind_s, ojoinA_eq]
      by_cases h1 : 1 ≤ w.toInt
      · rw [dec_t (c1.2 h1), oite_t]
        exact bad _ (dec_f fun q => h ⟨h1, c2.1 q⟩)
      · rw [dec_f (fun q => h1 (c1.1 q)), oite_f]
        exact bad false rfl
theorem none_true : ∀ x : sig6.In, PTys.fits sig6.ps x → ∃ n y, F6 n x = some y ∧ PTys.hd (.one (.c .bool)) .nil y.1 = true := by
  rintro ⟨w, seq, x⟩ h
  have hf := fit_in x 100 h.2.2.1
  have hl := h.2.2.1
  simp only [PTy.fits, CTs.fits, CT.fits] at hl
  refine ⟨_, _, none_law (x.2.2.2.2.1.length + sumL x.2.2.2.2.2.1 + 30) (by omega) w seq x hl.2.2.2.2.2.1.1 ?_, rfl⟩
  have e : x.2.2.2.2.1.length + sumL x.2.2.2.2.2.1 + 30 + 100 = x.2.2.2.2.1.length + sumL x.2.2.2.2.2.1 + 100 + 30 := by omega
  rw [e]; exact hf
end Go.Proofs.Ytllfmmonieelpaa
