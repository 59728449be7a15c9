/- The law SessNone: nil ones; ends, lives that can't be. -/
import Derived.Test.YtfmomnniadlbhaaFnsC
import Derived.Test.YtfmomnniadlbhaaSxPlain
open Go Go.Sx
namespace Go.Proofs.Ytfmomnniadlbhaa
set_option maxRecDepth 100000
theorem two {α : Type} (q : Bool) (l r : Option ((Option α × Int64) × Unit)) (hl : ∃ o c, l = some ((o, c), ()) ∧ o.isSome = decide (c = 0)) (hr : ∃ o c, r = some ((o, c), ()) ∧ o.isSome = decide (c = 0)) : ∃ o c, oite q l r = some ((o, c), ()) ∧ o.isSome = decide (c = 0) := by
  cases q with
  | false => exact hr
  | true => exact hl
theorem f12 (n : Nat) (w : Int64) (a b : UInt64) : ∃ o c, F12 n (w, a, b) = some ((o, c), ()) ∧ o.isSome = decide (c = 0) := by
  unfold F12
  dsimp only
  exact two _ _ _ ⟨_, _, rfl, rfl⟩ (two _ _ _ ⟨_, _, rfl, rfl⟩ (two _ _ _ ⟨_, _, rfl, rfl⟩ (two _ _ _ ⟨_, _, rfl, rfl⟩ (two _ _ _ ⟨_, _, rfl, rfl⟩ ⟨_, _, rfl, rfl⟩))))
theorem f13 (n : Nat) (w : Int64) : ∃ o c, F13 n w = some ((o, c), ()) ∧ o.isSome = decide (c = 0) := by
  unfold F13
  exact two _ _ _ ⟨_, _, rfl, rfl⟩ (two _ _ _ ⟨_, _, rfl, rfl⟩ ⟨_, _, rfl, rfl⟩)
theorem top8 (s : UInt8) : decide ((31 : UInt8) < s) = decide ((32 : UInt8) ≤ s) := by
  rw [decide_eq_decide, UInt8.lt_iff_toNat_lt, UInt8.le_iff_toNat_le]
  have h1 : (31 : UInt8).toNat = 31 := rfl
  have h2 : (32 : UInt8).toNat = 32 := rfl
  omega
theorem top64 (s : UInt64) : decide ((1048575 : UInt64) < s) = decide ((1048576 : UInt64) ≤ s) := by
  rw [decide_eq_decide, UInt64.lt_iff_toNat_lt, UInt64.le_iff_toNat_le]
  have h1 : (1048575 : UInt64).toNat = 1048575 := rfl
  have h2 : (1048576 : UInt64).toNat = 1048576 := rfl
  omega
theorem nones (n : Nat) (f0 : UInt8) (f1 f2 : UInt8) (f3 f4 : UInt64) (f5 : Bool) (f6 : UInt8) (f7 f8 : UInt64) (f9 : List UInt8) (f10 : List (List UInt8 × List UInt8)) (f11 f12 : UInt8) (f13 : Int64) (f14 f15 : UInt8) (f16 f17 f18 f19 f20 : UInt64) :
    F4_J16383 n 1 false f0 f1 f2 f3 f4 f5 f6 f7 f8 f9 f10 f11 f12 f13 f14 f15 f16 f17 f18 f19 f20 = some (true, ()) := rfl
theorem judge (n : Nat) (self peer : UInt8) (life : UInt64) (code want other t0 : Int64) (t1 t2 : UInt64) (f0 : UInt8) (f1 f2 : UInt8) (f3 f4 : UInt64) (f5 : Bool) (f6 : UInt8) (f7 f8 : UInt64) (f9 : List UInt8) (f10 : List (List UInt8 × List UInt8)) (f11 f12 : UInt8) (f13 : Int64) (f14 f15 : UInt8) (f16 f17 f18 f19 f20 : UInt64)
    {o1 o2} (h1 : F9 n (self, peer, life, t0, t1, t2) = some ((o1, want), ())) (g1 : o1.isSome = decide (want = 0)) (h2 : F14 n (self, peer, life, t0) = some ((o2, other), ())) (g2 : o2.isSome = decide (other = 0)) (h3 : F16 n (t0, t1, t2) = some (code, ())) :
    F4_J127 n self peer life code want other t0 t1 t2 f0 f1 f2 f3 f4 f5 f6 f7 f8 f9 f10 f11 f12 f13 f14 f15 f16 f17 f18 f19 f20 = some (true, ()) := by
  have e10 : F10 n (none, f0, f1, f2, f3, f4, f5, f6, f7, f8, f9, f10, f11, f12, f13, f14, f15, f16, f17, f18, f19, f20) = some ((0, 1), none) := rfl
  have e15 : ∃ y, F15 n none = some ((y, false), none) := ⟨_, rfl⟩
  obtain ⟨y, e15⟩ := e15
  unfold F4_J127
  rw [h1, obind_s, h2, obind_s, e10, obind_s, e15, obind_s]
  dsimp only
  rw [ojoinA_eq]
  have e1 : (!decide (want = want)) = false := by rw [dec_t rfl]; rfl
  have e2 : (!decide (other = other)) = false := by rw [dec_t rfl]; rfl
  have e3 : (!decide (code = code)) = false := by rw [dec_t rfl]; rfl
  rw [e1, oite_f, e2, oite_f, h3, obind_s]
  dsimp only
  rw [e3, oite_f, ← g1, ← g2]
  cases o1 <;> cases o2 <;> exact nones n f0 f1 f2 f3 f4 f5 f6 f7 f8 f9 f10 f11 f12 f13 f14 f15 f16 f17 f18 f19 f20
theorem none4 (n : Nat) (x : sig4.In) : F4 n x = some (true, ()) := by
  obtain ⟨self, peer, life, ⟨t0, t1, t2⟩, f0, f1, f2, f3, f4, f5, f6, f7, f8, f9, f10, f11, f12', f13', f14, f15, f16, f17, f18, f19, f20⟩ := x
  have e8 : F8 n () = some (true, ()) := rfl
  unfold F4
  dsimp only
  rw [e8, obind_s]
  have e0 : (!(true, ()).1) = false := rfl
  rw [e0, oite_f]
  cases decide ((12 : Int64) < I64 (List.length f10)) with
  | true => rfl
  | false =>
    obtain ⟨o, c, h12, g12⟩ := f12 n t0 t1 t2
    obtain ⟨p, d, h13, g13⟩ := f13 n t0
    have h16 : F16 n (t0, t1, t2) = some (c, ()) := by unfold F16; dsimp only; rw [h12, obind_s]
    rw [oite_f, h12, obind_s, h13, obind_s]
    dsimp only
    rw [ojoinA_eq, top8, top8, top64]
    cases k1 : decide ((32 : UInt8) ≤ self) with
    | true => exact judge n _ _ _ _ _ _ _ _ _ _ _ _ _ _ _ _ _ _ _ _ _ _ _ _ _ _ _ _ _ _ (o1 := none) (o2 := none) (by unfold F9; dsimp only; rw [k1]; rfl) rfl (by unfold F14; dsimp only; rw [k1]; rfl) rfl h16
    | false =>
    rw [oite_f]
    cases k2 : decide ((32 : UInt8) ≤ peer) with
    | true => exact judge n _ _ _ _ _ _ _ _ _ _ _ _ _ _ _ _ _ _ _ _ _ _ _ _ _ _ _ _ _ _ (o1 := none) (o2 := none) (by unfold F9; dsimp only; rw [k1, k2]; rfl) rfl (by unfold F14; dsimp only; rw [k1, k2]; rfl) rfl h16
    | false =>
    rw [oite_f]
    cases k3 : decide (self = peer) with
    | true => exact judge n _ _ _ _ _ _ _ _ _ _ _ _ _ _ _ _ _ _ _ _ _ _ _ _ _ _ _ _ _ _ (o1 := none) (o2 := none) (by unfold F9; dsimp only; rw [k1, k2, k3]; rfl) rfl (by unfold F14; dsimp only; rw [k1, k2, k3]; rfl) rfl h16
    | false =>
    rw [oite_f]
    cases k4 : decide (life < 1) with
    | true => exact judge n _ _ _ _ _ _ _ _ _ _ _ _ _ _ _ _ _ _ _ _ _ _ _ _ _ _ _ _ _ _ (o1 := none) (o2 := none) (by unfold F9; dsimp only; rw [k1, k2, k3, k4]; rfl) rfl (by unfold F14; dsimp only; rw [k1, k2, k3, k4]; rfl) rfl h16
    | false =>
    rw [oite_f]
    cases k5 : decide ((1048576 : UInt64) ≤ life) with
    | true => exact judge n _ _ _ _ _ _ _ _ _ _ _ _ _ _ _ _ _ _ _ _ _ _ _ _ _ _ _ _ _ _ (o1 := none) (o2 := none) (by unfold F9; dsimp only; rw [k1, k2, k3, k4, k5]; rfl) rfl (by unfold F14; dsimp only; rw [k1, k2, k3, k4, k5]; rfl) rfl h16
    | false =>
    rw [oite_f]
    have h9 : ∃ o1, F9 n (self, peer, life, t0, t1, t2) = some ((o1, c), ()) ∧ o1.isSome = decide (c = 0) := by
      unfold F9
      dsimp only
      rw [k1, k2, k3, k4, k5, oite_f, oite_f, oite_f, oite_f, oite_f, h16, obind_s]
      dsimp only
      by_cases hc : c = 0
      · have e1 : (!decide (c = 0)) = false := by rw [dec_t hc]; rfl
        rw [e1, oite_f]
        unfold F18
        rw [oelim_s]
        dsimp only
        have e2 : decide ((1048576 : UInt64) ≤ 0 + 1) = false := rfl
        rw [e2, oite_f, h12, obind_s, obind_s]
        exact ⟨_, rfl, by rw [dec_t hc]; rfl⟩
      · have e1 : (!decide (c = 0)) = true := by rw [dec_f hc]; rfl
        rw [e1, oite_t]
        exact ⟨none, rfl, by rw [dec_f hc]; rfl⟩
    have h14 : ∃ o2, F14 n (self, peer, life, t0) = some ((o2, d), ()) ∧ o2.isSome = decide (d = 0) := by
      unfold F14
      dsimp only
      rw [k1, k2, k3, k4, k5, oite_f, oite_f, oite_f, oite_f, oite_f, h13, obind_s]
      dsimp only
      by_cases hc : d = 0
      · have e1 : (!decide (d = 0)) = false := by rw [dec_t hc]; rfl
        rw [e1, oite_f, hc]
        exact ⟨_, rfl, rfl⟩
      · have e1 : (!decide (d = 0)) = true := by rw [dec_f hc]; rfl
        rw [e1, oite_t]
        exact ⟨none, rfl, by rw [dec_f hc]; rfl⟩
    obtain ⟨o1, a1, a2⟩ := h9
    obtain ⟨o2, b1, b2⟩ := h14
    exact judge n _ _ _ _ _ _ _ _ _ _ _ _ _ _ _ _ _ _ _ _ _ _ _ _ _ _ _ _ _ _ a1 a2 b1 b2 h16
theorem truth4 : ∀ x, PTys.fits sig4.ps x → ∃ n y, F4 n x = some y ∧ PTys.hd (.one (.c .bool)) .nil y.1 = true := fun x _ => ⟨1000, _, none4 1000 x, rfl⟩
end Go.Proofs.Ytfmomnniadlbhaa
