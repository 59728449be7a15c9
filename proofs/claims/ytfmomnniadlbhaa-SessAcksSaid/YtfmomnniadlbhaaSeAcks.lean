/- The law SessAcks: any frame as an answer: which error, whether a new session begins. -/
import Derived.Test.YtfmomnniadlbhaaSeFns1
import Derived.Test.YtfmomnniadlbhaaSxPlain
open Go Go.Sx
namespace Go.Proofs.Ytfmomnniadlbhaa
abbrev Snd := Int64 × UInt64 × UInt64 × UInt64 × UInt64 × List (UInt64 × UInt64 × UInt64 × UInt64 × Bool × Bool) × UInt64 × UInt64
def S0 : Snd := (4, 1, 2, 0, 1, [], 0, 0)
abbrev OutT := UInt8 × UInt8 × Int64 × UInt64 × UInt64 × UInt64 × UInt64 × UInt64 × Option Snd
def oS (session other : UInt64) : OutT := (1, 0, 4, 1, 2, 3, session, other, some S0)
theorem new0 (n : Nat) : F9 n (1, 0, 3, 4, 1, 2) = some ((some (oS 1 0), 0), ()) := by kernel_rfl
theorem epoch0 (n : Nat) (s o : UInt64) : F11 n (some (oS s o)) = some (3145728 ||| s, some (oS s o)) := by kernel_rfl
theorem ack0 (n : Nat) (cum bits : UInt64) : F35 (n + 1) (some S0, cum, bits) = some ((0, if (1 : UInt64) ≤ cum then 6 else 0), some S0) := by
  by_cases h : (1 : UInt64) ≤ cum
  · unfold F35 S0
    dsimp only [oelim]
    rw [dec_t h, oite_t, if_pos h]
  · unfold F35 S0
    dsimp only [oelim]
    rw [dec_f h, oite_f, if_neg h]
    rfl
theorem restart (n : Nat) (s o : UInt64) (hs : s.toNat < 1000) : F18 n (some (oS s o)) = some (0, some (oS (s + 1) o)) := by
  unfold F18 oS
  dsimp only [oelim]
  have : ¬ ((1048576 : UInt64) ≤ s + 1) := by
    rw [UInt64.le_iff_toNat_le, UInt64.toNat_add]
    show ¬ (1048576 ≤ (s.toNat + 1) % 2 ^ 64)
    omega
  rw [dec_f this, oite_f]
  rfl
theorem step (n : Nat) (s o life : UInt64) (hs : s.toNat < 1000) :
    F10 (n + 1) (some (oS s o), 2, 0, 1, 3145728 ||| s, 0, false, 0, 0, 0, [], [], 0, 0, 0, 0, 0, 0, 0, 0, 0, life) =
      if life < o then some ((0, 17), some (oS s o)) else if o ≠ 0 ∧ o < life then some ((0, 18), some (oS (s + 1) life)) else some ((0, 0), some (oS s life)) := by
  have hr := restart (n + 1) s life hs
  have ha := ack0 n 0 0
  unfold F10
  dsimp only [oelim]
  rw [ojoinA_eq]
  have he := epoch0 (n + 1) s o
  unfold oS at he hr ⊢
  dsimp only
  simp only [decide_true, Bool.not_true, oite_f]
  rw [he, obind_s]
  dsimp only
  simp only [decide_true, Bool.not_true, oite_f, obind_s]
  by_cases h1 : life < o
  · rw [dec_t h1, oite_t, if_pos h1]
  · rw [dec_f h1, oite_f, if_neg h1]
    have hJ : F10_J3 (n + 1) 1 0 4 1 2 3 s o 2 0 1 (3145728 ||| s) 0 false 0 0 0 [] [] 0 0 0 0 0 0 0 0 0 life (some S0) = some ((0, 0), some (1, 0, 4, 1, 2, 3, s, life, some S0)) := by
      unfold F10_J3
      rw [ha]
      rfl
    by_cases h2 : o = 0
    · rw [dec_t h2, if_neg (by simp [h2])]
      simp only [Bool.not_true, oite_f]
      exact hJ
    · rw [dec_f h2]
      simp only [Bool.not_false, oite_t]
      by_cases h3 : o < life
      · rw [dec_t h3, oite_t, if_pos ⟨h2, h3⟩, hr, obind_s]
        rfl
      · rw [dec_f h3, oite_f, if_neg (fun h => h3 h.2)]
        exact hJ

theorem byte6 (x : UInt8) : ((1 : UInt64) + UInt64.ofInt ↑(UInt8.toNat (x % 6))).toNat = 1 + x.toNat % 6 := by
  have h : (UInt64.ofInt ↑(UInt8.toNat (x % 6))).toNat = x.toNat % 6 := by
    rw [UInt8.toNat_mod]
    show (UInt64.ofInt ((x.toNat % 6 : Nat) : Int)).toNat = _
    have : UInt64.ofInt ((x.toNat % 6 : Nat) : Int) = UInt64.ofNat (x.toNat % 6) := by
      apply UInt64.toNat_inj.1
      rw [UInt64.toNat_ofNat']
      simp [UInt64.ofInt]
      omega
    rw [this, UInt64.toNat_ofNat']
    omega
  rw [UInt64.toNat_add, h]
  show (1 + x.toNat % 6) % 2 ^ 64 = _
  omega
theorem after (n : Nat) (rec : Arr [PT.int IntKind.u64, PT.int IntKind.u64, PT.list (CTs.cons (CT.int IntKind.u8) CTs.nil), PT.int IntKind.i64, PT.int IntKind.i64, PT.opt (OTs.cons (OT.c (CT.int IntKind.u8)) (OTs.cons (OT.c (CT.int IntKind.u8)) (OTs.cons (OT.c (CT.int IntKind.i64)) (OTs.cons (OT.c (CT.int IntKind.u64)) (OTs.cons (OT.c (CT.int IntKind.u64)) (OTs.cons (OT.c (CT.int IntKind.u64)) (OTs.cons (OT.c (CT.int IntKind.u64)) (OTs.cons (OT.c (CT.int IntKind.u64)) (OTs.cons (OT.ptr (OTs.cons (OT.c (CT.int IntKind.i64)) (OTs.cons (OT.c (CT.int IntKind.u64)) (OTs.cons (OT.c (CT.int IntKind.u64)) (OTs.cons (OT.c (CT.int IntKind.u64)) (OTs.cons (OT.c (CT.int IntKind.u64)) (OTs.cons (OT.row (CTs.cons (CT.int IntKind.u64) (CTs.cons (CT.int IntKind.u64) (CTs.cons (CT.int IntKind.u64) (CTs.cons (CT.int IntKind.u64) (CTs.cons CT.bool (CTs.cons CT.bool CTs.nil))))))) (OTs.cons (OT.c (CT.int IntKind.u64)) (OTs.cons (OT.c (CT.int IntKind.u64)) OTs.nil))))))))) OTs.nil)))))))))] (Option (Bool × Unit)))
    (seen session other : UInt64) (e : Int64) (t : List UInt8) (t1 t2 : Int64) :
    F3_J523631 n rec seen session e e t t1 t2 (some (oS session other)) = rec seen session t t1 (t2 + 1) (some (oS session other)) := by
  unfold F3_J523631
  simp only [decide_true, Bool.not_true, oite_f]
  rw [epoch0, obind_s]
  simp only [decide_true, Bool.not_true, oite_f]
theorem acks_loop (n : Nat) (t : List UInt8) (ht : t.length ≤ 10) : ∀ (m k : Nat) (seen session : UInt64), k ≤ t.length → t.length - k < m → session.toNat ≤ 1 + k →
    F3_R2045 (n + 1) m seen session t (I64 t.length) (I64 k) (some (oS session seen)) = some (true, ()) := by
  intro m
  induction m with
  | zero => intro k seen session _ h _; omega
  | succ m ih =>
    intro k seen session hk hm hs
    rw [F3_R2045_s]
    unfold F3_L2045
    by_cases hlt : k < t.length
    · rw [dec_t ((i64_lt (by omega) (by omega)).2 hlt), oite_t, at_i64_lt (by omega) hlt, obind_s]
      generalize hl : (1 : UInt64) + UInt64.ofInt ↑(UInt8.toNat (t[k] % 6)) = life
      have hb : 1 ≤ life.toNat := by rw [← hl, byte6]; omega
      have hst := step n session seen life (by omega)
      have nxt : ∀ (seen' session' other : UInt64) (e : Int64), session'.toNat ≤ 1 + (k + 1) → other = seen' →
          F3_J523631 (n + 1) (F3_R2045 (n + 1) m) seen' session' e e t (I64 t.length) (I64 k) (some (oS session' other)) = some (true, ()) := by
        intro seen' session' other e h1 h2
        subst h2
        rw [after, i64_succ]
        exact ih (k + 1) _ _ (by omega) (by omega) h1
      by_cases h1 : life < seen
      · rw [if_pos h1] at hst
        rw [hst, obind_s, ojoinA_eq, dec_t h1, oite_t]
        exact nxt seen session seen 17 (by omega) rfl
      · rw [if_neg h1] at hst
        by_cases h2 : seen = 0
        · rw [if_neg (fun h => h.1 h2)] at hst
          rw [hst, obind_s, ojoinA_eq, dec_f h1, oite_f, dec_f (by rw [h2]; decide), oite_f]
          exact nxt life session life 0 (by omega) rfl
        · have h0 : (0 : UInt64) < seen := by
            rw [UInt64.lt_iff_toNat_lt]
            rcases Nat.eq_zero_or_pos seen.toNat with h | h
            · exact absurd (UInt64.toNat_inj.1 h) h2
            · exact h
          by_cases h3 : seen < life
          · rw [if_pos ⟨h2, h3⟩] at hst
            rw [hst, obind_s, ojoinA_eq, dec_f h1, oite_f, dec_t h0, oite_t, dec_t h3, oite_t]
            refine nxt life (session + 1) life 18 ?_ rfl
            rw [UInt64.toNat_add]
            show (session.toNat + 1) % 2 ^ 64 ≤ _
            omega
          · rw [if_neg (fun h => h3 h.2)] at hst
            rw [hst, obind_s, ojoinA_eq, dec_f h1, oite_f, dec_t h0, oite_t, dec_f h3, oite_f]
            exact nxt life session life 0 (by omega) rfl
    · rw [dec_f (fun q => hlt ((i64_lt (by omega) (by omega)).1 q)), oite_f]
theorem lives_ok (n : Nat) (hn : 20 < n) (t : List UInt8) (ht : t.length ≤ 10) : F3_J63 n t = some (true, ()) := by
  obtain ⟨n, rfl⟩ : ∃ m, n = m + 1 := ⟨n - 1, by omega⟩
  unfold F3_J63
  rw [new0, obind_s]
  exact acks_loop n t ht (n + 1) 0 0 1 (by omega) (by omega) (by decide)
theorem first (n : Nat) (f0 f1 f2 : UInt8) (f3 f4 : UInt64) {f5 f6 f7 f8 f9 f10 f11 f12 f13 f14 f15 f16 f17 f18 f19 f20 : _} :
    ∃ y, F10 (n + 1) (some (oS 1 0), f0, f1, f2, f3, f4, f5, f6, f7, f8, f9, f10, f11, f12, f13, f14, f15, f16, f17, f18, f19, f20) = some y ∧ (f0 ≠ 2 → y.1.2 = 12) ∧ (f0 = 2 → (f1 ≠ 0 ∨ f2 ≠ 1) → y.1.2 = 21) ∧ (f0 = 2 → f1 = 0 → f2 = 1 → f3 ≠ 3145729 → y.1.2 = 17) := by
  unfold F10
  dsimp only [oelim]
  rw [ojoinA_eq]
  have he := epoch0 (n + 1) 1 0
  unfold oS at he ⊢
  dsimp only
  by_cases h0 : f0 = 2
  · rw [dec_t h0]
    simp only [Bool.not_true, oite_f]
    by_cases h1 : f1 = 0
    · rw [dec_t h1]
      simp only [Bool.not_true, oite_f]
      by_cases h2 : f2 = 1
      · rw [dec_t h2]
        simp only [Bool.not_true, oite_f]
        rw [he, obind_s]
        dsimp only
        have e3 : (3145728 : UInt64) ||| 1 = 3145729 := by decide
        rw [e3]
        by_cases h3 : f3 = 3145729
        · rw [dec_t h3]
          simp only [Bool.not_true, oite_f, obind_s]
          have e4 : decide (f20 < (0 : UInt64)) = false := dec_f (by rw [UInt64.lt_iff_toNat_lt]; exact Nat.not_lt_zero _)
          rw [e4, oite_f]
          simp only [decide_true, Bool.not_true, oite_f]
          unfold F10_J3
          have ha := ack0 n f18 f19
          unfold S0 at ha ⊢
          rw [ha, obind_s]
          exact ⟨_, rfl, fun h => absurd h0 h, fun _ h => by rcases h with h | h; exact absurd h1 h; exact absurd h2 h, fun _ _ _ h => absurd h3 h⟩
        · rw [dec_f h3]
          simp only [Bool.not_false, oite_t]
          exact ⟨_, rfl, fun h => absurd h0 h, fun _ h => by rcases h with h | h; exact absurd h1 h; exact absurd h2 h, fun _ _ _ _ => rfl⟩
      · rw [dec_f h2]
        simp only [Bool.not_false, oite_t]
        exact ⟨_, rfl, fun h => absurd h0 h, fun _ _ => rfl, fun _ _ h => absurd h h2⟩
    · rw [dec_f h1]
      simp only [Bool.not_false, oite_t]
      exact ⟨_, rfl, fun h => absurd h0 h, fun _ _ => rfl, fun _ h => absurd h h1⟩
  · rw [dec_f h0]
    simp only [Bool.not_false, oite_t]
    exact ⟨_, rfl, fun _ => rfl, fun h => absurd h h0, fun h => absurd h h0⟩

theorem awakeA (n : Nat) : F8 n () = some (true, ()) := by kernel_rfl
theorem acks_law (f : sig3.In) (h1 : f.1.2.2.2.2.2.2.2.2.2.2.1.length < 2 ^ 63) (h2 : f.2.2.length < 2 ^ 63) : F3 100 f = some (true, ()) := by
  obtain ⟨⟨f0, f1, f2, f3, f4, f5, f6, f7, f8, f9, f10, f11, f12, f13, f14, f15, f16, f17, f18, f19, f20⟩, k, lives⟩ := f
  dsimp only at h1 h2
  unfold F3
  dsimp only
  rw [awakeA, obind_s]
  simp only [Bool.not_true, oite_f]
  by_cases hl : 12 < f10.length
  · have c : (12 : Int64) < Int64.ofInt ↑(List.length f10) := (i64_lt (a := 12) (by omega) h1).2 hl
    rw [dec_t c, oite_t]
  · have c : ¬ (12 : Int64) < Int64.ofInt ↑(List.length f10) := fun q => hl ((i64_lt (a := 12) (by omega) h1).1 q)
    rw [dec_f c, oite_f]
    by_cases hv : 10 < lives.length
    · have c : (10 : Int64) < Int64.ofInt ↑(List.length lives) := (i64_lt (a := 10) (by omega) h2).2 hv
      rw [dec_t c, oite_t]
    · have c : ¬ (10 : Int64) < Int64.ofInt ↑(List.length lives) := fun q => hv ((i64_lt (a := 10) (by omega) h2).1 q)
      rw [dec_f c, oite_f]
      have hJ := lives_ok 100 (by omega) lives (by omega)
      obtain ⟨y, q1, q2, q3, q4⟩ := first 99 f0 f1 f2 f3 f4 (f5 := f5) (f6 := f6) (f7 := f7) (f8 := f8) (f9 := f9) (f10 := f10) (f11 := f11) (f12 := f12) (f13 := f13) (f14 := f14) (f15 := f15) (f16 := f16) (f17 := f17) (f18 := f18) (f19 := f19) (f20 := f20)
      rw [new0, obind_s]
      dsimp only
      rw [q1, obind_s, ojoinA_eq]
      by_cases g0 : f0 = 2
      · rw [dec_t g0]
        simp only [Bool.not_true, oite_f]
        by_cases g1 : f1 = 0
        · rw [dec_t g1]
          simp only [Bool.not_true, oite_f]
          by_cases g2 : f2 = 1
          · rw [dec_t g2]
            simp only [Bool.not_true, oite_f]
            by_cases g3 : f3 = 3145729
            · rw [dec_t g3]
              simp only [Bool.not_true, oite_f]
              exact hJ
            · rw [dec_f g3]
              simp only [Bool.not_false, oite_t]
              rw [dec_t (q4 g0 g1 g2 g3)]
              simp only [Bool.not_true, oite_f]
              exact hJ
          · rw [dec_f g2]
            simp only [Bool.not_false, oite_t]
            rw [dec_t (q3 g0 (.inr g2))]
            simp only [Bool.not_true, oite_f]
            exact hJ
        · rw [dec_f g1]
          simp only [Bool.not_false, oite_t]
          rw [dec_t (q3 g0 (.inl g1))]
          simp only [Bool.not_true, oite_f]
          exact hJ
      · rw [dec_f g0]
        simp only [Bool.not_false, oite_t]
        rw [dec_t (q2 g0)]
        simp only [Bool.not_true, oite_f]
        exact hJ
theorem acks_true : ∀ x : sig3.In, PTys.fits sig3.ps x → ∃ y, F3 100 x = some y ∧ PTys.hd (.one (.c .bool)) .nil y.1 = true := fun x h => by
  refine ⟨_, acks_law x ?_ ?_, rfl⟩
  · have := h.1
    simp only [PTy.fits, CTs.fits, CT.fits] at this
    exact this.2.2.2.2.2.2.2.2.2.2.1.1
  · have := h.2.2.1
    simp only [PTy.fits, CT.fits] at this
    exact this.1
end Go.Proofs.Ytfmomnniadlbhaa
