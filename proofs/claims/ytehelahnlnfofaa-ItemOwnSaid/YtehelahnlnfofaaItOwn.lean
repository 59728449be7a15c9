/- The law ItemOwn: copies share nothing; the same, and unlike ones. -/
import Derived.Test.YtehelahnlnfofaaItFns5
import Derived.Test.YtehelahnlnfofaaItBytes
import Derived.Test.YtehelahnlnfofaaItChecks
open Go Go.Sx
namespace Go.Proofs.Ytehelahnlnfofaa
theorem eq_loop (l l' : List Pair) (hl : l.length < 2 ^ 63) (he : l.length = l'.length) : ∀ (m k : Nat), k ≤ l.length → l.length - k < m → ∃ r, F58_R29 m l l' (I64 l.length) (I64 k) = some (r, ()) ∧ (r = true ↔ l.drop k = l'.drop k) := by
  intro m
  induction m with
  | zero => intro k _ h; omega
  | succ m ih =>
    intro k hk hm
    rw [F58_R29_s]
    unfold F58_L29
    by_cases hlt : k < l.length
    · rw [dec_t ((i64_lt (by omega) hl).2 hlt), oite_t, at_i64_lt (by omega) hlt, obind_s, at_i64_lt (by omega) (by omega), obind_s]
      have hlt' : k < l'.length := by omega
      have e1 : l.drop k = l[k] :: l.drop (k + 1) := List.drop_eq_getElem_cons hlt
      have e2 : l'.drop k = l'[k] :: l'.drop (k + 1) := List.drop_eq_getElem_cons hlt'
      rw [e1, e2]
      cases hb : (l[k].1 == l'[k].1 && (l[k].2 == l'[k].2 && true)) with
      | true =>
        simp only [Bool.not_true, oite_f]
        obtain ⟨r, h1, h2⟩ := ih (k + 1) (by omega) (by omega)
        rw [i64_succ]
        refine ⟨r, h1, ?_⟩
        rw [h2, List.cons.injEq]
        simp only [Bool.and_true, Bool.and_eq_true, beq_iff_eq] at hb
        exact ⟨fun h => ⟨Prod.ext hb.1 hb.2, h⟩, fun h => h.2⟩
      | false =>
        simp only [Bool.not_false, oite_t]
        refine ⟨false, rfl, ?_⟩
        simp only [Bool.false_eq_true, false_iff, List.cons.injEq, not_and]
        intro h
        rw [h] at hb
        simp at hb
    · rw [dec_f (fun q => hlt ((i64_lt (by omega) hl).1 q)), oite_f]
      refine ⟨true, rfl, ?_⟩
      rw [List.drop_eq_nil_of_le (by omega), List.drop_eq_nil_of_le (by omega)]
      simp
theorem labs_same (n : Nat) (l l' : List Pair) (hl : l.length < 2 ^ 63) (hl' : l'.length < 2 ^ 63) (hn : l.length < n) : ∃ r, F35 n (l, l') = some (r, ()) ∧ (r = true ↔ l = l') := by
  unfold F35 F58
  by_cases he : l.length = l'.length
  · have : (I64 l.length = I64 l'.length) := by rw [he]
    obtain ⟨r, h1, h2⟩ := eq_loop l l' hl he n 0 (by omega) (by omega)
    refine ⟨r, ?_, by simpa using h2⟩
    dsimp only
    rw [dec_t this]
    simp only [Bool.not_true, oite_f]
    rw [show (0 : Int64) = I64 0 from rfl, h1]; rfl
  · refine ⟨false, ?_, by simp; intro h; exact he (by rw [h])⟩
    dsimp only
    rw [dec_f (fun h => he ((i64_eq hl hl').1 h))]
    rfl

theorem same12 (n : Nat) (x y : ItT) (hx : x.2.2.2.2.2.1.length < 2 ^ 63) (hy : y.2.2.2.2.2.1.length < 2 ^ 63) (hn : x.2.2.2.2.2.1.length < n) :
    ∃ r, F12 n (x, y) = some (r, ()) ∧ (r = true ↔ normI x = normI y) := by
  obtain ⟨a0, a1, a2, a3, a4, a5, a6, a7, a8, a9, a10, a11, a12⟩ := x
  obtain ⟨b0, b1, b2, b3, b4, b5, b6, b7, b8, b9, b10, b11, b12⟩ := y
  dsimp only at hx hy hn
  have gap : (a0 = true ∨ b0 = true) → ∃ r, F12_J14 n true a0 a1 a2 a3 a4 a5 a6 a7 a8 a9 a10 a11 a12 b0 b1 b2 b3 b4 b5 b6 b7 b8 b9 b10 b11 b12 a1 a2 a3 a4 a5 a6 a7 a8 a9 b1 b2 b3 b4 b5 b6 b7 b8 b9 = some (r, ()) ∧
      (r = true ↔ normI (a0, a1, a2, a3, a4, a5, a6, a7, a8, a9, a10, a11, a12) = normI (b0, b1, b2, b3, b4, b5, b6, b7, b8, b9, b10, b11, b12)) := by
    intro h
    unfold F12_J14
    rw [oite_t]
    by_cases he : a0 = b0
    · subst he
      have ht : a0 = true := by rcases h with h | h <;> exact h
      subst ht
      simp only [beq_self_eq_true, oite_t]
      refine ⟨_, rfl, ?_⟩
      simp only [normI, gapI, gapOf, if_true, Prod.mk.injEq, true_and, Bool.and_true, Bool.and_eq_true, decide_eq_true_eq]
    · have : (a0 == b0) = false := by simpa using he
      rw [this, oite_f]
      refine ⟨false, rfl, ?_⟩
      simp only [Bool.false_eq_true, false_iff]
      intro hc
      have := congrArg Prod.fst hc
      revert this
      cases a0 <;> cases b0 <;> simp_all [normI, gapI, evI]
  unfold F12
  dsimp only
  rw [ojoinA_eq]
  cases ha : a0 with
  | true => rw [oite_t]; rw [ha] at gap; exact gap (.inl rfl)
  | false =>
    rw [oite_f]
    cases hb : b0 with
    | true => rw [ha, hb] at gap; exact gap (.inr rfl)
    | false =>
      unfold F12_J14
      rw [oite_f]
      have no : ¬ (normI (false, a1, a2, a3, a4, a5, a6, a7, a8, a9, a10, a11, a12) = normI (false, b1, b2, b3, b4, b5, b6, b7, b8, b9, b10, b11, b12)) → ∃ r, some (false, ()) = some (r, ()) ∧ (r = true ↔ normI (false, a1, a2, a3, a4, a5, a6, a7, a8, a9, a10, a11, a12) = normI (false, b1, b2, b3, b4, b5, b6, b7, b8, b9, b10, b11, b12)) :=
        fun h => ⟨false, rfl, by simp [h]⟩
      have key : normI (false, a1, a2, a3, a4, a5, a6, a7, a8, a9, a10, a11, a12) = normI (false, b1, b2, b3, b4, b5, b6, b7, b8, b9, b10, b11, b12) ↔
          a1 = b1 ∧ a2 = b2 ∧ a3 = b3 ∧ a4 = b4 ∧ a6 = b6 ∧ a7 = b7 ∧ a8 = b8 ∧ a9 = b9 ∧ a5 = b5 := by
        simp only [normI, evI, evOf, Bool.false_eq_true, if_false, Prod.mk.injEq, true_and, and_true]
        constructor
        · rintro ⟨h1, h2, h3, h4, h5, h6, h7, h8, h9⟩; exact ⟨h1, h2, h3, h4, h6, h7, h8, h9, h5⟩
        · rintro ⟨h1, h2, h3, h4, h6, h7, h8, h9, h5⟩; exact ⟨h1, h2, h3, h4, h5, h6, h7, h8, h9⟩
      rw [key] at no ⊢
      by_cases h1 : a1 = b1
      case neg => rw [dec_f h1, oite_f]; exact no (fun h => h1 h.1)
      by_cases h2 : a2 = b2
      case neg => rw [dec_t h1, oite_t, dec_f h2, oite_f]; exact no (fun h => h2 h.2.1)
      by_cases h3 : a3 = b3
      case neg => rw [dec_t h1, oite_t, dec_t h2, oite_t, dec_f h3, oite_f]; exact no (fun h => h3 h.2.2.1)
      by_cases h4 : a4 = b4
      case neg => rw [dec_t h1, oite_t, dec_t h2, oite_t, dec_t h3, oite_t, show (a4 == b4) = false by simpa using h4, oite_f]; exact no (fun h => h4 h.2.2.2.1)
      rw [dec_t h1, oite_t, dec_t h2, oite_t, dec_t h3, oite_t, show (a4 == b4) = true by simpa using h4, oite_t]
      by_cases h6 : a6 = b6
      case neg => rw [dec_f h6, oite_f]; exact no (fun h => h6 h.2.2.2.2.1)
      by_cases h7 : a7 = b7
      case neg => rw [dec_t h6, oite_t, dec_f h7, oite_f]; exact no (fun h => h7 h.2.2.2.2.2.1)
      by_cases h8 : a8 = b8
      case neg => rw [dec_t h6, oite_t, dec_t h7, oite_t, dec_f h8, oite_f]; exact no (fun h => h8 h.2.2.2.2.2.2.1)
      by_cases h9 : a9 = b9
      case neg => rw [dec_t h6, oite_t, dec_t h7, oite_t, dec_t h8, oite_t, dec_f h9, oite_f]; exact no (fun h => h9 h.2.2.2.2.2.2.2.1)
      rw [dec_t h6, oite_t, dec_t h7, oite_t, dec_t h8, oite_t, dec_t h9, oite_t]
      obtain ⟨r, q1, q2⟩ := labs_same n a5 b5 hx hy hn
      rw [q1, obind_s]
      refine ⟨r, rfl, ?_⟩
      rw [q2]
      exact ⟨fun h => ⟨h1, h2, h3, h4, h6, h7, h8, h9, h⟩, fun h => h.2.2.2.2.2.2.2.2⟩

theorem text_loop (l : List Pair) (hl : l.length < 100) (he : ∀ p ∈ l, p.1.length = 1 ∧ p.2.length = 1) : ∀ (m k : Nat) (s : List UInt8), k ≤ l.length → l.length - k < m → s.length ≤ 10 * k → ∃ r, F11_R29 m l s (I64 k) = some (r, ()) := by
  intro m
  induction m with
  | zero => intro k s _ h _; omega
  | succ m ih =>
    intro k s hk hm hs
    rw [F11_R29_s]
    unfold F11_L29
    by_cases hlt : k < l.length
    · rw [dec_t ((i64_lt (by omega) (by omega)).2 hlt), oite_t, ojoinA_eq]
      have hp := he l[k] (List.getElem_mem hlt)
      have J : ∀ s' : List UInt8, s'.length ≤ 10 * k + 1 → ∃ r, F11_J234 (F11_R29 m) l s' (I64 k) = some (r, ()) := by
        intro s' hs'
        unfold F11_J234
        rw [at_i64_lt (by omega) hlt, obind_s, ble_t (by omega), oite_t, ble_t (by simp; omega), oite_t, obind_s, ble_t (by simp; omega), oite_t, i64_succ]
        exact ih (k + 1) _ (by omega) (by omega) (by simp; omega)
      cases hz : decide ((0 : Int64) < I64 k) with
      | true => rw [oite_t, ble_t (by simp; omega), oite_t]; exact J _ (by simp; omega)
      | false => rw [oite_f]; exact J _ (by omega)
    · rw [dec_f (fun q => hlt ((i64_lt (by omega) (by omega)).1 q)), oite_f]
      exact ⟨_, rfl⟩
theorem text_small (n : Nat) (hn : 3 < n) {x : ItT} (h : Small x) : ∃ r, F11 n x.2.2.2.2.2.1 = some (r, ()) := by
  have := h.labs
  exact text_loop _ (by omega) h.each n 0 [] (by omega) (by omega) (by simp)
theorem clone_eq (n : Nat) (x : ItT) (h : x.2.2.2.2.2.1.length ≤ 1000) : F10 n x = some (x, ()) := by
  unfold F10
  rw [ble_t (by omega), oite_t]
  rfl
theorem itB_norm (x : ItT) : itB (normI x) = itB x := by
  obtain ⟨a0, a1, a2, a3, a4, a5, a6, a7, a8, a9, a10, a11, a12⟩ := x
  cases a0 <;> rfl
theorem own_end (n : Nat) (hn : 20 < n) {x y : ItT} (hx : Small x) (hy : Small y) {w : List UInt8} (hw : F11 n x.2.2.2.2.2.1 = some (w, ())) :
    (obind (F11 n x.2.2.2.2.2.1) fun x_6 => oite (!x_6.1 == w) (some (false, ())) (obind (F12 n (x, x)) fun x_7 => oite (!x_7.1) (some (false, ())) (obind (F10 n x) fun x_8 => obind (F12 n (x, x_8.1)) fun x_9 => oite (!x_9.1) (some (false, ()))
      (obind (F12 n (x, y)) fun x_10 => obind (F13 n x) fun x_11 => obind (F13 n y) fun x_12 => some (x_10.1 == (x_11.1 == x_12.1), ()))))) = (some (true, ()) : Option (Bool × Unit)) := by
  have fx := hx.fit n hn
  have fy := hy.fit n hn
  have lx := hx.labs
  have ly := hy.labs
  obtain ⟨r1, q1, q2⟩ := same12 n x x (by omega) (by omega) (by omega)
  have q3 : r1 = true := q2.2 rfl
  subst q3
  obtain ⟨r2, p1, p2⟩ := same12 n x y (by omega) (by omega) (by omega)
  rw [hw, obind_s, q1, obind_s, clone_eq n x (by omega), obind_s, q1, obind_s, p1, obind_s, enc_small n hn hx, obind_s, enc_small n hn hy, obind_s]
  simp only [beq_self_eq_true, Bool.not_true, oite_f]
  have : r2 = (itB x == itB y) := by
    rw [Bool.eq_iff_iff, p2, beq_iff_eq]
    constructor
    · intro h; rw [← itB_norm x, h, itB_norm]
    · intro h
      exact itB_inj ⟨by have := hx.rule; omega, by omega, fun p hp => by have := hx.each p hp; omega⟩ ⟨by have := hy.rule; omega, by omega, fun p hp => by have := hy.each p hp; omega⟩ h
  rw [this]
  simp

theorem own_loop (n : Nat) (hn : 20 < n) {x0 : Bool} {x1 : UInt8} {x2 x3 : UInt64} {x4 : List UInt8} {x5 : List Pair} {x6 x7 : UInt8} {x8 : Int64} {x9 x10 : UInt8} {x11 x12 : UInt64}
    {y0 : Bool} {y1 : UInt8} {y2 y3 : UInt64} {y4 : List UInt8} {y5 : List Pair} {y6 y7 : UInt8} {y8 : Int64} {y9 y10 : UInt8} {y11 y12 : UInt64}
    (hx : Small (x0, x1, x2, x3, x4, x5, x6, x7, x8, x9, x10, x11, x12)) (hy : Small (y0, y1, y2, y3, y4, y5, y6, y7, y8, y9, y10, y11, y12)) {w : List UInt8} (hw : F11 n x5 = some (w, ())) (z0 : Bool) (z1 : UInt8) (z2 z3 : UInt64) (z4 : List UInt8) (z6 z7 : UInt8) (z8 : Int64) (z9 z10 : UInt8) (z11 z12 : UInt64) (L : Nat) (hL : L < 1000) :
    ∀ (m k : Nat) (zl : List Pair), k ≤ L → L - k < m → zl.length = L → F3_R253 n m w (I64 L) (I64 k) x0 x1 x2 x3 x4 x5 x6 x7 x8 x9 x10 x11 x12 y0 y1 y2 y3 y4 y5 y6 y7 y8 y9 y10 y11 y12 z0 z1 z2 z3 z4 z6 z7 z8 z9 z10 z11 z12 zl = some (true, ()) := by
  intro m
  induction m with
  | zero => intro k zl _ h _; omega
  | succ m ih =>
    intro k zl hk hm hz
    rw [F3_R253_s]
    unfold F3_L253
    by_cases hlt : k < L
    · obtain ⟨i1, i2⟩ := idx_i64 (l := zl) (k := k) (by omega) (by omega)
      rw [dec_t ((i64_lt (by omega) (by omega)).2 hlt), oite_t, i1, oite_t, i2, obind_s, i64_succ]
      exact ih (k + 1) _ (by omega) (by omega) (by simp [hz])
    · rw [dec_f (fun q => hlt ((i64_lt (by omega) (by omega)).1 q)), oite_f]
      exact own_end n hn hx hy hw
theorem own_law (a b : SmT) (k : UInt8) : F3 100 (a, b, k) = some (true, ()) := by
  obtain ⟨a0, a1, a2, a3, a4, a5, a6, a7, a8, a9, a10⟩ := a
  obtain ⟨b0, b1, b2, b3, b4, b5, b6, b7, b8, b9, b10⟩ := b
  obtain ⟨x, e1, hx⟩ := item_small 100 (by omega) (a0, a1, a2, a3, a4, a5, a6, a7, a8, a9, a10)
  obtain ⟨y, e2, hy⟩ := item_small 100 (by omega) (b0, b1, b2, b3, b4, b5, b6, b7, b8, b9, b10)
  obtain ⟨x0, x1, x2, x3, x4, x5, x6, x7, x8, x9, x10, x11, x12⟩ := x
  obtain ⟨y0, y1, y2, y3, y4, y5, y6, y7, y8, y9, y10, y11, y12⟩ := y
  have h0 : F8 100 () = some (true, ()) := awakeI 70
  obtain ⟨w, hw⟩ := text_small 100 (by omega) hx
  have lx := hx.labs
  have hc := clone_eq 100 (x0, x1, x2, x3, x4, x5, x6, x7, x8, x9, x10, x11, x12) (by omega)
  unfold F3
  dsimp only
  rw [h0, obind_s]
  simp only [Bool.not_true, oite_f]
  rw [e1, obind_s, e2, obind_s]
  dsimp only
  rw [hc, obind_s]
  dsimp only at hw lx ⊢
  rw [hw, obind_s]
  exact own_loop 100 (by omega) hx hy hw _ _ _ _ _ _ _ _ _ _ _ _ x5.length (by omega) 100 0 x5 (by omega) (by omega) rfl
theorem own_true : ∀ x : sig3.In, PTys.fits sig3.ps x → ∃ y, F3 100 x = some y ∧ PTys.hd (.one (.c .bool)) .nil y.1 = true := fun x _ => by
  obtain ⟨a, b, k⟩ := x
  exact ⟨_, own_law a b k, rfl⟩
end Go.Proofs.Ytehelahnlnfofaa
