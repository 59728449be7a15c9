/- Sealing and opening. -/
import Derived.Test.YtpeplcngjnabpaaLawB
open Go Go.Sx Go.Sx.Crc
namespace Go.Proofs.Ytpeplcngjnabpaa
set_option maxRecDepth 100000
def four4 (l : List UInt8) : Option (UInt8 × UInt8 × UInt8 × UInt8) := firstN (CT.int .u8) 4 l
def F14' : Nat →
  Option ((UInt32 × Int32 × UInt32) × List UInt32 × UInt64 × UInt64) × List UInt8 →
    Option ((List UInt8 × Bool) × Option ((UInt32 × Int32 × UInt32) × List UInt32 × UInt64 × UInt64)) := fun (n : Nat) (x : Option ((UInt32 × Int32 × UInt32) × List UInt32 × UInt64 × UInt64) × List UInt8) =>
  oelim (Prod.fst x) (some (([], false), none)) fun (x_1 : (UInt32 × Int32 × UInt32) × List UInt32 × UInt64 × UInt64) =>
    oite (decide (Int64.ofInt ↑(List.length (Prod.snd x)) - (4 : Int64) < (0 : Int64)))
      (some
        (([], false),
          some
            ((Prod.fst (Prod.fst x_1), Prod.fst (Prod.snd (Prod.fst x_1)), Prod.snd (Prod.snd (Prod.fst x_1))),
              Prod.fst (Prod.snd x_1), Prod.fst (Prod.snd (Prod.snd x_1)), Prod.snd (Prod.snd (Prod.snd x_1)))))
      (oite
        (decide ((0 : Int) ≤ Int64.toInt (Int64.ofInt ↑(List.length (Prod.snd x)) - (4 : Int64))) &&
            Nat.ble (Int.toNat (Int64.toInt (Int64.ofInt ↑(List.length (Prod.snd x)) - (4 : Int64))))
              (List.length (Prod.snd x)) &&
          true)
        (obind
          (F16 n
            (some
                ((Prod.fst (Prod.fst x_1), Prod.fst (Prod.snd (Prod.fst x_1)), Prod.snd (Prod.snd (Prod.fst x_1))),
                  Prod.fst (Prod.snd x_1), Prod.fst (Prod.snd (Prod.snd x_1)), Prod.snd (Prod.snd (Prod.snd x_1))),
              [List.drop (0 : Nat)
                  (List.take (Int.toNat (Int64.toInt (Int64.ofInt ↑(List.length (Prod.snd x)) - (4 : Int64))))
                    (Prod.snd x))]))
          fun (x_2 : UInt32 × Option ((UInt32 × Int32 × UInt32) × List UInt32 × UInt64 × UInt64)) =>
          oite
            (decide ((0 : Int) ≤ Int64.toInt (Int64.ofInt ↑(List.length (Prod.snd x)) - (4 : Int64))) &&
              Nat.ble (Int.toNat (Int64.toInt (Int64.ofInt ↑(List.length (Prod.snd x)) - (4 : Int64))))
                (List.length (Prod.snd x)))
            (obind
              (four4
                (List.drop (Int.toNat (Int64.toInt (Int64.ofInt ↑(List.length (Prod.snd x)) - (4 : Int64))))
                  (List.take (List.length (Prod.snd x)) (Prod.snd x))))
              fun (x_3 : UInt8 × UInt8 × UInt8 × UInt8) =>
              obind
                (F10 n
                  (Prod.fst x_3, Prod.fst (Prod.snd x_3), Prod.fst (Prod.snd (Prod.snd x_3)),
                    Prod.snd (Prod.snd (Prod.snd x_3))))
                fun (x_4 : UInt32 × Unit) =>
                oite (!decide (Prod.fst x_2 = Prod.fst x_4)) (some (([], false), Prod.snd x_2))
                  (oite
                    (decide ((0 : Int) ≤ Int64.toInt (Int64.ofInt ↑(List.length (Prod.snd x)) - (4 : Int64))) &&
                        Nat.ble (Int.toNat (Int64.toInt (Int64.ofInt ↑(List.length (Prod.snd x)) - (4 : Int64))))
                          (List.length (Prod.snd x)) &&
                      true)
                    (oite
                      (Nat.ble
                        ((0 : Nat) +
                          List.length
                            (List.drop (0 : Nat)
                              (List.take
                                (Int.toNat (Int64.toInt (Int64.ofInt ↑(List.length (Prod.snd x)) - (4 : Int64))))
                                (Prod.snd x))))
                        (4294967296 : Nat))
                      (some
                        (([] ++
                              List.drop (0 : Nat)
                                (List.take
                                  (Int.toNat (Int64.toInt (Int64.ofInt ↑(List.length (Prod.snd x)) - (4 : Int64))))
                                  (Prod.snd x)),
                            true),
                          Prod.snd x_2))
                      none)
                    none))
            none)
        none)

theorem F14_eq (n : Nat) : F14 n = F14' n := rfl
theorem f12 (n : Nat) (x : Option TabT) (s c : UInt64) (hx : IsTab x s c) (b : List UInt8) (hb : b.length ≤ 100000) (hn : b.length + 300 ≤ n) :
    F12 n (x, b) = some (b ++ l4 (b4 (Crc.sum b)), used (s + 1) (cnt c b)) := by
  unfold F12
  simp only [f16 n x s c hx b (by omega) hn, obind_s, f8]
  have e1 : Nat.ble (0 + List.length b) 4294967296 = true := ble_t (by omega)
  have e2 : ∀ l : List UInt8, l.length = 4 → Nat.ble (List.length ([] ++ b) + List.length l) 4294967296 = true := fun l h => ble_t (by simp; omega)
  rw [e1, oite_t, e2 _ rfl, oite_t]
  rfl
theorem f12_nil (n : Nat) (b : List UInt8) (hb : b.length ≤ 100000) : F12 n (none, b) = some (b ++ [0, 0, 0, 0], none) := by
  unfold F12
  simp only [f16_nil, obind_s, f8]
  have e1 : Nat.ble (0 + List.length b) 4294967296 = true := ble_t (by omega)
  have e2 : ∀ l : List UInt8, l.length = 4 → Nat.ble (List.length ([] ++ b) + List.length l) 4294967296 = true := fun l h => ble_t (by simp; omega)
  rw [e1, oite_t, e2 _ rfl, oite_t]
  rfl
/-- Is what stands ahead of the last four bytes as they say? -/
def opens (b : List UInt8) : Bool := decide (4 ≤ b.length) && l4 (b4 (Crc.sum (b.take (b.length - 4)))) == b.drop (b.length - 4)
theorem four_of {l : List UInt8} (h : l.length = 4) : ∃ q : UInt8 × UInt8 × UInt8 × UInt8, l = l4 q ∧ four4 l = some q := by
  match l, h with
  | [p, q, r, s], _ => exact ⟨(p, q, r, s), rfl, rfl⟩
theorem obind_eq {R α : Type} {m : Option α} {a : α} {k : α → Option R} (h : m = some a) : obind m k = k a := by subst h; rfl
theorem l4_inj {p q : UInt8 × UInt8 × UInt8 × UInt8} (h : l4 p = l4 q) : p = q := by
  obtain ⟨a, b, c, d⟩ := p
  obtain ⟨e, f, g, i⟩ := q
  simp only [l4, List.cons.injEq, and_true] at h
  obtain ⟨rfl, rfl, rfl, rfl⟩ := h
  rfl
theorem len4 {k : Nat} (h : k < 4) : decide (I64 k - 4 < 0) = true := by
  have : k = 0 ∨ k = 1 ∨ k = 2 ∨ k = 3 := by omega
  rcases this with rfl | rfl | rfl | rfl <;> decide
theorem sub4 {k : Nat} (h : 4 ≤ k) : I64 k - 4 = I64 (k - 4) := by
  have : (4 : Int64) = I64 4 := by decide
  rw [this]; exact i64_sub h
theorem f14_nil (n : Nat) (b : List UInt8) : F14 n (none, b) = some (([], false), none) := rfl
theorem f14 (n : Nat) (x : Option TabT) (s c : UInt64) (hx : IsTab x s c) (b : List UInt8) (hb : b.length ≤ 100000) (hn : b.length + 300 ≤ n) :
    ∃ z c', F14 n (x, b) = some ((if opens b = true then b.take (b.length - 4) else [], opens b), z) ∧ IsTab z (if b.length < 4 then s else s + 1) c' := by
  obtain ⟨p, y, rfl⟩ := hx.some
  rw [F14_eq]
  unfold F14'
  simp only
  rw [oelim_s]
  by_cases h4 : b.length < 4
  · refine ⟨some (p, y, s, c), c, ?_, by rw [if_pos h4]; exact hx⟩
    have ho : opens b = false := by unfold opens; rw [dec_f (by omega)]; rfl
    rw [len4 h4, oite_t, ho]
    rfl
  · have h4' : 4 ≤ b.length := by omega
    have e0 : decide (I64 (b.length - 4) < 0) = false := dec_f (fun h => by
      have := (i64_lt (a := b.length - 4) (b := 0) (by omega) (by omega)).1 h; omega)
    rw [sub4 h4', e0, oite_f, i64_toInt (by omega)]
    have e1 : (decide ((0 : Int) ≤ ((b.length - 4 : Nat) : Int)) && Nat.ble (Int.toNat ((b.length - 4 : Nat) : Int)) (List.length b)) = true := by
      rw [dec_t (by omega), ble_t (by simp)]; rfl
    have e2 : (decide ((0 : Int) ≤ ((b.length - 4 : Nat) : Int)) && Nat.ble (Int.toNat ((b.length - 4 : Nat) : Int)) (List.length b) && true) = true := by rw [e1]; rfl
    rw [e2, oite_t, Int.toNat_natCast, List.drop_zero]
    have hx' : IsTab (some ((p.1, p.2.1, p.2.2), y, s, c)) s c := hx
    rw [f16 n _ s c hx' (b.take (b.length - 4)) (by simp; omega) (by simp; omega), obind_s]
    rw [Int.toNat_natCast] at e1
    rw [e1, oite_t, List.take_of_length_le (Nat.le_refl b.length)]
    obtain ⟨q, q1, q2⟩ := four_of (l := b.drop (b.length - 4)) (by simp; omega)
    rw [q2, obind_s, f10, obind_s]
    have e3 : v4 (q.1, q.2.1, q.2.2.1, q.2.2.2) = v4 q := rfl
    rw [e3]
    refine ⟨used (s + 1) (cnt c (b.take (b.length - 4))), cnt c (b.take (b.length - 4)), ?_, by rw [if_neg h4]; exact used_tab _ _⟩
    have ho : opens b = decide (Crc.sum (b.take (b.length - 4)) = v4 q) := by
      unfold opens
      rw [dec_t h4', Bool.true_and, q1]
      by_cases h : Crc.sum (b.take (b.length - 4)) = v4 q
      · rw [dec_t h, h, b4_v4]; simp
      · rw [dec_f h]
        cases hq : (l4 (b4 (Crc.sum (b.take (b.length - 4)))) == l4 q) with
        | false => rfl
        | true =>
          have := l4_inj (eq_of_beq hq)
          exfalso; apply h; rw [← this, v4_b4]
    rw [ho]
    by_cases h : Crc.sum (b.take (b.length - 4)) = v4 q
    · rw [dec_t h, Bool.not_true, oite_f]
      have e5 : Nat.ble (0 + List.length (b.take (b.length - 4))) 4294967296 = true := ble_t (by simp; omega)
      rw [e5]
      rfl
    · rw [dec_f h, Bool.not_false, oite_t]
      rfl
theorem opens_seal (b : List UInt8) : opens (b ++ l4 (b4 (Crc.sum b))) = true ∧ (b ++ l4 (b4 (Crc.sum b))).take ((b ++ l4 (b4 (Crc.sum b))).length - 4) = b := by
  have hl : (b ++ l4 (b4 (Crc.sum b))).length - 4 = b.length := by simp [l4]
  constructor
  · unfold opens
    rw [hl, List.take_left, List.drop_left]
    simp [l4]
  · rw [hl, List.take_left]
theorem seals (n : Nat) (hn : 1400 ≤ n) (b : List UInt8) (hb : b.length < 2 ^ 63) : F4 n b = some (true, ()) := by
  unfold F4
  rw [f7 n (by omega), obind_s]
  simp only [Bool.not_true]
  rw [oite_f]
  by_cases hlen : 1000 < b.length
  · have e : decide ((1000 : Int64) < I64 (List.length b)) = true := dec_t ((i64_lt (a := 1000) (b := b.length) (by omega) hb).2 hlen)
    rw [e, oite_t]
  · have e : decide ((1000 : Int64) < I64 (List.length b)) = false := dec_f (fun h => hlen ((i64_lt (a := 1000) (b := b.length) (by omega) hb).1 h))
    rw [e, oite_f]
    obtain ⟨x, hx, ht⟩ := f11 n
    rw [hx, obind_s, f12 n x 0 0 ht b (by omega) (by omega), obind_s]
    simp only
    have e1 : Nat.ble (0 + List.length b) 4294967296 = true := ble_t (by omega)
    rw [e1, oite_t, f13 n b hb (by omega), obind_s, f9, obind_s]
    have e2 : Nat.ble (List.length ([] ++ b) + List.length (l4 (b4 (Crc.sum b)))) 4294967296 = true := ble_t (by simp [l4]; omega)
    rw [e2, oite_t]
    obtain ⟨o1, o2⟩ := opens_seal b
    have hxl : (b ++ l4 (b4 (Crc.sum b))).length = b.length + 4 := by simp [l4]
    obtain ⟨z1, c1, g1, t1⟩ := f14 n (used (0 + 1) (cnt 0 b)) (0 + 1) (cnt 0 b) (used_tab _ _) (b ++ l4 (b4 (Crc.sum b))) (by omega) (by omega)
    rw [g1, obind_s, o1, if_pos rfl, o2]
    obtain ⟨z2, c2, g2, t2⟩ := f14 n z1 _ c1 t1 b (by omega) (by omega)
    rw [g2, obind_s, ojoinA_eq]
    have fin : ∀ right : Bool, right = opens b → F4_J511 b b true (if opens b = true then b.take (b.length - 4) else []) (opens b) right (b ++ l4 (b4 (Crc.sum b))) ([] ++ b ++ l4 (b4 (Crc.sum b))) = some (true, ()) := by
      intro right hr
      subst hr
      unfold F4_J511
      have q1 : ((b ++ l4 (b4 (Crc.sum b))) == ([] ++ b ++ l4 (b4 (Crc.sum b)))) = true := by simp
      have q2 : (b == b) = true := by simp
      have q3 : (opens b == opens b) = true := by simp
      rw [q1, oite_t, oite_t, q2, oite_t, q3, oite_t]
      cases ho : opens b with
      | false => rfl
      | true =>
        have h4 : 4 ≤ b.length := by
          rcases Nat.lt_or_ge b.length 4 with h | h
          · unfold opens at ho; rw [dec_f (by omega)] at ho; cases ho
          · exact h
        rw [Bool.not_true, oite_f, sub4 h4, i64_toInt (by omega), dec_t (by omega), Int.toNat_natCast, ble_t (by omega), if_pos rfl, List.drop_zero]
        have q4 : (b.take (b.length - 4) == b.take (b.length - 4)) = true := by simp
        rw [q4]
        rfl
    by_cases h4 : 4 ≤ b.length
    · have e : decide ((4 : Int64) ≤ I64 (List.length b)) = true := dec_t ((i64_le (a := 4) (b := b.length) (by omega) hb).2 h4)
      rw [e, oite_t, sub4 h4, i64_toInt (by omega)]
      have q1 : (decide ((0 : Int) ≤ ((b.length - 4 : Nat) : Int)) && Nat.ble (Int.toNat ((b.length - 4 : Nat) : Int)) (List.length b)) = true := by
        rw [dec_t (by omega), ble_t (by simp)]; rfl
      rw [q1, Bool.true_and, oite_t, Int.toNat_natCast, List.drop_zero, f13 n (b.take (b.length - 4)) (by simp; omega) (by simp; omega), obind_s, f9, obind_s, oite_t, List.take_of_length_le (Nat.le_refl b.length)]
      exact fin _ (by unfold opens; rw [dec_t h4, Bool.true_and])
    · have e : decide ((4 : Int64) ≤ I64 (List.length b)) = false := dec_f (fun h => h4 ((i64_le (a := 4) (b := b.length) (by omega) hb).1 h))
      rw [e, oite_f]
      exact fin _ (by unfold opens; rw [dec_f h4, Bool.false_and])
theorem truth4 : ∀ x, PTys.fits sig4.ps x → ∃ n y, F4 n x = some y ∧ PTys.hd (.one (.c .bool)) .nil y.1 = true :=
  fun x hx => ⟨1400, _, seals 1400 (by omega) x (by have := hx.1; simp only [PTy.fits, CT.fits] at this; exact this.1), rfl⟩
end Go.Proofs.Ytpeplcngjnabpaa
