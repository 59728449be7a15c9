/- The small alerts and the one node of GroupTells: what is asked of them. -/
import Derived.Test.YtcfckkmiaeegpaaAwake
open Go Go.Sx
namespace Go.Proofs.Ytcfckkmiaeegpaa
theorem times_ok (k : Nat) (w b rp : UInt64) (h0 : w.toNat ≤ 100) (h1 : 1 ≤ b.toNat) (h2 : b.toNat ≤ rp.toNat) (h3 : rp.toNat ≤ 100) : F43 (k + 10) (w, b, rp) = some (0, ()) := by
  have c1 : (1048576 : UInt64).toNat = 1048576 := rfl
  have c2 : (1 : UInt64).toNat = 1 := rfl
  have e : F43 (k + 10) (w, b, rp) = oite (decide (1048576 < w)) (some (6, ())) (oite (decide (1048576 < b)) (some (6, ())) (oite (decide (1048576 < rp)) (some (6, ())) (oite (decide (b < 1)) (some (6, ())) (oite (decide (rp < b)) (some (6, ())) (some (0, ())))))) := by kernel_rfl
  rw [e, dec_f (fun h => by have := UInt64.lt_iff_toNat_lt.1 h; omega), dec_f (fun h => by have := UInt64.lt_iff_toNat_lt.1 h; omega), dec_f (fun h => by have := UInt64.lt_iff_toNat_lt.1 h; omega), dec_f (fun h => by have := UInt64.lt_iff_toNat_lt.1 h; omega), dec_f (fun h => by have := UInt64.lt_iff_toNat_lt.1 h; omega)]
  rfl
def KeyL : List (List UInt8) := [[97], [98], [110, 111, 100, 101]]
def one (i : Nat) (c : UInt8) : List Pair := if c % 3 = 1 then [(KeyL[i]!, [120])] else if c % 3 = 2 then [(KeyL[i]!, [121])] else []
def labs (a b c : UInt8) : List Pair := one 0 a ++ one 1 b ++ one 2 c
def ruleOf (c : UInt8) : List UInt8 := if c % 3 = 0 then [104, 111, 116] else if c % 3 = 1 then [99, 111, 108, 100] else [120]
theorem mod3 (c : UInt8) : c % 3 = 0 ∨ c % 3 = 1 ∨ c % 3 = 2 := by
  have h : (c % 3).toNat < 3 := by rw [UInt8.toNat_mod]; exact Nat.mod_lt _ (by decide)
  have e : c % 3 = UInt8.ofNat (c % 3).toNat := (UInt8.ofNat_toNat).symm
  generalize (c % 3).toNat = j at e h
  match j, h with
  | 0, _ => exact .inl e
  | 1, _ => exact .inr (.inl e)
  | 2, _ => exact .inr (.inr e)
theorem mod4 (c : UInt8) : c % 4 = 0 ∨ c % 4 = 1 ∨ c % 4 = 2 ∨ c % 4 = 3 := by
  have h : (c % 4).toNat < 4 := by rw [UInt8.toNat_mod]; exact Nat.mod_lt _ (by decide)
  have e : c % 4 = UInt8.ofNat (c % 4).toNat := (UInt8.ofNat_toNat).symm
  generalize (c % 4).toNat = j at e h
  match j, h with
  | 0, _ => exact .inl e
  | 1, _ => exact .inr (.inl e)
  | 2, _ => exact .inr (.inr (.inl e))
  | 3, _ => exact .inr (.inr (.inr e))
theorem lab_round (m : Nat) (j : Nat) (hj : j < 3) (x : UInt8) (xs : List UInt8) (hx : xs[j]? = some x) (h3 : xs.length = 3) (t0 t1 t3 t4 t5 t6 a0 a1 a3 a4 a5 a6) (al : List Pair) (hal : al.length ≤ 3) :
    F7_R29 (m + 1) 3 (I64 j) t0 t1 t3 t4 t5 t6 a0 a1 a3 a4 a5 a6 xs al = F7_R29 m 3 (I64 (j + 1)) t0 t1 t3 t4 t5 t6 a0 a1 a3 a4 a5 a6 xs (al ++ one j x) := by
  rw [F7_R29_s]
  unfold F7_L29
  obtain ⟨i1, i2⟩ := idx_i64 (l := xs) (k := j) (by omega) (by omega)
  have hq : xs[j]'(by omega) = x := by have := List.getElem?_eq_getElem (l := xs) (i := j) (by omega); rw [this] at hx; exact Option.some.inj hx
  rw [dec_t (show I64 j < 3 from (i64_lt (b := 3) (by omega) (by decide)).2 hj), oite_t, i1, oite_t, i2, hq]
  simp only [obind_s]
  obtain ⟨q1, q2⟩ := idx_i64 (l := [[(97 : UInt8)], [98], [110, 111, 100, 101]]) (k := j) (by simpa using hj) (by omega)
  have hk : ([[(97 : UInt8)], [98], [110, 111, 100, 101]])[j]'(by simpa using hj) = KeyL[j]! := by
    match j, hj with
    | 0, _ => rfl
    | 1, _ => rfl
    | 2, _ => rfl
  rw [q1, q2, hk]
  simp only [oite_t, obind_s, i64_succ]
  rcases mod3 x with h | h | h
  · rw [h, dec_f (by decide), oite_f, one, h]
    simp
  · rw [h, dec_t (by decide), oite_t, one, h]
    rw [show (decide ((0 : Int) ≤ ↑(UInt8.toNat 1)) && Nat.blt (Int.toNat ↑(UInt8.toNat 1)) ([[], [120], [121]] : List (List UInt8)).length) = true from rfl, oite_t, show ([[], [120], [121]] : List (List UInt8))[Int.toNat ↑(UInt8.toNat 1)]? = some [120] from rfl]
    simp only [obind_s]
    rw [ble_t (by simp; omega), oite_t]
    rfl
  · rw [h, dec_t (by decide), oite_t, one, h]
    rw [show (decide ((0 : Int) ≤ ↑(UInt8.toNat 2)) && Nat.blt (Int.toNat ↑(UInt8.toNat 2)) ([[], [120], [121]] : List (List UInt8)).length) = true from rfl, oite_t, show ([[], [120], [121]] : List (List UInt8))[Int.toNat ↑(UInt8.toNat 2)]? = some [121] from rfl]
    simp only [obind_s]
    rw [ble_t (by simp; omega), oite_t]
    rfl
theorem one_len (i : Nat) (c : UInt8) : (one i c).length ≤ 1 := by unfold one; split <;> (try split) <;> simp
theorem alert_ok (k : Nat) (a0 a1 a2 a3 a4 a5 : UInt8) : ∃ st p v u, F7 (k + 10) (a0, a1, a2, a3, a4, a5) = some ((a0 % 3, ruleOf a1, labs a2 a3 a4, st, p, v, u), ()) := by
  obtain ⟨st, hst⟩ : ∃ st : UInt8, (oite (decide ((0 : Int) ≤ ↑(UInt8.toNat (a5 % 4))) && Nat.blt (Int.toNat ↑(UInt8.toNat (a5 % 4))) ([0, 2, 3, 2] : List UInt8).length) (([0, 2, 3, 2] : List UInt8)[Int.toNat ↑(UInt8.toNat (a5 % 4))]?) none) = some st := by
    rcases mod4 a5 with h | h | h | h <;> rw [h] <;> exact ⟨_, rfl⟩
  have h1 : (decide ((0 : Int) ≤ ↑(UInt8.toNat (a1 % 3))) && Nat.blt (Int.toNat ↑(UInt8.toNat (a1 % 3))) ([[104, 111, 116], [99, 111, 108, 100], [120]] : List (List UInt8)).length) = true ∧ ([[104, 111, 116], [99, 111, 108, 100], [120]] : List (List UInt8))[Int.toNat ↑(UInt8.toNat (a1 % 3))]? = some (ruleOf a1) := by
    unfold ruleOf
    rcases mod3 a1 with h | h | h <;> rw [h] <;> exact ⟨rfl, rfl⟩
  have h2 : (decide ((0 : Int) ≤ ↑(UInt8.toNat (a5 % 4))) && Nat.blt (Int.toNat ↑(UInt8.toNat (a5 % 4))) ([0, 2, 3, 2] : List UInt8).length) = true ∧ ([0, 2, 3, 2] : List UInt8)[Int.toNat ↑(UInt8.toNat (a5 % 4))]? = some st := by
    rcases mod4 a5 with h | h | h | h <;> rw [h] at hst ⊢ <;> exact ⟨rfl, hst⟩
  refine ⟨st, 0, a5 / 4 % 8, Int64.ofInt ↑(UInt8.toNat a2), ?_⟩
  unfold F7
  simp only
  rw [h1.1, oite_t, h1.2]
  simp only [obind_s]
  rw [h2.1, oite_t, h2.2]
  simp only [obind_s]
  have l0 := one_len 0 a2
  have l1 := one_len 1 a3
  have r0 := lab_round (k + 9) 0 (by omega) a2 [a2, a3, a4] rfl rfl 0 [] 0 0 0 0 (a0 % 3) (ruleOf a1) st 0 (a5 / 4 % 8) (Int64.ofInt ↑(UInt8.toNat a2)) [] (by simp)
  have r1 := lab_round (k + 8) 1 (by omega) a3 [a2, a3, a4] rfl rfl 0 [] 0 0 0 0 (a0 % 3) (ruleOf a1) st 0 (a5 / 4 % 8) (Int64.ofInt ↑(UInt8.toNat a2)) ([] ++ one 0 a2) (by simp; omega)
  have r2 := lab_round (k + 7) 2 (by omega) a4 [a2, a3, a4] rfl rfl 0 [] 0 0 0 0 (a0 % 3) (ruleOf a1) st 0 (a5 / 4 % 8) (Int64.ofInt ↑(UInt8.toNat a2)) (([] ++ one 0 a2) ++ one 1 a3) (by simp; omega)
  refine Eq.trans r0 (Eq.trans r1 (Eq.trans r2 ?_))
  rw [F7_R29_s]
  unfold F7_L29
  rw [show decide (I64 (2 + 1) < 3) = false from rfl, oite_f]
  rfl
def glOf (l : List Pair) : List Pair := l.filter fun x => x.1 == [97]
theorem one_of (i : Nat) (c : UInt8) : one i c = [] ∨ one i c = [(KeyL[i]!, [120])] ∨ one i c = [(KeyL[i]!, [121])] := by
  unfold one
  rcases mod3 c with h | h | h <;> rw [h]
  · exact .inl rfl
  · exact .inr (.inl rfl)
  · exact .inr (.inr rfl)
theorem rule_of (c : UInt8) : ruleOf c = [104, 111, 116] ∨ ruleOf c = [99, 111, 108, 100] ∨ ruleOf c = [120] := by
  unfold ruleOf
  rcases mod3 c with h | h | h <;> rw [h]
  · exact .inl rfl
  · exact .inr (.inl rfl)
  · exact .inr (.inr rfl)
theorem text_ok (n : Nat) (a2 a3 a4 : UInt8) : F46 n (labs a2 a3 a4) = some (upTo (labs a2 a3 a4) (labs a2 a3 a4).length, ()) ∧ F46 n (glOf (labs a2 a3 a4)) = some (upTo (glOf (labs a2 a3 a4)) (glOf (labs a2 a3 a4)).length, ()) := by
  unfold labs
  rcases one_of 0 a2 with h | h | h <;> rw [h] <;> rcases one_of 1 a3 with h | h | h <;> rw [h] <;> rcases one_of 2 a4 with h | h | h <;> rw [h] <;> exact ⟨by kernel_rfl, by kernel_rfl⟩
end Go.Proofs.Ytcfckkmiaeegpaa
