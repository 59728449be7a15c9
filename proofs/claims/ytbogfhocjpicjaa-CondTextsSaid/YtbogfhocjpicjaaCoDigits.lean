/- Numbers as texts of digits, and back. -/
import Derived.Test.YtbogfhocjpicjaaCoNumbers
open Go Go.Sx
namespace Go.Proofs.Ytbogfhocjpicjaa
/-! ### Digits -/
def dg : Nat → Nat → List UInt8
  | 0, _ => []
  | m + 1, x => if 9 < x then dg m (x / 10) ++ [UInt8.ofNat (48 + x % 10)] else [UInt8.ofNat (48 + x)]
theorem dg_len : ∀ (M m x : Nat), x < 10 ^ (m + 1) → (dg M x).length ≤ m + 1
  | 0, _, _, _ => by simp [dg]
  | M + 1, m, x, h => by
    unfold dg
    split
    · rename_i h9
      cases m with
      | zero => simp at h; omega
      | succ m =>
        have := dg_len M m (x / 10) (by rw [Nat.pow_succ] at h; omega)
        simp; omega
    · simp
theorem dg_pos (M x : Nat) : 1 ≤ (dg (M + 1) x).length := by unfold dg; split <;> simp
theorem dg_head : ∀ (M x : Nat), 1 ≤ x → x < 10 ^ (M + 1) → ∃ c r, dg (M + 1) x = c :: r ∧ c ≠ 48
  | M, x, h1, h2 => by
    unfold dg
    split
    · rename_i h9
      cases M with
      | zero => simp at h2; omega
      | succ M =>
        obtain ⟨c, r, e, hc⟩ := dg_head M (x / 10) (by omega) (by rw [Nat.pow_succ] at h2; omega)
        rw [e]
        exact ⟨c, r ++ _, rfl, hc⟩
    · rename_i h9
      refine ⟨_, [], rfl, fun e => ?_⟩
      have := congrArg UInt8.toNat e
      rw [UInt8.toNat_ofNat'] at this
      have z : (48 : UInt8).toNat = 48 := rfl
      omega
def IsDig (c : UInt8) : Prop := 48 ≤ c.toNat ∧ c.toNat ≤ 57
theorem dg_dig : ∀ (M x : Nat), ∀ c ∈ dg M x, IsDig c
  | 0, _, c, h => by simp [dg] at h
  | M + 1, x, c, h => by
    unfold dg at h
    split at h
    · rcases List.mem_append.1 h with h | h
      · exact dg_dig M (x / 10) c h
      · rw [List.mem_singleton.1 h]
        unfold IsDig
        rw [UInt8.toNat_ofNat']; omega
    · rw [List.mem_singleton.1 h]
      unfold IsDig
      rw [UInt8.toNat_ofNat']; omega
def val : UInt64 → List UInt8 → UInt64
  | v, [] => v
  | v, c :: r => val (v * 10 + UInt64.ofInt ↑(UInt8.toNat (c - 48))) r
theorem val_app : ∀ (a b : List UInt8) (v : UInt64), val v (a ++ b) = val (val v a) b
  | [], _, _ => rfl
  | c :: a, b, v => by simp only [List.cons_append, val]; exact val_app a b _
theorem ofInt_nat (c : Nat) : UInt64.ofInt (c : Int) = UInt64.ofNat c := by
  apply UInt64.toNat_inj.1
  rw [UInt64.toNat_ofNat']
  simp [UInt64.ofInt]
  omega
theorem dig_val {d : Nat} (h : d ≤ 9) : UInt64.ofInt ↑(UInt8.toNat (UInt8.ofNat (48 + d) - 48)) = UInt64.ofNat d := by
  have : (UInt8.ofNat (48 + d) - 48).toNat = d := by
    rw [UInt8.toNat_sub_of_le _ _ (by rw [UInt8.le_iff_toNat_le, UInt8.toNat_ofNat']; show 48 ≤ _; omega), UInt8.toNat_ofNat']
    show (48 + d) % 2 ^ 8 - 48 = d
    omega
  rw [this, ofInt_nat]
theorem val_dg : ∀ (M x : Nat), x < 10 ^ (M + 1) → val 0 (dg (M + 1) x) = UInt64.ofNat x
  | M, x, h => by
    unfold dg
    split
    · rename_i h9
      cases M with
      | zero => simp at h; omega
      | succ M =>
        rw [val_app, val_dg M (x / 10) (by rw [Nat.pow_succ] at h; omega)]
        simp only [val]
        rw [dig_val (by omega)]
        apply UInt64.toNat_inj.1
        rw [UInt64.toNat_add, UInt64.toNat_mul, UInt64.toNat_ofNat', UInt64.toNat_ofNat', UInt64.toNat_ofNat']
        show (x / 10 % 2 ^ 64 * 10 % 2 ^ 64 + x % 10 % 2 ^ 64) % 2 ^ 64 = x % 2 ^ 64
        omega
    · rename_i h9
      simp only [val]
      rw [dig_val (by omega)]
      apply UInt64.toNat_inj.1
      rw [UInt64.toNat_add, UInt64.toNat_mul]
      show (0 * 10 % 2 ^ 64 + (UInt64.ofNat x).toNat) % 2 ^ 64 = (UInt64.ofNat x).toNat
      have := UInt64.toNat_lt (UInt64.ofNat x)
      omega
/-! ### What is printed -/
theorem chr (d : Nat) (hd : d ≤ 9) (x : UInt64) (hx : x.toNat = d) : UInt8.ofInt ↑(UInt64.toNat (48 + x)) = UInt8.ofNat (48 + d) := by
  have e : (48 + x).toNat = 48 + d := by
    rw [UInt64.toNat_add, hx]
    show (48 + d) % 2 ^ 64 = _
    omega
  rw [e]
  apply UInt8.toNat_inj.1
  rw [UInt8.toNat_ofNat']
  simp [UInt8.ofInt]
  omega
theorem ten (x : UInt64) : (x / 10).toNat = x.toNat / 10 ∧ (x % 10).toNat = x.toNat % 10 := ⟨UInt64.toNat_div x 10, UInt64.toNat_mod x 10⟩
theorem nine (x : UInt64) : ((9 : UInt64) < x) ↔ 9 < x.toNat := UInt64.lt_iff_toNat_lt
theorem g31 (n : Nat) (rc : UInt64 → Option (List UInt8 × Unit)) (x : UInt64) : G31 n rc x = oite (decide ((9 : UInt64) < x)) (obind (rc (x / 10)) fun y => oite (Nat.ble (List.length y.1 + List.length [UInt8.ofInt ↑(UInt64.toNat (48 + x % 10))]) 4294967296) (some (y.1 ++ [UInt8.ofInt ↑(UInt64.toNat (48 + x % 10))], ())) none)
    (some ([UInt8.ofInt ↑(UInt64.toNat (48 + x % 10))], ())) := rfl
theorem g29 (n : Nat) (rc : UInt64 → Option (List UInt8 × Unit)) (x : UInt64) : G29 n rc x = oite (decide ((9 : UInt64) < x)) (obind (rc (x / 10)) fun y => obind (rc (x % 10)) fun z => oite (Nat.ble (List.length y.1 + List.length z.1) 4294967296) (some (y.1 ++ z.1, ())) none)
    (some ([UInt8.ofInt ↑(UInt64.toNat (48 + x))], ())) := rfl
def it31 (n : Nat) : Nat → UInt64 → Option (List UInt8 × Unit)
  | 0 => fun _ => none
  | m + 1 => G31 n (it31 n m)
def it29 (n : Nat) : Nat → UInt64 → Option (List UInt8 × Unit)
  | 0 => fun _ => none
  | m + 1 => G29 n (it29 n m)
theorem it31_eq (n : Nat) : ∀ m, selfN (sig := sig31) (G31 n) m = it31 n m
  | 0 => rfl
  | m + 1 => by
    have := it31_eq n m
    show G31 n (selfN (sig := sig31) (G31 n) m) = G31 n (it31 n m)
    exact congrArg (G31 n) this
theorem it29_eq (n : Nat) : ∀ m, selfN (sig := sig29) (G29 n) m = it29 n m
  | 0 => rfl
  | m + 1 => by
    have := it29_eq n m
    show G29 n (selfN (sig := sig29) (G29 n) m) = G29 n (it29 n m)
    exact congrArg (G29 n) this
theorem print_b (n : Nat) : ∀ (m : Nat) (x : UInt64) (f : Nat), m ≤ 20 → x.toNat < 10 ^ (m + 1) → m < f → it31 n f x = some (dg (m + 1) x.toNat, ())
  | m, x, f, hm, hx, hf => by
    obtain ⟨f, rfl⟩ : ∃ g, f = g + 1 := ⟨f - 1, by omega⟩
    show G31 n (it31 n f) x = _
    rw [g31]
    unfold dg
    obtain ⟨t1, t2⟩ := ten x
    by_cases h9 : 9 < x.toNat
    · rw [dec_t ((nine x).2 h9), oite_t, if_pos h9]
      cases m with
      | zero => simp at hx; omega
      | succ m =>
        have ih := print_b n m (x / 10) f (by omega) (by rw [t1]; rw [Nat.pow_succ] at hx; omega) (by omega)
        have hl := dg_len (m + 1) m (x.toNat / 10) (by rw [Nat.pow_succ] at hx; omega)
        rw [ih, obind_s]
        dsimp only
        rw [t1, ble_t (by simp; omega), oite_t, chr (x.toNat % 10) (by omega) _ t2]
    · rw [dec_f (fun q => h9 ((nine x).1 q)), oite_f, if_neg h9]
      have t3 : (x % 10).toNat = x.toNat := by rw [t2]; omega
      rw [chr x.toNat (by omega) _ t3]
theorem print_a (n : Nat) : ∀ (m : Nat) (x : UInt64) (f : Nat), m ≤ 20 → x.toNat < 10 ^ (m + 1) → m < f → it29 n f x = some (dg (m + 1) x.toNat, ())
  | m, x, f, hm, hx, hf => by
    obtain ⟨f, rfl⟩ : ∃ g, f = g + 1 := ⟨f - 1, by omega⟩
    show G29 n (it29 n f) x = _
    rw [g29]
    unfold dg
    obtain ⟨t1, t2⟩ := ten x
    by_cases h9 : 9 < x.toNat
    · rw [dec_t ((nine x).2 h9), oite_t, if_pos h9]
      cases m with
      | zero => simp at hx; omega
      | succ m =>
        have ih := print_a n m (x / 10) f (by omega) (by rw [t1]; rw [Nat.pow_succ] at hx; omega) (by omega)
        have ih2 := print_a n 0 (x % 10) f (by omega) (by rw [t2]; simp; omega) (by omega)
        have hl := dg_len (m + 1) m (x.toNat / 10) (by rw [Nat.pow_succ] at hx; omega)
        have hd : dg (0 + 1) (x % 10).toNat = [UInt8.ofNat (48 + x.toNat % 10)] := by
          rw [t2]; unfold dg; rw [if_neg (by omega)]
        rw [ih, obind_s, ih2, obind_s]
        dsimp only
        rw [t1, hd, ble_t (by simp; omega), oite_t]
    · rw [dec_f (fun q => h9 ((nine x).1 q)), oite_f, if_neg h9]
      rw [chr x.toNat (by omega) _ rfl]
theorem pow20 (x : UInt64) : x.toNat < 10 ^ (19 + 1) := by have := UInt64.toNat_lt x; omega
theorem printed (n : Nat) (hn : 30 < n) (x : UInt64) : F29 n x = some (dg 20 x.toNat, ()) :=
  (congrFun (it29_eq n n) x).trans (print_a n 19 x n (by omega) (pow20 x) (by omega))
theorem itoa (n : Nat) (hn : 30 < n) (x : UInt64) : F31 n x = some (dg 20 x.toNat, ()) :=
  (congrFun (it31_eq n n) x).trans (print_b n 19 x n (by omega) (pow20 x) (by omega))
/-! ### What is read -/
theorem num_val (s : List UInt8) (hs : s.length < 2 ^ 63) (most : UInt64) (hd : ∀ c ∈ s, IsDig c) : ∀ (f k : Nat) (v : UInt64), k ≤ s.length → s.length - k < f →
    F16_R61 f s most v (I64 s.length) (I64 k) = some ((val v (s.drop k), decide (val v (s.drop k) ≤ most)), ()) := by
  intro f
  induction f with
  | zero => intro k v _ h; omega
  | succ f ih =>
    intro k v hk hf
    rw [F16_R61_s]
    unfold F16_L61
    by_cases hlt : k < s.length
    · have hc := hd _ (List.getElem_mem hlt)
      have c1 : ¬ s[k] < 48 := fun q => by rw [UInt8.lt_iff_toNat_lt] at q; have : (48 : UInt8).toNat = 48 := rfl; have := hc.1; omega
      have c2 : ¬ 57 < s[k] := fun q => by rw [UInt8.lt_iff_toNat_lt] at q; have : (57 : UInt8).toNat = 57 := rfl; have := hc.2; omega
      rw [dec_t ((i64_lt (by omega) hs).2 hlt), oite_t, at_i64_lt (by omega) hlt, obind_s, dec_f c1, oite_f, obind_s, dec_f c2, oite_f, obind_s, i64_succ, ih (k + 1) _ (by omega) (by omega)]
      have e1 : s.drop k = s[k] :: s.drop (k + 1) := List.drop_eq_getElem_cons hlt
      rw [e1]
      rfl
    · rw [dec_f (fun h => hlt ((i64_lt (by omega) hs).1 h)), oite_f, List.drop_eq_nil_of_le (by omega)]
      rfl
theorem num_dg (n : Nat) (hn : 20 < n) (x : Nat) (hx : x < 10 ^ 19) (most : UInt64) : F16 n (dg 20 x, most) = some ((UInt64.ofNat x, decide (UInt64.ofNat x ≤ most)), ()) := by
  have hl := dg_len 20 18 x hx
  have hp : 1 ≤ (dg 20 x).length := dg_pos 19 x
  have hv : F16_J3 n (dg 20 x) most = some ((UInt64.ofNat x, decide (UInt64.ofNat x ≤ most)), ()) := by
    unfold F16_J3
    have := num_val (dg 20 x) (by omega) most (dg_dig 20 x) n 0 0 (by omega) (by omega)
    rw [List.drop_zero, val_dg 19 x (by omega)] at this
    exact this
  unfold F16
  dsimp only
  rw [ojoinA_eq]
  have c1 : ¬ Int64.ofInt ↑(List.length (dg 20 x)) < (1 : Int64) := fun h => by have := (i64_lt (a := (dg 20 x).length) (b := 1) (by omega) (by omega)).1 h; omega
  have c2 : ¬ (19 : Int64) < Int64.ofInt ↑(List.length (dg 20 x)) := fun h => by have := (i64_lt (a := 19) (b := (dg 20 x).length) (by omega) (by omega)).1 h; omega
  rw [dec_f c1, oite_f, dec_f c2, oite_f]
  by_cases h1 : 1 < (dg 20 x).length
  · have c3 : (1 : Int64) < Int64.ofInt ↑(List.length (dg 20 x)) := (i64_lt (a := 1) (by omega) (by omega)).2 h1
    have hx1 : 1 ≤ x := by
      rcases Nat.eq_zero_or_pos x with h | h
      · subst h; simp [dg] at h1
      · exact h
    obtain ⟨c, r, e, hc⟩ := dg_head 19 x hx1 (by omega)
    have e' : dg 20 x = c :: r := e
    have h0 : at? (dg 20 x) (Int64.toInt 0) = some c := by rw [e']; rfl
    rw [dec_t c3, oite_t, h0, obind_s, dec_f hc, oite_f]
    exact hv
  · have c3 : ¬ (1 : Int64) < Int64.ofInt ↑(List.length (dg 20 x)) := fun h => h1 ((i64_lt (a := 1) (by omega) (by omega)).1 h)
    rw [dec_f c3, oite_f]
    exact hv
end Go.Proofs.Ytbogfhocjpicjaa
