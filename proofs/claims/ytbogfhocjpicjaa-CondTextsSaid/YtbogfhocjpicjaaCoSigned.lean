/- Numbers with a sign as texts, and back. -/
import Derived.Test.YtbogfhocjpicjaaCoDigits
open Go Go.Sx
namespace Go.Proofs.Ytbogfhocjpicjaa
theorem bmod_id {z : Int} (h1 : -9223372036854775808 ≤ z) (h2 : z < 9223372036854775808) : Int.bmod z (2 ^ 64) = z := by
  rw [Int.bmod_def]
  split <;> omega
def mag (x : Int64) : Nat := x.toInt.natAbs
def sgn (x : Int64) : List UInt8 := if x < 0 then 45 :: dg 20 (mag x) else dg 20 (mag x)
theorem range (x : Int64) : -9223372036854775808 ≤ x.toInt ∧ x.toInt < 9223372036854775808 := by
  have h1 := Int64.le_toInt x
  have h2 := Int64.toInt_lt x
  constructor <;> omega
theorem neg_iff (x : Int64) : (x < 0) ↔ x.toInt < 0 := Int64.lt_iff_toInt_lt
theorem mag_neg (x : Int64) (h : x < 0) : (UInt64.ofInt (Int64.toInt (0 - (x + 1))) + 1).toNat = mag x := by
  obtain ⟨r1, r2⟩ := range x
  have hx := (neg_iff x).1 h
  have e1 : (x + 1).toInt = x.toInt + 1 := by
    rw [Int64.toInt_add]
    exact bmod_id (by show _ ≤ x.toInt + 1; omega) (by show x.toInt + 1 < _; omega)
  have e2 : (0 - (x + 1)).toInt = -(x.toInt + 1) := by
    rw [Int64.toInt_sub, e1]
    show Int.bmod (0 - (x.toInt + 1)) (2 ^ 64) = _
    rw [bmod_id (by omega) (by omega)]; omega
  obtain ⟨c, hc⟩ : ∃ c : Nat, -(x.toInt + 1) = c := ⟨(-(x.toInt + 1)).toNat, by omega⟩
  rw [e2, hc, ofInt_nat, UInt64.toNat_add, UInt64.toNat_ofNat']
  show (c % 2 ^ 64 + 1) % 2 ^ 64 = x.toInt.natAbs
  omega
theorem mag_pos (x : Int64) (h : ¬ x < 0) : (UInt64.ofInt (Int64.toInt x)).toNat = mag x := by
  obtain ⟨r1, r2⟩ := range x
  have hx : ¬ x.toInt < 0 := fun q => h ((neg_iff x).2 q)
  obtain ⟨c, hc⟩ : ∃ c : Nat, x.toInt = c := ⟨x.toInt.toNat, by omega⟩
  rw [hc, ofInt_nat, UInt64.toNat_ofNat']
  show _ = x.toInt.natAbs
  omega
theorem mag_lt (x : Int64) : mag x ≤ 9223372036854775808 := by
  have := range x
  unfold mag; omega
theorem pick_neg {m : Option (List UInt8 × Unit)} {d : List UInt8} (h : m = some (d, ())) (hd : d.length ≤ 100) :
    obind m (fun y => oite (Nat.ble (List.length [(45 : UInt8)] + List.length y.1) 4294967296) (some ([(45 : UInt8)] ++ y.1, ())) none) = some (45 :: d, ()) := by
  rw [h, obind_s]
  dsimp only
  rw [ble_t (by simp; omega), oite_t]
  rfl
theorem pick_pos {m : Option (List UInt8 × Unit)} {d : List UInt8} (h : m = some (d, ())) : obind m (fun y => some (y.1, ())) = some (d, ()) := by
  rw [h, obind_s]
theorem signed_a (n : Nat) (hn : 30 < n) (x : Int64) : F28 n x = some (sgn x, ()) := by
  have hl := dg_len 20 18 (mag x) (by have := mag_lt x; omega)
  unfold F28 sgn
  by_cases h : x < 0
  · rw [dec_t h, oite_t, if_pos h]
    exact pick_neg (by rw [← mag_neg x h]; exact printed n hn _) (by omega)
  · rw [dec_f h, oite_f, if_neg h]
    exact pick_pos (by rw [← mag_pos x h]; exact printed n hn _)
theorem signed_b (n : Nat) (hn : 30 < n) (x : Int64) : F30 n x = some (sgn x, ()) := by
  have hl := dg_len 20 18 (mag x) (by have := mag_lt x; omega)
  unfold F30 sgn
  by_cases h : x < 0
  · rw [dec_t h, oite_t, if_pos h]
    exact pick_neg (by rw [← mag_neg x h]; exact itoa n hn _) (by omega)
  · rw [dec_f h, oite_f, if_neg h]
    exact pick_pos (by rw [← mag_pos x h]; exact itoa n hn _)
theorem sgn_len (x : Int64) : 1 ≤ (sgn x).length ∧ (sgn x).length ≤ 20 := by
  have hl := dg_len 20 18 (mag x) (by have := mag_lt x; omega)
  have hp : 1 ≤ (dg 20 (mag x)).length := dg_pos 19 (mag x)
  unfold sgn
  split
  · rw [List.length_cons]; omega
  · omega
theorem sgn_chr (x : Int64) : ∀ c ∈ sgn x, c ≠ 32 := by
  intro c hc
  unfold sgn at hc
  have key : c ∈ dg 20 (mag x) → c ≠ 32 := fun h e => by
    have := (dg_dig 20 _ c h).1
    rw [e] at this
    have z : (32 : UInt8).toNat = 32 := rfl
    omega
  split at hc
  · rcases List.mem_cons.1 hc with h | h
    · rw [h]; decide
    · exact key h
  · exact key hc
theorem dg_chr (x : Nat) : ∀ c ∈ dg 20 x, c ≠ 32 := fun c h e => by
  have := (dg_dig 20 _ c h).1
  rw [e] at this
  have z : (32 : UInt8).toNat = 32 := rfl
  omega
theorem read_signed (n : Nat) (hn : 20 < n) (x : Int64) : F18 n (sgn x) = some ((x, true), ()) := by
  obtain ⟨r1, r2⟩ := range x
  have hm := mag_lt x
  have hl := dg_len 20 18 (mag x) (by omega)
  have hsl := sgn_len x
  have hcut := cut_spec n (sgn x) [45] (by omega) (by simp)
  unfold F18
  rw [hcut, obind_s]
  by_cases h : x < 0
  · have hx := (neg_iff x).1 h
    have e : sgn x = 45 :: dg 20 (mag x) := by unfold sgn; rw [if_pos h]
    have c1 : ([45] : List UInt8).length ≤ (sgn x).length ∧ (sgn x).take ([45] : List UInt8).length = [45] := by rw [e]; exact ⟨by simp, rfl⟩
    rw [if_pos c1]
    dsimp only
    rw [oite_t, e]
    have hd : (45 :: dg 20 (mag x)).drop ([45] : List UInt8).length = dg 20 (mag x) := rfl
    rw [hd, num_dg n hn (mag x) (by omega), obind_s]
    dsimp only
    have hmag : 1 ≤ mag x := by unfold mag; omega
    have u : (UInt64.ofNat (mag x)).toNat = mag x := by rw [UInt64.toNat_ofNat']; omega
    have c2 : ¬ UInt64.ofNat (mag x) < 1 := fun q => by rw [UInt64.lt_iff_toNat_lt, u] at q; have : (1 : UInt64).toNat = 1 := rfl; omega
    have c3 : UInt64.ofNat (mag x) ≤ 9223372036854775808 := by rw [UInt64.le_iff_toNat_le, u]; exact hm
    rw [dec_f c2, oite_f, dec_t c3]
    simp only [Bool.not_true, oite_f]
    have e1 : (UInt64.ofNat (mag x) - 1).toNat = mag x - 1 := by
      rw [UInt64.toNat_sub_of_le _ _ (by rw [UInt64.le_iff_toNat_le, u]; exact hmag), u]; rfl
    rw [e1]
    have e2 : (0 : Int64) - Int64.ofInt ↑(mag x - 1) - 1 = x := by
      apply Int64.toInt_inj.1
      have i1 : (Int64.ofInt ↑(mag x - 1)).toInt = ((mag x - 1 : Nat) : Int) := i64_toInt (by omega)
      rw [Int64.toInt_sub, Int64.toInt_sub, i1]
      show Int.bmod (Int.bmod (0 - ((mag x - 1 : Nat) : Int)) (2 ^ 64) - 1) (2 ^ 64) = _
      have b1 : Int.bmod (0 - ((mag x - 1 : Nat) : Int)) (2 ^ 64) = 0 - ((mag x - 1 : Nat) : Int) := bmod_id (by omega) (by omega)
      rw [b1, bmod_id (by omega) (by omega)]
      unfold mag at *
      omega
    rw [e2]
  · have hx : ¬ x.toInt < 0 := fun q => h ((neg_iff x).2 q)
    have e : sgn x = dg 20 (mag x) := by unfold sgn; rw [if_neg h]
    have hp : 1 ≤ (dg 20 (mag x)).length := dg_pos 19 (mag x)
    have c1 : ¬ (([45] : List UInt8).length ≤ (sgn x).length ∧ (sgn x).take ([45] : List UInt8).length = [45]) := by
      rintro ⟨_, q⟩
      have : (45 : UInt8) ∈ sgn x := List.mem_of_mem_take (i := 1) (by
        have q' : (sgn x).take 1 = [45] := q
        rw [q']; simp)
      rw [e] at this
      have := (dg_dig 20 _ _ this).1
      have z : (45 : UInt8).toNat = 45 := rfl
      omega
    rw [if_neg c1]
    dsimp only
    rw [oite_f, e, num_dg n hn (mag x) (by omega), obind_s]
    dsimp only
    have hm2 : mag x < 9223372036854775808 := by unfold mag; omega
    have u : (UInt64.ofNat (mag x)).toNat = mag x := by rw [UInt64.toNat_ofNat']; omega
    have c3 : UInt64.ofNat (mag x) ≤ 9223372036854775807 := by rw [UInt64.le_iff_toNat_le, u]; show mag x ≤ 9223372036854775807; omega
    rw [dec_t c3, u]
    have e2 : Int64.ofInt ↑(mag x) = x := by
      apply Int64.toInt_inj.1
      have i1 : (Int64.ofInt ↑(mag x)).toInt = ((mag x : Nat) : Int) := i64_toInt (by omega)
      rw [i1]
      unfold mag at *
      omega
    rw [e2]
end Go.Proofs.Ytbogfhocjpicjaa
