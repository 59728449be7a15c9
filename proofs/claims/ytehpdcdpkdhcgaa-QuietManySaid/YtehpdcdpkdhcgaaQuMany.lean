/- The law QuietMany: as many as may be, and one more; numbers are given once. -/
import Derived.Test.YtehpdcdpkdhcgaaQuFns2
import Derived.Test.YtehpdcdpkdhcgaaQuLaw
open Go Go.Sx
namespace Go.Proofs.Ytehpdcdpkdhcgaa
abbrev KI : VT := VT.one (CT.int IntKind.i64)
abbrev VQ : VT := VT.agg (CTs.cons (CT.ro (CTs.cons CT.str (CTs.cons (CT.int IntKind.u8) (CTs.cons CT.str CTs.nil)))) (CTs.cons (CT.int IntKind.u64) (CTs.cons (CT.int IntKind.u64) CTs.nil)))
abbrev MapQ := List (Int64 × QuP)
def A0 : List AskP := [([97], 1, [120])]
def Q0 : QuP := (A0, 1, 5)
theorem eqbI {a b : Int64} (h : VT.eqb KI a b = true) : a = b := of_decide_eq_true (show decide (a = b) = true from h)
theorem eqbI_f {a b : Int64} (h : VT.eqb KI a b = false) : a ≠ b := of_decide_eq_false (show decide (a = b) = false from h)
theorem getQ_none (k : Int64) : ∀ (m : MapQ), (∀ p ∈ m, p.1 ≠ k) → mget KI VQ k m = none
  | [], _ => rfl
  | q :: r, h => by
    unfold mget
    cases he : VT.eqb KI k q.1 with
    | true => exact absurd (eqbI he).symm (h q (by simp))
    | false => exact getQ_none k r fun p hp => h p (by simp [hp])
theorem putQ_new (k : Int64) (x : QuP) : ∀ (m : MapQ), (∀ p ∈ m, p.1 ≠ k) → mput KI VQ k x m = m ++ [(k, x)]
  | [], _ => rfl
  | q :: r, h => by
    unfold mput
    cases he : VT.eqb KI k q.1 with
    | true => exact absurd (eqbI he).symm (h q (by simp))
    | false => rw [putQ_new k x r fun p hp => h p (by simp [hp])]; rfl
theorem getQ_mem (k : Int64) (x : QuP) : ∀ (m : MapQ), (k, x) ∈ m → (∀ p ∈ m, p.2 = x) → mget KI VQ k m = some x
  | [], h, _ => by cases h
  | q :: r, h, hx => by
    unfold mget
    cases he : VT.eqb KI k q.1 with
    | true => rw [hx q (by simp)]
    | false =>
      rcases List.mem_cons.1 h with h | h
      · exact absurd (by rw [← h]) (eqbI_f he)
      · exact getQ_mem k x r h fun p hp => hx p (by simp [hp])
theorem delQ_len (k : Int64) : ∀ (m : MapQ), (mget KI VQ k m).isSome = true → (mdel KI VQ k m).length + 1 = m.length
  | [], h => by cases h
  | q :: r, h => by
    unfold mget at h
    unfold mdel
    cases he : VT.eqb KI k q.1 with
    | true => rfl
    | false => rw [he] at h; have := delQ_len k r h; simp only [List.length_cons]; omega
theorem delQ_ne (k : Int64) : ∀ (m : MapQ), (m.map (·.1)).Nodup → ∀ p ∈ mdel KI VQ k m, p.1 ≠ k
  | [], _, p, hp => by cases hp
  | q :: r, hn, p, hp => by
    rw [List.map_cons, List.nodup_cons] at hn
    unfold mdel at hp
    cases he : VT.eqb KI k q.1 with
    | true =>
      rw [he] at hp
      intro e
      exact hn.1 (List.mem_map.2 ⟨p, hp, by rw [e, eqbI he]⟩)
    | false =>
      rw [he] at hp
      rcases List.mem_cons.1 hp with rfl | hp
      · exact fun e => eqbI_f he e.symm
      · exact delQ_ne k r hn.2 p hp
def mk (c : Nat) : MapQ := (List.range c).map fun j => (I64 (j + 1), Q0)
theorem mk_len (c : Nat) : (mk c).length = c := by simp [mk]
theorem mk_succ (c : Nat) : mk (c + 1) = mk c ++ [(I64 (c + 1), Q0)] := by simp [mk, List.range_succ]
theorem mk_key {c : Nat} {p : Int64 × QuP} (h : p ∈ mk c) : ∃ j, j < c ∧ p = (I64 (j + 1), Q0) := by
  obtain ⟨j, hj, rfl⟩ := List.mem_map.1 h
  exact ⟨j, by simpa using hj, rfl⟩
theorem mk_nodup : ∀ c, c < 1000 → ((mk c).map (·.1)).Nodup
  | 0, _ => by simp [mk]
  | c + 1, hc => by
    rw [mk_succ, List.map_append]
    refine List.nodup_append.2 ⟨mk_nodup c (by omega), by simp, fun a ha b hb e => ?_⟩
    obtain ⟨p, hp, rfl⟩ := List.mem_map.1 ha
    obtain ⟨j, hj, rfl⟩ := mk_key hp
    simp at hb
    rw [hb] at e
    have := (i64_eq (by omega) (by omega)).1 e
    omega
theorem asks0 (n : Nat) : F9 (n + 20) ([(0, 0, 0)], 1) = some (A0, ()) := by kernel_rfl
theorem check0 (n : Nat) : F28 (n + 20) (A0, 1, 5) = some (0, ()) := by kernel_rfl
theorem clone0 (n : Nat) : F29 n A0 = some (A0, ()) := rfl
theorem add_eq (n : Nat) (hn : 20 ≤ n) (m : MapQ) (next : Int64) (hm : m.length ≤ 1000) :
    F15 n (some (m, next), A0, 1, 5) = if m.length = 32 then some ((0, 5), some (m, next)) else some ((next + 1, 0), some (mput KI VQ (next + 1) Q0 m, next + 1)) := by
  obtain ⟨n, rfl⟩ : ∃ k, n = k + 20 := ⟨n - 20, by omega⟩
  unfold F15
  dsimp only [oelim]
  rw [check0, obind_s]
  simp only [decide_true, Bool.not_true, oite_f]
  rw [ble_t (by omega), oite_t]
  by_cases h : m.length = 32
  · have c : Int64.ofInt ↑(List.length m) = 32 := (i64_eq (a := m.length) (b := 32) (by omega) (by omega)).2 h
    rw [dec_t c, oite_t, if_pos h]
  · have c : ¬ Int64.ofInt ↑(List.length m) = 32 := fun q => h ((i64_eq (a := m.length) (b := 32) (by omega) (by omega)).1 q)
    rw [dec_f c, oite_f, if_neg h, clone0, obind_s]
    rfl
theorem end_none (n : Nat) (m : MapQ) (next k : Int64) (h : mget KI VQ k m = none) : F16 n (some (m, next), k, 0) = some (14, some (m, next)) := by
  unfold F16
  dsimp only [oelim]
  rw [h]
  rfl
theorem end_some (n : Nat) (m : MapQ) (next k : Int64) (h : mget KI VQ k m = some Q0) : F16 n (some (m, next), k, 0) = some (0, some (mdel KI VQ k m, next)) := by
  unfold F16
  dsimp only [oelim]
  rw [h]
  rfl
theorem minI (a : Nat) (ha : a < 1000) : IK.minI IntKind.i64 (I64 a) 32 = I64 (min a 32) := by
  unfold IK.minI
  have c : IK.ltb IntKind.i64 32 (I64 a) = decide (32 < a) := by
    show decide ((32 : Int64) < I64 a) = _
    have e : ((32 : Int64) < I64 a) ↔ 32 < a := i64_lt (a := 32) (by omega) (by omega)
    by_cases h : 32 < a
    · rw [dec_t h, dec_t (e.2 h)]
    · rw [dec_f h, dec_f (fun q => h (e.1 q))]
  rw [c]
  by_cases h : 32 < a
  · rw [dec_t h, show min a 32 = 32 by omega]; rfl
  · rw [dec_f h, show min a 32 = a by omega]
theorem i64_mod {a b : Nat} (ha : a < 2 ^ 63) (hb : b < 2 ^ 63) (h0 : 0 < b) : I64 a % I64 b = I64 (a % b) := by
  apply Int64.toInt_inj.1
  have := Nat.mod_lt a h0
  rw [Int64.toInt_mod, i64_toInt ha, i64_toInt hb, i64_toInt (by omega)]
  rw [Int.tmod_eq_emod_of_nonneg (by omega)]
  rfl
theorem mk_get {c k : Nat} (hk : k < 1000) (hc : c ≤ 32) : (k = 0 ∨ c < k → mget KI VQ (I64 k) (mk c) = none) ∧ (1 ≤ k → k ≤ c → mget KI VQ (I64 k) (mk c) = some Q0) := by
  refine ⟨fun h => getQ_none _ _ fun p hp e => ?_, fun h1 h2 => getQ_mem _ _ _ ?_ fun p hp => ?_⟩
  · obtain ⟨j, hj, rfl⟩ := mk_key hp
    have := (i64_eq (a := j + 1) (b := k) (by omega) (by omega)).1 e
    omega
  · exact List.mem_map.2 ⟨k - 1, by simp; omega, by rw [show k - 1 + 1 = k by omega]⟩
  · obtain ⟨j, hj, rfl⟩ := mk_key hp; rfl
theorem many_end (n : Nat) (hn : 20 ≤ n) (c k : Nat) (hc : c ≤ 32) (hk : 1 ≤ k) (hk2 : k ≤ 40) :
    (obind (F16 n (some (mk c, I64 c), I64 k, 0)) fun x_4 => obind (F16 n (x_4.2, I64 k, 0)) fun x_5 => obind (F15 n (x_5.2, A0, 1, 5)) fun x_6 => oite (decide (I64 c < I64 k)) (oite (decide (x_4.1 = 14)) (oite (decide (x_5.1 = 14)) (some (decide (I64 c = 32) == decide (x_6.1.2 = 5), ())) (some (false, ()))) (some (false, ())))
      (oite (decide (x_4.1 = 0)) (oite (decide (x_5.1 = 14)) (oite (decide (x_6.1.2 = 0)) (some (decide (x_6.1.1 = I64 c + 1), ())) (some (false, ()))) (some (false, ()))) (some (false, ())))) = (some (true, ()) : Option (Bool × Unit)) := by
  obtain ⟨g1, g2⟩ := mk_get (c := c) (k := k) (by omega) hc
  by_cases h : c < k
  · have hg := g1 (.inr h)
    rw [end_none n _ _ _ hg, obind_s, end_none n _ _ _ hg, obind_s, add_eq n hn _ _ (by rw [mk_len]; omega), mk_len, dec_t ((i64_lt (a := c) (b := k) (by omega) (by omega)).2 h)]
    by_cases h32 : c = 32
    · subst h32
      rw [if_pos rfl]
      rfl
    · have c0 : ¬ I64 c = 32 := fun q => h32 ((i64_eq (a := c) (b := 32) (by omega) (by omega)).1 q)
      rw [if_neg h32, obind_s, oite_t, dec_f c0]
      rfl
  · have hg := g2 hk (by omega)
    have hlen := delQ_len (I64 k) (mk c) (by rw [hg]; rfl)
    rw [mk_len] at hlen
    have hg2 := getQ_none (I64 k) (mdel KI VQ (I64 k) (mk c)) (delQ_ne _ _ (mk_nodup c (by omega)))
    have c1 : ¬ I64 c < I64 k := fun q => h ((i64_lt (a := c) (b := k) (by omega) (by omega)).1 q)
    rw [end_some n _ _ _ hg, obind_s, end_none n _ _ _ hg2, obind_s, add_eq n hn _ _ (by omega), if_neg (by omega), obind_s, dec_f c1, oite_f]
    simp only [decide_true, oite_t]
theorem many_loop (n : Nat) (hn : 20 ≤ n) (a d : UInt8) (N : Nat) (hN : N = (a % 40).toNat) (hN2 : N < 40) : ∀ (f k : Nat), k ≤ N → N - k < f → F4_R125 n f a d (I64 N) (I64 k) (some (mk (min k 32), I64 (min k 32))) A0 1 5 = some (true, ()) := by
  intro f
  induction f with
  | zero => intro k _ h; omega
  | succ f ih =>
    intro k hk hf
    rw [F4_R125_s]
    unfold F4_L125
    by_cases hlt : k < N
    · rw [dec_t ((i64_lt (a := k) (b := N) (by omega) (by omega)).2 hlt), oite_t, add_eq n hn _ _ (by rw [mk_len]; omega), mk_len]
      have nxt := ih (k + 1) (by omega) (by omega)
      by_cases h32 : k < 32
      · have c1 : I64 k < 32 := (i64_lt (a := k) (b := 32) (by omega) (by omega)).2 h32
        have c2 : ¬ (32 : Int64) ≤ I64 k := fun q => by have := (i64_le (a := 32) (b := k) (by omega) (by omega)).1 q; omega
        have m1 : min k 32 = k := by omega
        have m2 : min (k + 1) 32 = k + 1 := by omega
        rw [m1, if_neg (by omega), obind_s, dec_t c1, oite_t, i64_succ, putQ_new _ _ _ (fun p hp e => by
          obtain ⟨j, hj, rfl⟩ := mk_key hp
          have := (i64_eq (a := j + 1) (b := k + 1) (by omega) (by omega)).1 e
          omega), ← mk_succ]
        simp only [decide_true, Bool.not_true, oite_f]
        rw [dec_f c2, oite_f]
        rw [m2] at nxt
        exact nxt
      · have c1 : ¬ I64 k < 32 := fun q => h32 ((i64_lt (a := k) (b := 32) (by omega) (by omega)).1 q)
        have c2 : (32 : Int64) ≤ I64 k := (i64_le (a := 32) (b := k) (by omega) (by omega)).2 (by omega)
        have m1 : min k 32 = 32 := by omega
        have m2 : min (k + 1) 32 = 32 := by omega
        rw [m1, if_pos rfl, obind_s, dec_f c1, oite_f, dec_t c2, oite_t, i64_succ]
        simp only [decide_true, Bool.not_true, oite_f]
        rw [m2] at nxt
        exact nxt
    · rw [dec_f (fun q => hlt ((i64_lt (a := k) (b := N) (by omega) (by omega)).1 q)), oite_f]
      have hk2 : k = N := by omega
      subst hk2
      have e1 : IK.minI IntKind.i64 (Int64.ofInt ↑(UInt8.toNat (a % 40))) 32 = I64 (min k 32) := by rw [hN] at hN2 ⊢; exact minI _ (by omega)
      have hd := UInt8.toNat_lt d
      have e2 : (1 : Int64) + Int64.ofInt ↑(UInt8.toNat d) % 40 = I64 (1 + d.toNat % 40) := by
        have : Int64.ofInt ↑(UInt8.toNat d) % 40 = I64 (d.toNat % 40) := i64_mod (a := d.toNat) (b := 40) (by omega) (by omega) (by omega)
        rw [this]
        show I64 1 + I64 _ = _
        rw [i64_add]
      rw [e1, e2]
      have := Nat.mod_lt d.toNat (show 40 > 0 by omega)
      exact many_end n hn (min k 32) (1 + d.toNat % 40) (by omega) (by omega) (by omega)
theorem many_law (a d : UInt8) (n : Nat) : F4 (n + 80) (a, d) = some (true, ()) := by
  unfold F4
  dsimp only
  rw [show n + 80 = (n + 50) + 30 by omega, awakeQ, obind_s]
  simp only [Bool.not_true, oite_f]
  have h14 : F14 (n + 50 + 30) () = some (some ([], 0), ()) := rfl
  rw [h14, obind_s, show n + 50 + 30 = (n + 60) + 20 by omega, asks0, obind_s]
  have h40 : (a % 40).toNat < 40 := by rw [UInt8.toNat_mod]; exact Nat.mod_lt _ (by decide)
  exact many_loop (n + 60 + 20) (by omega) a d (a % 40).toNat rfl h40 (n + 60 + 20) 0 (by omega) (by omega)
theorem many_true : ∀ x : sig4.In, PTys.fits sig4.ps x → ∃ y, F4 (20 + 80) x = some y ∧ PTys.hd (.one (.c .bool)) .nil y.1 = true := by
  rintro ⟨a, d⟩ _
  exact ⟨_, many_law a d 20, rfl⟩
end Go.Proofs.Ytehpdcdpkdhcgaa
