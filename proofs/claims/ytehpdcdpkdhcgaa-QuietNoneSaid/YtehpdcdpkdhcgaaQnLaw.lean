/- The law QuietNone: a nil list; what was handed in is changed behind it. -/
import Derived.Test.YtehpdcdpkdhcgaaQnFns1
import Derived.Test.YtehpdcdpkdhcgaaSxPlain
open Go Go.Sx
namespace Go.Proofs.Ytehpdcdpkdhcgaa
abbrev Pair := List UInt8 × List UInt8
abbrev AskP := List UInt8 × UInt8 × List UInt8
abbrev QuP := List AskP × UInt64 × UInt64
theorem mod_lt8 (x c : UInt8) (hc : 0 < c.toNat) : (x % c).toNat < c.toNat := by rw [UInt8.toNat_mod]; exact Nat.mod_lt _ hc
theorem const_idx {α : Type} (l : List α) (x c : UInt8) (hc : 0 < c.toNat) (hl : l.length = c.toNat) :
    (decide ((0 : Int) ≤ ↑(UInt8.toNat (x % c))) && Nat.blt (Int.toNat ↑(UInt8.toNat (x % c))) (List.length l)) = true ∧ ∃ y ∈ l, l[Int.toNat ↑(UInt8.toNat (x % c))]? = some y := by
  have h := mod_lt8 x c hc
  obtain ⟨h1, h2⟩ := idx_nat (l := l) (k := (x % c).toNat) (by omega)
  exact ⟨h1, _, List.getElem_mem (by omega), h2⟩
theorem alert_loop (t0 : UInt8) (t1 : List UInt8) (t3 : UInt8) (t4 : UInt64) (t5 : UInt8) (t6 : Int64) (a0 : UInt8) (a1 : List UInt8) (a3 : UInt8) (a4 : UInt64) (a5 : UInt8) (a6 : Int64) (c : List UInt8) (hc : c.length = 3) (m : Nat) :
    ∀ (k : Nat) (al : List Pair), k ≤ 3 → 3 - k < m → al.length ≤ k → (∀ p ∈ al, p.2.length ≤ 1) →
      ∃ al', F8_R29 m (I64 3) (I64 k) t0 t1 t3 t4 t5 t6 a0 a1 a3 a4 a5 a6 c al = some ((a0, a1, al', a3, a4, a5, a6), ()) ∧ al'.length ≤ 3 ∧ ∀ p ∈ al', p.2.length ≤ 1 := by
  induction m with
  | zero => intros; omega
  | succ m ih =>
    intro k al hk hm hal hp
    rw [F8_R29_s]
    unfold F8_L29
    by_cases hlt : k < 3
    · obtain ⟨h1, h2⟩ := idx_i64 (l := c) (k := k) (by omega) (by omega)
      rw [dec_t ((i64_lt (by omega) (by omega)).2 hlt), h1, h2]
      simp only [oite_t, obind_s, i64_succ]
      by_cases h0 : (0 : UInt8) < c[k]'(by omega) % 3
      · obtain ⟨g1, g2⟩ := idx_i64 (l := [[(97 : UInt8)], [(98 : UInt8)], [(110 : UInt8), (111 : UInt8), (100 : UInt8), (101 : UInt8)]]) (k := k) (by simpa using hlt) (by omega)
        obtain ⟨f1, y, f2, f3⟩ := const_idx [[], [(120 : UInt8)], [(121 : UInt8)]] (c[k]'(by omega)) 3 (by decide) rfl
        rw [dec_t h0, g1, g2]
        simp only [oite_t, obind_s]
        rw [f1, f3]
        simp only [oite_t, obind_s]
        rw [ble_t (by simp; omega), oite_t]
        refine ih (k + 1) _ (by omega) (by omega) (by simp; omega) fun p hpm => ?_
        rcases List.mem_append.1 hpm with h | h
        · exact hp p h
        · simp at h; subst h
          simp at f2
          rcases f2 with rfl | rfl | rfl <;> simp
      · rw [dec_f h0]
        simp only [oite_f]
        exact ih (k + 1) al (by omega) (by omega) (by omega) hp
    · rw [dec_f (fun q => hlt ((i64_lt (by omega) (by omega)).1 q))]
      exact ⟨al, rfl, by omega, hp⟩
theorem alert_some (n : Nat) (hn : 20 < n) (z : UInt8 × UInt8 × UInt8 × UInt8 × UInt8 × UInt8) : ∃ o rule l s p v u, F8 n z = some ((o, rule, l, s, p, v, u), ()) ∧ l.length ≤ 3 ∧ (∀ p ∈ l, p.2.length ≤ 1) ∧ rule.length ≤ 4 := by
  obtain ⟨z0, z1, z2, z3, z4, z5⟩ := z
  unfold F8
  simp only
  obtain ⟨f1, y, f2, f3⟩ := const_idx [[(104 : UInt8), (111 : UInt8), (116 : UInt8)], [(99 : UInt8), (111 : UInt8), (108 : UInt8), (100 : UInt8)], [(120 : UInt8)]] z1 3 (by decide) rfl
  obtain ⟨g1, w, g2, g3⟩ := const_idx [(0 : UInt8), (2 : UInt8), (3 : UInt8), (2 : UInt8)] z5 4 (by decide) rfl
  rw [f1, f3]
  simp only [oite_t, obind_s]
  rw [g1, g3]
  simp only [oite_t, obind_s]
  obtain ⟨al, h1, h2, h3⟩ := alert_loop 0 [] 0 0 0 0 (z0 % 3) y w 0 (z5 / 4 % 8) (Int64.ofInt ↑(UInt8.toNat z2)) [z2, z3, z4] rfl n 0 [] (by omega) (by omega) (by simp) (by simp)
  refine ⟨_, _, al, _, _, _, _, h1, h2, h3, ?_⟩
  simp at f2
  rcases f2 with rfl | rfl | rfl <;> simp

def A2 : List (List UInt8 × UInt8 × List UInt8) := [([97], 1, [120]), ([98], 1, [120])]
theorem awakeQ (m : Nat) : F7 (m + 30) () = some (true, ()) := by kernel_rfl
theorem asks2 (n : Nat) : F9 (n + 20) ([(0, 0, 0), (1, 0, 0)], 2) = some (A2, ()) := by kernel_rfl
theorem add2 (n : Nat) : F1015 (n + 20) (some ([], 0), A2, 0, 9) = some ((1, 0), some ([(1, A2, 0, 9)], 1), A2) := by kernel_rfl
theorem get2 (n : Nat) : F21 n (some ([(1, A2, 0, 9)], 1), 1) = some (((A2, 0, 9), true), some ([(1, A2, 0, 9)], 1)) := by kernel_rfl
theorem add_none (n : Nat) (q : QuP) : F15 n (none, q) = some ((0, 1), none) := rfl
theorem get_none (n : Nat) (i : Int64) : F21 n (none, i) = some ((([], 0, 0), false), none) := rfl
theorem new_eq (n : Nat) : F14 n () = some (some ([], 0), ()) := rfl
theorem end_none (n : Nat) (i : Int64) (now : UInt64) : F16 n (none, i, now) = some (1, none) := rfl
theorem trim_none (n : Nat) (now : UInt64) : F17 (n + 1) (none, now) = some (0, none) := by kernel_rfl
theorem numbers_none (n : Nat) : F20 n none = some ([], none) := rfl
theorem covers_none (n : Nat) (now : UInt64) (a : UInt8 × List UInt8 × List Pair × UInt8 × UInt64 × UInt8 × Int64) : F18 (n + 1) (none, a, now) = some (0, none) := by kernel_rfl
theorem none_law (n : Nat) (q : List (List UInt8 × UInt8 × List UInt8) × UInt64 × UInt64) (hq : q.1.length < 2 ^ 63) (a : UInt8 × UInt8 × UInt8 × UInt8 × UInt8 × UInt8) (i : Int64) (now : UInt64) :
    F6 (n + 40) (q, a, i, now) = some (true, ()) := by
  unfold F6
  dsimp only
  rw [show F7 (n + 40) () = some (true, ()) from awakeQ (n + 10), obind_s]
  dsimp only
  rw [Bool.not_true, oite_f]
  by_cases hlen : 12 < q.1.length
  · have e : decide ((12 : Int64) < Int64.ofInt ↑(List.length q.1)) = true := dec_t ((i64_lt (a := 12) (b := q.1.length) (by omega) (by omega)).2 hlen)
    rw [e, oite_t]
  · have e : decide ((12 : Int64) < Int64.ofInt ↑(List.length q.1)) = false := dec_f (fun h => hlen ((i64_lt (a := 12) (b := q.1.length) (by omega) (by omega)).1 h))
    rw [e, oite_f]
    obtain ⟨o, rule, l, s, p, v, u, hal, _⟩ := alert_some (n + 40) (by omega) a
    rw [show F15 (n + 40) (none, q.1, q.2.1, q.2.2) = some ((0, 1), none) from add_none _ q, obind_s, get_none, obind_s, new_eq, obind_s]
    rw [show F9 (n + 40) ([(0, 0, 0), (1, 0, 0)], 2) = some (A2, ()) from asks2 (n + 20), obind_s]
    dsimp only
    rw [show F1015 (n + 40) (some ([], 0), A2, 0, 9) = some ((1, 0), some ([(1, A2, 0, 9)], 1), A2) from add2 (n + 20), obind_s]
    dsimp only
    have i1 : Nat.blt (Int.toNat (Int64.toInt (0 : Int64))) (List.length A2) = true := by decide
    have i2 : A2[Int.toNat (Int64.toInt (0 : Int64))]? = some ([97], 1, [120]) := by decide
    rw [i1, oite_t, i2, obind_s, get2, obind_s]
    dsimp only
    rw [dec_t rfl, oite_t, Bool.not_false, oite_t, end_none, obind_s]
    dsimp only
    rw [dec_t rfl, oite_t, show F17 (n + 40) (none, now) = some (0, none) from trim_none (n + 39) now, obind_s]
    dsimp only
    rw [dec_t rfl, oite_t, numbers_none, obind_s]
    show obind (F8 (n + 40) a) _ = _
    rw [hal, obind_s]
    dsimp only
    rw [show F18 (n + 40) (none, (o, rule, l, s, p, v, u), now) = some (0, none) from covers_none (n + 39) now _]
    rfl
theorem none_true : ∀ x : sig6.In, PTys.fits sig6.ps x → ∃ y, F6 100 x = some y ∧ PTys.hd (.one (.c .bool)) .nil y.1 = true := by
  rintro ⟨q, a, i, now⟩ hfit
  have h := hfit.1.1
  simp only [CT.fits] at h
  exact ⟨(true, ()), none_law 60 q h.1 a i now, rfl⟩
end Go.Proofs.Ytehpdcdpkdhcgaa
