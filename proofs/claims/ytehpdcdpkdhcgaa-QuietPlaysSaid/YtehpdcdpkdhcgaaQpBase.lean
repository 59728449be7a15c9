/- The law QuietCovers: any silence, any alert, any time: the end of it. -/
import Derived.Test.YtehpdcdpkdhcgaaQpCovers
open Go Go.Sx
namespace Go.Proofs.Ytehpdcdpkdhcgaa
theorem awakeQ (m : Nat) : F7 (m + 30) () = some (true, ()) := by kernel_rfl
theorem mod_lt8 (x c : UInt8) (hc : 0 < c.toNat) : (x % c).toNat < c.toNat := by rw [UInt8.toNat_mod]; exact Nat.mod_lt _ hc
theorem const_idx {α : Type} (l : List α) (x c : UInt8) (hc : 0 < c.toNat) (hl : l.length = c.toNat) :
    (decide ((0 : Int) ≤ ↑(UInt8.toNat (x % c))) && Nat.blt (Int.toNat ↑(UInt8.toNat (x % c))) (List.length l)) = true ∧ ∃ y ∈ l, l[Int.toNat ↑(UInt8.toNat (x % c))]? = some y := by
  have h := mod_lt8 x c hc
  obtain ⟨h1, h2⟩ := idx_nat (l := l) (k := (x % c).toNat) (by omega)
  exact ⟨h1, _, List.getElem_mem (by omega), h2⟩
theorem alert_loop (t0 : UInt8) (t1 : List UInt8) (t3 : UInt8) (t4 : UInt64) (t5 : UInt8) (t6 : Int64) (a0 : UInt8) (a1 : List UInt8) (a3 : UInt8) (a4 : UInt64) (a5 : UInt8) (a6 : Int64) (c : List UInt8) (hc : c.length = 3) (m : Nat) :
    ∀ (k : Nat) (al : List Pair), k ≤ 3 → 3 - k < m → al.length ≤ k → (∀ p ∈ al, p.2.length ≤ 1) →
      ∃ al', F8_R29 m (I64 3) (I64 k) t0 t1 t3 t4 t5 t6 a0 a1 a3 a4 a5 a6 c al = some ((a0, a1, al', a3, a4, a5, a6), ()) ∧ al'.length ≤ 3 ∧ ∀ p ∈ al', p.2.length ≤ 1 := by
  induction m with
  | zero => intros; omega
  | succ m ih =>
    intro k al hk hm hal hp
    rw [F8_R29_s]
    unfold F8_L29
    by_cases hlt : k < 3
    · obtain ⟨h1, h2⟩ := idx_i64 (l := c) (k := k) (by omega) (by omega)
      rw [dec_t ((i64_lt (by omega) (by omega)).2 hlt), h1, h2]
      simp only [oite_t, obind_s, i64_succ]
      by_cases h0 : (0 : UInt8) < c[k]'(by omega) % 3
      · obtain ⟨g1, g2⟩ := idx_i64 (l := [[(97 : UInt8)], [(98 : UInt8)], [(110 : UInt8), (111 : UInt8), (100 : UInt8), (101 : UInt8)]]) (k := k) (by simpa using hlt) (by omega)
        obtain ⟨f1, y, f2, f3⟩ := const_idx [[], [(120 : UInt8)], [(121 : UInt8)]] (c[k]'(by omega)) 3 (by decide) rfl
        rw [dec_t h0, g1, g2]
        simp only [oite_t, obind_s]
        rw [f1, f3]
        simp only [oite_t, obind_s]
        rw [ble_t (by simp; omega), oite_t]
        refine ih (k + 1) _ (by omega) (by omega) (by simp; omega) fun p hpm => ?_
        rcases List.mem_append.1 hpm with h | h
        · exact hp p h
        · simp at h; subst h
          simp at f2
          rcases f2 with rfl | rfl | rfl <;> simp
      · rw [dec_f h0]
        simp only [oite_f]
        exact ih (k + 1) al (by omega) (by omega) (by omega) hp
    · rw [dec_f (fun q => hlt ((i64_lt (by omega) (by omega)).1 q))]
      exact ⟨al, rfl, by omega, hp⟩
theorem alert_some (n : Nat) (hn : 20 < n) (z : UInt8 × UInt8 × UInt8 × UInt8 × UInt8 × UInt8) : ∃ o rule l s p v u, F8 n z = some ((o, rule, l, s, p, v, u), ()) ∧ l.length ≤ 3 ∧ (∀ p ∈ l, p.2.length ≤ 1) ∧ rule.length ≤ 4 := by
  obtain ⟨z0, z1, z2, z3, z4, z5⟩ := z
  unfold F8
  simp only
  obtain ⟨f1, y, f2, f3⟩ := const_idx [[(104 : UInt8), (111 : UInt8), (116 : UInt8)], [(99 : UInt8), (111 : UInt8), (108 : UInt8), (100 : UInt8)], [(120 : UInt8)]] z1 3 (by decide) rfl
  obtain ⟨g1, w, g2, g3⟩ := const_idx [(0 : UInt8), (2 : UInt8), (3 : UInt8), (2 : UInt8)] z5 4 (by decide) rfl
  rw [f1, f3]
  simp only [oite_t, obind_s]
  rw [g1, g3]
  simp only [oite_t, obind_s]
  obtain ⟨al, h1, h2, h3⟩ := alert_loop 0 [] 0 0 0 0 (z0 % 3) y w 0 (z5 / 4 % 8) (Int64.ofInt ↑(UInt8.toNat z2)) [z2, z3, z4] rfl n 0 [] (by omega) (by omega) (by simp) (by simp)
  refine ⟨_, _, al, _, _, _, _, h1, h2, h3, ?_⟩
  simp at f2
  rcases f2 with rfl | rfl | rfl <;> simp
theorem ask_some (n : Nat) (x : UInt8 × UInt8 × UInt8) : ∃ a : AskP, F22 n (x.1, x.2.1, x.2.2) = some (a, ()) ∧ a.2.2.length ≤ 3 := by
  unfold F22
  simp only
  obtain ⟨f1, y, f2, f3⟩ := const_idx [[(97 : UInt8)], [(98 : UInt8)], [(114 : UInt8), (117 : UInt8), (108 : UInt8), (101 : UInt8)], [(111 : UInt8), (114 : UInt8), (105 : UInt8), (103 : UInt8), (105 : UInt8), (110 : UInt8)], [(110 : UInt8), (111 : UInt8), (100 : UInt8), (101 : UInt8)]] x.1 5 (by decide) rfl
  obtain ⟨g1, w, g2, g3⟩ := const_idx [[(120 : UInt8)], [(121 : UInt8)], [(48 : UInt8)], [(104 : UInt8), (111 : UInt8), (116 : UInt8)], [(49 : UInt8)]] x.2.2 5 (by decide) rfl
  rw [f1, f3]
  simp only [oite_t, obind_s]
  rw [g1, g3]
  simp only [oite_t, obind_s]
  simp at g2
  by_cases h : (4 : UInt8) ≤ 1 + x.2.1 % 5
  · rw [dec_t h]; exact ⟨_, rfl, by simp⟩
  · rw [dec_f h]; exact ⟨_, rfl, by rcases g2 with rfl | rfl | rfl | rfl | rfl <;> simp⟩
theorem asks_loop (n : Nat) (l : List (UInt8 × UInt8 × UInt8)) (hl : l.length < 2 ^ 63) (m : Nat) : ∀ (k : Nat) (out : List AskP), k ≤ l.length → l.length - k < m → out.length ≤ 3 → out.length ≤ k → (∀ a ∈ out, a.2.2.length ≤ 3) →
    ∃ out', F9_R29 n m (3 : Int64) l (I64 l.length) (I64 k) out = some (out', ()) ∧ out'.length ≤ 3 ∧ ∀ a ∈ out', a.2.2.length ≤ 3 := by
  induction m with
  | zero => intros; omega
  | succ m ih =>
    intro k out hk hm ho hok ha
    rw [F9_R29_s]
    unfold F9_L29
    by_cases hlt : k < l.length
    · rw [dec_t ((i64_lt (by omega) (by omega)).2 hlt)]
      simp only [oite_t]
      rw [at_i64_lt (by omega) hlt]
      simp only [obind_s, i64_succ]
      by_cases h3 : k < 3
      · have : decide (I64 k < (3 : Int64)) = true := dec_t ((i64_lt (a := k) (b := 3) (by omega) (by omega)).2 h3)
        obtain ⟨a, h1, h2⟩ := ask_some n l[k]
        rw [this, h1]
        simp only [oite_t, obind_s]
        rw [ble_t (by simp; omega), oite_t]
        refine ih (k + 1) _ (by omega) (by omega) (by simp; omega) (by simp; omega) fun b hb => ?_
        rcases List.mem_append.1 hb with h | h
        · exact ha b h
        · simp at h; rw [h]; exact h2
      · have : decide (I64 k < (3 : Int64)) = false := dec_f fun q => h3 ((i64_lt (a := k) (b := 3) (by omega) (by omega)).1 q)
        rw [this]
        simp only [oite_f]
        exact ih (k + 1) out (by omega) (by omega) ho (by omega) ha
    · rw [dec_f (fun q => hlt ((i64_lt (by omega) (by omega)).1 q))]
      exact ⟨out, rfl, ho, ha⟩
end Go.Proofs.Ytehpdcdpkdhcgaa
