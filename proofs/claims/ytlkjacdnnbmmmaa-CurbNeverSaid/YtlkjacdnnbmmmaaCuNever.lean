/- The law CurbNever: nothing holds itself back; what doesn't fire holds nothing; without curbs all are free. -/
import Derived.Test.YtlkjacdnnbmmmaaCuFns1
import Derived.Test.YtlkjacdnnbmmmaaSxPlain
open Go Go.Sx
namespace Go.Proofs.Ytlkjacdnnbmmmaa
abbrev Pair := List UInt8 × List UInt8
abbrev AskP := List UInt8 × UInt8 × List UInt8
abbrev AlP := UInt8 × List UInt8 × List Pair × UInt8 × UInt64 × UInt8 × Int64
abbrev CuP := List AskP × List AskP × List (List UInt8)
theorem awakeU : F5 200 () = some (true, ()) := by kernel_rfl
theorem mod_lt8 (x c : UInt8) (hc : 0 < c.toNat) : (x % c).toNat < c.toNat := by rw [UInt8.toNat_mod]; exact Nat.mod_lt _ hc
theorem const_idx {α : Type} (l : List α) (x c : UInt8) (hc : 0 < c.toNat) (hl : l.length = c.toNat) :
    (decide ((0 : Int) ≤ ↑(UInt8.toNat (x % c))) && Nat.blt (Int.toNat ↑(UInt8.toNat (x % c))) (List.length l)) = true ∧ ∃ y ∈ l, l[Int.toNat ↑(UInt8.toNat (x % c))]? = some y := by
  have h := mod_lt8 x c hc
  obtain ⟨h1, h2⟩ := idx_nat (l := l) (k := (x % c).toNat) (by omega)
  exact ⟨h1, _, List.getElem_mem (by omega), h2⟩
theorem alert_loop (t0 : UInt8) (t1 : List UInt8) (t3 : UInt8) (t4 : UInt64) (t5 : UInt8) (t6 : Int64) (a0 : UInt8) (a1 : List UInt8) (a3 : UInt8) (a4 : UInt64) (a5 : UInt8) (a6 : Int64) (c : List UInt8) (hc : c.length = 3) (m : Nat) :
    ∀ (k : Nat) (al : List Pair), k ≤ 3 → 3 - k < m → al.length ≤ k → (∀ p ∈ al, p.2.length ≤ 1) →
      ∃ al', F6_R29 m (I64 3) (I64 k) t0 t1 t3 t4 t5 t6 a0 a1 a3 a4 a5 a6 c al = some ((a0, a1, al', a3, a4, a5, a6), ()) ∧ al'.length ≤ 3 ∧ ∀ p ∈ al', p.2.length ≤ 1 := by
  induction m with
  | zero => intros; omega
  | succ m ih =>
    intro k al hk hm hal hp
    rw [F6_R29_s]
    unfold F6_L29
    by_cases hlt : k < 3
    · obtain ⟨h1, h2⟩ := idx_i64 (l := c) (k := k) (by omega) (by omega)
      rw [dec_t ((i64_lt (by omega) (by omega)).2 hlt), h1, h2]
      simp only [oite_t, obind_s, i64_succ]
      by_cases h0 : (0 : UInt8) < c[k]'(by omega) % 3
      · obtain ⟨g1, g2⟩ := idx_i64 (l := [[(97 : UInt8)], [(98 : UInt8)], [(110 : UInt8), (111 : UInt8), (100 : UInt8), (101 : UInt8)]]) (k := k) (by simpa using hlt) (by omega)
        obtain ⟨f1, y, f2, f3⟩ := const_idx [[], [(120 : UInt8)], [(121 : UInt8)]] (c[k]'(by omega)) 3 (by decide) rfl
        rw [dec_t h0, g1, g2]
        simp only [oite_t, obind_s]
        rw [f1, f3]
        simp only [oite_t, obind_s]
        rw [ble_t (by simp; omega), oite_t]
        refine ih (k + 1) _ (by omega) (by omega) (by simp; omega) fun p hpm => ?_
        rcases List.mem_append.1 hpm with h | h
        · exact hp p h
        · simp at h; subst h
          simp at f2
          rcases f2 with rfl | rfl | rfl <;> simp
      · rw [dec_f h0]
        simp only [oite_f]
        exact ih (k + 1) al (by omega) (by omega) (by omega) hp
    · rw [dec_f (fun q => hlt ((i64_lt (by omega) (by omega)).1 q))]
      exact ⟨al, rfl, by omega, hp⟩
theorem alert_some (n : Nat) (hn : 20 < n) (z : UInt8 × UInt8 × UInt8 × UInt8 × UInt8 × UInt8) : ∃ o rule l s p v u, F6 n z = some ((o, rule, l, s, p, v, u), ()) ∧ l.length ≤ 3 ∧ (∀ p ∈ l, p.2.length ≤ 1) ∧ rule.length ≤ 4 := by
  obtain ⟨z0, z1, z2, z3, z4, z5⟩ := z
  unfold F6
  simp only
  obtain ⟨f1, y, f2, f3⟩ := const_idx [[(104 : UInt8), (111 : UInt8), (116 : UInt8)], [(99 : UInt8), (111 : UInt8), (108 : UInt8), (100 : UInt8)], [(120 : UInt8)]] z1 3 (by decide) rfl
  obtain ⟨g1, w, g2, g3⟩ := const_idx [(0 : UInt8), (2 : UInt8), (3 : UInt8), (2 : UInt8)] z5 4 (by decide) rfl
  rw [f1, f3]
  simp only [oite_t, obind_s]
  rw [g1, g3]
  simp only [oite_t, obind_s]
  obtain ⟨al, h1, h2, h3⟩ := alert_loop 0 [] 0 0 0 0 (z0 % 3) y w 0 (z5 / 4 % 8) (Int64.ofInt ↑(UInt8.toNat z2)) [z2, z3, z4] rfl n 0 [] (by omega) (by omega) (by simp) (by simp)
  refine ⟨_, _, al, _, _, _, _, h1, h2, h3, ?_⟩
  simp at f2
  rcases f2 with rfl | rfl | rfl <;> simp

theorem same_loop (l : List Pair) (hl : l.length < 2 ^ 62) (m : Nat) : ∀ k, k ≤ l.length → l.length - k < m → F37_R29 m l l (I64 l.length) (I64 k) = some (true, ()) := by
  induction m with
  | zero => intros; omega
  | succ m ih =>
    intro k hk hm
    rw [F37_R29_s]
    unfold F37_L29
    by_cases hlt : k < l.length
    · rw [dec_t ((i64_lt (by omega) (by omega)).2 hlt)]
      simp only [oite_t]
      rw [at_i64_lt (by omega) hlt]
      simp only [obind_s, BEq.rfl, Bool.and_true, Bool.not_true, oite_f, i64_succ]
      exact ih (k + 1) (by omega) (by omega)
    · rw [dec_f (fun q => hlt ((i64_lt (by omega) (by omega)).1 q))]
      rfl
theorem never_self (n : Nat) (hn : 40 < n) (c : CuP) (a : AlP) (hl : a.2.2.1.length ≤ 12) : F7 n (c, a, a) = some (false, ()) := by
  obtain ⟨a0, a1, a2, a3, a4, a5, a6⟩ := a
  unfold F7
  simp only at hl ⊢
  by_cases h : a3 = 2
  · have h37 : F37 n (a2, a2) = some (true, ()) := by
      unfold F37
      simp only [decide_true, Bool.not_true, oite_f]
      exact same_loop a2 (by omega) n 0 (by omega) (by omega)
    have h16 : F16 n ((a0, a1, a2, a3, a4, a5, a6), a0, a1, a2, a3, a4, a5, a6) = some (true, ()) := by
      unfold F16 F28
      simp only [decide_true, BEq.rfl, oite_t, h37, obind_s]
    rw [dec_t h, h16]
    rfl
  · rw [dec_f h]; rfl
theorem never_idle (n : Nat) (c : CuP) (a b : AlP) (h : a.2.2.2.1 ≠ 2) : F7 n (c, a, b) = some (false, ()) := by
  unfold F7
  simp only
  rw [dec_f h]; rfl
theorem held_none (n : Nat) (hn : 0 < n) (a : AlP) (all : List AlP) : F9 n ([], a, all) = some (false, ()) := by
  obtain ⟨n, rfl⟩ : ∃ k, n = k + 1 := ⟨n - 1, by omega⟩
  unfold F9
  simp only
  rw [show (Int64.ofInt ↑(List.length ([] : List CuP))) = I64 0 from rfl, F9_R13_s]
  unfold F9_L13
  rfl
theorem held_empty (n : Nat) (hn : 40 < n) (c : CuP) (a : AlP) : F9 n ([c], a, []) = some (false, ()) := by
  obtain ⟨n, rfl⟩ : ∃ k, n = k + 2 := ⟨n - 2, by omega⟩
  obtain ⟨a0, a1, a2, a3, a4, a5, a6⟩ := a
  unfold F9
  simp only
  have inner : ∀ rec all' t3 t11 t21, F9_R859 (n + 2) rec (n + 2) all' t3 t11 t21 [] (I64 0) (I64 0) a0 a1 a2 a3 a4 a5 a6 c.1 c.2.1 c.2.2 = rec all' t3 t11 (t21 + 1) a0 a1 a2 a3 a4 a5 a6 := by
    intro rec all' t3 t11 t21
    rw [F9_R859_s]
    unfold F9_L859
    rfl
  rw [show (Int64.ofInt ↑(List.length ([c] : List CuP))) = I64 1 from rfl, show (0 : Int64) = I64 0 from rfl, F9_R13_s]
  rw [show F9_L13 (n + 2) (F9_R13 (n + 2) (n + 1)) [] [c] (I64 1) (I64 0) a0 a1 a2 a3 a4 a5 a6 = F9_R859 (n + 2) (F9_R13 (n + 2) (n + 1)) (n + 2) [] [c] (I64 1) (I64 0) [] (I64 0) (I64 0) a0 a1 a2 a3 a4 a5 a6 c.1 c.2.1 c.2.2 from rfl]
  rw [inner, i64_succ, F9_R13_s]
  unfold F9_L13
  rfl
theorem free_loop (n : Nat) (hn : 0 < n) (all : List AlP) (hl : all.length ≤ 100) (m : Nat) : ∀ k, k ≤ all.length → all.length - k < m → F8_R29 n m [] all all (I64 all.length) (I64 k) (all.take k) = some (all, ()) := by
  induction m with
  | zero => intros; omega
  | succ m ih =>
    intro k hk hm
    rw [F8_R29_s]
    unfold F8_L29
    by_cases hlt : k < all.length
    · have h9 : F9 n ([], (Prod.fst all[k], Prod.fst (Prod.snd all[k]), Prod.fst (Prod.snd (Prod.snd all[k])), Prod.fst (Prod.snd (Prod.snd (Prod.snd all[k]))), Prod.fst (Prod.snd (Prod.snd (Prod.snd (Prod.snd all[k])))), Prod.fst (Prod.snd (Prod.snd (Prod.snd (Prod.snd (Prod.snd all[k]))))), Prod.snd (Prod.snd (Prod.snd (Prod.snd (Prod.snd (Prod.snd all[k])))))), all) = some (false, ()) := held_none n hn _ _
      rw [dec_t ((i64_lt (by omega) (by omega)).2 hlt)]
      simp only [oite_t]
      rw [at_i64_lt (by omega) hlt]
      simp only [obind_s]
      rw [h9]
      simp only [obind_s, Bool.not_false, oite_t, i64_succ]
      rw [ble_t (by simp; omega), oite_t]
      have ht : all.take (k + 1) = all.take k ++ [all[k]] := by rw [List.take_add_one, List.getElem?_eq_getElem hlt]; rfl
      have := ih (k + 1) (by omega) (by omega)
      rw [ht] at this
      exact this
    · have : all.take k = all := List.take_of_length_le (by omega)
      rw [dec_f (fun q => hlt ((i64_lt (by omega) (by omega)).1 q)), this]
      rfl
theorem end_true (n : Nat) (hn : 200 ≤ n) (c : CuP) (a : AlP) (all : List AlP) (hl : all.length ≤ 100) : F3_J63 n c.1 c.2.1 c.2.2 a.1 a.2.1 a.2.2.1 a.2.2.2.1 a.2.2.2.2.1 a.2.2.2.2.2.1 a.2.2.2.2.2.2 all = some (true, ()) := by
  have h8 : F8 n ([], all) = some (all, ()) := free_loop n (by omega) all hl n 0 (by omega) (by omega)
  have h9 := held_none n (by omega) a all
  have h9' := held_empty n (by omega) c a
  obtain ⟨a0, a1, a2, a3, a4, a5, a6⟩ := a
  obtain ⟨c0, c1, c2⟩ := c
  unfold F3_J63
  simp only
  rw [h8]
  simp only [obind_s, decide_true, oite_t]
  rw [h9]
  simp only [obind_s, Bool.not_false, oite_t]
  rw [h9']
  rfl
theorem all_loop (n : Nat) (hn : 200 ≤ n) (c : CuP) (a b : AlP) (ha : a.2.2.1.length ≤ 12) (hb : b.2.2.1.length ≤ 12) (t : List (UInt8 × UInt8 × UInt8 × UInt8 × UInt8 × UInt8)) (ht : t.length ≤ 12) (m : Nat) :
    ∀ (k : Nat) (all : List AlP), k ≤ t.length → t.length - k < m → all.length ≤ k → F3_R125 n m t (I64 t.length) (I64 k) c.1 c.2.1 c.2.2 a.1 a.2.1 a.2.2.1 a.2.2.2.1 a.2.2.2.2.1 a.2.2.2.2.2.1 a.2.2.2.2.2.2 b.1 b.2.1 b.2.2.1 b.2.2.2.1 b.2.2.2.2.1 b.2.2.2.2.2.1 b.2.2.2.2.2.2 all = some (true, ()) := by
  induction m with
  | zero => intros; omega
  | succ m ih =>
    intro k all hk hm hal
    rw [F3_R125_s]
    unfold F3_L125
    by_cases hlt : k < t.length
    · obtain ⟨o, rule, l, s, p, v, u, g1, _, _, _⟩ := alert_some n (by omega) t[k]
      have g1' : F6 n (Prod.fst t[k], Prod.fst (Prod.snd t[k]), Prod.fst (Prod.snd (Prod.snd t[k])), Prod.fst (Prod.snd (Prod.snd (Prod.snd t[k]))), Prod.fst (Prod.snd (Prod.snd (Prod.snd (Prod.snd t[k])))), Prod.snd (Prod.snd (Prod.snd (Prod.snd (Prod.snd t[k]))))) = _ := g1
      rw [dec_t ((i64_lt (by omega) (by omega)).2 hlt)]
      simp only [oite_t]
      rw [at_i64_lt (by omega) hlt]
      simp only [obind_s]
      rw [g1']
      simp only [obind_s, i64_succ]
      rw [ble_t (by simp; omega), oite_t]
      exact ih (k + 1) _ (by omega) (by omega) (by simp; omega)
    · have fin := end_true n hn c a all (by omega)
      have sa := never_self n (by omega) c a ha
      have sb := never_self n (by omega) c b hb
      have si : a.2.2.2.1 ≠ 2 → F7 n (c, a, b) = some (false, ()) := never_idle n c a b
      obtain ⟨a0, a1, a2, a3, a4, a5, a6⟩ := a
      obtain ⟨b0, b1, b2, b3, b4, b5, b6⟩ := b
      obtain ⟨c0, c1, c2⟩ := c
      rw [dec_f (fun q => hlt ((i64_lt (by omega) (by omega)).1 q))]
      simp only [oite_f, ojoinA_eq]
      by_cases h : a3 = 2
      · rw [dec_t h]
        simp only [Bool.not_true, oite_f]
        rw [sa]
        simp only [obind_s, oite_f]
        rw [sb]
        exact fin
      · rw [dec_f h]
        simp only [Bool.not_false, oite_t]
        rw [si h]
        simp only [obind_s, oite_f]
        rw [sa]
        simp only [obind_s, oite_f]
        rw [sb]
        exact fin
theorem lenB {k : Nat} (h : k < 2 ^ 63) : decide ((12 : Int64) < I64 k) = decide (12 < k) := by rw [decide_eq_decide]; exact i64_lt (a := 12) (b := k) (by omega) h
theorem F3_eq (n : Nat) (c : CuP) (a b : AlP) (t : List (UInt8 × UInt8 × UInt8 × UInt8 × UInt8 × UInt8)) : F3 n (c, a, b, t) = obind (F5 n ()) fun x => oite (!x.1) (some (false, ()))
    (oite (decide ((12 : Int64) < I64 c.1.length)) (some (true, ())) (oite (decide ((12 : Int64) < I64 c.2.1.length)) (some (true, ())) (oite (decide ((12 : Int64) < I64 c.2.2.length)) (some (true, ()))
    (oite (decide ((12 : Int64) < I64 a.2.2.1.length)) (some (true, ())) (oite (decide ((12 : Int64) < I64 b.2.2.1.length)) (some (true, ())) (oite (decide ((12 : Int64) < I64 t.length)) (some (true, ()))
    (F3_R125 n n t (I64 t.length) 0 c.1 c.2.1 c.2.2 a.1 a.2.1 a.2.2.1 a.2.2.2.1 a.2.2.2.2.1 a.2.2.2.2.2.1 a.2.2.2.2.2.2 b.1 b.2.1 b.2.2.1 b.2.2.2.1 b.2.2.2.2.1 b.2.2.2.2.2.1 b.2.2.2.2.2.2 []))))))) := rfl
theorem never_true : ∀ x : sig3.In, PTys.fits sig3.ps x → ∃ y, F3 200 x = some y ∧ PTys.hd (.one (.c .bool)) .nil y.1 = true := by
  rintro ⟨c, a, b, t⟩ hfit
  have h1 := hfit.2.1
  have h2 := hfit.2.2.1
  have h3 := hfit.2.2.2.1
  simp only [PTy.fits, CTs.fits, CT.fits] at h1 h2 h3
  have ha : a.2.2.1.length < 2 ^ 63 := h1.2.2.1.1
  have hb : b.2.2.1.length < 2 ^ 63 := h2.2.2.1.1
  have ht : t.length < 2 ^ 63 := h3.1
  refine ⟨(true, ()), ?_, rfl⟩
  refine (F3_eq _ _ _ _ _).trans ?_
  rw [awakeU, obind_s, lenB ha, lenB hb, lenB ht]
  simp only [Bool.not_true, oite_f]
  generalize decide ((12 : Int64) < I64 c.1.length) = q1
  generalize decide ((12 : Int64) < I64 c.2.1.length) = q2
  generalize decide ((12 : Int64) < I64 c.2.2.length) = q3
  by_cases k1 : 12 < a.2.2.1.length
  · rw [dec_t k1]; cases q1 <;> cases q2 <;> cases q3 <;> rfl
  · by_cases k2 : 12 < b.2.2.1.length
    · rw [dec_f k1, dec_t k2]; cases q1 <;> cases q2 <;> cases q3 <;> rfl
    · by_cases k3 : 12 < t.length
      · rw [dec_f k1, dec_f k2, dec_t k3]; cases q1 <;> cases q2 <;> cases q3 <;> rfl
      · rw [dec_f k1, dec_f k2, dec_f k3]
        simp only [oite_f]
        have := all_loop 200 (by omega) c a b (by omega) (by omega) t (by omega) 200 0 [] (by omega) (by omega) (by simp)
        cases q1 <;> cases q2 <;> cases q3 <;> first | rfl | exact this
end Go.Proofs.Ytlkjacdnnbmmmaa
