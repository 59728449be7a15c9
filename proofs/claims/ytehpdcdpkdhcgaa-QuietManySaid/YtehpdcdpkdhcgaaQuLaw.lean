/- The law QuietCovers: any silence, any alert, any time: the end of it. -/
import Derived.Test.YtehpdcdpkdhcgaaQuCovers
open Go Go.Sx
namespace Go.Proofs.Ytehpdcdpkdhcgaa
theorem awakeQ (m : Nat) : F7 (m + 30) () = some (true, ()) := by kernel_rfl
theorem mod_lt8 (x c : UInt8) (hc : 0 < c.toNat) : (x % c).toNat < c.toNat := by rw [UInt8.toNat_mod]; exact Nat.mod_lt _ hc
theorem const_idx {α : Type} (l : List α) (x c : UInt8) (hc : 0 < c.toNat) (hl : l.length = c.toNat) :
    (decide ((0 : Int) ≤ ↑(UInt8.toNat (x % c))) && Nat.blt (Int.toNat ↑(UInt8.toNat (x % c))) (List.length l)) = true ∧ ∃ y ∈ l, l[Int.toNat ↑(UInt8.toNat (x % c))]? = some y := by
  have h := mod_lt8 x c hc
  obtain ⟨h1, h2⟩ := idx_nat (l := l) (k := (x % c).toNat) (by omega)
  exact ⟨h1, _, List.getElem_mem (by omega), h2⟩
theorem alert_loop (t0 : UInt8) (t1 : List UInt8) (t3 : UInt8) (t4 : UInt64) (t5 : UInt8) (t6 : Int64) (a0 : UInt8) (a1 : List UInt8) (a3 : UInt8) (a4 : UInt64) (a5 : UInt8) (a6 : Int64) (c : List UInt8) (hc : c.length = 3) (m : Nat) :
    ∀ (k : Nat) (al : List Pair), k ≤ 3 → 3 - k < m → al.length ≤ k → (∀ p ∈ al, p.2.length ≤ 1) →
      ∃ al', F8_R29 m (I64 3) (I64 k) t0 t1 t3 t4 t5 t6 a0 a1 a3 a4 a5 a6 c al = some ((a0, a1, al', a3, a4, a5, a6), ()) ∧ al'.length ≤ 3 ∧ ∀ p ∈ al', p.2.length ≤ 1 := by
  induction m with
  | zero => intros; omega
  | succ m ih =>
    intro k al hk hm hal hp
    rw [F8_R29_s]
    unfold F8_L29
    by_cases hlt : k < 3
    · obtain ⟨h1, h2⟩ := idx_i64 (l := c) (k := k) (by omega) (by omega)
      rw [dec_t ((i64_lt (by omega) (by omega)).2 hlt), h1, h2]
      simp only [oite_t, obind_s, i64_succ]
      by_cases h0 : (0 : UInt8) < c[k]'(by omega) % 3
      · obtain ⟨g1, g2⟩ := idx_i64 (l := [[(97 : UInt8)], [(98 : UInt8)], [(110 : UInt8), (111 : UInt8), (100 : UInt8), (101 : UInt8)]]) (k := k) (by simpa using hlt) (by omega)
        obtain ⟨f1, y, f2, f3⟩ := const_idx [[], [(120 : UInt8)], [(121 : UInt8)]] (c[k]'(by omega)) 3 (by decide) rfl
        rw [dec_t h0, g1, g2]
        simp only [oite_t, obind_s]
        rw [f1, f3]
        simp only [oite_t, obind_s]
        rw [ble_t (by simp; omega), oite_t]
        refine ih (k + 1) _ (by omega) (by omega) (by simp; omega) fun p hpm => ?_
        rcases List.mem_append.1 hpm with h | h
        · exact hp p h
        · simp at h; subst h
          simp at f2
          rcases f2 with rfl | rfl | rfl <;> simp
      · rw [dec_f h0]
        simp only [oite_f]
        exact ih (k + 1) al (by omega) (by omega) (by omega) hp
    · rw [dec_f (fun q => hlt ((i64_lt (by omega) (by omega)).1 q))]
      exact ⟨al, rfl, by omega, hp⟩
theorem alert_some (n : Nat) (hn : 20 < n) (z : UInt8 × UInt8 × UInt8 × UInt8 × UInt8 × UInt8) : ∃ o rule l s p v u, F8 n z = some ((o, rule, l, s, p, v, u), ()) ∧ l.length ≤ 3 ∧ (∀ p ∈ l, p.2.length ≤ 1) ∧ rule.length ≤ 4 := by
  obtain ⟨z0, z1, z2, z3, z4, z5⟩ := z
  unfold F8
  simp only
  obtain ⟨f1, y, f2, f3⟩ := const_idx [[(104 : UInt8), (111 : UInt8), (116 : UInt8)], [(99 : UInt8), (111 : UInt8), (108 : UInt8), (100 : UInt8)], [(120 : UInt8)]] z1 3 (by decide) rfl
  obtain ⟨g1, w, g2, g3⟩ := const_idx [(0 : UInt8), (2 : UInt8), (3 : UInt8), (2 : UInt8)] z5 4 (by decide) rfl
  rw [f1, f3]
  simp only [oite_t, obind_s]
  rw [g1, g3]
  simp only [oite_t, obind_s]
  obtain ⟨al, h1, h2, h3⟩ := alert_loop 0 [] 0 0 0 0 (z0 % 3) y w 0 (z5 / 4 % 8) (Int64.ofInt ↑(UInt8.toNat z2)) [z2, z3, z4] rfl n 0 [] (by omega) (by omega) (by simp) (by simp)
  refine ⟨_, _, al, _, _, _, _, h1, h2, h3, ?_⟩
  simp at f2
  rcases f2 with rfl | rfl | rfl <;> simp
theorem ask_some (n : Nat) (x : UInt8 × UInt8 × UInt8) : ∃ a : AskP, F22 n (x.1, x.2.1, x.2.2) = some (a, ()) ∧ a.2.2.length ≤ 3 := by
  unfold F22
  simp only
  obtain ⟨f1, y, f2, f3⟩ := const_idx [[(97 : UInt8)], [(98 : UInt8)], [(114 : UInt8), (117 : UInt8), (108 : UInt8), (101 : UInt8)], [(111 : UInt8), (114 : UInt8), (105 : UInt8), (103 : UInt8), (105 : UInt8), (110 : UInt8)], [(110 : UInt8), (111 : UInt8), (100 : UInt8), (101 : UInt8)]] x.1 5 (by decide) rfl
  obtain ⟨g1, w, g2, g3⟩ := const_idx [[(120 : UInt8)], [(121 : UInt8)], [(48 : UInt8)], [(104 : UInt8), (111 : UInt8), (116 : UInt8)], [(49 : UInt8)]] x.2.2 5 (by decide) rfl
  rw [f1, f3]
  simp only [oite_t, obind_s]
  rw [g1, g3]
  simp only [oite_t, obind_s]
  simp at g2
  by_cases h : (4 : UInt8) ≤ 1 + x.2.1 % 5
  · rw [dec_t h]; exact ⟨_, rfl, by simp⟩
  · rw [dec_f h]; exact ⟨_, rfl, by rcases g2 with rfl | rfl | rfl | rfl | rfl <;> simp⟩
theorem asks_loop (n : Nat) (l : List (UInt8 × UInt8 × UInt8)) (hl : l.length < 2 ^ 63) (m : Nat) : ∀ (k : Nat) (out : List AskP), k ≤ l.length → l.length - k < m → out.length ≤ 3 → out.length ≤ k → (∀ a ∈ out, a.2.2.length ≤ 3) →
    ∃ out', F9_R29 n m (3 : Int64) l (I64 l.length) (I64 k) out = some (out', ()) ∧ out'.length ≤ 3 ∧ ∀ a ∈ out', a.2.2.length ≤ 3 := by
  induction m with
  | zero => intros; omega
  | succ m ih =>
    intro k out hk hm ho hok ha
    rw [F9_R29_s]
    unfold F9_L29
    by_cases hlt : k < l.length
    · rw [dec_t ((i64_lt (by omega) (by omega)).2 hlt)]
      simp only [oite_t]
      rw [at_i64_lt (by omega) hlt]
      simp only [obind_s, i64_succ]
      by_cases h3 : k < 3
      · have : decide (I64 k < (3 : Int64)) = true := dec_t ((i64_lt (a := k) (b := 3) (by omega) (by omega)).2 h3)
        obtain ⟨a, h1, h2⟩ := ask_some n l[k]
        rw [this, h1]
        simp only [oite_t, obind_s]
        rw [ble_t (by simp; omega), oite_t]
        refine ih (k + 1) _ (by omega) (by omega) (by simp; omega) (by simp; omega) fun b hb => ?_
        rcases List.mem_append.1 hb with h | h
        · exact ha b h
        · simp at h; rw [h]; exact h2
      · have : decide (I64 k < (3 : Int64)) = false := dec_f fun q => h3 ((i64_lt (a := k) (b := 3) (by omega) (by omega)).1 q)
        rw [this]
        simp only [oite_f]
        exact ih (k + 1) out (by omega) (by omega) ho (by omega) ha
    · rw [dec_f (fun q => hlt ((i64_lt (by omega) (by omega)).1 q))]
      exact ⟨out, rfl, ho, ha⟩
abbrev QuP := List AskP × UInt64 × UInt64
theorem times_loop (n : Nat) (hn : 40 < n) (rec1 : UInt64 → Int64 → Int64 → List AskP → UInt64 → UInt64 → UInt8 → List UInt8 → List Pair → UInt8 → UInt64 → UInt8 → Int64 → List QuP → Option (Bool × Unit))
    (now : UInt64) (t3 t11 : Int64) (q0 : List AskP) (q1 q2 : UInt64) (o : UInt8) (rule : List UInt8) (l : List Pair) (s : UInt8) (p : UInt64) (v : UInt8) (u : Int64) (hl : l.length ≤ 10) (hf : Fit (namesOf o rule l))
    (y0 : List AskP) (hy : y0.length ≤ 12) (hx : AskFit y0) (y1 y2 : UInt64) (t4 : List QuP) (ts : List UInt64) (hts : ts.length ≤ 4) (m : Nat) :
    ∀ i, i ≤ ts.length → ts.length - i < m → F3_R8027 n rec1 m now t3 t11 (I64 ts.length) (I64 i) q0 q1 q2 o rule l s p v u y0 y1 y2 t4 ts = rec1 now t3 (t11 + 1) q0 q1 q2 o rule l s p v u t4 := by
  induction m with
  | zero => intros; omega
  | succ m ih =>
    intro i hi hm
    rw [F3_R8027_s]
    unfold F3_L8027
    have hnl := names_len o rule l
    by_cases hlt : i < ts.length
    · obtain ⟨h1, h2⟩ := idx_i64 (l := ts) (k := i) (by omega) (by omega)
      have next := ih (i + 1) (by omega) (by omega)
      rw [← i64_succ] at next
      rw [dec_t ((i64_lt (by omega) (by omega)).2 hlt)]
      simp only [oite_t]
      rw [h1, h2]
      simp only [oite_t, obind_s, ojoinA_eq]
      rw [ref_spec n (by omega) y0 hy, names_b n (by omega) o rule l hl]
      simp only [obind_s]
      have h10 : F10 n (y0.map refA, namesOf o rule l) = some (allA y0 (namesOf o rule l), ()) := (all_loop n (by omega) y0 hy hx _ (by omega) hf n 0 (by omega) (by omega)).2
      rw [h10]
      simp only [obind_s]
      have fin : ∀ w, w = (decide (y1 ≤ ts[i]) && (decide (ts[i] < y2) && allA y0 (namesOf o rule l))) → F3_J256877 n (F3_R8027 n rec1 m) now ts[i] w t3 t11 (I64 ts.length) (I64 i) q0 q1 q2 o rule l s p v u y0 y1 y2 t4 ts = rec1 now t3 (t11 + 1) q0 q1 q2 o rule l s p v u t4 := by
        intro w hw
        unfold F3_J256877
        rw [covers_spec n (by omega) y0 hy hx y1 y2 o rule l hl hf s p v u ts[i], ← hw]
        simp only [obind_s]
        have : (!w == w) = false := by cases w <;> rfl
        rw [this]
        exact next
      by_cases c1 : y1 ≤ ts[i]
      · by_cases c2 : ts[i] < y2
        · rw [dec_t c1, dec_t c2]
          simp only [oite_t]
          exact fin _ (by rw [dec_t c1, dec_t c2]; rfl)
        · rw [dec_t c1, dec_f c2]
          simp only [oite_t, oite_f]
          exact fin _ (by rw [dec_t c1, dec_f c2]; rfl)
      · rw [dec_f c1]
        simp only [oite_f]
        exact fin _ (by rw [dec_f c1]; rfl)
    · rw [dec_f (fun q => hlt ((i64_lt (by omega) (by omega)).1 q))]
      rfl
theorem quiets_loop (n : Nat) (hn : 40 < n) (now : UInt64) (q0 : List AskP) (q1 q2 : UInt64) (o : UInt8) (rule : List UInt8) (l : List Pair) (s : UInt8) (p : UInt64) (v : UInt8) (u : Int64) (hl : l.length ≤ 10) (hf : Fit (namesOf o rule l))
    (qs : List QuP) (hq : qs.length ≤ 2) (hqs : ∀ q ∈ qs, q.1.length ≤ 12 ∧ AskFit q.1) (m : Nat) :
    ∀ i, i ≤ qs.length → qs.length - i < m → F3_R125 n m now (I64 qs.length) (I64 i) q0 q1 q2 o rule l s p v u qs = some (true, ()) := by
  induction m with
  | zero => intros; omega
  | succ m ih =>
    intro i hi hm
    rw [F3_R125_s]
    unfold F3_L125
    by_cases hlt : i < qs.length
    · obtain ⟨h1, h2⟩ := idx_i64 (l := qs) (k := i) (by omega) (by omega)
      obtain ⟨g1, g2⟩ := hqs _ (List.getElem_mem hlt)
      rw [dec_t ((i64_lt (by omega) (by omega)).2 hlt)]
      simp only [oite_t]
      rw [h1, h2]
      simp only [oite_t, obind_s]
      have := times_loop n hn (F3_R125 n m) now (I64 qs.length) (I64 i) q0 q1 q2 o rule l s p v u hl hf qs[i].1 g1 g2 qs[i].2.1 qs[i].2.2 qs [now, q1, q2, q1 + 1] (by simp) n 0 (by omega) (by simp; omega)
      refine this.trans ?_
      rw [i64_succ]
      exact ih (i + 1) (by omega) (by omega)
    · rw [dec_f (fun q => hlt ((i64_lt (by omega) (by omega)).1 q))]
      rfl
theorem F3_eq (n : Nat) (q : QuP) (asks : List (UInt8 × UInt8 × UInt8)) (a : UInt8 × UInt8 × UInt8 × UInt8 × UInt8 × UInt8) (now : UInt64) : F3 n (q, asks, a, now) = obind (F7 n ()) fun x => oite (!x.1) (some (false, ()))
    (oite (decide ((12 : Int64) < I64 q.1.length)) (some (true, ())) (obind (F8 n a) fun x_2 => obind (F9 n (asks, 3)) fun x_3 =>
      F3_R125 n n now (I64 2) 0 q.1 q.2.1 q.2.2 x_2.1.1 x_2.1.2.1 x_2.1.2.2.1 x_2.1.2.2.2.1 x_2.1.2.2.2.2.1 x_2.1.2.2.2.2.2.1 x_2.1.2.2.2.2.2.2 [(q.1, q.2.1, q.2.2), (x_3.1, q.2.1, q.2.2)])) := rfl
theorem covers_true : ∀ x : sig3.In, PTys.fits sig3.ps x → ∃ n y, F3 n x = some y ∧ PTys.hd (.one (.c .bool)) .nil y.1 = true := by
  rintro ⟨q, asks, a, now⟩ hfit
  have hq := hfit.1
  have ha := hfit.2.1
  simp only [PTy.fits, CTs.fits, CT.fits] at hq ha
  have hql : q.1.length < 2 ^ 63 := hq.1.1
  have hqf : AskFit q.1 := fun x hx => by
    obtain ⟨i, hi, e⟩ := List.getElem_of_mem hx
    have := hq.1.2 i hi
    have := this.2.2.1
    rw [← e]; exact this
  have hal : asks.length < 2 ^ 63 := ha.1
  refine ⟨asks.length + 50 + 30, (true, ()), ?_, rfl⟩
  refine (F3_eq _ _ _ _ _).trans ?_
  rw [awakeQ, obind_s]
  simp only [Bool.not_true, oite_f]
  generalize hn : asks.length + 50 + 30 = n
  by_cases h : (12 : Int64) < I64 q.1.length
  · rw [dec_t h, oite_t]
  · have hl2 : q.1.length ≤ 12 := by have := mt (i64_lt (a := 12) (b := q.1.length) (by omega) hql).2 h; omega
    obtain ⟨o, rule, l, s, p, v, u, g1, g2, g3, g4⟩ := alert_some n (by omega) a
    rw [dec_f h, oite_f, g1]
    simp only [obind_s]
    obtain ⟨out, f1, f2, f3⟩ := asks_loop n asks hal n 0 [] (by omega) (by omega) (by simp) (by simp) (by simp)
    have f9 : F9 n (asks, 3) = some (out, ()) := f1
    rw [f9]
    simp only [obind_s]
    have hd := dig_len o.toNat
    have hfit' : Fit (namesOf o rule l) := by
      intro z hz
      unfold namesOf at hz
      rcases List.mem_append.1 hz with h | h
      · rcases List.mem_append.1 h with h | h
        · have := g3 z h; omega
        · split at h
          · cases h
          · simp at h; rw [h]; simp; omega
      · split at h
        · cases h
        · simp at h; rw [h]; simp; omega
    exact quiets_loop n (by omega) now q.1 q.2.1 q.2.2 o rule l s p v u (by omega) hfit' [(q.1, q.2.1, q.2.2), (out, q.2.1, q.2.2)] (by simp) (by
      intro z hz
      simp at hz
      rcases hz with rfl | rfl
      · exact ⟨hl2, hqf⟩
      · exact ⟨by simp; omega, fun x hx => by have := f3 x hx; omega⟩) n 0 (by omega) (by simp; omega)
end Go.Proofs.Ytehpdcdpkdhcgaa
