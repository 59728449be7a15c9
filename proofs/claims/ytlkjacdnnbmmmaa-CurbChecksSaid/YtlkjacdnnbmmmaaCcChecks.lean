/- The law CurbChecks, whole: whatever the curbs, the code's answer is the document's, and so is that of many. -/
import Derived.Test.YtlkjacdnnbmmmaaCcLaw
open Go Go.Sx
namespace Go.Proofs.Ytlkjacdnnbmmmaa
theorem awakeC (m : Nat) : F5 (m + 30) () = some (true, ()) := by kernel_rfl
theorem oneAsk (m : Nat) : F14 (m + 30) ([(0, 0, 0)], 1) = some ([([97], 1, [120])], ()) := by kernel_rfl
theorem mod_ltC (x c : UInt8) (hc : 0 < c.toNat) : (x % c).toNat < c.toNat := by rw [UInt8.toNat_mod]; exact Nat.mod_lt _ hc
theorem const_idxC {α : Type} (l : List α) (x c : UInt8) (hc : 0 < c.toNat) (hl : l.length = c.toNat) :
    (decide ((0 : Int) ≤ ↑(UInt8.toNat (x % c))) && Nat.blt (Int.toNat ↑(UInt8.toNat (x % c))) (List.length l)) = true ∧ ∃ y ∈ l, l[Int.toNat ↑(UInt8.toNat (x % c))]? = some y := by
  have h := mod_ltC x c hc
  obtain ⟨h1, h2⟩ := idx_nat (l := l) (k := (x % c).toNat) (by omega)
  exact ⟨h1, _, List.getElem_mem (by omega), h2⟩
theorem small_ask (n : Nat) (z : UInt8 × UInt8 × UInt8) : ∃ a : AskP, F27 n z = some (a, ()) ∧ FitA 8 a := by
  obtain ⟨z0, z1, z2⟩ := z
  unfold F27
  simp only
  obtain ⟨f1, y, f2, f3⟩ := const_idxC [[(97 : UInt8)], [98], [114, 117, 108, 101], [111, 114, 105, 103, 105, 110], [110, 111, 100, 101]] z0 5 (by decide) rfl
  obtain ⟨g1, w, g2, g3⟩ := const_idxC [[(120 : UInt8)], [121], [48], [104, 111, 116], [49]] z2 5 (by decide) rfl
  rw [f1, f3]
  simp only [oite_t, obind_s]
  rw [g1, g3]
  simp only [oite_t, obind_s]
  have hy : y.length < 8 := by simp at f2; rcases f2 with rfl | rfl | rfl | rfl | rfl <;> simp
  have hw : w.length < 8 := by simp at g2; rcases g2 with rfl | rfl | rfl | rfl | rfl <;> simp
  cases decide (4 ≤ 1 + z1 % 5) with
  | true => exact ⟨_, rfl, ⟨hy, by simp only; omega⟩, by simp, by simp⟩
  | false => exact ⟨_, rfl, ⟨hy, by simp only; omega⟩, hw, by simp only; omega⟩
theorem small_loop (n : Nat) (most : Nat) (hmost : most ≤ 12) (l : List (UInt8 × UInt8 × UInt8)) (hl : l.length < 2 ^ 63) : ∀ (m k : Nat) (out : List AskP), k ≤ l.length → l.length - k < m → out.length ≤ k → out.length ≤ most → (∀ a ∈ out, FitA 8 a) →
    ∃ out' : List AskP, F14_R29 n m (I64 most) l (I64 l.length) (I64 k) out = some (out', ()) ∧ out'.length ≤ most ∧ ∀ a ∈ out', FitA 8 a := by
  intro m
  induction m with
  | zero => intros; omega
  | succ m ih =>
    intro k out hk hm h1 h2 h3
    rw [F14_R29_s]
    unfold F14_L29
    by_cases hlt : k < l.length
    · rw [dec_t ((i64_lt (by omega) (by omega)).2 hlt), oite_t, at_i64_lt (by omega) hlt]
      simp only [obind_s]
      by_cases hmo : k < most
      · obtain ⟨a, g1, g2⟩ := small_ask n l[k]
        have g1' : F27 n (Prod.fst l[k], Prod.fst (Prod.snd l[k]), Prod.snd (Prod.snd l[k])) = some (a, ()) := g1
        rw [dec_t ((i64_lt (a := k) (b := most) (by omega) (by omega)).2 hmo), oite_t, g1']
        simp only [obind_s]
        rw [ble_t (by simp; omega), oite_t, i64_succ]
        refine ih (k + 1) _ (by omega) (by omega) (by simp; omega) (by simp; omega) fun p hp => ?_
        rcases List.mem_append.1 hp with h | h
        · exact h3 p h
        · simp at h; subst h; exact g2
      · rw [dec_f (fun q => hmo ((i64_lt (a := k) (b := most) (by omega) (by omega)).1 q)), oite_f, i64_succ]
        exact ih (k + 1) out (by omega) (by omega) (by omega) h2 h3
    · rw [dec_f (fun q => hlt ((i64_lt (by omega) (by omega)).1 q)), oite_f]
      exact ⟨out, rfl, h2, h3⟩
theorem small_asks (n most : Nat) (hmost : most ≤ 12) (l : List (UInt8 × UInt8 × UInt8)) (hl : l.length < n ∧ l.length < 2 ^ 63) : ∃ out : List AskP, F14 n (l, I64 most) = some (out, ()) ∧ out.length ≤ most ∧ ∀ a ∈ out, FitA 8 a :=
  small_loop n most hmost l (by omega) n 0 [] (by omega) (by omega) (by simp) (by simp) (by simp)
abbrev names3 : List (List UInt8) := [[110, 111, 100, 101], [97], [114, 117, 108, 101]]
theorem curb_loop (n : Nat) (s0 s1 : List (UInt8 × UInt8 × UInt8)) (s2 : UInt8) (c0 c1 : List AskP) : ∀ (m k : Nat) (cl : List (List UInt8)), k ≤ 3 → 3 - k < m → cl.length ≤ k → (∀ x ∈ cl, x.length < 8) →
    ∃ cl', F10_R29 m (I64 3) (I64 k) s0 s1 s2 c0 c1 names3 cl = some ((c0, c1, cl'), ()) ∧ cl'.length ≤ 3 ∧ ∀ x ∈ cl', x.length < 8 := by
  have _ := n
  intro m
  induction m with
  | zero => intros; omega
  | succ m ih =>
    intro k cl hk hm h1 h2
    rw [F10_R29_s]
    unfold F10_L29
    by_cases hlt : k < 3
    · obtain ⟨g1, g2⟩ := idx_i64 (l := names3) (k := k) (by simpa using hlt) (by omega)
      rw [dec_t ((i64_lt (by omega) (by omega)).2 hlt), oite_t, g1, oite_t, g2]
      simp only [obind_s]
      have e0 : decide ((0 : Int) ≤ (I64 k).toInt) = true := by rw [i64_toInt (by omega)]; exact dec_t (by omega)
      rw [e0, oite_t]
      generalize decide (IK.shr .u8 s2 (I64 k).toInt &&& 1 = 1) = b
      cases b with
      | true =>
        rw [oite_t, ble_t (by simp; omega), oite_t, i64_succ]
        refine ih (k + 1) _ (by omega) (by omega) (by simp; omega) fun x hx => ?_
        rcases List.mem_append.1 hx with h | h
        · exact h2 x h
        · have hm' : x = names3[k]'(by simpa using hlt) := by simpa using h
          have : x ∈ names3 := hm' ▸ List.getElem_mem _
          simp at this
          rcases this with rfl | rfl | rfl <;> simp
      | false =>
        rw [oite_f, i64_succ]
        exact ih (k + 1) cl (by omega) (by omega) (by omega) h2
    · rw [dec_f (fun q => hlt ((i64_lt (by omega) (by omega)).1 q)), oite_f]
      exact ⟨cl, rfl, by omega, h2⟩
theorem FitA.up {a : AskP} {m n : Nat} (h : FitA m a) (hm : m ≤ n) : FitA n a := ⟨⟨Nat.lt_of_lt_of_le h.1.1 hm, h.1.2⟩, Nat.lt_of_lt_of_le h.2.1 hm, h.2.2⟩
theorem small_curb (n : Nat) (hn : 20 < n) (s : SmT) (h1 : s.1.length < n ∧ s.1.length < 2 ^ 63) (h2 : s.2.1.length < n ∧ s.2.1.length < 2 ^ 63) : ∃ c : CuP, F10 n (s.1, s.2.1, s.2.2) = some (c, ()) ∧ FitC n c := by
  obtain ⟨c0, a1, a2, a3⟩ := small_asks n 2 (by omega) s.1 h1
  obtain ⟨c1, b1, b2, b3⟩ := small_asks n 2 (by omega) s.2.1 h2
  obtain ⟨cl, d1, d2, d3⟩ := curb_loop n s.1 s.2.1 s.2.2 c0 c1 n 0 [] (by omega) (by omega) (by simp) (by simp)
  unfold F10
  simp only
  have a1 : F14 n (s.1, (2 : Int64)) = some (c0, ()) := a1
  have b1 : F14 n (s.2.1, (2 : Int64)) = some (c1, ()) := b1
  rw [a1]
  simp only [obind_s]
  rw [b1]
  simp only [obind_s]
  exact ⟨(c0, c1, cl), d1, ⟨by simp only; omega, fun a ha => (a3 a ha).up (by omega)⟩, ⟨by simp only; omega, fun a ha => (b3 a ha).up (by omega)⟩, by simp only; omega, fun x hx => by have := d3 x hx; exact ⟨by omega, by omega⟩⟩

/-! ### The law -/
abbrev oneC : CuP := ([([97], 1, [120])], [([97], 1, [120])], [])
theorem oneC_ok : curbC oneC = 0 := by decide
theorem oneC_fit {n : Nat} (hn : 20 < n) : FitC n oneC := ⟨⟨by simp, fun a ha => by simp at ha; subst ha; exact ⟨⟨by simp; omega, by simp⟩, by simp; omega, by simp⟩⟩, ⟨by simp, fun a ha => by simp at ha; subst ha; exact ⟨⟨by simp; omega, by simp⟩, by simp; omega, by simp⟩⟩, by simp, by simp⟩
theorem firstNZ_ones : ∀ k : Nat, firstNZ ((List.replicate k oneC).map curbC) = 0
  | 0 => rfl
  | k + 1 => by
    rw [List.replicate_succ, List.map_cons, firstNZ, oneC_ok, firstNZ_ones k]; rfl
theorem u8_next (k : Nat) : UInt8.ofNat k + 1 = UInt8.ofNat (k + 1) := by
  apply UInt8.toNat_inj.1
  rw [UInt8.toNat_add, UInt8.toNat_ofNat', UInt8.toNat_ofNat']
  have : (1 : UInt8).toNat = 1 := rfl
  omega
theorem fin_eq (n : Nat) (hn : 60 < n) (c : CuP) (hc : FitC n c) (l : List CuP) (hl : l.length ≤ 10) (h : ∀ c ∈ l, FitC n c) (k : Nat) (hk : k < 40) (want : Int64) (hw : want = bif decide (32 < k) then 5 else 0) :
    F4_J4095 n (firstNZ ((l ++ [c]).map curbC)) want c.1 c.2.1 c.2.2 l (List.replicate k oneC) (l ++ [c]) = some (true, ()) := by
  have f1 : ∀ x ∈ l ++ [c], FitC n x := fun x hx => by
    rcases List.mem_append.1 hx with hx | hx
    · exact h x hx
    · simp at hx; subst hx; exact hc
  have a1 := list_eq n hn (l ++ [c]) (by simp; omega) f1
  have a2 := list_eq n hn (List.replicate k oneC) (by simp; omega) (fun x hx => by rw [(List.mem_replicate.1 hx).2]; exact oneC_fit (by omega))
  rw [dec_f (p := 32 < (l ++ [c]).length) (by simp; omega), cond_false] at a1
  rw [List.length_replicate, firstNZ_ones, ← hw] at a2
  unfold F4_J4095
  have e1 : sameL (List.take l.length (l ++ [c])) l = true := sameL_eq.2 (by simp)
  have e2 : (l ++ [(c.1, c.2.1, c.2.2)]) = l ++ [c] := rfl
  rw [e1, oite_t, ble_t (by simp; omega), oite_t, e2, a1]
  simp only [obind_s, decide_true, oite_t, a2]
theorem many_loop (n : Nat) (hn : 60 < n) (c : CuP) (hc : FitC n c) (l : List CuP) (hl : l.length ≤ 10) (h : ∀ c ∈ l, FitC n c) (t : UInt8) (ht : t.toNat < 40) : ∀ (m k : Nat), k ≤ t.toNat → t.toNat - k < m →
    F4_R4093 n m (firstNZ ((l ++ [c]).map curbC)) [([97], 1, [120])] t (UInt8.ofNat k) c.1 c.2.1 c.2.2 l (List.replicate k oneC) (l ++ [c]) = some (true, ()) := by
  intro m
  induction m with
  | zero => intros; omega
  | succ m ih =>
    intro k hk hm
    rw [F4_R4093_s]
    unfold F4_L4093
    have hlt : decide (UInt8.ofNat k < t) = decide (k < t.toNat) := by
      rw [decide_eq_decide, UInt8.lt_iff_toNat_lt, UInt8.toNat_ofNat', Nat.mod_eq_of_lt (by omega)]
    rw [hlt]
    by_cases hkt : k < t.toNat
    · rw [dec_t hkt, oite_t, ble_t (by simp; omega), oite_t, u8_next k]
      have e : List.replicate k oneC ++ [([([97], 1, [120])], [([97], 1, [120])], [])] = List.replicate (k + 1) oneC := by
        rw [List.replicate_succ']
      rw [e]
      exact ih (k + 1) (by omega) (by omega)
    · rw [dec_f hkt, oite_f, ojoinA_eq]
      have e : decide ((32 : Int64) < Int64.ofInt ↑(List.replicate k oneC).length) = decide (32 < k) := by
        rw [List.length_replicate]; exact decide_eq_decide.2 (i64_lt (a := 32) (by omega) (by omega))
      rw [e]
      have f := fin_eq n hn c hc l hl h k (by omega)
      cases hd : decide (32 < k) with
      | true => exact f 5 (by rw [hd]; rfl)
      | false => exact f 0 (by rw [hd]; rfl)
theorem each_loop (n : Nat) (hn : 100 < n) (c : CuP) (hc : FitC n c) (l : List CuP) (hl : l.length ≤ 10) (h : ∀ c ∈ l, FitC n c) (u : UInt8) : ∀ (m k : Nat), k ≤ l.length + 1 → l.length + 1 - k < m →
    F4_R509 n m u (firstNZ (((l ++ [c]).take k).map curbC)) (I64 (l ++ [c]).length) (I64 k) c.1 c.2.1 c.2.2 l (l ++ [c]) = some (true, ()) := by
  have f1 : ∀ x ∈ l ++ [c], FitC n x := fun x hx => by
    rcases List.mem_append.1 hx with hx | hx
    · exact h x hx
    · simp at hx; subst hx; exact hc
  have hlen : (l ++ [c]).length = l.length + 1 := by simp
  intro m
  induction m with
  | zero => intros; omega
  | succ m ih =>
    intro k hk hm
    rw [F4_R509_s]
    unfold F4_L509
    by_cases hlt : k < (l ++ [c]).length
    · have hx := f1 _ (List.getElem_mem hlt)
      obtain ⟨g1, g2⟩ := idx_i64 (l := l ++ [c]) (k := k) hlt (by omega)
      rw [dec_t ((i64_lt (by omega) (by omega)).2 hlt), oite_t, g1, oite_t, g2]
      have a1 := curb_eq n (by omega) _ hx
      have a2 := cref_eq n (by omega) _ hx
      have a3 := rcurb_eq n (by omega) _ hx
      simp only [obind_s, a1, a2]
      rw [a3]
      simp only [obind_s, decide_true, Bool.not_true, oite_f]
      have nx := ih (k + 1) (by omega) (by omega)
      rw [List.take_succ_eq_append_getElem hlt, List.map_append, List.map_cons, List.map_nil, firstNZ_append, ← i64_succ] at nx
      cases hd : decide (firstNZ (((l ++ [c]).take k).map curbC) = 0) with
      | true => rw [hd] at nx; exact nx
      | false => rw [hd] at nx; exact nx
    · rw [dec_f (fun q => hlt ((i64_lt (by omega) (by omega)).1 q)), oite_f, List.take_of_length_le (by omega)]
      obtain ⟨m', rfl⟩ : ∃ m', n = m' + 30 := ⟨n - 30, by omega⟩
      rw [oneAsk m']
      simp only [obind_s]
      exact many_loop (m' + 30) (by omega) c hc l hl h (u % 40) (mod_ltC u 40 (by decide)) (m' + 30) 0 (by omega) (by have := mod_ltC u 40 (by decide); have : (40 : UInt8).toNat = 40 := rfl; omega)
theorem build_loop (n : Nat) (hn : 100 < n) (c : CuP) (hc : FitC n c) (u : UInt8) (t : List SmT) (ht : t.length ≤ 10) (hs : ∀ s ∈ t, (s.1.length < n ∧ s.1.length < 2 ^ 63) ∧ s.2.1.length < n ∧ s.2.1.length < 2 ^ 63) : ∀ (m k : Nat) (l : List CuP), k ≤ t.length → t.length - k < m → l.length = k → (∀ c ∈ l, FitC n c) →
    F4_R125 n m u t (I64 t.length) (I64 k) c.1 c.2.1 c.2.2 l = some (true, ()) := by
  intro m
  induction m with
  | zero => intros; omega
  | succ m ih =>
    intro k l hk hm hl h
    rw [F4_R125_s]
    unfold F4_L125
    by_cases hlt : k < t.length
    · obtain ⟨d, d1, d2⟩ := small_curb n (by omega) t[k] (hs _ (List.getElem_mem hlt)).1 (hs _ (List.getElem_mem hlt)).2
      rw [dec_t ((i64_lt (by omega) (by omega)).2 hlt), oite_t, at_i64_lt (by omega) hlt]
      simp only [obind_s]
      rw [d1]
      simp only [obind_s]
      rw [ble_t (by simp; omega), oite_t, i64_succ]
      refine ih (k + 1) _ (by omega) (by omega) (by simp; omega) fun x hx => ?_
      rcases List.mem_append.1 hx with hx | hx
      · exact h x hx
      · simp at hx; subst hx; exact d2
    · rw [dec_f (fun q => hlt ((i64_lt (by omega) (by omega)).1 q)), oite_f, ble_t (by simp; omega), oite_t]
      exact each_loop n hn c hc l (by omega) h u n 0 (by omega) (by omega)
theorem lenC (a : Int64) (k j : Nat) (ha : a = I64 j) (hj : j < 100) (h : k < 2 ^ 63) : decide (a < I64 k) = decide (j < k) := by
  rw [ha, decide_eq_decide]; exact i64_lt (a := j) (b := k) (by omega) h

/-- A bound on what is handed in. -/
def sumA : List AskP → Nat
  | [] => 0
  | a :: r => a.1.length + a.2.2.length + sumA r
theorem sumA_mem : ∀ (l : List AskP) (a : AskP), a ∈ l → a.1.length + a.2.2.length ≤ sumA l
  | a :: r, b, h => by
    rcases List.mem_cons.1 h with rfl | h
    · simp only [sumA]; omega
    · have := sumA_mem r b h; simp only [sumA]; omega
def sumK : List (List UInt8) → Nat
  | [] => 0
  | a :: r => a.length + sumK r
theorem sumK_mem : ∀ (l : List (List UInt8)) (a : List UInt8), a ∈ l → a.length ≤ sumK l
  | a :: r, b, h => by
    rcases List.mem_cons.1 h with rfl | h
    · simp only [sumK]; omega
    · have := sumK_mem r b h; simp only [sumK]; omega
def sumS : List SmT → Nat
  | [] => 0
  | a :: r => a.1.length + a.2.1.length + sumS r
theorem sumS_mem : ∀ (l : List SmT) (a : SmT), a ∈ l → a.1.length + a.2.1.length ≤ sumS l
  | a :: r, b, h => by
    rcases List.mem_cons.1 h with rfl | h
    · simp only [sumS]; omega
    · have := sumS_mem r b h; simp only [sumS]; omega
theorem checks_true : ∀ x : sig4.In, PTys.fits sig4.ps x → ∃ n y, F4 n x = some y ∧ PTys.hd (.one (.c .bool)) .nil y.1 = true := by
  rintro ⟨c, t, u⟩ hfit
  have h1 := hfit.1
  have h2 := hfit.2.1
  simp only [PTy.fits, CTs.fits, CT.fits] at h1 h2
  obtain ⟨⟨a0, a1⟩, ⟨b0, b1⟩, ⟨k0, k1⟩, _⟩ := h1
  obtain ⟨t0, t1⟩ := h2
  have a0 : c.1.length < 2 ^ 63 := a0
  have b0 : c.2.1.length < 2 ^ 63 := b0
  have k0 : c.2.2.length < 2 ^ 63 := k0
  have t0 : t.length < 2 ^ 63 := t0
  obtain ⟨n, hn⟩ : ∃ n, n = (sumA c.1 + sumA c.2.1 + sumK c.2.2 + sumS t + 100) + 30 := ⟨_, rfl⟩
  refine ⟨n, (true, ()), ?_, rfl⟩
  have aw : F5 n () = some (true, ()) := by rw [hn]; exact awakeC _
  have e1 := lenC 12 c.1.length 12 rfl (by omega) a0
  have e2 := lenC 12 c.2.1.length 12 rfl (by omega) b0
  have e3 := lenC 12 c.2.2.length 12 rfl (by omega) k0
  have e4 := lenC 10 t.length 10 rfl (by omega) t0
  have e0 : F4 n (c, t, u) = obind (F5 n ()) fun x => oite (!x.1) (some (false, ())) (oite (decide ((12 : Int64) < I64 c.1.length)) (some (true, ())) (oite (decide ((12 : Int64) < I64 c.2.1.length)) (some (true, ()))
      (oite (decide ((12 : Int64) < I64 c.2.2.length)) (some (true, ())) (oite (decide ((10 : Int64) < I64 t.length)) (some (true, ())) (F4_R125 n n u t (I64 t.length) 0 c.1 c.2.1 c.2.2 []))))) := rfl
  refine e0.trans ?_
  rw [aw, obind_s, e1, e2, e3, e4]
  simp only [Bool.not_true, oite_f]
  by_cases q1 : 12 < c.1.length
  · rw [dec_t q1]; rfl
  by_cases q2 : 12 < c.2.1.length
  · rw [dec_f q1, dec_t q2]; rfl
  by_cases q3 : 12 < c.2.2.length
  · rw [dec_f q1, dec_f q2, dec_t q3]; rfl
  by_cases q4 : 10 < t.length
  · rw [dec_f q1, dec_f q2, dec_f q3, dec_t q4]; rfl
  rw [dec_f q1, dec_f q2, dec_f q3, dec_f q4]
  simp only [oite_f]
  have fitsA : ∀ (l : List AskP), l.length ≤ 12 → (∀ i (h : i < l.length), l[i].1.length < 2 ^ 63 ∧ True ∧ l[i].2.2.length < 2 ^ 63 ∧ True) → sumA l ≤ n - 130 → FitAs n l := by
    intro l hl h hs
    refine ⟨hl, fun a ha => ?_⟩
    obtain ⟨i, hi, rfl⟩ := List.getElem_of_mem ha
    have := sumA_mem l _ (List.getElem_mem hi)
    obtain ⟨g1, _, g2, _⟩ := h i hi
    exact ⟨⟨by omega, g1⟩, by omega, g2⟩
  have hc : FitC n c := by
    refine ⟨fitsA c.1 (by omega) a1 (by omega), fitsA c.2.1 (by omega) b1 (by omega), by omega, fun k hk => ?_⟩
    obtain ⟨i, hi, rfl⟩ := List.getElem_of_mem hk
    have := sumK_mem c.2.2 _ (List.getElem_mem hi)
    exact ⟨by omega, (k1 i hi).1⟩
  exact build_loop n (by omega) c hc u t (by omega) (fun s hs => by
    obtain ⟨i, hi, rfl⟩ := List.getElem_of_mem hs
    have := sumS_mem t _ (List.getElem_mem hi)
    obtain ⟨⟨g1, _⟩, ⟨g2, _⟩, _⟩ := t1 i hi
    exact ⟨⟨by omega, g1⟩, by omega, g2⟩) n 0 [] (by omega) (by omega) rfl (by simp)
end Go.Proofs.Ytlkjacdnnbmmmaa
