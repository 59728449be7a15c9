/- A spool: Put as a whole, List, High, Find. -/
import Derived.Test.YtblldmpkljcnjaaSpPut2
open Go Go.Sx
namespace Go.Proofs.Ytblldmpkljcnjaa
theorem put_spec (n : Nat) (hn : 1001 < n) (s : SpT) (hl : s.1.2.2.2.2.length ≤ 900) (hg : ∀ e ∈ s.1.2.2.2.2, Good e.2) (hh : s.2.1.length = 32) (x : ItT) (hx : Good x) :
    ∃ y high, F9 n (some s, x) = some y ∧ PutR s y x high := by
  unfold F9
  simp only [oelim_s, Prod.eta]
  rw [it_eq n 50 (by omega) x (hx.fit 50 (by omega))]
  simp only [obind_s]
  by_cases hok : itCheck x = 0
  · have ho := check_org hok
    obtain ⟨o1, o2⟩ := u8_idx _ ho
    rw [dec_t hok, Bool.not_true, oite_f, span_eq]
    simp only [obind_s, ojoinA_eq]
    rw [o1, oite_t, o2, oite_t]
    have hlt : (spanI x).1.toNat < s.2.1.length := by rw [hh]; exact ho
    have hi : s.2.1[(spanI x).1.toNat]? = some s.2.1[(spanI x).1.toNat] := List.getElem?_eq_getElem hlt
    generalize s.2.1[(spanI x).1.toNat] = high at hi
    rw [show s.2.1[Int.toNat ↑(UInt8.toNat (spanI x).1) * 1]? = some high from by rw [Nat.mul_one, Int.toNat_natCast]; exact hi]
    simp only [obind_s]
    have hY := putY_good hx high
    have j31 : ¬ (spanI x).2.2 ≤ high → ¬ high + 1 < (spanI x).2.1 → ∃ y, F9_J31 n 0 (spanI x).1 (spanI x).2.2 s.2.1 s.1.1 s.1.2.1 s.1.2.2.1 s.1.2.2.2.1 s.2.2 (putY x high).1 (putY x high).2.1 (putY x high).2.2.1 (putY x high).2.2.2.1 (putY x high).2.2.2.2.1 (putY x high).2.2.2.2.2.1 (putY x high).2.2.2.2.2.2.1
      (putY x high).2.2.2.2.2.2.2.1 (putY x high).2.2.2.2.2.2.2.2.1 (putY x high).2.2.2.2.2.2.2.2.2.1 (putY x high).2.2.2.2.2.2.2.2.2.2.1 (putY x high).2.2.2.2.2.2.2.2.2.2.2.1 (putY x high).2.2.2.2.2.2.2.2.2.2.2.2 s.1.2.2.2.2 = some y ∧ PutR s y x high := by
      intro hold hjump
      unfold F9_J31
      simp only [Prod.eta]
      have e22 : F22 n (some s) = some (some s, some s) := by
        unfold F22
        simp only [oelim_s]
        have e : F1033 n s.1.2.2.2.2 = some (s.1.2.2.2.2, s.1.2.2.2.2) := by
          unfold F1033 cloneFR
          rw [ble_t (by unfold maxCells; omega), oite_t]
        rw [e]
        rfl
      rw [e22]
      simp only [obind_s]
      rw [size_eq n (by omega) _ hY]
      simp only [obind_s]
      exact put_loop n hn s hh x high hok hi hold hjump hY _ n s 0 (by have := nl_le s.1.2.2.2.2; omega) hl hg rfl rfl rfl rfl fun _ h => h
    by_cases hold : (spanI x).2.2 ≤ high
    · rw [dec_t hold, oite_t]
      exact ⟨_, high, rfl, _, _, _, _, rfl, .inl ⟨by decide, rfl, rfl⟩⟩
    · rw [dec_f hold, oite_f]
      by_cases hlow : (spanI x).2.1 ≤ high
      · have hjump : ¬ high + 1 < (spanI x).2.1 := by
          rw [UInt64.not_lt, UInt64.le_iff_toNat_le]
          rw [UInt64.le_iff_toNat_le] at hlow hold
          have := (spanI x).2.2.toNat_lt
          rw [UInt64.toNat_add]
          have : (1 : UInt64).toNat = 1 := rfl
          omega
        rw [dec_t hlow, oite_t, trim_eq]
        simp only [obind_s]
        obtain ⟨y, e, hy⟩ := j31 hold hjump
        have ep : putY x high = (trimI x high).1 := by unfold putY; rw [if_pos hlow]
        rw [ep] at e
        exact ⟨y, high, e, hy⟩
      · rw [dec_f hlow, oite_f]
        by_cases hjump : high + 1 < (spanI x).2.1
        · rw [dec_t hjump, oite_t]
          exact ⟨_, high, rfl, _, _, _, _, rfl, .inl ⟨by decide, rfl, rfl⟩⟩
        · rw [dec_f hjump, oite_f]
          obtain ⟨y, e, hy⟩ := j31 hold hjump
          have ep : putY x high = x := by unfold putY; rw [if_neg hlow]
          rw [ep] at e
          exact ⟨y, high, e, hy⟩
  · rw [dec_f hok, Bool.not_false, oite_t]
    exact ⟨_, 0, rfl, _, _, _, _, rfl, .inl ⟨hok, rfl, rfl⟩⟩
/-! ### List -/
def listGo (behind : UInt64) (many : Int64) : List EnT → List EnT → List EnT
  | [], out => out
  | x :: r, out => if many ≤ I64 out.length then out else if behind < x.1 then listGo behind many r (out ++ [x]) else listGo behind many r out
theorem list_loop (n : Nat) (behind : UInt64) (many : Int64) (sa : List UInt64) (s0 s1 : Int64) (s2 s3 s5 : UInt64) (l : List EnT) (hl : l.length ≤ 1000) (hg : ∀ e ∈ l, Good e.2) : ∀ m i out, i ≤ l.length → l.length - i < m → out.length ≤ i →
    F12_R61 n m behind many (I64 l.length) (I64 i) sa s0 s1 s2 s3 s5 out l = some (listGo behind many (l.drop i) out, some ((s0, s1, s2, s3, l), sa, s5)) := by
  intro m
  induction m with
  | zero => intros; omega
  | succ m ih =>
    intro i out hi hm ho
    rw [F12_R61_s]
    unfold F12_L61
    by_cases hlt : i < l.length
    · obtain ⟨b1, b2⟩ := idx_i64 (l := l) hlt (by omega)
      have gi := hg _ (List.getElem_mem hlt)
      rw [dec_t ((i64_lt (by omega) (by omega)).2 hlt), oite_t, b1, oite_t, b2]
      simp only [obind_s, Prod.eta, i64_succ]
      rw [List.drop_eq_getElem_cons hlt]
      unfold listGo
      by_cases hm' : many ≤ I64 out.length
      · rw [show decide (many ≤ Int64.ofInt ↑out.length) = true from dec_t hm', oite_t, if_pos hm']
      · rw [show decide (many ≤ Int64.ofInt ↑out.length) = false from dec_f hm', oite_f, if_neg hm']
        by_cases hb : behind < l[i].1
        · rw [dec_t hb, oite_t, if_pos hb]
          have e30 : F30 n l[i].2 = some (l[i].2, ()) := clone_eq n _ (by have := gi.labs; omega)
          rw [e30]
          simp only [obind_s, Prod.eta]
          rw [ble_t (by simp; omega), oite_t]
          exact ih (i + 1) _ (by omega) (by omega) (by simp; omega)
        · rw [dec_f hb, oite_f, if_neg hb]
          exact ih (i + 1) _ (by omega) (by omega) (by omega)
    · rw [dec_f (fun q => hlt ((i64_lt (by omega) (by omega)).1 q)), oite_f, List.drop_eq_nil_of_le (by omega)]
      rfl
theorem list_spec (n : Nat) (hn : 1001 < n) (s : SpT) (hl : s.1.2.2.2.2.length ≤ 1000) (hg : ∀ e ∈ s.1.2.2.2.2, Good e.2) (behind : UInt64) (many : Int64) :
    F12 n (some s, behind, many) = some (listGo behind many s.1.2.2.2.2 [], some s) := by
  obtain ⟨⟨s0, s1, s2, s3, l⟩, sa, s5⟩ := s
  dsimp only at hl hg ⊢
  have := list_loop n behind many sa s0 s1 s2 s3 s5 l hl hg n 0 [] (by omega) (by omega) (by simp)
  unfold F12
  exact this
theorem list_all (many : Nat) (hm : many < 2 ^ 63) : ∀ (l out : List EnT), (∀ e ∈ l, 0 < e.1) → out.length + l.length ≤ many → listGo 0 (I64 many) l out = out ++ l
  | [], out, _, _ => by simp [listGo]
  | x :: r, out, h, hl => by
    simp only [List.length_cons] at hl
    unfold listGo
    rw [if_neg (fun q => by have := (i64_le (by omega) (by omega)).1 q; omega), if_pos (h x (by simp)), list_all many hm r (out ++ [x]) (fun e he => h e (by simp [he])) (by simp; omega)]
    simp
/-! ### High -/
theorem high_spec (n : Nat) (s : SpT) (hh : s.2.1.length = 32) (o : UInt8) (ho : o.toNat < 32) : F11 n (some s, o) = some (s.2.1[o.toNat]'(by omega), some s) := by
  obtain ⟨o1, o2⟩ := u8_idx _ ho
  unfold F11
  simp only [oelim_s, Prod.eta]
  have : ¬ (32 : UInt8) ≤ o := by rw [UInt8.not_le, UInt8.lt_iff_toNat_lt]; exact ho
  rw [dec_f this, oite_f, o1, oite_t, o2, oite_t, show s.2.1[Int.toNat ↑(UInt8.toNat o) * 1]? = some (s.2.1[o.toNat]'(by omega)) from by rw [Nat.mul_one, Int.toNat_natCast]; exact List.getElem?_eq_getElem _]
  rfl
/-! ### Find -/
def LastLe (l : List EnT) (n : UInt64) (i : Nat) : Option Nat → Prop
  | none => ∀ j (h : j < l.length), j < i → ¬ l[j].1 ≤ n
  | some k => k < i ∧ ∃ h : k < l.length, l[k].1 ≤ n ∧ ∀ j (h : j < l.length), k < j → j < i → ¬ l[j].1 ≤ n
theorem lastLe_step {l : List EnT} {n : UInt64} {i : Nat} {r : Option Nat} (hi : i < l.length) (h : LastLe l n i r) : LastLe l n (i + 1) (if l[i].1 ≤ n then some i else r) := by
  by_cases hc : l[i].1 ≤ n
  · rw [if_pos hc]
    exact ⟨by omega, hi, hc, fun j _ _ _ => by omega⟩
  · rw [if_neg hc]
    cases r with
    | none =>
      intro j hj hji
      by_cases e : j = i
      · subst e; exact hc
      · exact h j hj (by omega)
    | some k =>
      obtain ⟨h1, h2, h3, h4⟩ := h
      refine ⟨by omega, h2, h3, fun j hj hkj hji => ?_⟩
      by_cases e : j = i
      · subst e; exact hc
      · exact h4 j hj hkj (by omega)
theorem lastLe_uniq {l : List EnT} {n : UInt64} {i : Nat} {r r' : Option Nat} (h : LastLe l n i r) (h' : LastLe l n i r') : r = r' := by
  cases r with
  | none =>
    cases r' with
    | none => rfl
    | some k => exact absurd h'.2.2.1 (h k h'.2.1 h'.1)
  | some k =>
    cases r' with
    | none => exact absurd h.2.2.1 (h' k h.2.1 h.1)
    | some k' =>
      obtain ⟨a1, a2, a3, a4⟩ := h
      obtain ⟨b1, b2, b3, b4⟩ := h'
      rcases Nat.lt_trichotomy k k' with q | q | q
      · exact absurd b3 (a4 k' b2 q b1)
      · rw [q]
      · exact absurd a3 (b4 k a2 q a1)
theorem find_loop (n : Nat) (index : UInt64) (sa : List UInt64) (s0 s1 : Int64) (s2 s3 s5 : UInt64) (l : List EnT) (hl : l.length ≤ 1000) (hg : ∀ e ∈ l, Good e.2)
    (t0 : UInt64) (t1 : Bool) (t2 : UInt8) (t3 t4 : UInt64) (t5 : List UInt8) (t7 t8 : UInt8) (t9 : Int64) (t10 t11 : UInt8) (t12 t13 : UInt64) : ∀ m i r (out : EnT), i ≤ l.length → l.length - i < m → LastLe l index i r →
      (∀ k (hk : k < l.length), r = some k → out = l[k]) →
    ∃ (r' : Option Nat) (out' : EnT), F13_R61 n m index r.isSome (I64 l.length) (I64 i) sa s0 s1 s2 s3 s5 t0 t1 t2 t3 t4 t5 t7 t8 t9 t10 t11 t12 t13
      out.1 out.2.1 out.2.2.1 out.2.2.2.1 out.2.2.2.2.1 out.2.2.2.2.2.1 out.2.2.2.2.2.2.2.1 out.2.2.2.2.2.2.2.2.1 out.2.2.2.2.2.2.2.2.2.1 out.2.2.2.2.2.2.2.2.2.2.1 out.2.2.2.2.2.2.2.2.2.2.2.1 out.2.2.2.2.2.2.2.2.2.2.2.2.1 out.2.2.2.2.2.2.2.2.2.2.2.2.2 l out.2.2.2.2.2.2.1
      = some ((out', r'.isSome), some ((s0, s1, s2, s3, l), sa, s5)) ∧ LastLe l index l.length r' ∧ ∀ k (hk : k < l.length), r' = some k → out' = l[k] := by
  intro m
  induction m with
  | zero => intros; omega
  | succ m ih =>
    intro i r out hi hm hr ho
    rw [F13_R61_s]
    unfold F13_L61
    by_cases hlt : i < l.length
    · obtain ⟨b1, b2⟩ := idx_i64 (l := l) hlt (by omega)
      have gi := hg _ (List.getElem_mem hlt)
      have hs := lastLe_step hlt hr
      rw [dec_t ((i64_lt (by omega) (by omega)).2 hlt), oite_t, b1, oite_t, b2]
      simp only [obind_s, Prod.eta, i64_succ]
      by_cases hc : l[i].1 ≤ index
      · rw [dec_t hc, oite_t]
        have e30 : F30 n l[i].2 = some (l[i].2, ()) := clone_eq n _ (by have := gi.labs; omega)
        rw [e30]
        simp only [obind_s]
        rw [if_pos hc] at hs
        exact ih (i + 1) (some i) l[i] (by omega) (by omega) hs fun k hk e => by cases e; rfl
      · rw [dec_f hc, oite_f]
        rw [if_neg hc] at hs
        exact ih (i + 1) r out (by omega) (by omega) hs ho
    · rw [dec_f (fun q => hlt ((i64_lt (by omega) (by omega)).1 q)), oite_f]
      have : i = l.length := by omega
      subst this
      exact ⟨r, out, rfl, hr, ho⟩
theorem find_spec (n : Nat) (hn : 1001 < n) (s : SpT) (hl : s.1.2.2.2.2.length ≤ 1000) (hg : ∀ e ∈ s.1.2.2.2.2, Good e.2) (index : UInt64) :
    ∃ (r : Option Nat) (out : EnT), F13 n (some s, index) = some ((out, r.isSome), some s) ∧ LastLe s.1.2.2.2.2 index s.1.2.2.2.2.length r ∧ ∀ k (hk : k < s.1.2.2.2.2.length), r = some k → out = s.1.2.2.2.2[k] := by
  obtain ⟨⟨s0, s1, s2, s3, l⟩, sa, s5⟩ := s
  dsimp only at hl hg ⊢
  have := find_loop n index sa s0 s1 s2 s3 s5 l hl hg 0 false 0 0 0 [] 0 0 0 0 0 0 0 n 0 none (0, zeroI) (by omega) (by omega) (fun _ _ h => by omega) (fun _ _ h => by cases h)
  unfold F13
  exact this
end Go.Proofs.Ytblldmpkljcnjaa
