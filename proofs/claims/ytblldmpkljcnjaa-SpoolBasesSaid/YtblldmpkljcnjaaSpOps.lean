/- A spool: what its parts do: sizes, what stands beside, joins. -/
import Derived.Test.YtblldmpkljcnjaaSpItem
open Go Go.Sx
namespace Go.Proofs.Ytblldmpkljcnjaa
abbrev EnT := UInt64 × ItT
abbrev SpT := (Int64 × Int64 × UInt64 × UInt64 × List EnT) × List UInt64 × UInt64
/-- What items are put here. -/
structure Good (x : ItT) : Prop where
  rule : x.2.2.2.2.1.length ≤ 12
  labs : x.2.2.2.2.2.1.length ≤ 3
  each : ∀ p ∈ x.2.2.2.2.2.1, p.1.length = 1 ∧ p.2.length = 1
theorem Small.good {x : ItT} (h : Small x) : Good x := ⟨h.rule, h.labs, h.each⟩
theorem gapI_good (g : UInt8 × UInt64 × UInt64) : Good (gapI g) := ⟨by simp [gapI], by simp [gapI], by simp [gapI]⟩
theorem Good.fit {x : ItT} (h : Good x) (n : Nat) (hn : 20 < n) : FitI x n := by
  refine ⟨⟨by have := h.rule; omega, by have := h.rule; omega⟩, by have := h.labs; omega, fun p hp => ?_⟩
  have := h.each p hp
  omega
theorem labsB_small : ∀ (l : List Pair), (∀ p ∈ l, p.1.length = 1 ∧ p.2.length = 1) → (labsB l).length ≤ 22 * l.length
  | [], _ => by simp [labsB]
  | p :: r, h => by
    have h1 := h p (by simp)
    have h2 := labsB_small r fun q hq => h q (by simp [hq])
    have e1 := encT_len p.1
    have e2 := encT_len p.2
    simp only [labsB, List.length_append, List.length_cons]
    omega
theorem itB_len (x : ItT) (h : x.2.2.2.2.1.length + (labsB x.2.2.2.2.2.1).length ≤ 1000000000) : (itB x).length ≤ 1000000200 := by
  obtain ⟨g, o, seq, time, rule, labels, state, prio, v, own, go, ga, gb⟩ := x
  dsimp only at h
  have a1 := enc_len seq
  have a2 := enc_len time
  have a3 := encT_len rule
  have a4 := enc_len (UInt64.ofNat labels.length)
  have a5 := enc_len (zig v)
  have a6 := enc_len ga
  have a7 := enc_len gb
  unfold itB
  cases g with
  | true => simp [gapB, gapOf]; omega
  | false => simp [evB, evOf, tailB]; omega
theorem Good.bytes {x : ItT} (h : Good x) : (itB x).length ≤ 4294967296 := by
  have h1 := labsB_small _ h.each
  have h2 := h.rule
  have h3 := h.labs
  have := itB_len x (by omega)
  omega
theorem size_eq (n : Nat) (hn : 50 < n) (x : ItT) (h : Good x) : F27 n x = some (I64 (itB x).length, ()) := by
  have h1 := labsB_small _ h.each
  have h2 := h.rule
  have h3 := h.labs
  have e := it_enc n x (by omega) (by omega) (by omega) h.bytes
  unfold F27
  simp only [Prod.eta]
  rw [e]
  rfl
def orgE (e : EnT) : UInt8 := (spanI e.2).1
def idxV : Option Nat → Int64
  | some k => I64 k
  | none => -1
def UpSpec (l : List EnT) (o : UInt8) (i : Nat) : Option Nat → Prop
  | none => ∀ j (h : j < l.length), i ≤ j → orgE l[j] ≠ o
  | some k => i ≤ k ∧ ∃ h : k < l.length, orgE l[k] = o ∧ ∀ j (h : j < l.length), i ≤ j → j < k → orgE l[j] ≠ o
def DownSpec (l : List EnT) (o : UInt8) (i : Nat) : Option Nat → Prop
  | none => ∀ j (h : j < l.length), j < i → orgE l[j] ≠ o
  | some k => k < i ∧ ∃ h : k < l.length, orgE l[k] = o ∧ ∀ j (h : j < l.length), k < j → j < i → orgE l[j] ≠ o
theorem up_loop (n : Nat) (o : UInt8) (sa : List UInt64) (s0 s1 : Int64) (s2 s3 s5 : UInt64) (l : List EnT) (hl : l.length ≤ 1000) : ∀ m i, i ≤ l.length → l.length - i < m →
    ∃ r, F40_R29 n m 1 o (I64 i) sa s0 s1 s2 s3 s5 l = some (idxV r, some ((s0, s1, s2, s3, l), sa, s5)) ∧ UpSpec l o i r := by
  intro m
  induction m with
  | zero => intros; omega
  | succ m ih =>
    intro i hi hm
    rw [F40_R29_s]
    unfold F40_L29
    rw [show decide ((0 : Int64) ≤ I64 i) = true from dec_t ((i64_le (a := 0) (by omega) (by omega)).2 (by omega)), oite_t]
    by_cases hlt : i < l.length
    · obtain ⟨b1, b2⟩ := idx_i64 (l := l) hlt (by omega)
      rw [dec_t ((i64_lt (by omega) (by omega)).2 hlt), oite_t, b1, oite_t, b2]
      simp only [obind_s, Prod.eta]
      rw [span_eq]
      simp only [obind_s]
      by_cases ho : orgE l[i] = o
      · refine ⟨some i, ?_, by omega, hlt, ho, fun j _ h1 h2 => by omega⟩
        unfold orgE at ho
        rw [dec_t ho, oite_t]; rfl
      · obtain ⟨r, e, hr⟩ := ih (i + 1) (by omega) (by omega)
        refine ⟨r, ?_, ?_⟩
        · unfold orgE at ho
          rw [dec_f ho, oite_f, i64_succ]
          exact e
        · cases r with
          | none =>
            intro j hj hij
            by_cases hji : j = i
            · subst hji; exact ho
            · exact hr j hj (by omega)
          | some k =>
            obtain ⟨h1, h2, h3, h4⟩ := hr
            refine ⟨by omega, h2, h3, fun j hj hij hjk => ?_⟩
            by_cases hji : j = i
            · subst hji; exact ho
            · exact h4 j hj (by omega) hjk
    · refine ⟨none, ?_, fun j hj hij => by omega⟩
      rw [dec_f (fun q => hlt ((i64_lt (by omega) (by omega)).1 q)), oite_f]; rfl
theorem i64_pred (k : Nat) : I64 (k + 1) + -1 = I64 k := by
  have := i64_sub (a := k + 1) (b := 1) (by omega)
  rw [show k + 1 - 1 = k from by omega] at this
  rw [← this]
  show I64 (k + 1) + -1 = I64 (k + 1) - 1
  rw [Int64.sub_eq_add_neg]
theorem down_loop (n : Nat) (o : UInt8) (sa : List UInt64) (s0 s1 : Int64) (s2 s3 s5 : UInt64) (l : List EnT) (hl : l.length ≤ 1000) : ∀ m i, i ≤ l.length → i < m →
    ∃ r, F40_R29 n m (-1) o (I64 i + -1) sa s0 s1 s2 s3 s5 l = some (idxV r, some ((s0, s1, s2, s3, l), sa, s5)) ∧ DownSpec l o i r := by
  intro m
  induction m with
  | zero => intros; omega
  | succ m ih =>
    intro i hi hm
    rw [F40_R29_s]
    unfold F40_L29
    cases i with
    | zero => exact ⟨none, rfl, fun j _ h => by omega⟩
    | succ i =>
      rw [i64_pred]
      have hlt : i < l.length := by omega
      rw [show decide ((0 : Int64) ≤ I64 i) = true from dec_t ((i64_le (a := 0) (by omega) (by omega)).2 (by omega)), oite_t]
      obtain ⟨b1, b2⟩ := idx_i64 (l := l) hlt (by omega)
      rw [dec_t ((i64_lt (by omega) (by omega)).2 hlt), oite_t, b1, oite_t, b2]
      simp only [obind_s, Prod.eta]
      rw [span_eq]
      simp only [obind_s]
      by_cases ho : orgE l[i] = o
      · refine ⟨some i, ?_, by omega, hlt, ho, fun j _ h1 h2 => by omega⟩
        unfold orgE at ho
        rw [dec_t ho, oite_t]; rfl
      · obtain ⟨r, e, hr⟩ := ih i (by omega) (by omega)
        refine ⟨r, ?_, ?_⟩
        · unfold orgE at ho
          rw [dec_f ho, oite_f]
          exact e
        · cases r with
          | none =>
            intro j hj hij
            by_cases hji : j = i
            · subst hji; exact ho
            · exact hr j hj (by omega)
          | some k =>
            obtain ⟨h1, h2, h3, h4⟩ := hr
            refine ⟨by omega, h2, h3, fun j hj hij hjk => ?_⟩
            by_cases hji : j = i
            · subst hji; exact ho
            · exact h4 j hj (by omega) (by omega)
theorem beside_up (n : Nat) (hn : 1000 < n) (s : SpT) (hl : s.1.2.2.2.2.length ≤ 1000) (k : Nat) (hk : k < s.1.2.2.2.2.length) :
    ∃ r, F40 n (some s, I64 k, 1) = some (idxV r, some s) ∧ UpSpec s.1.2.2.2.2 (orgE s.1.2.2.2.2[k]) (k + 1) r := by
  obtain ⟨⟨s0, s1, s2, s3, l⟩, sa, s5⟩ := s
  dsimp only at hl hk ⊢
  obtain ⟨b1, b2⟩ := idx_i64 (l := l) hk (by omega)
  obtain ⟨r, e, hr⟩ := up_loop n (orgE l[k]) sa s0 s1 s2 s3 s5 l hl n (k + 1) (by omega) (by omega)
  refine ⟨r, ?_, hr⟩
  unfold F40
  simp only [obind_s, Prod.eta]
  rw [b1, oite_t, b2]
  simp only [obind_s]
  rw [span_eq]
  simp only [obind_s]
  rw [i64_succ]
  exact e
theorem beside_down (n : Nat) (hn : 1001 < n) (s : SpT) (hl : s.1.2.2.2.2.length ≤ 1000) (k : Nat) (hk : k < s.1.2.2.2.2.length) :
    ∃ r, F40 n (some s, I64 k, -1) = some (idxV r, some s) ∧ DownSpec s.1.2.2.2.2 (orgE s.1.2.2.2.2[k]) k r := by
  obtain ⟨⟨s0, s1, s2, s3, l⟩, sa, s5⟩ := s
  dsimp only at hl hk ⊢
  obtain ⟨b1, b2⟩ := idx_i64 (l := l) hk (by omega)
  obtain ⟨r, e, hr⟩ := down_loop n (orgE l[k]) sa s0 s1 s2 s3 s5 l hl n k (by omega) (by omega)
  refine ⟨r, ?_, hr⟩
  unfold F40
  simp only [obind_s, Prod.eta]
  rw [b1, oite_t, b2]
  simp only [obind_s]
  rw [span_eq]
  simp only [obind_s]
  exact e
def joinL (l : List EnT) (a b : Nat) : List EnT := match l[a]?, l[b]? with
  | some x, some y => if follow x.2 y.2 then (l.set a (x.1, (joinI x.2 y.2).1)).eraseIdx b else l
  | _, _ => l
theorem join_good {x y : ItT} : Good (joinI x y).1 := by
  unfold joinI
  split
  · exact gapI_good _
  · exact ⟨by simp [zeroI], by simp [zeroI], by simp [zeroI]⟩
def sz (e : EnT) : Nat := (itB e.2).length
def sumB (l : List EnT) : Nat := (l.map sz).sum
theorem sumB_cons (e : EnT) (l : List EnT) : sumB (e :: l) = sz e + sumB l := by simp [sumB]
theorem sumB_append (a b : List EnT) : sumB (a ++ b) = sumB a + sumB b := by simp [sumB]
theorem sumB_set : ∀ (l : List EnT) (k : Nat) (e : EnT) (hk : k < l.length), sumB (l.set k e) + sz l[k] = sumB l + sz e
  | [], _, _, h => by simp at h
  | x :: l, 0, e, _ => by simp only [List.set_cons_zero, sumB_cons, List.getElem_cons_zero]; omega
  | x :: l, k + 1, e, h => by
    have := sumB_set l k e (by simpa using h)
    simp only [List.set_cons_succ, sumB_cons, List.getElem_cons_succ]; omega
theorem sumB_erase : ∀ (l : List EnT) (k : Nat) (hk : k < l.length), sumB (l.eraseIdx k) + sz l[k] = sumB l
  | [], _, h => by simp at h
  | x :: l, 0, _ => by simp only [List.eraseIdx_cons_zero, sumB_cons, List.getElem_cons_zero]; omega
  | x :: l, k + 1, h => by
    have := sumB_erase l k (by simpa using h)
    simp only [List.eraseIdx_cons_succ, sumB_cons, List.getElem_cons_succ]; omega
theorem sumB_join (l : List EnT) (a b : Nat) (e : EnT) (hab : a ≠ b) (ha : a < l.length) (hb : b < l.length) : sumB ((l.set a e).eraseIdx b) + sz l[a] + sz l[b] = sumB l + sz e := by
  have h1 := sumB_set l a e ha
  have h2 := sumB_erase (l.set a e) b (by rw [List.length_set]; exact hb)
  rw [List.getElem_set_ne hab] at h2
  omega
theorem i64_mix (S x a b : Nat) (h : a + b ≤ S + x) : I64 S + (I64 x - I64 a - I64 b) = I64 (S + x - a - b) := by
  simp only [I64]
  rw [← Int64.ofInt_sub, ← Int64.ofInt_sub, ← Int64.ofInt_add]
  congr 1
  omega
/-- Used is the sum of the sizes. -/
abbrev UsedOK (u : Int64) (l : List EnT) : Prop := u = I64 (sumB l)
theorem join_spec (n : Nat) (hn : 50 < n) (s : SpT) (hl : s.1.2.2.2.2.length ≤ 1000) (hg : ∀ e ∈ s.1.2.2.2.2, Good e.2) (a b : Nat) (ha : a < s.1.2.2.2.2.length) (hb : b < s.1.2.2.2.2.length) :
    ∃ u, F41 n (some s, I64 a, I64 b) = some (follow s.1.2.2.2.2[a].2 s.1.2.2.2.2[b].2, some ((s.1.1, u, s.1.2.2.1, s.1.2.2.2.1, joinL s.1.2.2.2.2 a b), s.2)) ∧ (a ≠ b → UsedOK s.1.2.1 s.1.2.2.2.2 → UsedOK u (joinL s.1.2.2.2.2 a b)) := by
  obtain ⟨⟨s0, s1, s2, s3, l⟩, sa, s5⟩ := s
  dsimp only at hl ha hb hg ⊢
  obtain ⟨a1, a2⟩ := idx_i64 (l := l) ha (by omega)
  obtain ⟨b1, b2⟩ := idx_i64 (l := l) hb (by omega)
  have ga := hg _ (List.getElem_mem ha)
  have gb := hg _ (List.getElem_mem hb)
  unfold F41 joinL
  simp only [obind_s, Prod.eta]
  rw [a1, oite_t, a2, List.getElem?_eq_getElem ha, List.getElem?_eq_getElem hb]
  simp only [obind_s]
  rw [b1, oite_t, b2]
  simp only [obind_s]
  rw [join_eq]
  simp only [obind_s]
  have e2 : (joinI l[a].2 l[b].2).2 = follow l[a].2 l[b].2 := by unfold joinI; split <;> simp_all
  rw [e2]
  cases hf : follow l[a].2 l[b].2 with
  | false => exact ⟨s1, rfl, fun _ h => h⟩
  | true =>
    have gx : Good (joinI l[a].2 l[b].2).1 := join_good
    rw [size_eq n hn _ gx]
    simp only [obind_s, Bool.not_true, oite_f]
    rw [size_eq n hn _ ga]
    simp only [obind_s]
    rw [size_eq n hn _ gb]
    simp only [obind_s]
    simp only [oite_t, if_true]
    have ea := i64_toInt (k := a) (by omega)
    have eb := i64_toInt (k := b) (by omega)
    have eb' := i64_toInt (k := b + 1) (by omega)
    have e49 : F49 n (l.set (I64 a).toInt.toNat (l[a].fst, (joinI l[a].snd l[b].snd).fst), I64 b, I64 b + 1) = some ((l.set a (l[a].fst, (joinI l[a].snd l[b].snd).fst)).eraseIdx b, ()) := by
      unfold F49 delF
      simp only
      rw [i64_succ, ea, eb, eb']
      simp only [Int.toNat_natCast, List.length_set]
      rw [dec_t (by omega), dec_t (by omega), ble_t (by omega), List.eraseIdx_eq_take_drop_succ]
      rfl
    rw [e49]
    simp only [obind_s]
    refine ⟨_, rfl, fun hab h => ?_⟩
    have hsum := sumB_join l a b (l[a].1, (joinI l[a].2 l[b].2).1) hab ha hb
    have hs1 : s1 = I64 (sumB l) := h
    show s1 + _ = _
    rw [hs1]
    show I64 (sumB l) + (I64 (itB (joinI l[a].2 l[b].2).1).length - I64 (itB l[a].2).length - I64 (itB l[b].2).length) = _
    have e1 : sz (l[a].1, (joinI l[a].2 l[b].2).1) = (itB (joinI l[a].2 l[b].2).1).length := rfl
    have e2 : sz l[a] = (itB l[a].2).length := rfl
    have e3 : sz l[b] = (itB l[b].2).length := rfl
    rw [i64_mix _ _ _ _ (by omega)]
    congr 2
    omega
theorem joinL_len (l : List EnT) (a b : Nat) : (joinL l a b).length ≤ l.length := by
  unfold joinL
  split
  · split
    · rw [List.length_eraseIdx]; simp only [List.length_set]; split <;> omega
    · exact Nat.le_refl _
  · exact Nat.le_refl _
theorem joinL_good {l : List EnT} (hg : ∀ e ∈ l, Good e.2) (a b : Nat) : ∀ e ∈ joinL l a b, Good e.2 := by
  unfold joinL
  split
  · split
    · intro e he
      rcases List.mem_or_eq_of_mem_set (List.mem_of_mem_eraseIdx he) with h | h
      · exact hg e h
      · rw [h]; exact join_good
    · exact hg
  · exact hg
end Go.Proofs.Ytblldmpkljcnjaa
open Go Go.Sx
namespace Go.Proofs.Ytblldmpkljcnjaa
theorem span_gap (g : UInt8 × UInt64 × UInt64) : spanI (gapI g) = g := rfl
theorem follow_gap {x y : ItT} (h : follow x y = true) : x.1 = true ∧ y.1 = true := by
  unfold follow at h
  simp only [Bool.and_eq_true] at h
  exact ⟨h.1, h.2.1⟩
theorem join_org {x y : ItT} (h : follow x y = true) : (spanI (joinI x y).1).1 = (spanI x).1 := by
  have := (follow_gap h).1
  unfold joinI
  rw [if_pos h]
  show x.2.2.2.2.2.2.2.2.2.2.1 = _
  unfold spanI
  rw [if_pos this]
theorem joinL_cases (l : List EnT) (a b : Nat) : joinL l a b = l ∨ ∃ (ha : a < l.length) (hb : b < l.length), follow l[a].2 l[b].2 = true ∧ joinL l a b = (l.set a (l[a].1, (joinI l[a].2 l[b].2).1)).eraseIdx b := by
  unfold joinL
  by_cases ha : a < l.length
  · by_cases hb : b < l.length
    · rw [List.getElem?_eq_getElem ha, List.getElem?_eq_getElem hb]
      simp only
      by_cases hf : follow l[a].2 l[b].2 = true
      · rw [if_pos hf]; exact .inr ⟨ha, hb, hf, rfl⟩
      · rw [if_neg hf]; exact .inl rfl
    · rw [List.getElem?_eq_none (l := l) (i := b) (by omega)]
      left; split <;> simp_all
  · rw [List.getElem?_eq_none (l := l) (i := a) (by omega)]
    exact .inl rfl
theorem joinL_at (l : List EnT) (a b : Nat) (hab : a < b) (ha : a < l.length) : ∃ h : a < (joinL l a b).length, orgE (joinL l a b)[a] = orgE l[a] := by
  obtain ⟨m, hm⟩ : ∃ m, m = joinL l a b := ⟨_, rfl⟩
  have hc := joinL_cases l a b
  rw [← hm] at hc ⊢
  rcases hc with hc | ⟨_, hb, hf, hc⟩
  · subst hc; exact ⟨ha, rfl⟩
  · subst hc
    have hlen : ((l.set a (l[a].1, (joinI l[a].2 l[b].2).1)).eraseIdx b).length = l.length - 1 := by
      rw [List.length_eraseIdx]; simp only [List.length_set]; rw [if_pos hb]
    refine ⟨by omega, ?_⟩
    rw [List.getElem_eraseIdx_of_lt (h' := hab), List.getElem_set_self]
    exact join_org hf
def evOne (l : List EnT) (k : Nat) (e : EnT) : List EnT := l.set k (e.1, gapI (spanI e.2))
def joinR (l : List EnT) (k : Nat) : Option Nat → List EnT
  | none => l
  | some b => joinL l k b
def joinD (l : List EnT) (k : Nat) : Option Nat → List EnT
  | none => l
  | some a => joinL l a k
structure EvTo (l : List EnT) (k : Nat) (l' : List EnT) (rU rD : Option Nat) : Prop where
  lt : k < l.length
  up : UpSpec (evOne l k l[k]) (orgE l[k]) (k + 1) rU
  down : DownSpec (joinR (evOne l k l[k]) k rU) (orgE l[k]) k rD
  eq : l' = joinD (joinR (evOne l k l[k]) k rU) k rD
theorem idx_neg : decide ((0 : Int64) ≤ idxV none) = false := rfl
theorem idx_pos {k : Nat} (h : k < 2 ^ 63) : decide ((0 : Int64) ≤ idxV (some k)) = true := dec_t ((i64_le (a := 0) (by omega) h).2 (by omega))
theorem evOne_good {l : List EnT} (hg : ∀ e ∈ l, Good e.2) (k : Nat) (e : EnT) : ∀ x ∈ evOne l k e, Good x.2 := by
  intro x hx
  rcases List.mem_or_eq_of_mem_set hx with h | h
  · exact hg x h
  · rw [h]; exact gapI_good _
theorem j255 (s : SpT) (k : Nat) (hk : k < s.1.2.2.2.2.length) (hl : s.1.2.2.2.2.length ≤ 1000) : F28_J255 (I64 k) (some s) = some (s.1.2.2.2.2[k].1, some s) := by
  obtain ⟨⟨s0, s1, s2, s3, l⟩, sa, s5⟩ := s
  dsimp only at hl hk ⊢
  obtain ⟨b1, b2⟩ := idx_i64 (l := l) hk (by omega)
  unfold F28_J255
  simp only [obind_s]
  rw [b1, oite_t, b2]
  rfl
theorem j127_spec (n : Nat) (hn : 1001 < n) (s : SpT) (k : Nat) (hk : k < s.1.2.2.2.2.length) (hl : s.1.2.2.2.2.length ≤ 1000) (hg : ∀ e ∈ s.1.2.2.2.2, Good e.2) :
    ∃ ix u rD, F28_J127 n (I64 k) (some s) = some (ix, some ((s.1.1, u, s.1.2.2.1, s.1.2.2.2.1, joinD s.1.2.2.2.2 k rD), s.2)) ∧ DownSpec s.1.2.2.2.2 (orgE s.1.2.2.2.2[k]) k rD ∧ (UsedOK s.1.2.1 s.1.2.2.2.2 → UsedOK u (joinD s.1.2.2.2.2 k rD)) := by
  obtain ⟨r, e, hr⟩ := beside_down n hn s hl k hk
  unfold F28_J127
  simp only [ojoinA_eq]
  rw [e]
  simp only [obind_s]
  cases r with
  | none =>
    rw [idx_neg, oite_f, j255 s k hk hl]
    exact ⟨_, s.1.2.1, none, rfl, hr, fun h => h⟩
  | some a =>
    obtain ⟨h1, h2, h3, h4⟩ := hr
    obtain ⟨u, e2, hu⟩ := join_spec n (by omega) s hl hg a k h2 hk
    rw [idx_pos (by omega), oite_t]
    rw [show idxV (some a) = I64 a from rfl, e2]
    simp only [obind_s]
    have hlen := joinL_len s.1.2.2.2.2 a k
    obtain ⟨g1, _⟩ := joinL_at s.1.2.2.2.2 a k h1 h2
    cases hf : follow s.1.2.2.2.2[a].2 s.1.2.2.2.2[k].2 with
    | true =>
      rw [oite_t, j255 _ a g1 (by dsimp only; omega)]
      exact ⟨_, u, some a, rfl, ⟨h1, h2, h3, h4⟩, hu (by omega)⟩
    | false =>
      have hj : joinL s.1.2.2.2.2 a k = s.1.2.2.2.2 := by
        unfold joinL
        rw [List.getElem?_eq_getElem h2, List.getElem?_eq_getElem hk]
        simp only [hf]
        rfl
      rw [oite_f, j255 _ k (by dsimp only; rw [hj]; exact hk) (by dsimp only; omega)]
      exact ⟨_, u, some a, rfl, ⟨h1, h2, h3, h4⟩, hu (by omega)⟩
theorem evict_spec (n : Nat) (hn : 1001 < n) (s : SpT) (k : Nat) (hk : k < s.1.2.2.2.2.length) (hl : s.1.2.2.2.2.length ≤ 1000) (hg : ∀ e ∈ s.1.2.2.2.2, Good e.2) :
    ∃ ix u ev l' rU rD, F28 n (some s, I64 k) = some (ix, some ((s.1.1, u, s.1.2.2.1, s.1.2.2.2.1, l'), s.2.1, ev)) ∧ EvTo s.1.2.2.2.2 k l' rU rD ∧ (UsedOK s.1.2.1 s.1.2.2.2.2 → UsedOK u l') := by
  obtain ⟨⟨s0, s1, s2, s3, l⟩, sa, s5⟩ := s
  dsimp only at hl hk hg ⊢
  obtain ⟨b1, b2⟩ := idx_i64 (l := l) hk (by omega)
  have gk := hg _ (List.getElem_mem hk)
  have hek := i64_toInt (k := k) (by omega)
  unfold F28
  simp only [obind_s, Prod.eta]
  rw [b1, oite_t, b2]
  simp only [obind_s]
  rw [span_eq]
  simp only [obind_s]
  rw [oite_t, size_eq n (by omega) _ gk]
  simp only [obind_s]
  have e36 : ∀ g, F36 n g = some (gapI g, ()) := fun g => rfl
  rw [e36]
  simp only [obind_s]
  rw [oite_t]
  have l1 : List.set l (Int.toNat (I64 k).toInt) (l[k].1, gapI (spanI l[k].2)) = evOne l k l[k] := by rw [hek]; rfl
  rw [l1]
  have hk1 : k < (evOne l k l[k]).length := by unfold evOne; rw [List.length_set]; exact hk
  have hl1 : (evOne l k l[k]).length ≤ 1000 := by unfold evOne; rw [List.length_set]; exact hl
  obtain ⟨c1, c2⟩ := idx_i64 (l := evOne l k l[k]) hk1 (by omega)
  have hg1 := evOne_good hg k l[k]
  have g1 := hg1 _ (List.getElem_mem hk1)
  have ho1 : orgE (evOne l k l[k])[k] = orgE l[k] := by
    have : (evOne l k l[k])[k] = (l[k].1, gapI (spanI l[k].2)) := List.getElem_set_self ..
    rw [this]; rfl
  rw [c1, oite_t, c2]
  simp only [obind_s]
  rw [size_eq n (by omega) _ g1]
  simp only [obind_s, ojoinA_eq]
  have hu0 : UsedOK s1 l → UsedOK (s1 - I64 (itB l[k].2).length + I64 (itB (evOne l k l[k])[k].2).length) (evOne l k l[k]) := fun h => by
    have hs := sumB_set l k (l[k].1, gapI (spanI l[k].2)) hk
    have e0 : (evOne l k l[k])[k] = (l[k].1, gapI (spanI l[k].2)) := List.getElem_set_self ..
    have hs1 : s1 = I64 (sumB l) := h
    show s1 - _ + _ = I64 (sumB (l.set k (l[k].1, gapI (spanI l[k].2))))
    have e1 : sz (l[k].1, gapI (spanI l[k].2)) = (itB (gapI (spanI l[k].2))).length := rfl
    have e2 : sz l[k] = (itB l[k].2).length := rfl
    have e3 : sz l[k] ≤ sumB l := by have := sumB_erase l k hk; omega
    rw [hs1, e0, ← e2, i64_sub e3]
    show I64 _ + I64 (itB (gapI (spanI l[k].2))).length = _
    rw [← e1, i64_add]
    congr 2
    omega
  obtain ⟨rU, e1, hr⟩ := beside_up n (by omega) ((s0, s1 - I64 (itB l[k].2).length + I64 (itB (evOne l k l[k])[k].2).length, s2, s3, evOne l k l[k]), sa, s5 + 1) hl1 k hk1
  dsimp only at hr
  rw [ho1] at hr
  rw [e1]
  simp only [obind_s]
  cases rU with
  | none =>
    rw [idx_neg, oite_f]
    obtain ⟨ix, u, rD, e2, hD, hu⟩ := j127_spec n hn ((s0, s1 - I64 (itB l[k].2).length + I64 (itB (evOne l k l[k])[k].2).length, s2, s3, evOne l k l[k]), sa, s5 + 1) k hk1 hl1 hg1
    rw [e2]
    dsimp only at hD
    rw [ho1] at hD
    exact ⟨ix, u, _, _, none, rD, rfl, ⟨hk, hr, hD, rfl⟩, fun h => hu (hu0 h)⟩
  | some b =>
    obtain ⟨h1, h2, h3, h4⟩ := hr
    have h2 : b < (evOne l k l[k]).length := h2
    obtain ⟨u, e2, hu⟩ := join_spec n (by omega) ((s0, s1 - I64 (itB l[k].2).length + I64 (itB (evOne l k l[k])[k].2).length, s2, s3, evOne l k l[k]), sa, s5 + 1) hl1 hg1 k b hk1 h2
    rw [idx_pos (by omega), oite_t, show idxV (some b) = I64 b from rfl, e2]
    simp only [obind_s]
    obtain ⟨q1, q2⟩ := joinL_at (evOne l k l[k]) k b (by omega) hk1
    have hlen := joinL_len (evOne l k l[k]) k b
    obtain ⟨ix, u', rD, e3, hD, hu'⟩ := j127_spec n hn ((s0, u, s2, s3, joinL (evOne l k l[k]) k b), sa, s5 + 1) k q1 (by dsimp only; omega) (joinL_good hg1 k b)
    rw [e3]
    dsimp only at hD
    rw [q2, ho1] at hD
    exact ⟨ix, u', _, _, some b, rD, rfl, ⟨hk, ⟨h1, h2, h3, h4⟩, hD, rfl⟩, fun h => hu' (hu (by omega) (hu0 h))⟩
end Go.Proofs.Ytblldmpkljcnjaa
open Go Go.Sx
namespace Go.Proofs.Ytblldmpkljcnjaa
abbrev lasts (x : ItT) : Bool := x.1 || !decide (x.2.2.2.2.2.2.2.2.2.1 = 0)
abbrev prio (x : ItT) : UInt8 := x.2.2.2.2.2.2.2.1
theorem lasts_eq (n : Nat) (x : ItT) : F34 n x = some (lasts x, ()) := by
  obtain ⟨g, o, seq, time, rule, labels, state, pr, v, own, go, ga, gb⟩ := x
  cases g <;> rfl
def VSpec (l : List EnT) (i : Nat) : Option Nat → Prop
  | none => ∀ j (h : j < l.length), j < i → lasts l[j].2 = true
  | some k => k < i ∧ ∃ h : k < l.length, lasts l[k].2 = false ∧ ∀ j (h : j < l.length), j < i → lasts l[j].2 = false → prio l[k].2 ≤ prio l[j].2
theorem idx_lt0 (r : Option Nat) (h : ∀ k, r = some k → k < 2 ^ 63) : decide (idxV r < 0) = r.isNone := by
  cases r with
  | none => rfl
  | some k => exact dec_f fun q => by have := (i64_lt (a := k) (b := 0) (h k rfl) (by omega)).1 q; omega
theorem victim_loop (n : Nat) (sa : List UInt64) (s0 s1 : Int64) (s2 s3 s5 : UInt64) (l : List EnT) (hl : l.length ≤ 1000) : ∀ m i r, i ≤ l.length → l.length - i < m → VSpec l i r →
    ∃ r', F29_R29 n m (idxV r) (I64 l.length) (I64 i) sa s0 s1 s2 s3 s5 l = some (idxV r', some ((s0, s1, s2, s3, l), sa, s5)) ∧ VSpec l l.length r' := by
  intro m
  induction m with
  | zero => intros; omega
  | succ m ih =>
    intro i r hi hm hr
    rw [F29_R29_s]
    unfold F29_L29
    by_cases hlt : i < l.length
    · obtain ⟨b1, b2⟩ := idx_i64 (l := l) hlt (by omega)
      rw [dec_t ((i64_lt (by omega) (by omega)).2 hlt), oite_t, b1, oite_t, b2]
      simp only [obind_s, Prod.eta]
      rw [lasts_eq]
      simp only [obind_s, i64_succ]
      have hkeep : lasts l[i].2 = true → VSpec l (i + 1) r := fun hla => by
        cases r with
        | none =>
          intro j hj hji
          by_cases e : j = i
          · subst e; exact hla
          · exact hr j hj (by omega)
        | some k =>
          obtain ⟨h1, h2, h3, h4⟩ := hr
          refine ⟨by omega, h2, h3, fun j hj hji hlj => ?_⟩
          by_cases e : j = i
          · subst e; rw [hla] at hlj; cases hlj
          · exact h4 j hj (by omega) hlj
      cases hla : lasts l[i].2 with
      | true =>
        rw [oite_t]
        exact ih (i + 1) r (by omega) (by omega) (hkeep hla)
      | false =>
        rw [oite_f, idx_lt0 r fun k hk => by subst hk; have := hr.1; omega]
        cases r with
        | none =>
          rw [show (none : Option Nat).isNone = true from rfl, oite_t]
          refine ih (i + 1) (some i) (by omega) (by omega) ⟨by omega, hlt, hla, fun j hj hji hlj => ?_⟩
          by_cases e : j = i
          · subst e; exact UInt8.le_refl _
          · rw [hr j hj (by omega)] at hlj; cases hlj
        | some k =>
          obtain ⟨h1, h2, h3, h4⟩ := hr
          obtain ⟨c1, c2⟩ := idx_i64 (l := l) h2 (by omega)
          rw [show (some k).isNone = false from rfl, oite_f, show idxV (some k) = I64 k from rfl, c1, oite_t, c2]
          simp only [obind_s]
          by_cases hp : prio l[i].2 < prio l[k].2
          · rw [dec_t hp, oite_t]
            refine ih (i + 1) (some i) (by omega) (by omega) ⟨by omega, hlt, hla, fun j hj hji hlj => ?_⟩
            by_cases e : j = i
            · subst e; exact UInt8.le_refl _
            · exact UInt8.le_trans (UInt8.le_of_lt hp) (h4 j hj (by omega) hlj)
          · rw [dec_f hp, oite_f]
            refine ih (i + 1) (some k) (by omega) (by omega) ⟨by omega, h2, h3, fun j hj hji hlj => ?_⟩
            by_cases e : j = i
            · subst e; exact UInt8.not_lt.1 hp
            · exact h4 j hj (by omega) hlj
    · rw [dec_f (fun q => hlt ((i64_lt (by omega) (by omega)).1 q)), oite_f]
      have : i = l.length := by omega
      subst this
      exact ⟨r, rfl, hr⟩
theorem victim_spec (n : Nat) (hn : 1001 < n) (s : SpT) (hl : s.1.2.2.2.2.length ≤ 1000) :
    ∃ r, F29 n (some s) = some (idxV r, some s) ∧ VSpec s.1.2.2.2.2 s.1.2.2.2.2.length r := by
  obtain ⟨⟨s0, s1, s2, s3, l⟩, sa, s5⟩ := s
  dsimp only at hl ⊢
  exact victim_loop n sa s0 s1 s2 s3 s5 l hl n 0 none (by omega) (by omega) fun j _ h => by omega
theorem last_spec (n : Nat) (hn : 1001 < n) (s : SpT) (hl : s.1.2.2.2.2.length ≤ 1000) (hg : ∀ e ∈ s.1.2.2.2.2, Good e.2) (k : Nat) (hk : s.1.2.2.2.2.length = k + 1) :
    ∃ ix u rD, F31 n (some s) = some (ix, some ((s.1.1, u, s.1.2.2.1, s.1.2.2.2.1, joinD s.1.2.2.2.2 k rD), s.2)) ∧ DownSpec s.1.2.2.2.2 (orgE (s.1.2.2.2.2[k]'(by omega))) k rD ∧ (UsedOK s.1.2.1 s.1.2.2.2.2 → UsedOK u (joinD s.1.2.2.2.2 k rD)) := by
  obtain ⟨r, e, hr⟩ := beside_down n hn s hl k (by omega)
  unfold F31
  simp only [obind_s]
  rw [show Int64.ofInt ↑(List.length s.1.2.2.2.2) - 1 = I64 k from by rw [hk]; exact i64_sub (a := k + 1) (b := 1) (by omega)]
  simp only [Prod.eta]
  rw [e]
  simp only [obind_s]
  cases r with
  | none => exact ⟨0, s.1.2.1, none, rfl, hr, fun h => h⟩
  | some a =>
    obtain ⟨h1, h2, h3, h4⟩ := hr
    obtain ⟨u, e2, hu⟩ := join_spec n (by omega) s hl hg a k h2 (by omega)
    rw [idx_lt0 _ (fun k hk => by cases hk; omega), show (some a).isNone = false from rfl, oite_f, show idxV (some a) = I64 a from rfl, e2]
    simp only [obind_s]
    by_cases hlen : Int64.ofInt ↑(joinL s.1.2.2.2.2 a k).length = Int64.ofInt ↑s.1.2.2.2.2.length
    · rw [dec_t hlen, oite_t]
      exact ⟨0, u, some a, rfl, ⟨h1, h2, h3, h4⟩, hu (by omega)⟩
    · rw [dec_f hlen, oite_f]
      obtain ⟨g1, _⟩ := joinL_at s.1.2.2.2.2 a k h1 h2
      have := joinL_len s.1.2.2.2.2 a k
      obtain ⟨c1, c2⟩ := idx_i64 (l := joinL s.1.2.2.2.2 a k) g1 (by omega)
      rw [c1, oite_t, c2]
      exact ⟨_, u, some a, rfl, ⟨h1, h2, h3, h4⟩, hu (by omega)⟩
end Go.Proofs.Ytblldmpkljcnjaa
open Go Go.Sx
namespace Go.Proofs.Ytblldmpkljcnjaa
inductive Evs : List EnT → List EnT → Prop where
  | refl (l : List EnT) : Evs l l
  | step {l l' l'' : List EnT} {k : Nat} {rU rD : Option Nat} (hv : VSpec l l.length (some k)) (he : EvTo l k l' rU rD) (hr : Evs l' l'') : Evs l l''
def nl (l : List EnT) : Nat := (l.filter fun e => !lasts e.2).length
theorem nl_cons (e : EnT) (l : List EnT) : nl (e :: l) = (if lasts e.2 = true then 0 else 1) + nl l := by
  unfold nl
  rw [List.filter_cons]
  by_cases h : lasts e.2 = true
  · rw [if_neg (by rw [h]; decide), if_pos h, Nat.zero_add]
  · rw [if_pos (by rw [Bool.not_eq_true] at h; rw [h]; rfl), if_neg h, List.length_cons, Nat.add_comm]
theorem nl_set : ∀ (l : List EnT) (k : Nat) (e : EnT) (hk : k < l.length), nl (l.set k e) + (if lasts l[k].2 = true then 0 else 1) = nl l + (if lasts e.2 = true then 0 else 1)
  | [], _, _, h => by simp at h
  | x :: l, 0, e, _ => by simp only [List.set_cons_zero, nl_cons, List.getElem_cons_zero]; omega
  | x :: l, k + 1, e, h => by
    have := nl_set l k e (by simpa using h)
    simp only [List.set_cons_succ, nl_cons, List.getElem_cons_succ]; omega
theorem nl_erase : ∀ (l : List EnT) (k : Nat), nl (l.eraseIdx k) ≤ nl l
  | [], _ => by simp
  | x :: l, 0 => by simp only [List.eraseIdx_cons_zero, nl_cons]; omega
  | x :: l, k + 1 => by
    have := nl_erase l k
    simp only [List.eraseIdx_cons_succ, nl_cons]; omega
theorem joinL_nl (l : List EnT) (a b : Nat) : nl (joinL l a b) ≤ nl l := by
  obtain ⟨m, hm⟩ : ∃ m, m = joinL l a b := ⟨_, rfl⟩
  have hc := joinL_cases l a b
  rw [← hm] at hc ⊢
  rcases hc with hc | ⟨ha, hb, hf, hc⟩
  · rw [hc]; exact Nat.le_refl _
  · rw [hc]
    refine Nat.le_trans (nl_erase _ _) ?_
    have h := nl_set l a (l[a].1, (joinI l[a].2 l[b].2).1) ha
    have h1 : lasts (joinI l[a].2 l[b].2).1 = true := by unfold joinI; rw [if_pos hf]; rfl
    rw [show lasts (l[a].1, (joinI l[a].2 l[b].2).1).2 = true from h1] at h
    simp only [if_true] at h
    omega
theorem joinR_len (l : List EnT) (k : Nat) (r : Option Nat) : (joinR l k r).length ≤ l.length := by cases r; exact Nat.le_refl _; exact joinL_len l k _
theorem joinD_len (l : List EnT) (k : Nat) (r : Option Nat) : (joinD l k r).length ≤ l.length := by cases r; exact Nat.le_refl _; exact joinL_len l _ k
theorem joinR_nl (l : List EnT) (k : Nat) (r : Option Nat) : nl (joinR l k r) ≤ nl l := by cases r; exact Nat.le_refl _; exact joinL_nl l k _
theorem joinD_nl (l : List EnT) (k : Nat) (r : Option Nat) : nl (joinD l k r) ≤ nl l := by cases r; exact Nat.le_refl _; exact joinL_nl l _ k
theorem joinR_good {l : List EnT} (hg : ∀ e ∈ l, Good e.2) (k : Nat) (r : Option Nat) : ∀ e ∈ joinR l k r, Good e.2 := by cases r; exact hg; exact joinL_good hg k _
theorem joinD_good {l : List EnT} (hg : ∀ e ∈ l, Good e.2) (k : Nat) (r : Option Nat) : ∀ e ∈ joinD l k r, Good e.2 := by cases r; exact hg; exact joinL_good hg _ k
theorem EvTo.len {l l' : List EnT} {k : Nat} {rU rD : Option Nat} (h : EvTo l k l' rU rD) : l'.length ≤ l.length := by
  rw [h.eq]
  refine Nat.le_trans (joinD_len _ _ _) (Nat.le_trans (joinR_len _ _ _) ?_)
  unfold evOne; rw [List.length_set]; exact Nat.le_refl _
theorem EvTo.good {l l' : List EnT} {k : Nat} {rU rD : Option Nat} (h : EvTo l k l' rU rD) (hg : ∀ e ∈ l, Good e.2) : ∀ e ∈ l', Good e.2 := by
  rw [h.eq]; exact joinD_good (joinR_good (evOne_good hg k _) _ _) _ _
theorem EvTo.fewer {l l' : List EnT} {k : Nat} {rU rD : Option Nat} (h : EvTo l k l' rU rD) (hv : lasts (l[k]'h.lt).2 = false) : nl l' < nl l := by
  have h1 := nl_set l k (l[k]'h.lt |>.1, gapI (spanI (l[k]'h.lt).2)) h.lt
  rw [hv, show lasts ((l[k]'h.lt).1, gapI (spanI (l[k]'h.lt).2)).2 = true from rfl] at h1
  simp only [if_true] at h1
  have h2 := joinR_nl (evOne l k (l[k]'h.lt)) k rU
  have h3 := joinD_nl (joinR (evOne l k (l[k]'h.lt)) k rU) k rD
  rw [← h.eq] at h3
  unfold evOne at h2 h3
  have h1 : nl (l.set k ((l[k]'h.lt).1, gapI (spanI (l[k]'h.lt).2))) + 1 = nl l := by simpa using h1
  omega
theorem Evs.len {l l' : List EnT} (h : Evs l l') : l'.length ≤ l.length := by
  induction h with
  | refl => exact Nat.le_refl _
  | step _ he _ ih => exact Nat.le_trans ih he.len
theorem Evs.good {l l' : List EnT} (h : Evs l l') (hg : ∀ e ∈ l, Good e.2) : ∀ e ∈ l', Good e.2 := by
  induction h with
  | refl => exact hg
  | step _ he _ ih => exact ih (he.good hg)
theorem nl_le (l : List EnT) : nl l ≤ l.length := List.length_filter_le _ _
theorem check_org {x : ItT} (h : itCheck x = 0) : (spanI x).1.toNat < 32 := by
  obtain ⟨g, o, seq, time, rule, labels, state, pr, v, own, go, ga, gb⟩ := x
  have key : ∀ (u : UInt8) (b : Int64), (bif decide ((32 : UInt8) ≤ u) then (6 : Int64) else b) = 0 → u.toNat < 32 := fun u b hb => by
    by_cases hu : (32 : UInt8) ≤ u
    · rw [dec_t hu] at hb; have hb : (6 : Int64) = 0 := hb; exact absurd hb (by decide)
    · have := UInt8.lt_iff_toNat_lt.1 (UInt8.not_le.1 hu); exact this
  cases g with
  | true => exact key go _ h
  | false => exact key o _ h
def putY (x : ItT) (high : UInt64) : ItT := if (spanI x).2.1 ≤ high then (trimI x high).1 else x
theorem trim_good {x : ItT} (h : Good x) (a : UInt64) : Good (trimI x a).1 := by
  unfold trimI
  split
  · exact ⟨by simp [zeroI], by simp [zeroI], by simp [zeroI]⟩
  · split
    · exact h
    · exact ⟨h.rule, h.labs, h.each⟩
theorem putY_good {x : ItT} (h : Good x) (a : UInt64) : Good (putY x a) := by
  unfold putY; split
  · exact trim_good h a
  · exact h
structure Put1 (s : SpT) (x : ItT) (high : UInt64) (s' : SpT) (l1 : List EnT) (rD : Option Nat) : Prop where
  ok : itCheck x = 0
  hi : s.2.1[(spanI x).1.toNat]? = some high
  old : ¬ (spanI x).2.2 ≤ high
  jump : ¬ high + 1 < (spanI x).2.1
  ev : Evs s.1.2.2.2.2 l1
  down : DownSpec (l1 ++ [(s.1.2.2.1, putY x high)]) (spanI (putY x high)).1 l1.length rD
  list : s'.1.2.2.2.2 = joinD (l1 ++ [(s.1.2.2.1, putY x high)]) l1.length rD
  quota : s'.1.1 = s.1.1
  next : s'.1.2.2.1 = s.1.2.2.1 + 1
  most : ¬ (1099511627776 : UInt64) < s.1.2.2.1 + 1
  acked : s'.1.2.2.2.1 = s.1.2.2.2.1
  highs : s'.2.1 = s.2.1.set (spanI x).1.toNat (spanI x).2.2
  used : UsedOK s.1.2.1 s.1.2.2.2.2 → UsedOK s'.1.2.1 s'.1.2.2.2.2 ∧ ¬ s.1.1 < I64 (sumB (l1 ++ [(s.1.2.2.1, putY x high)]))
abbrev PutR (s : SpT) (y : (UInt64 × UInt64 × Int64) × Option SpT) (x : ItT) (high : UInt64) : Prop :=
  ∃ i f e s', y = ((i, f, e), some s') ∧ ((e ≠ 0 ∧ f = 0 ∧ s' = s) ∨ (e = 0 ∧ ∃ l1 rD, Put1 s x high s' l1 rD))
theorem u8_idx (o : UInt8) (ho : o.toNat < 32) : decide ((0 : Int) ≤ ↑(UInt8.toNat o)) = true ∧ Nat.blt (Int.toNat ↑(UInt8.toNat o)) 32 = true := by
  refine ⟨dec_t (by omega), ?_⟩
  rw [Int.toNat_natCast]; exact Nat.ble_eq_true_of_le ho
theorem j2047 (s : SpT) (hh : s.2.1.length = 32) (x : ItT) (high : UInt64) (f : UInt64) (t : SpT) (l1 : List EnT) (rD : Option Nat) (hok : itCheck x = 0) (hi : s.2.1[(spanI x).1.toNat]? = some high)
    (hold : ¬ (spanI x).2.2 ≤ high) (hjump : ¬ high + 1 < (spanI x).2.1) (hev : Evs s.1.2.2.2.2 l1)
    (hdown : DownSpec (l1 ++ [(s.1.2.2.1, putY x high)]) (spanI (putY x high)).1 l1.length rD)
    (hlist : t.1.2.2.2.2 = joinD (l1 ++ [(s.1.2.2.1, putY x high)]) l1.length rD) (hq : t.1.1 = s.1.1) (hn : t.1.2.2.1 = s.1.2.2.1) (ha : t.1.2.2.2.1 = s.1.2.2.2.1) (hhi : t.2.1 = s.2.1)
    (hu : UsedOK s.1.2.1 s.1.2.2.2.2 → UsedOK t.1.2.1 t.1.2.2.2.2 ∧ ¬ s.1.1 < I64 (sumB (l1 ++ [(s.1.2.2.1, putY x high)]))) :
    ∃ y, F9_J2047 f (spanI x).1 (spanI x).2.2 (some s) (some t) = some y ∧ PutR s y x high := by
  have ho := check_org hok
  obtain ⟨o1, o2⟩ := u8_idx _ ho
  unfold F9_J2047
  simp only [obind_s]
  rw [o1, oite_t, o2, oite_t, hhi, show Nat.blt (Int.toNat ↑(UInt8.toNat (spanI x).1) * 1) s.2.1.length = true from by rw [Nat.mul_one, hh]; exact o2, oite_t, hn]
  by_cases hm : (1099511627776 : UInt64) < s.1.2.2.1 + 1
  · rw [dec_t hm, oite_t]
    exact ⟨_, rfl, _, _, _, _, rfl, .inl ⟨by decide, rfl, rfl⟩⟩
  · rw [dec_f hm, oite_f]
    refine ⟨_, rfl, _, _, _, _, rfl, .inr ⟨rfl, l1, rD, ⟨hok, hi, hold, hjump, hev, hdown, hlist, hq, rfl, hm, ha, ?_, hu⟩⟩⟩
    show List.set s.2.1 _ _ = _
    rw [Nat.mul_one, Int.toNat_natCast]
theorem put_loop (n : Nat) (hn : 1001 < n) (s : SpT) (hh : s.2.1.length = 32) (x : ItT) (high : UInt64) (hok : itCheck x = 0) (hi : s.2.1[(spanI x).1.toNat]? = some high)
    (hold : ¬ (spanI x).2.2 ≤ high) (hjump : ¬ high + 1 < (spanI x).2.1) (hy : Good (putY x high)) (size : Int64) (hsz : size = I64 (itB (putY x high)).length) : ∀ (m : Nat) (t : SpT) (f : UInt64), nl t.1.2.2.2.2 < m →
      (t.1.2.2.2.2.length ≤ 900) → (∀ e ∈ t.1.2.2.2.2, Good e.2) → t.1.1 = s.1.1 → t.1.2.2.1 = s.1.2.2.1 → t.1.2.2.2.1 = s.1.2.2.2.1 → t.2.1 = s.2.1 → (∀ l1, Evs t.1.2.2.2.2 l1 → Evs s.1.2.2.2.2 l1) → (UsedOK s.1.2.1 s.1.2.2.2.2 → UsedOK t.1.2.1 t.1.2.2.2.2) →
    ∃ y, F9_R510 n m f (spanI x).1 (spanI x).2.2 size (some s) (putY x high).1 (putY x high).2.1 (putY x high).2.2.1 (putY x high).2.2.2.1 (putY x high).2.2.2.2.1 (putY x high).2.2.2.2.2.1 (putY x high).2.2.2.2.2.2.1
      (putY x high).2.2.2.2.2.2.2.1 (putY x high).2.2.2.2.2.2.2.2.1 (putY x high).2.2.2.2.2.2.2.2.2.1 (putY x high).2.2.2.2.2.2.2.2.2.2.1 (putY x high).2.2.2.2.2.2.2.2.2.2.2.1 (putY x high).2.2.2.2.2.2.2.2.2.2.2.2 (some t) = some y ∧ PutR s y x high := by
  intro m
  induction m with
  | zero => intros; omega
  | succ m ih =>
    intro t f hm hl hg hq hnx hac hhi hev hut
    rw [F9_R510_s]
    unfold F9_L510
    simp only [obind_s, Prod.eta]
    by_cases hroom : t.1.1 < t.1.2.1 + size
    · rw [dec_t hroom, oite_t]
      obtain ⟨r, e1, hr⟩ := victim_spec n hn t (by omega)
      rw [e1]
      simp only [obind_s]
      rw [idx_lt0 r fun k hk => by subst hk; have := hr.1; omega]
      cases r with
      | none => exact ⟨_, rfl, _, _, _, _, rfl, .inl ⟨by decide, rfl, rfl⟩⟩
      | some k =>
        obtain ⟨h1, h2, h3, h4⟩ := hr
        rw [show (some k).isNone = false from rfl, oite_f, show idxV (some k) = I64 k from rfl]
        obtain ⟨ix, u, ev, l', rU, rD, e2, he, hue⟩ := evict_spec n hn t k h2 (by omega) hg
        rw [e2]
        simp only [obind_s]
        have hlen := he.len
        have go : ∀ f', ∃ y, F9_R510 n m f' (spanI x).1 (spanI x).2.2 size (some s) (putY x high).1 (putY x high).2.1 (putY x high).2.2.1 (putY x high).2.2.2.1 (putY x high).2.2.2.2.1 (putY x high).2.2.2.2.2.1 (putY x high).2.2.2.2.2.2.1
            (putY x high).2.2.2.2.2.2.2.1 (putY x high).2.2.2.2.2.2.2.2.1 (putY x high).2.2.2.2.2.2.2.2.2.1 (putY x high).2.2.2.2.2.2.2.2.2.2.1 (putY x high).2.2.2.2.2.2.2.2.2.2.2.1 (putY x high).2.2.2.2.2.2.2.2.2.2.2.2
            (some ((t.1.1, u, t.1.2.2.1, t.1.2.2.2.1, l'), t.2.1, ev)) = some y ∧ PutR s y x high := fun f' =>
          ih ((t.1.1, u, t.1.2.2.1, t.1.2.2.2.1, l'), t.2.1, ev) f' (by have := he.fewer h3; dsimp only; omega) (by dsimp only; omega) (he.good hg) hq hnx hac hhi (fun l1 h => hev l1 (.step ⟨h1, h2, h3, h4⟩ he h)) fun h => hue (hut h)
        cases decide (f = 0) with
        | true => rw [oite_t]; exact go _
        | false =>
          rw [oite_f]
          cases decide (ix < f) with
          | true => rw [oite_t]; exact go _
          | false => rw [oite_f]; exact go _
    · rw [dec_f hroom, oite_f]
      have e30 : F30 n (putY x high) = some (putY x high, ()) := clone_eq n _ (by have := hy.labs; omega)
      rw [e30]
      simp only [obind_s, ojoinA_eq]
      rw [ble_t (by simp; omega), oite_t]
      have hg' : ∀ e ∈ t.1.2.2.2.2 ++ [(t.1.2.2.1, putY x high)], Good e.2 := by
        intro e he
        rcases List.mem_append.1 he with h | h
        · exact hg e h
        · simp only [List.mem_singleton] at h; rw [h]; exact hy
      obtain ⟨ix, u, rD, e3, hD, hul⟩ := last_spec n hn ((t.1.1, t.1.2.1 + size, t.1.2.2.1, t.1.2.2.2.1, t.1.2.2.2.2 ++ [(t.1.2.2.1, putY x high)]), t.2) (by simp; omega) hg' t.1.2.2.2.2.length (by simp)
      rw [e3]
      simp only [obind_s]
      have hD : DownSpec (t.1.2.2.2.2 ++ [(s.1.2.2.1, putY x high)]) (spanI (putY x high)).1 t.1.2.2.2.2.length rD := by
        rw [← hnx]
        have e : orgE ((t.1.2.2.2.2 ++ [(t.1.2.2.1, putY x high)])[t.1.2.2.2.2.length]'(by simp)) = (spanI (putY x high)).1 := by
          rw [List.getElem_append_right (Nat.le_refl _)]
          simp only [Nat.sub_self, List.getElem_cons_zero]
          rfl
        rw [← e]; exact hD
      have go : ∀ f', ∃ y, F9_J2047 f' (spanI x).1 (spanI x).2.2 (some s) (some ((t.1.1, u, t.1.2.2.1, t.1.2.2.2.1, joinD (t.1.2.2.2.2 ++ [(t.1.2.2.1, putY x high)]) t.1.2.2.2.2.length rD), t.2)) = some y ∧ PutR s y x high := fun f' =>
        j2047 s hh x high f' _ t.1.2.2.2.2 rD hok hi hold hjump (hev _ (.refl _)) hD (by dsimp only; rw [hnx]) hq hnx hac hhi fun h => by
          have h1 : t.1.2.1 = I64 (sumB t.1.2.2.2.2) := hut h
          have h2 : t.1.2.1 + size = I64 (sumB (t.1.2.2.2.2 ++ [(t.1.2.2.1, putY x high)])) := by
            rw [h1, hsz, sumB_append, i64_add, sumB_cons]; rfl
          refine ⟨hul h2, ?_⟩
          rw [← hnx, ← h2, ← hq]; exact hroom
      cases decide (0 < ix) with
      | false => rw [oite_f]; exact go _
      | true =>
        rw [oite_t]
        cases decide (f = 0) with
        | true => rw [oite_t]; exact go _
        | false =>
          rw [oite_f]
          cases decide (ix < f) with
          | true => rw [oite_t]; exact go _
          | false => rw [oite_f]; exact go _
end Go.Proofs.Ytblldmpkljcnjaa
open Go Go.Sx
namespace Go.Proofs.Ytblldmpkljcnjaa
theorem put_spec (n : Nat) (hn : 1001 < n) (s : SpT) (hl : s.1.2.2.2.2.length ≤ 900) (hg : ∀ e ∈ s.1.2.2.2.2, Good e.2) (hh : s.2.1.length = 32) (x : ItT) (hx : Good x) :
    ∃ y high, F9 n (some s, x) = some y ∧ PutR s y x high := by
  unfold F9
  simp only [oelim_s, Prod.eta]
  rw [it_eq n 50 (by omega) x (hx.fit 50 (by omega))]
  simp only [obind_s]
  by_cases hok : itCheck x = 0
  · have ho := check_org hok
    obtain ⟨o1, o2⟩ := u8_idx _ ho
    rw [dec_t hok, Bool.not_true, oite_f, span_eq]
    simp only [obind_s, ojoinA_eq]
    rw [o1, oite_t, o2, oite_t]
    have hlt : (spanI x).1.toNat < s.2.1.length := by rw [hh]; exact ho
    have hi : s.2.1[(spanI x).1.toNat]? = some s.2.1[(spanI x).1.toNat] := List.getElem?_eq_getElem hlt
    generalize s.2.1[(spanI x).1.toNat] = high at hi
    rw [show s.2.1[Int.toNat ↑(UInt8.toNat (spanI x).1) * 1]? = some high from by rw [Nat.mul_one, Int.toNat_natCast]; exact hi]
    simp only [obind_s]
    have hY := putY_good hx high
    have j31 : ¬ (spanI x).2.2 ≤ high → ¬ high + 1 < (spanI x).2.1 → ∃ y, F9_J31 n 0 (spanI x).1 (spanI x).2.2 s.2.1 s.1.1 s.1.2.1 s.1.2.2.1 s.1.2.2.2.1 s.2.2 (putY x high).1 (putY x high).2.1 (putY x high).2.2.1 (putY x high).2.2.2.1 (putY x high).2.2.2.2.1 (putY x high).2.2.2.2.2.1 (putY x high).2.2.2.2.2.2.1
      (putY x high).2.2.2.2.2.2.2.1 (putY x high).2.2.2.2.2.2.2.2.1 (putY x high).2.2.2.2.2.2.2.2.2.1 (putY x high).2.2.2.2.2.2.2.2.2.2.1 (putY x high).2.2.2.2.2.2.2.2.2.2.2.1 (putY x high).2.2.2.2.2.2.2.2.2.2.2.2 s.1.2.2.2.2 = some y ∧ PutR s y x high := by
      intro hold hjump
      unfold F9_J31
      simp only [Prod.eta]
      have e22 : F22 n (some s) = some (some s, some s) := by
        unfold F22
        simp only [oelim_s]
        have e : F1033 n s.1.2.2.2.2 = some (s.1.2.2.2.2, s.1.2.2.2.2) := by
          unfold F1033 cloneFR
          rw [ble_t (by unfold maxCells; omega), oite_t]
        rw [e]
        rfl
      rw [e22]
      simp only [obind_s]
      rw [size_eq n (by omega) _ hY]
      simp only [obind_s]
      exact put_loop n hn s hh x high hok hi hold hjump hY _ rfl n s 0 (by have := nl_le s.1.2.2.2.2; omega) hl hg rfl rfl rfl rfl (fun _ h => h) fun h => h
    by_cases hold : (spanI x).2.2 ≤ high
    · rw [dec_t hold, oite_t]
      exact ⟨_, high, rfl, _, _, _, _, rfl, .inl ⟨by decide, rfl, rfl⟩⟩
    · rw [dec_f hold, oite_f]
      by_cases hlow : (spanI x).2.1 ≤ high
      · have hjump : ¬ high + 1 < (spanI x).2.1 := by
          rw [UInt64.not_lt, UInt64.le_iff_toNat_le]
          rw [UInt64.le_iff_toNat_le] at hlow hold
          have := (spanI x).2.2.toNat_lt
          rw [UInt64.toNat_add]
          have : (1 : UInt64).toNat = 1 := rfl
          omega
        rw [dec_t hlow, oite_t, trim_eq]
        simp only [obind_s]
        obtain ⟨y, e, hy⟩ := j31 hold hjump
        have ep : putY x high = (trimI x high).1 := by unfold putY; rw [if_pos hlow]
        rw [ep] at e
        exact ⟨y, high, e, hy⟩
      · rw [dec_f hlow, oite_f]
        by_cases hjump : high + 1 < (spanI x).2.1
        · rw [dec_t hjump, oite_t]
          exact ⟨_, high, rfl, _, _, _, _, rfl, .inl ⟨by decide, rfl, rfl⟩⟩
        · rw [dec_f hjump, oite_f]
          obtain ⟨y, e, hy⟩ := j31 hold hjump
          have ep : putY x high = x := by unfold putY; rw [if_neg hlow]
          rw [ep] at e
          exact ⟨y, high, e, hy⟩
  · rw [dec_f hok, Bool.not_false, oite_t]
    exact ⟨_, 0, rfl, _, _, _, _, rfl, .inl ⟨hok, rfl, rfl⟩⟩
def listGo (behind : UInt64) (many : Int64) : List EnT → List EnT → List EnT
  | [], out => out
  | x :: r, out => if many ≤ I64 out.length then out else if behind < x.1 then listGo behind many r (out ++ [x]) else listGo behind many r out
theorem list_loop (n : Nat) (behind : UInt64) (many : Int64) (sa : List UInt64) (s0 s1 : Int64) (s2 s3 s5 : UInt64) (l : List EnT) (hl : l.length ≤ 1000) (hg : ∀ e ∈ l, Good e.2) : ∀ m i out, i ≤ l.length → l.length - i < m → out.length ≤ i →
    F12_R61 n m behind many (I64 l.length) (I64 i) sa s0 s1 s2 s3 s5 out l = some (listGo behind many (l.drop i) out, some ((s0, s1, s2, s3, l), sa, s5)) := by
  intro m
  induction m with
  | zero => intros; omega
  | succ m ih =>
    intro i out hi hm ho
    rw [F12_R61_s]
    unfold F12_L61
    by_cases hlt : i < l.length
    · obtain ⟨b1, b2⟩ := idx_i64 (l := l) hlt (by omega)
      have gi := hg _ (List.getElem_mem hlt)
      rw [dec_t ((i64_lt (by omega) (by omega)).2 hlt), oite_t, b1, oite_t, b2]
      simp only [obind_s, Prod.eta, i64_succ]
      rw [List.drop_eq_getElem_cons hlt]
      unfold listGo
      by_cases hm' : many ≤ I64 out.length
      · rw [show decide (many ≤ Int64.ofInt ↑out.length) = true from dec_t hm', oite_t, if_pos hm']
      · rw [show decide (many ≤ Int64.ofInt ↑out.length) = false from dec_f hm', oite_f, if_neg hm']
        by_cases hb : behind < l[i].1
        · rw [dec_t hb, oite_t, if_pos hb]
          have e30 : F30 n l[i].2 = some (l[i].2, ()) := clone_eq n _ (by have := gi.labs; omega)
          rw [e30]
          simp only [obind_s, Prod.eta]
          rw [ble_t (by simp; omega), oite_t]
          exact ih (i + 1) _ (by omega) (by omega) (by simp; omega)
        · rw [dec_f hb, oite_f, if_neg hb]
          exact ih (i + 1) _ (by omega) (by omega) (by omega)
    · rw [dec_f (fun q => hlt ((i64_lt (by omega) (by omega)).1 q)), oite_f, List.drop_eq_nil_of_le (by omega)]
      rfl
theorem list_spec (n : Nat) (hn : 1001 < n) (s : SpT) (hl : s.1.2.2.2.2.length ≤ 1000) (hg : ∀ e ∈ s.1.2.2.2.2, Good e.2) (behind : UInt64) (many : Int64) :
    F12 n (some s, behind, many) = some (listGo behind many s.1.2.2.2.2 [], some s) := by
  obtain ⟨⟨s0, s1, s2, s3, l⟩, sa, s5⟩ := s
  dsimp only at hl hg ⊢
  have := list_loop n behind many sa s0 s1 s2 s3 s5 l hl hg n 0 [] (by omega) (by omega) (by simp)
  unfold F12
  exact this
theorem list_all (many : Nat) (hm : many < 2 ^ 63) : ∀ (l out : List EnT), (∀ e ∈ l, 0 < e.1) → out.length + l.length ≤ many → listGo 0 (I64 many) l out = out ++ l
  | [], out, _, _ => by simp [listGo]
  | x :: r, out, h, hl => by
    simp only [List.length_cons] at hl
    unfold listGo
    rw [if_neg (fun q => by have := (i64_le (by omega) (by omega)).1 q; omega), if_pos (h x (by simp)), list_all many hm r (out ++ [x]) (fun e he => h e (by simp [he])) (by simp; omega)]
    simp
theorem high_spec (n : Nat) (s : SpT) (hh : s.2.1.length = 32) (o : UInt8) (ho : o.toNat < 32) : F11 n (some s, o) = some (s.2.1[o.toNat]'(by omega), some s) := by
  obtain ⟨o1, o2⟩ := u8_idx _ ho
  unfold F11
  simp only [oelim_s, Prod.eta]
  have : ¬ (32 : UInt8) ≤ o := by rw [UInt8.not_le, UInt8.lt_iff_toNat_lt]; exact ho
  rw [dec_f this, oite_f, o1, oite_t, o2, oite_t, show s.2.1[Int.toNat ↑(UInt8.toNat o) * 1]? = some (s.2.1[o.toNat]'(by omega)) from by rw [Nat.mul_one, Int.toNat_natCast]; exact List.getElem?_eq_getElem _]
  rfl
end Go.Proofs.Ytblldmpkljcnjaa
