/- A spool: what its parts do: sizes, what stands beside, joins. -/
import Derived.Test.YtblldmpkljcnjaaSpItem
open Go Go.Sx
namespace Go.Proofs.Ytblldmpkljcnjaa
abbrev EnT := UInt64 × ItT
abbrev SpT := (Int64 × Int64 × UInt64 × UInt64 × List EnT) × List UInt64 × UInt64
/-- What items are put here. -/
structure Good (x : ItT) : Prop where
  rule : x.2.2.2.2.1.length ≤ 12
  labs : x.2.2.2.2.2.1.length ≤ 3
  each : ∀ p ∈ x.2.2.2.2.2.1, p.1.length = 1 ∧ p.2.length = 1
theorem Small.good {x : ItT} (h : Small x) : Good x := ⟨h.rule, h.labs, h.each⟩
theorem gapI_good (g : UInt8 × UInt64 × UInt64) : Good (gapI g) := ⟨by simp [gapI], by simp [gapI], by simp [gapI]⟩
theorem Good.fit {x : ItT} (h : Good x) (n : Nat) (hn : 20 < n) : FitI x n := by
  refine ⟨⟨by have := h.rule; omega, by have := h.rule; omega⟩, by have := h.labs; omega, fun p hp => ?_⟩
  have := h.each p hp
  omega
theorem labsB_small : ∀ (l : List Pair), (∀ p ∈ l, p.1.length = 1 ∧ p.2.length = 1) → (labsB l).length ≤ 22 * l.length
  | [], _ => by simp [labsB]
  | p :: r, h => by
    have h1 := h p (by simp)
    have h2 := labsB_small r fun q hq => h q (by simp [hq])
    have e1 := encT_len p.1
    have e2 := encT_len p.2
    simp only [labsB, List.length_append, List.length_cons]
    omega
theorem itB_len (x : ItT) (h : x.2.2.2.2.1.length + (labsB x.2.2.2.2.2.1).length ≤ 1000000000) : (itB x).length ≤ 1000000200 := by
  obtain ⟨g, o, seq, time, rule, labels, state, prio, v, own, go, ga, gb⟩ := x
  dsimp only at h
  have a1 := enc_len seq
  have a2 := enc_len time
  have a3 := encT_len rule
  have a4 := enc_len (UInt64.ofNat labels.length)
  have a5 := enc_len (zig v)
  have a6 := enc_len ga
  have a7 := enc_len gb
  unfold itB
  cases g with
  | true => simp [gapB, gapOf]; omega
  | false => simp [evB, evOf, tailB]; omega
theorem Good.bytes {x : ItT} (h : Good x) : (itB x).length ≤ 4294967296 := by
  have h1 := labsB_small _ h.each
  have h2 := h.rule
  have h3 := h.labs
  have := itB_len x (by omega)
  omega
theorem size_eq (n : Nat) (hn : 50 < n) (x : ItT) (h : Good x) : F27 n x = some (I64 (itB x).length, ()) := by
  have h1 := labsB_small _ h.each
  have h2 := h.rule
  have h3 := h.labs
  have e := it_enc n x (by omega) (by omega) (by omega) h.bytes
  unfold F27
  simp only [Prod.eta]
  rw [e]
  rfl
/-! ### Beside -/
def orgE (e : EnT) : UInt8 := (spanI e.2).1
def idxV : Option Nat → Int64
  | some k => I64 k
  | none => -1
def UpSpec (l : List EnT) (o : UInt8) (i : Nat) : Option Nat → Prop
  | none => ∀ j (h : j < l.length), i ≤ j → orgE l[j] ≠ o
  | some k => i ≤ k ∧ ∃ h : k < l.length, orgE l[k] = o ∧ ∀ j (h : j < l.length), i ≤ j → j < k → orgE l[j] ≠ o
def DownSpec (l : List EnT) (o : UInt8) (i : Nat) : Option Nat → Prop
  | none => ∀ j (h : j < l.length), j < i → orgE l[j] ≠ o
  | some k => k < i ∧ ∃ h : k < l.length, orgE l[k] = o ∧ ∀ j (h : j < l.length), k < j → j < i → orgE l[j] ≠ o
theorem up_loop (n : Nat) (o : UInt8) (sa : List UInt64) (s0 s1 : Int64) (s2 s3 s5 : UInt64) (l : List EnT) (hl : l.length ≤ 1000) : ∀ m i, i ≤ l.length → l.length - i < m →
    ∃ r, F40_R29 n m 1 o (I64 i) sa s0 s1 s2 s3 s5 l = some (idxV r, some ((s0, s1, s2, s3, l), sa, s5)) ∧ UpSpec l o i r := by
  intro m
  induction m with
  | zero => intros; omega
  | succ m ih =>
    intro i hi hm
    rw [F40_R29_s]
    unfold F40_L29
    rw [show decide ((0 : Int64) ≤ I64 i) = true from dec_t ((i64_le (a := 0) (by omega) (by omega)).2 (by omega)), oite_t]
    by_cases hlt : i < l.length
    · obtain ⟨b1, b2⟩ := idx_i64 (l := l) hlt (by omega)
      rw [dec_t ((i64_lt (by omega) (by omega)).2 hlt), oite_t, b1, oite_t, b2]
      simp only [obind_s, Prod.eta]
      rw [span_eq]
      simp only [obind_s]
      by_cases ho : orgE l[i] = o
      · refine ⟨some i, ?_, by omega, hlt, ho, fun j _ h1 h2 => by omega⟩
        unfold orgE at ho
        rw [dec_t ho, oite_t]; rfl
      · obtain ⟨r, e, hr⟩ := ih (i + 1) (by omega) (by omega)
        refine ⟨r, ?_, ?_⟩
        · unfold orgE at ho
          rw [dec_f ho, oite_f, i64_succ]
          exact e
        · cases r with
          | none =>
            intro j hj hij
            by_cases hji : j = i
            · subst hji; exact ho
            · exact hr j hj (by omega)
          | some k =>
            obtain ⟨h1, h2, h3, h4⟩ := hr
            refine ⟨by omega, h2, h3, fun j hj hij hjk => ?_⟩
            by_cases hji : j = i
            · subst hji; exact ho
            · exact h4 j hj (by omega) hjk
    · refine ⟨none, ?_, fun j hj hij => by omega⟩
      rw [dec_f (fun q => hlt ((i64_lt (by omega) (by omega)).1 q)), oite_f]; rfl
theorem i64_pred (k : Nat) : I64 (k + 1) + -1 = I64 k := by
  have := i64_sub (a := k + 1) (b := 1) (by omega)
  rw [show k + 1 - 1 = k from by omega] at this
  rw [← this]
  show I64 (k + 1) + -1 = I64 (k + 1) - 1
  rw [Int64.sub_eq_add_neg]
theorem down_loop (n : Nat) (o : UInt8) (sa : List UInt64) (s0 s1 : Int64) (s2 s3 s5 : UInt64) (l : List EnT) (hl : l.length ≤ 1000) : ∀ m i, i ≤ l.length → i < m →
    ∃ r, F40_R29 n m (-1) o (I64 i + -1) sa s0 s1 s2 s3 s5 l = some (idxV r, some ((s0, s1, s2, s3, l), sa, s5)) ∧ DownSpec l o i r := by
  intro m
  induction m with
  | zero => intros; omega
  | succ m ih =>
    intro i hi hm
    rw [F40_R29_s]
    unfold F40_L29
    cases i with
    | zero => exact ⟨none, rfl, fun j _ h => by omega⟩
    | succ i =>
      rw [i64_pred]
      have hlt : i < l.length := by omega
      rw [show decide ((0 : Int64) ≤ I64 i) = true from dec_t ((i64_le (a := 0) (by omega) (by omega)).2 (by omega)), oite_t]
      obtain ⟨b1, b2⟩ := idx_i64 (l := l) hlt (by omega)
      rw [dec_t ((i64_lt (by omega) (by omega)).2 hlt), oite_t, b1, oite_t, b2]
      simp only [obind_s, Prod.eta]
      rw [span_eq]
      simp only [obind_s]
      by_cases ho : orgE l[i] = o
      · refine ⟨some i, ?_, by omega, hlt, ho, fun j _ h1 h2 => by omega⟩
        unfold orgE at ho
        rw [dec_t ho, oite_t]; rfl
      · obtain ⟨r, e, hr⟩ := ih i (by omega) (by omega)
        refine ⟨r, ?_, ?_⟩
        · unfold orgE at ho
          rw [dec_f ho, oite_f]
          exact e
        · cases r with
          | none =>
            intro j hj hij
            by_cases hji : j = i
            · subst hji; exact ho
            · exact hr j hj (by omega)
          | some k =>
            obtain ⟨h1, h2, h3, h4⟩ := hr
            refine ⟨by omega, h2, h3, fun j hj hij hjk => ?_⟩
            by_cases hji : j = i
            · subst hji; exact ho
            · exact h4 j hj (by omega) (by omega)
theorem beside_up (n : Nat) (hn : 1000 < n) (s : SpT) (hl : s.1.2.2.2.2.length ≤ 1000) (k : Nat) (hk : k < s.1.2.2.2.2.length) :
    ∃ r, F40 n (some s, I64 k, 1) = some (idxV r, some s) ∧ UpSpec s.1.2.2.2.2 (orgE s.1.2.2.2.2[k]) (k + 1) r := by
  obtain ⟨⟨s0, s1, s2, s3, l⟩, sa, s5⟩ := s
  dsimp only at hl hk ⊢
  obtain ⟨b1, b2⟩ := idx_i64 (l := l) hk (by omega)
  obtain ⟨r, e, hr⟩ := up_loop n (orgE l[k]) sa s0 s1 s2 s3 s5 l hl n (k + 1) (by omega) (by omega)
  refine ⟨r, ?_, hr⟩
  unfold F40
  simp only [obind_s, Prod.eta]
  rw [b1, oite_t, b2]
  simp only [obind_s]
  rw [span_eq]
  simp only [obind_s]
  rw [i64_succ]
  exact e
theorem beside_down (n : Nat) (hn : 1001 < n) (s : SpT) (hl : s.1.2.2.2.2.length ≤ 1000) (k : Nat) (hk : k < s.1.2.2.2.2.length) :
    ∃ r, F40 n (some s, I64 k, -1) = some (idxV r, some s) ∧ DownSpec s.1.2.2.2.2 (orgE s.1.2.2.2.2[k]) k r := by
  obtain ⟨⟨s0, s1, s2, s3, l⟩, sa, s5⟩ := s
  dsimp only at hl hk ⊢
  obtain ⟨b1, b2⟩ := idx_i64 (l := l) hk (by omega)
  obtain ⟨r, e, hr⟩ := down_loop n (orgE l[k]) sa s0 s1 s2 s3 s5 l hl n k (by omega) (by omega)
  refine ⟨r, ?_, hr⟩
  unfold F40
  simp only [obind_s, Prod.eta]
  rw [b1, oite_t, b2]
  simp only [obind_s]
  rw [span_eq]
  simp only [obind_s]
  exact e
/-! ### Join -/
def joinL (l : List EnT) (a b : Nat) : List EnT := match l[a]?, l[b]? with
  | some x, some y => if follow x.2 y.2 then (l.set a (x.1, (joinI x.2 y.2).1)).eraseIdx b else l
  | _, _ => l
theorem join_good {x y : ItT} : Good (joinI x y).1 := by
  unfold joinI
  split
  · exact gapI_good _
  · exact ⟨by simp [zeroI], by simp [zeroI], by simp [zeroI]⟩
theorem join_spec (n : Nat) (hn : 50 < n) (s : SpT) (hl : s.1.2.2.2.2.length ≤ 1000) (hg : ∀ e ∈ s.1.2.2.2.2, Good e.2) (a b : Nat) (ha : a < s.1.2.2.2.2.length) (hb : b < s.1.2.2.2.2.length) :
    ∃ u, F41 n (some s, I64 a, I64 b) = some (follow s.1.2.2.2.2[a].2 s.1.2.2.2.2[b].2, some ((s.1.1, u, s.1.2.2.1, s.1.2.2.2.1, joinL s.1.2.2.2.2 a b), s.2)) := by
  obtain ⟨⟨s0, s1, s2, s3, l⟩, sa, s5⟩ := s
  dsimp only at hl ha hb hg ⊢
  obtain ⟨a1, a2⟩ := idx_i64 (l := l) ha (by omega)
  obtain ⟨b1, b2⟩ := idx_i64 (l := l) hb (by omega)
  have ga := hg _ (List.getElem_mem ha)
  have gb := hg _ (List.getElem_mem hb)
  unfold F41 joinL
  simp only [obind_s, Prod.eta]
  rw [a1, oite_t, a2, List.getElem?_eq_getElem ha, List.getElem?_eq_getElem hb]
  simp only [obind_s]
  rw [b1, oite_t, b2]
  simp only [obind_s]
  rw [join_eq]
  simp only [obind_s]
  have e2 : (joinI l[a].2 l[b].2).2 = follow l[a].2 l[b].2 := by unfold joinI; split <;> simp_all
  rw [e2]
  cases hf : follow l[a].2 l[b].2 with
  | false => exact ⟨s1, rfl⟩
  | true =>
    have gx : Good (joinI l[a].2 l[b].2).1 := join_good
    rw [size_eq n hn _ gx]
    simp only [obind_s, Bool.not_true, oite_f]
    rw [size_eq n hn _ ga]
    simp only [obind_s]
    rw [size_eq n hn _ gb]
    simp only [obind_s]
    simp only [oite_t, if_true]
    have ea := i64_toInt (k := a) (by omega)
    have eb := i64_toInt (k := b) (by omega)
    have eb' := i64_toInt (k := b + 1) (by omega)
    have e49 : F49 n (l.set (I64 a).toInt.toNat (l[a].fst, (joinI l[a].snd l[b].snd).fst), I64 b, I64 b + 1) = some ((l.set a (l[a].fst, (joinI l[a].snd l[b].snd).fst)).eraseIdx b, ()) := by
      unfold F49 delF
      simp only
      rw [i64_succ, ea, eb, eb']
      simp only [Int.toNat_natCast, List.length_set]
      rw [dec_t (by omega), dec_t (by omega), ble_t (by omega), List.eraseIdx_eq_take_drop_succ]
      rfl
    rw [e49]
    simp only [obind_s]
    exact ⟨_, rfl⟩
theorem joinL_len (l : List EnT) (a b : Nat) : (joinL l a b).length ≤ l.length := by
  unfold joinL
  split
  · split
    · rw [List.length_eraseIdx]; simp only [List.length_set]; split <;> omega
    · exact Nat.le_refl _
  · exact Nat.le_refl _
theorem joinL_good {l : List EnT} (hg : ∀ e ∈ l, Good e.2) (a b : Nat) : ∀ e ∈ joinL l a b, Good e.2 := by
  unfold joinL
  split
  · split
    · intro e he
      rcases List.mem_or_eq_of_mem_set (List.mem_of_mem_eraseIdx he) with h | h
      · exact hg e h
      · rw [h]; exact join_good
    · exact hg
  · exact hg
end Go.Proofs.Ytblldmpkljcnjaa
