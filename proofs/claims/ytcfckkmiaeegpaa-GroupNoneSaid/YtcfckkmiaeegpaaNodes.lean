/- GroupNone: which nodes of a right tree tell of an alert: some, each once. -/
import Derived.Test.YtcfckkmiaeegpaaMany
open Go Go.Sx
namespace Go.Proofs.Ytcfckkmiaeegpaa
abbrev AskP := List UInt8 × UInt8 × List UInt8
def Short (l : List Pair) : Prop := l.length ≤ 10 ∧ ∀ p ∈ l, p.1.length ≤ 6 ∧ p.2.length ≤ 6
structure GoodN (nd : Node) : Prop where
  asks : nd.1.length ≤ 10
  ask : ∀ a ∈ nd.1, a.2.2.length ≤ 6
  bys : nd.2.2.1.length ≤ 10
theorem get_loop (l : List Pair) (hl : Short l) (key : List UInt8) (q : Nat) : ∀ j, j ≤ l.length → l.length - j < q → ∃ v b, F70_R13 q key l (I64 l.length) (I64 j) = some ((v, b), ()) ∧ v.length ≤ 6 := by
  have hlen := hl.1
  induction q with
  | zero => intros; omega
  | succ q ih =>
    intro j hj hq
    rw [F70_R13_s]
    unfold F70_L13
    by_cases hlt : j < l.length
    · rw [dec_t ((i64_lt (by omega) (by omega)).2 hlt), oite_t, at_i64_lt (by omega) hlt]
      simp only [obind_s]
      cases h : (l[j].1 == key) with
      | true => exact ⟨_, _, rfl, (hl.2 _ (List.getElem_mem _)).2⟩
      | false =>
        rw [oite_f, i64_succ]
        exact ih (j + 1) (by omega) (by omega)
    · rw [dec_f (fun q => hlt ((i64_lt (by omega) (by omega)).1 q)), oite_f]
      exact ⟨_, _, rfl, by simp⟩
theorem get_some (k : Nat) (l : List Pair) (hl : Short l) (key : List UInt8) : ∃ v b, F70 (k + 40) (l, key) = some ((v, b), ()) ∧ v.length ≤ 6 := by
  have := hl.1
  exact get_loop l hl key (k + 40) 0 (by omega) (by omega)
theorem pre_some (n : Nat) (s p : List UInt8) (hs : s.length ≤ 6) (hp : p.length ≤ 6) : ∃ b, F94 n (s, p) = some (b, ()) := by
  have h : ∃ b, F97 n (s, p) = some (b, ()) := by
    unfold F97
    simp only
    have e : decide (Int64.ofInt ↑p.length ≤ Int64.ofInt ↑s.length) = decide (p.length ≤ s.length) := by rw [decide_eq_decide]; exact i64_le (by omega) (by omega)
    rw [e]
    by_cases h : p.length ≤ s.length
    · rw [dec_t h, oite_t]
      have t : (Int64.ofInt ↑p.length).toInt = p.length := i64_toInt (by omega)
      rw [t, show (decide ((0 : Int) ≤ (p.length : Int)) && Nat.ble (Int.toNat (p.length : Int)) s.length && true) = true from by rw [ble_iff]; simp; exact h, oite_t]
      exact ⟨_, rfl⟩
    · rw [dec_f h, oite_f]
      exact ⟨_, rfl⟩
  obtain ⟨b, h⟩ := h
  unfold F94
  simp only
  rw [h]
  exact ⟨_, rfl⟩
theorem ask_some (k : Nat) (a : AskP) (l : List Pair) (hl : Short l) (ha : a.2.2.length ≤ 6) : ∃ b, F84 (k + 40) (a, l) = some (b, ()) := by
  obtain ⟨v, b, e, hv⟩ := get_some k l hl a.1
  unfold F84
  simp only
  rw [e]
  simp only [obind_s]
  by_cases h1 : a.2.1 = 1
  · rw [dec_t h1, oite_t]; cases b <;> exact ⟨_, rfl⟩
  · rw [dec_f h1, oite_f]
    by_cases h2 : a.2.1 = 2
    · rw [dec_t h2, oite_t]; cases b <;> exact ⟨_, rfl⟩
    · rw [dec_f h2, oite_f]
      by_cases h3 : a.2.1 = 3
      · rw [dec_t h3, oite_t]
        cases b with
        | false => exact ⟨_, rfl⟩
        | true =>
          obtain ⟨c, hc⟩ := pre_some (k + 40) v a.2.2 hv ha
          rw [oite_t, hc]
          exact ⟨_, rfl⟩
      · rw [dec_f h3, oite_f]
        by_cases h4 : a.2.1 = 4
        · rw [dec_t h4, oite_t]; exact ⟨_, rfl⟩
        · rw [dec_f h4, oite_f]
          by_cases h5 : a.2.1 = 5
          · rw [dec_t h5, oite_t]; exact ⟨_, rfl⟩
          · rw [dec_f h5, oite_f]; exact ⟨_, rfl⟩
theorem holds_loop (k : Nat) (l : List Pair) (hl : Short l) (asks : List AskP) (hn : asks.length ≤ 10) (ha : ∀ a ∈ asks, a.2.2.length ≤ 6) (q : Nat) : ∀ j, j ≤ asks.length → asks.length - j < q → ∃ b, F68_R13 (k + 40) q l asks (I64 asks.length) (I64 j) = some (b, ()) := by
  induction q with
  | zero => intros; omega
  | succ q ih =>
    intro j hj hq
    rw [F68_R13_s]
    unfold F68_L13
    by_cases hlt : j < asks.length
    · rw [dec_t ((i64_lt (by omega) (by omega)).2 hlt), oite_t, at_i64_lt (by omega) hlt]
      simp only [obind_s]
      obtain ⟨b, hb⟩ := ask_some k asks[j] l hl (ha _ (List.getElem_mem _))
      rw [show F84 (k + 40) ((asks[j].1, asks[j].2.1, asks[j].2.2), l) = some (b, ()) from hb]
      simp only [obind_s]
      cases b with
      | false => exact ⟨_, rfl⟩
      | true =>
        rw [show (!true) = false from rfl, oite_f, i64_succ]
        exact ih (j + 1) (by omega) (by omega)
    · rw [dec_f (fun q => hlt ((i64_lt (by omega) (by omega)).1 q)), oite_f]
      exact ⟨_, rfl⟩
theorem holds_some (k : Nat) (l : List Pair) (hl : Short l) (asks : List AskP) (hn : asks.length ≤ 10) (ha : ∀ a ∈ asks, a.2.2.length ≤ 6) : ∃ b, F68 (k + 40) (asks, l) = some (b, ()) :=
  holds_loop k l hl asks hn ha (k + 40) 0 (by omega) (by omega)
inductive D (par : Nat → Nat) (c : Nat) : Nat → Prop
  | self : D par c c
  | up {x : Nat} : 0 < x → D par c (par x) → D par c x
theorem D.le {par : Nat → Nat} (hp : ∀ x, 0 < x → par x < x) {c x : Nat} (h : D par c x) : c ≤ x := by
  induction h with
  | self => exact Nat.le_refl _
  | @up x hx _ ih => have := hp x hx; omega
theorem D.meet {par : Nat → Nat} {c c' x : Nat} (h : D par c x) (h' : D par c' x) : D par c c' ∨ D par c' c := by
  induction h with
  | self => exact .inr h'
  | @up x hx hd ih =>
    cases h' with
    | self => exact .inl (.up hx hd)
    | up _ hd' => exact ih hd'
theorem D.trans {par : Nat → Nat} {a b x : Nat} (h : D par a b) (h' : D par b x) : D par a x := by
  induction h' with
  | self => exact h
  | up hx _ ih => exact .up hx ih
structure Tree (nodes : List Node) (par : Nat → Nat) : Prop where
  ne : 0 < nodes.length
  len : nodes.length ≤ 12
  good : ∀ nd ∈ nodes, GoodN nd
  down : ∀ x, 0 < x → par x < x
  above : ∀ (i : Nat) (h : i < nodes.length), 0 < i → nodes[i].2.2.2.2.2.2.2 = I64 (par i)
variable {nodes : List Node} {par : Nat → Nat}
structure Res (nodes : List Node) (par : Nat → Nat) (c : Nat) (out : List Nat) : Prop where
  ne : out ≠ []
  nodup : out.Nodup
  below : ∀ x ∈ out, x < nodes.length ∧ D par c x
theorem sib {par : Nat → Nat} (hp : ∀ x, 0 < x → par x < x) {c c' a : Nat} (h1 : a < c) (h2 : c < c') (e1 : par c = a) (e2 : par c' = a) (x : Nat) (d : D par c x) (d' : D par c' x) : False := by
  rcases d.meet d' with h | h
  · cases h with
    | self => omega
    | up _ h => rw [e2] at h; have := h.le hp; omega
  · have := h.le hp; omega
theorem walk_loop (k : Nat) (T : Tree nodes par) (l : List Pair) (hl : Short l) (rc : Option (List Node) × Int64 × List Pair → Option (List Int64 × Unit)) (a : Nat) (ha : a < nodes.length)
    (hrc : ∀ c, a < c → c < nodes.length → ∃ out, rc (some nodes, I64 c, l) = some (out.map I64, ()) ∧ Res nodes par c out) (q : Nat) : ∀ (i : Nat) (out : List Nat), a < i → i ≤ nodes.length → nodes.length - i < q →
      out.Nodup → (∀ x ∈ out, x < nodes.length ∧ ∃ c, a < c ∧ c < i ∧ par c = a ∧ D par c x) →
      ∃ res, G56_R29 (k + 40) rc q (some nodes) (I64 a) l (I64 i) (out.map I64) = some (res.map I64, ()) ∧ Res nodes par a res := by
  have hN := T.len
  have fin : ∀ (i : Nat) (out : List Nat), out.Nodup → (∀ x ∈ out, x < nodes.length ∧ ∃ c, a < c ∧ c < i ∧ par c = a ∧ D par c x) →
      ∃ res, oite (decide (Int64.ofInt ↑(out.map I64).length = 0)) (some ([I64 a], ())) (some (out.map I64, ())) = some (res.map I64, ()) ∧ Res nodes par a res := by
    intro i out hnd hb
    cases out with
    | nil => exact ⟨[a], rfl, ⟨by simp, by simp, fun x hx => by simp at hx; subst hx; exact ⟨ha, .self⟩⟩⟩
    | cons x r =>
      have hsub : ∀ y ∈ x :: r, y < nodes.length := fun y hy => (hb y hy).1
      have hlen : (x :: r).length ≤ 12 := by
        have : (x :: r).length ≤ (List.range nodes.length).length := List.Nodup.length_le_of_subset hnd (fun y hy => List.mem_range.2 (hsub y hy))
        rw [List.length_range] at this
        omega
      refine ⟨x :: r, ?_, ⟨by simp, hnd, fun y hy => ⟨hsub y hy, ?_⟩⟩⟩
      · rw [dec_f (fun q => by
          rw [List.length_map] at q
          have := (i64_eq (b := 0) (by omega) (by omega)).1 q
          simp at this), oite_f]
      · obtain ⟨_, c, h1, _, h3, h4⟩ := hb y hy
        exact D.trans (.up (by omega) (by rw [h3]; exact .self)) h4
  induction q with
  | zero => intros; omega
  | succ q ih =>
    intro i out hai hi hq hnd hb
    rw [G56_R29_s]
    unfold G56_L29
    simp only [obind_s]
    have el : decide (I64 i < Int64.ofInt ↑nodes.length) = decide (i < nodes.length) := by rw [decide_eq_decide]; exact i64_lt (by omega) (by omega)
    rw [el]
    by_cases hlt : i < nodes.length
    · rw [dec_t hlt, oite_t, at_i64_lt (by omega) hlt]
      simp only [obind_s]
      have hskip : ∃ res, G56_R29 (k + 40) rc q (some nodes) (I64 a) l (I64 i + 1) (out.map I64) = some (res.map I64, ()) ∧ Res nodes par a res := by
        rw [i64_succ]
        exact ih (i + 1) out (by omega) (by omega) (by omega) hnd (fun x hx => by
          obtain ⟨h0, c, h1, h2, h3, h4⟩ := hb x hx
          exact ⟨h0, c, h1, by omega, h3, h4⟩)
      have hab := T.above i hlt (by omega)
      have hpi := T.down i (by omega)
      by_cases hp : par i = a
      · rw [dec_t (show nodes[i].2.2.2.2.2.2.2 = I64 a from by rw [hab, hp]), show (!true) = false from rfl, oite_f]
        have hg := T.good nodes[i] (List.getElem_mem _)
        obtain ⟨b, hbb⟩ := holds_some k l hl nodes[i].1 hg.asks hg.ask
        rw [hbb]
        simp only [obind_s]
        cases b with
        | false => rw [show (!false) = true from rfl, oite_t]; exact hskip
        | true =>
          rw [show (!true) = false from rfl, oite_f]
          obtain ⟨o2, e2, r2⟩ := hrc i hai hlt
          rw [e2]
          simp only [obind_s]
          have hnd' : (out ++ o2).Nodup := by
            rw [List.nodup_append]
            refine ⟨hnd, r2.nodup, fun x hx y hy hxy => ?_⟩
            subst hxy
            obtain ⟨_, c, h1, h2, h3, h4⟩ := hb x hx
            exact sib T.down h1 h2 h3 hp x h4 (r2.below x hy).2
          have hb' : ∀ x ∈ out ++ o2, x < nodes.length ∧ ∃ c, a < c ∧ c < i + 1 ∧ par c = a ∧ D par c x := by
            intro x hx
            rcases List.mem_append.1 hx with hx | hx
            · obtain ⟨h0, c, h1, h2, h3, h4⟩ := hb x hx
              exact ⟨h0, c, h1, by omega, h3, h4⟩
            · exact ⟨(r2.below x hx).1, i, hai, by omega, hp, (r2.below x hx).2⟩
          have hl1 : (out ++ o2).length ≤ 12 := by
            have : (out ++ o2).length ≤ (List.range nodes.length).length := List.Nodup.length_le_of_subset hnd' (fun y hy => List.mem_range.2 (hb' y hy).1)
            rw [List.length_range] at this
            omega
          rw [List.length_append] at hl1
          rw [ble_t (by simp; omega), oite_t, ← List.map_append]
          cases nodes[i].2.2.2.2.2.2.1 with
          | false => rw [show (!false) = true from rfl, oite_t]; exact fin (i + 1) _ hnd' hb'
          | true =>
            rw [show (!true) = false from rfl, oite_f, i64_succ]
            exact ih (i + 1) (out ++ o2) (by omega) (by omega) (by omega) hnd' hb'
      · rw [dec_f (fun q => hp (by rw [hab] at q; exact (i64_eq (by omega) (by omega)).1 q)), show (!false) = true from rfl, oite_t]
        exact hskip
    · rw [dec_f hlt, oite_f]
      exact fin i out hnd hb
theorem walk_some (k : Nat) (T : Tree nodes par) (l : List Pair) (hl : Short l) : ∀ (d a f : Nat), a < nodes.length → nodes.length - a ≤ d → d ≤ f → ∃ out, selfN (sig := sig56) (G56 (k + 40)) f (some nodes, I64 a, l) = some (out.map I64, ()) ∧ Res nodes par a out
  | 0, a, f, ha, hd, hf => by omega
  | d + 1, a, f, ha, hd, hf => by
    have hN := T.len
    obtain ⟨f, rfl⟩ : ∃ g, f = g + 1 := ⟨f - 1, by omega⟩
    have e : selfN (sig := sig56) (G56 (k + 40)) (f + 1) (some nodes, I64 a, l) = G56_R29 (k + 40) (selfN (sig := sig56) (G56 (k + 40)) f) (k + 40) (some nodes) (I64 a) l (I64 a + 1) [] := rfl
    rw [e, i64_succ]
    exact walk_loop k T l hl (selfN (sig := sig56) (G56 (k + 40)) f) a ha (fun c h1 h2 => walk_some k T l hl d c f h2 (by omega) (by omega)) (k + 40) (a + 1) [] (by omega) (by omega) (by omega) List.nodup_nil (fun x hx => by cases hx)
end Go.Proofs.Ytcfckkmiaeegpaa
open Go Go.Sx
namespace Go.Proofs.Ytcfckkmiaeegpaa
variable {nodes : List Node} {par : Nat → Nat}
def nmOf (a0 a1 a2 a3 a4 : UInt8) : List Pair := labs a2 a3 a4 ++ [([114, 117, 108, 101], ruleOf a1), ([111, 114, 105, 103, 105, 110], [48 + a0 % 3])]
theorem names_ok (k : Nat) (a0 a1 a2 a3 a4 : UInt8) (st : UInt8) (p : UInt64) (v : UInt8) (u : Int64) : F57 (k + 30) (a0 % 3, ruleOf a1, labs a2 a3 a4, st, p, v, u) = some (nmOf a0 a1 a2 a3 a4, ()) := by
  unfold nmOf labs
  rcases mod3 a0 with h | h | h <;> rw [h] <;> rcases rule_of a1 with h | h | h <;> rw [h] <;> rcases one_of 0 a2 with h | h | h <;> rw [h] <;> rcases one_of 1 a3 with h | h | h <;> rw [h] <;> rcases one_of 2 a4 with h | h | h <;> rw [h] <;> kernel_rfl
theorem one_short (i : Nat) (hi : (KeyL[i]!).length ≤ 6) (c : UInt8) : ∀ p ∈ one i c, p.1.length ≤ 6 ∧ p.2.length ≤ 6 := by
  rcases one_of i c with h | h | h <;> rw [h] <;> intro p hp
  · cases hp
  · rw [List.mem_singleton] at hp; subst hp; exact ⟨hi, by simp⟩
  · rw [List.mem_singleton] at hp; subst hp; exact ⟨hi, by simp⟩
theorem rule_short (c : UInt8) : (ruleOf c).length ≤ 6 := by
  rcases rule_of c with h | h | h <;> rw [h] <;> simp
theorem names_short (a0 a1 a2 a3 a4 : UInt8) : Short (nmOf a0 a1 a2 a3 a4) := by
  have h0 := one_len 0 a2
  have h1 := one_len 1 a3
  have h2 := one_len 2 a4
  refine ⟨by unfold nmOf labs; simp; omega, fun p hp => ?_⟩
  unfold nmOf labs at hp
  simp only [List.mem_append, List.mem_cons, List.not_mem_nil, or_false] at hp
  rcases hp with ((h | h) | h) | h | h
  · exact one_short 0 (by decide) a2 p h
  · exact one_short 1 (by decide) a3 p h
  · exact one_short 2 (by decide) a4 p h
  · subst h; exact ⟨by simp, rule_short a1⟩
  · subst h; exact ⟨by simp, by simp⟩
def has (v : List UInt8) (keys : List (List UInt8)) : Bool := keys.any fun x => v == x
theorem idx_loop (s : List (List UInt8)) (v : List UInt8) (hs : s.length ≤ 10) (q : Nat) : ∀ j, j ≤ s.length → s.length - j < q → ∃ i, F85_R13 q s v (I64 s.length) (I64 j) = some (i, ()) ∧ decide (0 ≤ i) = has v (s.drop j) := by
  induction q with
  | zero => intros; omega
  | succ q ih =>
    intro j hj hq
    rw [F85_R13_s]
    unfold F85_L13
    by_cases hlt : j < s.length
    · rw [dec_t ((i64_lt (by omega) (by omega)).2 hlt), oite_t, at_i64_lt (by omega) hlt]
      simp only [obind_s]
      rw [show List.drop j s = s[j] :: s.drop (j + 1) from List.drop_eq_getElem_cons hlt]
      cases h : (v == s[j]) with
      | true => exact ⟨_, rfl, by rw [dec_t (show (0 : Int64) ≤ I64 j from (i64_le (a := 0) (by omega) (by omega)).2 (by omega)), show has v (s[j] :: s.drop (j + 1)) = (v == s[j] || has v (s.drop (j + 1))) from rfl, h]; rfl⟩
      | false =>
        rw [oite_f, i64_succ]
        obtain ⟨i, e, hi⟩ := ih (j + 1) (by omega) (by omega)
        exact ⟨i, e, by rw [hi, show has v (s[j] :: s.drop (j + 1)) = (v == s[j] || has v (s.drop (j + 1))) from rfl, h]; rfl⟩
    · rw [dec_f (fun q => hlt ((i64_lt (by omega) (by omega)).1 q)), oite_f, show s.drop j = [] from List.drop_eq_nil_of_le (by omega)]
      exact ⟨_, rfl, rfl⟩
theorem has_ok (k : Nat) (s : List (List UInt8)) (v : List UInt8) (hs : s.length ≤ 10) : F71 (k + 40) (s, v) = some (has v s, ()) := by
  obtain ⟨i, e, hi⟩ := idx_loop s v hs (k + 40) 0 (by omega) (by omega)
  unfold F71 F85
  simp only
  rw [show F85_R13 (k + 40) s v (Int64.ofInt ↑s.length) 0 = some (i, ()) from e]
  simp only [obind_s]
  rw [hi]
  rfl
def onlyP (l : List Pair) (by_ : List (List UInt8)) : List Pair := l.filter fun p => has p.1 by_
theorem only_loop (k : Nat) (l : List Pair) (hl : l.length ≤ 10) (s : List (List UInt8)) (hs : s.length ≤ 10) (q : Nat) : ∀ (j : Nat) (out : List Pair), j ≤ l.length → l.length - j < q → out.length ≤ j → F58_R29 (k + 40) q s l (I64 l.length) (I64 j) out = some (out ++ onlyP (l.drop j) s, ()) := by
  induction q with
  | zero => intros; omega
  | succ q ih =>
    intro j out hj hq ho
    rw [F58_R29_s]
    unfold F58_L29
    by_cases hlt : j < l.length
    · rw [dec_t ((i64_lt (by omega) (by omega)).2 hlt), oite_t, at_i64_lt (by omega) hlt]
      simp only [obind_s]
      rw [has_ok k s l[j].1 hs]
      simp only [obind_s]
      rw [show List.drop j l = l[j] :: l.drop (j + 1) from List.drop_eq_getElem_cons hlt]
      cases h : has l[j].1 s with
      | true =>
        rw [oite_t, ble_t (by simp; omega), oite_t, i64_succ, ih (j + 1) _ (by omega) (by omega) (by simp; omega)]
        unfold onlyP
        rw [List.filter_cons, h, if_pos rfl, List.append_assoc]
        rfl
      | false =>
        rw [oite_f, i64_succ, ih (j + 1) _ (by omega) (by omega) (by omega)]
        unfold onlyP
        rw [List.filter_cons, h, if_neg (by decide)]
    · rw [dec_f (fun q => hlt ((i64_lt (by omega) (by omega)).1 q)), oite_f, show l.drop j = [] from List.drop_eq_nil_of_le (by omega)]
      simp [onlyP]
theorem only_ok (k : Nat) (l : List Pair) (hl : l.length ≤ 10) (s : List (List UInt8)) (hs : s.length ≤ 10) : F58 (k + 40) (l, s) = some (onlyP l s, ()) := by
  unfold F58
  exact only_loop k l hl s hs (k + 40) 0 [] (by omega) (by omega) (by simp)
theorem only_short (l : List Pair) (hl : Short l) (s : List (List UInt8)) : Short (onlyP l s) :=
  ⟨Nat.le_trans (List.length_filter_le _ _) hl.1, fun p hp => hl.2 p (List.mem_filter.1 hp).1⟩
theorem upTo_bound (l : List Pair) (hl : Short l) : ∀ j, j ≤ l.length → (upTo l j).length ≤ 14 * j
  | 0, _ => by
    have : upTo l 0 = [] := by unfold upTo; rfl
    rw [this]; simp
  | j + 1, hj => by
    rw [upTo_succ l j _ (List.getElem?_eq_getElem (by omega))]
    have := upTo_bound l hl j (by omega)
    have h := hl.2 l[j] (List.getElem_mem _)
    simp only [List.length_append, eqs, List.length_cons]
    split <;> simp <;> omega
theorem short_text (n : Nat) (l : List Pair) (hl : Short l) : F46 n l = some (upTo l l.length, ()) := by
  have h := upTo_bound l hl l.length (Nat.le_refl _)
  have := hl.1
  unfold F46
  rw [ble_t (by omega), ble_t (by omega)]
  rfl
theorem short_clone (n : Nat) (l : List Pair) (hl : Short l) : F52 n l = some (l, ()) := by
  have := hl.1
  show oite (Nat.ble l.length 4294967296) (some (l, ())) none = _
  rw [ble_t (by omega)]; rfl
theorem node_at (k : Nat) (T : Tree nodes par) (i : Nat) (hi : i < nodes.length) : F30 (k + 40) (some nodes, I64 i) = some ((nodes[i], true), ()) := by
  have hN := T.len
  have hg := T.good nodes[i] (List.getElem_mem _)
  have h1 := hg.asks
  have h2 := hg.bys
  unfold F30
  simp only
  rw [dec_f (show ¬ I64 i < 0 from fun q => by have := (i64_lt (b := 0) (by omega) (by omega)).1 q; omega), oite_f]
  rw [show F28 (k + 40) (some nodes) = some (I64 nodes.length, ()) from rfl]
  simp only [obind_s]
  rw [dec_f (show ¬ I64 nodes.length ≤ I64 i from fun q => by have := (i64_le (by omega) (by omega)).1 q; omega), oite_f]
  rw [at_i64_lt (by omega) hi]
  simp only [obind_s]
  rw [show F26 (k + 40) nodes[i].1 = oite (Nat.ble nodes[i].1.length 4294967296) (some (nodes[i].1, ())) none from rfl, ble_t (by omega), oite_t]
  simp only [obind_s]
  rw [show F27 (k + 40) nodes[i].2.2.1 = oite (Nat.ble nodes[i].2.2.1.length 4294967296) (some (nodes[i].2.2.1, ())) none from rfl, ble_t (by omega), oite_t]
  rfl
abbrev ndOf (nodes : List Node) (i : Nat) : Node := (nodes[i]?).getD ndA
theorem env_tree (k : Nat) (T : Tree nodes par) (a0 a1 a2 a3 a4 : UInt8) : ∃ L, 0 < L.length ∧ EnvT (k + 40) (some nodes) (a0 % 3) (ruleOf a1) (labs a2 a3 a4) (upTo (labs a2 a3 a4) (labs a2 a3 a4).length) L (ndOf nodes) (fun i => onlyP (nmOf a0 a1 a2 a3 a4) (ndOf nodes i).2.2.1) (fun i => upTo (onlyP (nmOf a0 a1 a2 a3 a4) (ndOf nodes i).2.2.1) (onlyP (nmOf a0 a1 a2 a3 a4) (ndOf nodes i).2.2.1).length) := by
  have hN := T.len
  have hne := T.ne
  have hs := names_short a0 a1 a2 a3 a4
  obtain ⟨L, eL, rL⟩ := walk_some k T (nmOf a0 a1 a2 a3 a4) hs nodes.length 0 (k + 40) hne (by omega) (by omega)
  have hlt : ∀ i ∈ L, i < nodes.length := fun i hi => (rL.below i hi).1
  have hnd : ∀ i (h : i < nodes.length), ndOf nodes i = nodes[i] := fun i h => by unfold ndOf; rw [List.getElem?_eq_getElem h]; rfl
  have hll : L.length ≤ 12 := by
    have : L.length ≤ (List.range nodes.length).length := List.Nodup.length_le_of_subset rL.nodup (fun y hy => List.mem_range.2 (hlt y hy))
    rw [List.length_range] at this
    omega
  refine ⟨L, List.length_pos_iff.2 rL.ne, ?_, ?_, ?_, ?_, ?_, ?_, rL.nodup, hll, fun i hi => by have := hlt i hi; omega⟩
  · intro st p v u
    unfold F44
    simp only
    rw [show F28 (k + 40) (some nodes) = some (I64 nodes.length, ()) from rfl]
    simp only [obind_s]
    rw [dec_f (show ¬ I64 nodes.length = 0 from fun q => by have := (i64_eq (b := 0) (by omega) (by omega)).1 q; omega), oite_f, show F57 (k + 40) (a0 % 3, ruleOf a1, labs a2 a3 a4, st, p, v, u) = _ from names_ok (k + 10) a0 a1 a2 a3 a4 st p v u]
    simp only [obind_s]
    rw [show F56 (k + 40) (some nodes, 0, nmOf a0 a1 a2 a3 a4) = some (L.map I64, ()) from eL]
    rfl
  · intro i hi
    rw [hnd i (hlt i hi)]
    exact node_at k T i (hlt i hi)
  · intro i hi st p v u
    have hii := hlt i hi
    have hg := T.good nodes[i] (List.getElem_mem hii)
    rw [← hnd i (hlt i hi)] at hg
    unfold F45
    simp only
    rw [show F57 (k + 40) (a0 % 3, ruleOf a1, labs a2 a3 a4, st, p, v, u) = _ from names_ok (k + 10) a0 a1 a2 a3 a4 st p v u]
    simp only [obind_s]
    rw [only_ok k _ hs.1 _ hg.bys]
    rfl
  · exact fun i _ => short_text _ _ (only_short _ hs _)
  · exact fun i _ => short_clone _ _ (only_short _ hs _)
  · exact (text_ok _ a2 a3 a4).1
end Go.Proofs.Ytcfckkmiaeegpaa
