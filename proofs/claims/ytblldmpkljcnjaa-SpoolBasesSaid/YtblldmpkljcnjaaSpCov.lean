/- The law SpoolFinds. -/
import Derived.Test.YtblldmpkljcnjaaSpOps
import Derived.Test.YtblldmpkljcnjaaSpAwake
import Derived.Test.YtblldmpkljcnjaaSpFns6
import Derived.Test.YtblldmpkljcnjaaSpFns5
open Go Go.Sx
namespace Go.Proofs.Ytblldmpkljcnjaa
theorem evTo_idx {l l' : List EnT} {k : Nat} {rU rD : Option Nat} (h : EvTo l k l' rU rD) : ∀ e ∈ l', ∃ e' ∈ l, e.1 = e'.1 := by
  have hj : ∀ (m : List EnT) (a b : Nat), ∀ e ∈ joinL m a b, ∃ e' ∈ m, e.1 = e'.1 := by
    intro m a b e he
    rcases joinL_cases m a b with hc | ⟨ha, hb, hf, hc⟩
    · rw [hc] at he; exact ⟨e, he, rfl⟩
    · rw [hc] at he
      rcases List.mem_or_eq_of_mem_set (List.mem_of_mem_eraseIdx he) with h | h
      · exact ⟨e, h, rfl⟩
      · exact ⟨m[a], List.getElem_mem ha, by rw [h]⟩
  intro e he
  have hk := h.lt
  rw [h.eq] at he
  have h1 : ∃ e' ∈ joinR (evOne l k (l[k]'h.lt)) k rU, e.1 = e'.1 := by
    cases rD with
    | none => exact ⟨e, he, rfl⟩
    | some a => exact hj _ _ _ e he
  obtain ⟨e1, h1, q1⟩ := h1
  have h2 : ∃ e' ∈ evOne l k (l[k]'h.lt), e1.1 = e'.1 := by
    cases rU with
    | none => exact ⟨e1, h1, rfl⟩
    | some a => exact hj _ _ _ e1 h1
  obtain ⟨e2, h2, q2⟩ := h2
  rcases List.mem_or_eq_of_mem_set h2 with h | h
  · exact ⟨e2, h, by rw [q1, q2]⟩
  · exact ⟨l[k]'hk, List.getElem_mem _, by rw [q1, q2, h]⟩
theorem evs_idx {l l' : List EnT} (h : Evs l l') : ∀ e ∈ l', ∃ e' ∈ l, e.1 = e'.1 := by
  induction h with
  | refl => exact fun e he => ⟨e, he, rfl⟩
  | step _ he _ ih =>
    intro e h
    obtain ⟨e1, h1, q1⟩ := ih e h
    obtain ⟨e2, h2, q2⟩ := evTo_idx he e1 h1
    exact ⟨e2, h2, by rw [q1, q2]⟩
theorem joinD_idx (l : List EnT) (k : Nat) (r : Option Nat) : ∀ e ∈ joinD l k r, ∃ e' ∈ l, e.1 = e'.1 := by
  intro e he
  cases r with
  | none => exact ⟨e, he, rfl⟩
  | some a =>
    rcases joinL_cases l a k with hc | ⟨ha, hb, hf, hc⟩
    · rw [show joinD l k (some a) = joinL l a k from rfl, hc] at he; exact ⟨e, he, rfl⟩
    · rw [show joinD l k (some a) = joinL l a k from rfl, hc] at he
      rcases List.mem_or_eq_of_mem_set (List.mem_of_mem_eraseIdx he) with h | h
      · exact ⟨e, h, rfl⟩
      · exact ⟨l[a], List.getElem_mem ha, by rw [h]⟩
structure SpOK (N : Nat) (s : SpT) : Prop where
  len : s.1.2.2.2.2.length ≤ N
  good : ∀ e ∈ s.1.2.2.2.2, Good e.2
  highs : s.2.1.length = 32
  next : 1 ≤ s.1.2.2.1.toNat ∧ s.1.2.2.1.toNat ≤ 1099511627776
  pos : ∀ e ∈ s.1.2.2.2.2, 0 < e.1
theorem put1_ok {N : Nat} {s s' : SpT} {x : ItT} {high : UInt64} {l1 : List EnT} {rD : Option Nat} (hs : SpOK N s) (hx : Good x) (h : Put1 s x high s' l1 rD) : SpOK (N + 1) s' := by
  have hpos : 0 < s.1.2.2.1 := by rw [UInt64.lt_iff_toNat_lt]; have := hs.next.1; show 0 < _; omega
  have h1 := h.ev.len
  have h2 := hs.len
  refine ⟨?_, ?_, ?_, ?_, ?_⟩
  · rw [h.list]
    have := joinD_len (l1 ++ [(s.1.2.2.1, putY x high)]) l1.length rD
    simp only [List.length_append, List.length_cons, List.length_nil] at this
    omega
  · rw [h.list]
    refine joinD_good ?_ _ _
    intro e he
    rcases List.mem_append.1 he with q | q
    · exact h.ev.good hs.good e q
    · simp only [List.mem_singleton] at q; rw [q]; exact putY_good hx high
  · rw [h.highs, List.length_set]; exact hs.highs
  · rw [h.next]
    have hm := h.most
    rw [UInt64.not_lt, UInt64.le_iff_toNat_le] at hm
    have hm : (s.1.2.2.1 + 1).toNat ≤ 1099511627776 := hm
    refine ⟨?_, hm⟩
    rw [UInt64.toNat_add]
    have := hs.next
    have : (1 : UInt64).toNat = 1 := rfl
    omega
  · rw [h.list]
    intro e he
    obtain ⟨e1, q1, q2⟩ := joinD_idx _ _ _ e he
    rcases List.mem_append.1 q1 with q | q
    · obtain ⟨e2, q3, q4⟩ := evs_idx h.ev e1 q
      rw [q2, q4]; exact hs.pos e2 q3
    · simp only [List.mem_singleton] at q
      rw [q2, q]; exact hpos
theorem SpOK.up {N M : Nat} {s : SpT} (h : SpOK N s) (hm : N ≤ M) : SpOK M s := ⟨Nat.le_trans h.len hm, h.good, h.highs, h.next, h.pos⟩
def nextY (x : ItT) (high k : UInt64) : ItT := if x.1 then
    (x.1, x.2.1, x.2.2.1, x.2.2.2.1, x.2.2.2.2.1, x.2.2.2.2.2.1, x.2.2.2.2.2.2.1, x.2.2.2.2.2.2.2.1, x.2.2.2.2.2.2.2.2.1, x.2.2.2.2.2.2.2.2.2.1, x.2.2.2.2.2.2.2.2.2.2.1, high + 1, high + 1 + k)
  else (x.1, x.2.1, high + 1, x.2.2.2)
def smN (z : SmT) : SmT := (z.1, z.2.1 % 4, z.2.2.1, z.2.2.2.1, z.2.2.2.2.1, z.2.2.2.2.2.1 % 3, z.2.2.2.2.2.2)
theorem mod4_lt (o : UInt8) : (o % 4).toNat < 32 := by rw [UInt8.toNat_mod]; have : (4 : UInt8).toNat = 4 := rfl; rw [this]; omega
theorem next_spec (n : Nat) (hn : 20 < n) (s : SpT) (hh : s.2.1.length = 32) (z : SmT) :
    ∃ x, F21 n (smN z) = some (x, ()) ∧ Small x ∧ F10 n ([], (), (), z, some s) = some (nextY x (s.2.1[(z.2.1 % 4).toNat]'(by have := mod4_lt z.2.1; omega)) (UInt64.ofInt ↑(UInt16.toNat (z.2.2.2.2.2.1 % 3))), some s) := by
  obtain ⟨x, e, hx⟩ := item_small n hn (smN z)
  refine ⟨x, e, hx, ?_⟩
  unfold F10
  simp only [Prod.eta]
  rw [show F21 n (z.1, z.2.1 % 4, z.2.2.1, z.2.2.2.1, z.2.2.2.2.1, z.2.2.2.2.2.1 % 3, z.2.2.2.2.2.2) = some (x, ()) from e]
  simp only [obind_s]
  rw [high_spec n s hh _ (mod4_lt z.2.1)]
  simp only [obind_s]
  unfold nextY
  cases hx1 : x.1 with
  | true => rw [oite_t, if_pos rfl]
  | false => rw [oite_f, if_neg (by decide)]
theorem nextY_good {x : ItT} (h : Good x) (a k : UInt64) : Good (nextY x a k) := by
  unfold nextY
  split
  · exact ⟨h.rule, h.labs, h.each⟩
  · exact ⟨h.rule, h.labs, h.each⟩
/-- Next's item is put. -/
theorem step_spec (n : Nat) (hn : 1001 < n) (s : SpT) (N : Nat) (hs : SpOK N s) (hN : N ≤ 900) (z : SmT) :
    ∃ x y high, Small x ∧ F21 n (smN z) = some (x, ()) ∧ F10 n ([], (), (), z, some s) = some (nextY x (s.2.1[(z.2.1 % 4).toNat]'(by have := mod4_lt z.2.1; have := hs.highs; omega)) (UInt64.ofInt ↑(UInt16.toNat (z.2.2.2.2.2.1 % 3))), some s) ∧
      F9 n (some s, nextY x (s.2.1[(z.2.1 % 4).toNat]'(by have := mod4_lt z.2.1; have := hs.highs; omega)) (UInt64.ofInt ↑(UInt16.toNat (z.2.2.2.2.2.1 % 3)))) = some y ∧
      PutR s y (nextY x (s.2.1[(z.2.1 % 4).toNat]'(by have := mod4_lt z.2.1; have := hs.highs; omega)) (UInt64.ofInt ↑(UInt16.toNat (z.2.2.2.2.2.1 % 3)))) high := by
  obtain ⟨x, e, hx, e2⟩ := next_spec n (by omega) s hs.highs z
  obtain ⟨y, high, e3, hy⟩ := put_spec n hn s (by have := hs.len; omega) hs.good hs.highs _ (nextY_good hx.good _ _)
  exact ⟨x, y, high, hx, e, e2, e3, hy⟩
theorem new_ok (q : Int64) : SpOK 0 ((q, 0, 1, 0, []), List.replicate 32 0, 0) := ⟨by simp, by simp, by simp, ⟨by show 1 ≤ (1 : UInt64).toNat; decide, by show (1 : UInt64).toNat ≤ _; decide⟩, by simp⟩
theorem quota_ok (q m : UInt16) (hm : 0 < m.toNat ∧ m.toNat ≤ 400) : ¬ (64 : Int64) + Int64.ofInt ↑(UInt16.toNat (q % m)) < 64 ∧ ¬ (65536 : Int64) < 64 + Int64.ofInt ↑(UInt16.toNat (q % m)) := by
  have h : (q % m).toNat < m.toNat := by rw [UInt16.toNat_mod]; exact Nat.mod_lt _ hm.1
  have e : (64 : Int64) + Int64.ofInt ↑(UInt16.toNat (q % m)) = I64 (64 + (q % m).toNat) := i64_add 64 _
  rw [e]
  exact ⟨fun h' => by have := (i64_lt (b := 64) (by omega) (by omega)).1 h'; omega, fun h' => by have := (i64_lt (a := 65536) (by omega) (by omega)).1 h'; omega⟩
theorem new_eq (n : Nat) (q : Int64) (h1 : ¬ q < 64) (h2 : ¬ (65536 : Int64) < q) : F8 n q = some ((some ((q, 0, 1, 0, []), List.replicate 32 0, 0), 0), ()) := by
  unfold F8
  rw [dec_f h1, oite_f, dec_f h2, oite_f]
end Go.Proofs.Ytblldmpkljcnjaa
open Go Go.Sx
namespace Go.Proofs.Ytblldmpkljcnjaa
abbrev Sp := UInt8 × UInt64 × UInt64
def spans (l : List EnT) : List Sp := l.map fun e => spanI e.2
def updH (h : UInt8 → UInt64) (o : UInt8) (v : UInt64) : UInt8 → UInt64 := fun p => if p = o then v else h p
def finH (h : UInt8 → UInt64) : List Sp → (UInt8 → UInt64)
  | [] => h
  | s :: r => finH (updH h s.1 s.2.2) r
def okH (h : UInt8 → UInt64) : List Sp → Prop
  | [] => True
  | s :: r => s.2.1 = h s.1 + 1 ∧ okH (updH h s.1 s.2.2) r
theorem upd_same (h : UInt8 → UInt64) (o : UInt8) (v w : UInt64) : updH (updH h o v) o w = updH h o w := by
  funext p; unfold updH; split <;> rfl
theorem upd_comm (h : UInt8 → UInt64) {o p : UInt8} (hne : o ≠ p) (v w : UInt64) : updH (updH h o v) p w = updH (updH h p w) o v := by
  funext q; unfold updH
  by_cases h1 : q = p
  · rw [if_pos h1, if_neg (fun e => hne (by rw [← e, h1])), if_pos h1]
  · rw [if_neg h1]
    by_cases h2 : q = o
    · rw [if_pos h2, if_pos h2]
    · rw [if_neg h2, if_neg h2, if_neg h1]
theorem finH_append (h : UInt8 → UInt64) : ∀ (a b : List Sp), finH h (a ++ b) = finH (finH h a) b
  | a, b => by
    induction a generalizing h with
    | nil => rfl
    | cons s r ih => exact ih _
theorem okH_append (h : UInt8 → UInt64) : ∀ (a b : List Sp), okH h (a ++ b) ↔ okH h a ∧ okH (finH h a) b
  | a, b => by
    induction a generalizing h with
    | nil => simp [okH, finH]
    | cons s r ih =>
      simp only [List.cons_append, okH, finH]
      rw [ih]
      exact and_assoc.symm
theorem ok_skip : ∀ (r : List Sp) (b : Nat) (h : UInt8 → UInt64) (o : UInt8) (b1 a2 b2 : UInt64), r[b]? = some (o, a2, b2) → (∀ j s, j < b → r[j]? = some s → s.1 ≠ o) → okH (updH h o b1) r →
    okH (updH h o b2) (r.eraseIdx b) ∧ finH (updH h o b2) (r.eraseIdx b) = finH (updH h o b1) r
  | [], b, h, o, b1, a2, b2, hb, _, _ => by simp at hb
  | s :: r, 0, h, o, b1, a2, b2, hb, _, hok => by
    simp only [List.getElem?_cons_zero, Option.some.injEq] at hb
    subst hb
    simp only [okH] at hok
    simp only [List.eraseIdx_cons_zero, finH]
    rw [upd_same] at hok
    rw [upd_same]
    exact ⟨hok.2, rfl⟩
  | s :: r, b + 1, h, o, b1, a2, b2, hb, hno, hok => by
    have hs := hno 0 s (by omega) rfl
    simp only [okH] at hok
    obtain ⟨h1, h2⟩ := hok
    rw [upd_comm h (fun e => hs e.symm)] at h2
    obtain ⟨k1, k2⟩ := ok_skip r b (updH h s.1 s.2.2) o b1 a2 b2 (by simpa using hb) (fun j t hj ht => hno (j + 1) t (by omega) (by simpa using ht)) h2
    simp only [List.eraseIdx_cons_succ, okH, finH]
    rw [upd_comm h (fun e => hs e.symm), upd_comm h (fun e => hs e.symm)]
    refine ⟨⟨?_, k1⟩, k2⟩
    rw [h1]; unfold updH; rw [if_neg hs, if_neg hs]
theorem ok_join : ∀ (r : List Sp) (a b : Nat) (h : UInt8 → UInt64) (o : UInt8) (a1 b1 a2 b2 : UInt64), a < b → r[a]? = some (o, a1, b1) → r[b]? = some (o, a2, b2) → (∀ j s, a < j → j < b → r[j]? = some s → s.1 ≠ o) → okH h r →
    okH h ((r.set a (o, a1, b2)).eraseIdx b) ∧ finH h ((r.set a (o, a1, b2)).eraseIdx b) = finH h r
  | [], _, _, _, _, _, _, _, _, _, h, _, _, _ => by simp at h
  | s :: r, 0, b, h, o, a1, b1, a2, b2, hab, ha, hb, hno, hok => by
    obtain ⟨b', rfl⟩ : ∃ b', b = b' + 1 := ⟨b - 1, by omega⟩
    simp only [List.getElem?_cons_zero, Option.some.injEq] at ha
    subst ha
    simp only [okH] at hok
    obtain ⟨k1, k2⟩ := ok_skip r b' h o b1 a2 b2 (by simpa using hb) (fun j t hj ht => hno (j + 1) t (by omega) (by omega) (by simpa using ht)) hok.2
    simp only [List.set_cons_zero, List.eraseIdx_cons_succ, okH, finH]
    exact ⟨⟨hok.1, k1⟩, k2⟩
  | s :: r, a + 1, b, h, o, a1, b1, a2, b2, hab, ha, hb, hno, hok => by
    obtain ⟨b', rfl⟩ : ∃ b', b = b' + 1 := ⟨b - 1, by omega⟩
    simp only [okH] at hok
    obtain ⟨k1, k2⟩ := ok_join r a b' (updH h s.1 s.2.2) o a1 b1 a2 b2 (by omega) (by simpa using ha) (by simpa using hb) (fun j t hj hj2 ht => hno (j + 1) t (by omega) (by omega) (by simpa using ht)) hok.2
    simp only [List.set_cons_succ, List.eraseIdx_cons_succ, okH, finH]
    exact ⟨⟨hok.1, k1⟩, k2⟩
theorem spans_get {l : List EnT} {j : Nat} (h : j < l.length) : (spans l)[j]? = some (spanI l[j].2) := by
  unfold spans; rw [List.getElem?_map, List.getElem?_eq_getElem h]; rfl
theorem spans_set (l : List EnT) (k : Nat) (e : EnT) : spans (l.set k e) = (spans l).set k (spanI e.2) := by unfold spans; rw [List.map_set]
theorem spans_erase (l : List EnT) (k : Nat) : spans (l.eraseIdx k) = (spans l).eraseIdx k := by
  unfold spans
  induction l generalizing k with
  | nil => simp
  | cons a r ih => cases k with
    | zero => rfl
    | succ k => simp only [List.eraseIdx_cons_succ, List.map_cons, ih]
theorem follow_span {x y : ItT} (h : follow x y = true) : (spanI (joinI x y).1) = ((spanI x).1, (spanI x).2.1, (spanI y).2.2) := by
  obtain ⟨h1, h2⟩ := follow_gap h
  unfold joinI
  rw [if_pos h]
  show spanI (gapI _) = _
  rw [span_gap]
  unfold spanI
  rw [if_pos h1, if_pos h2]
/-- A join of two of one origin with none of it between. -/
theorem joinL_chain (l : List EnT) (a b : Nat) (hab : a < b) (h : UInt8 → UInt64) (ha : a < l.length) (hb : b < l.length) (ho : orgE l[a] = orgE l[b]) (hno : ∀ j (hj : j < l.length), a < j → j < b → orgE l[j] ≠ orgE l[b]) (hok : okH h (spans l)) :
    okH h (spans (joinL l a b)) ∧ finH h (spans (joinL l a b)) = finH h (spans l) := by
  rcases joinL_cases l a b with hc | ⟨ha', hb', hf, hc⟩
  · rw [hc]; exact ⟨hok, rfl⟩
  · rw [hc, spans_erase, spans_set]
    simp only
    rw [follow_span hf]
    have e : (spanI l[a].2).1 = (spanI l[b].2).1 := ho
    rw [e]
    exact ok_join (spans l) a b h (spanI l[b].2).1 (spanI l[a].2).2.1 (spanI l[a].2).2.2 (spanI l[b].2).2.1 (spanI l[b].2).2.2 hab (by rw [spans_get ha, ← e]) (by rw [spans_get hb]) (fun j s h1 h2 hs => by
      have hj : j < l.length := by omega
      rw [spans_get hj] at hs
      cases hs
      exact hno j hj h1 h2) hok
theorem evOne_spans (l : List EnT) (k : Nat) (hk : k < l.length) : spans (evOne l k l[k]) = spans l := by
  unfold evOne
  rw [spans_set]
  show (spans l).set k (spanI (gapI (spanI l[k].2))) = _
  rw [span_gap]
  apply List.ext_getElem?
  intro j
  rw [List.getElem?_set]
  split
  · rename_i e; subst e
    rw [if_pos (by unfold spans; simpa using hk), spans_get hk]
  · rfl
theorem org_spans {l m : List EnT} (h : spans l = spans m) {j : Nat} (hj : j < l.length) : ∃ hm : j < m.length, orgE l[j] = orgE m[j] := by
  have hlen : l.length = m.length := by have := congrArg List.length h; simpa [spans] using this
  refine ⟨by omega, ?_⟩
  have h1 := spans_get hj
  rw [h, spans_get (l := m) (by omega)] at h1
  unfold orgE
  rw [Option.some.inj h1]
theorem joinR_chain (l : List EnT) (k : Nat) (r : Option Nat) (h : UInt8 → UInt64) (hk : k < l.length) (hr : UpSpec l (orgE l[k]) (k + 1) r) (hok : okH h (spans l)) :
    okH h (spans (joinR l k r)) ∧ finH h (spans (joinR l k r)) = finH h (spans l) := by
  cases r with
  | none => exact ⟨hok, rfl⟩
  | some b =>
    obtain ⟨h1, h2, h3, h4⟩ := hr
    exact joinL_chain l k b (by omega) h hk h2 h3.symm (fun j hj q1 q2 => by rw [h3]; exact h4 j hj (by omega) q2) hok
theorem joinD_chain (l : List EnT) (k : Nat) (r : Option Nat) (h : UInt8 → UInt64) (hk : k < l.length) (hr : DownSpec l (orgE l[k]) k r) (hok : okH h (spans l)) :
    okH h (spans (joinD l k r)) ∧ finH h (spans (joinD l k r)) = finH h (spans l) := by
  cases r with
  | none => exact ⟨hok, rfl⟩
  | some a =>
    obtain ⟨h1, h2, h3, h4⟩ := hr
    exact joinL_chain l a k h1 h h2 hk h3 (fun j hj q1 q2 => h4 j hj q1 q2) hok
theorem joinR_at (l : List EnT) (k : Nat) (r : Option Nat) (hk : k < l.length) (hr : UpSpec l (orgE l[k]) (k + 1) r) : ∃ h : k < (joinR l k r).length, orgE (joinR l k r)[k] = orgE l[k] := by
  cases r with
  | none => exact ⟨hk, rfl⟩
  | some b => exact joinL_at l k b (by have := hr.1; omega) hk
theorem evTo_chain {l l' : List EnT} {k : Nat} {rU rD : Option Nat} (he : EvTo l k l' rU rD) (h : UInt8 → UInt64) (hok : okH h (spans l)) : okH h (spans l') ∧ finH h (spans l') = finH h (spans l) := by
  have hk := he.lt
  have hk1 : k < (evOne l k l[k]).length := by unfold evOne; rw [List.length_set]; exact hk
  have hs := evOne_spans l k hk
  have ho : orgE (evOne l k l[k])[k] = orgE l[k] := (org_spans hs hk1).2
  have hup : UpSpec (evOne l k l[k]) (orgE (evOne l k l[k])[k]) (k + 1) rU := by rw [ho]; exact he.up
  obtain ⟨a1, a2⟩ := joinR_chain _ k rU h hk1 hup (by rw [hs]; exact hok)
  obtain ⟨g1, g2⟩ := joinR_at _ k rU hk1 hup
  obtain ⟨b1, b2⟩ := joinD_chain _ k rD h g1 (by rw [g2, ho]; exact he.down) a1
  rw [he.eq]
  exact ⟨b1, by rw [b2, a2, hs]⟩
theorem evs_chain {l l' : List EnT} (he : Evs l l') (h : UInt8 → UInt64) (hok : okH h (spans l)) : okH h (spans l') ∧ finH h (spans l') = finH h (spans l) := by
  induction he with
  | refl => exact ⟨hok, rfl⟩
  | step _ he _ ih =>
    obtain ⟨a1, a2⟩ := evTo_chain he h hok
    obtain ⟨b1, b2⟩ := ih a1
    exact ⟨b1, by rw [b2, a2]⟩
theorem joinL_events (l : List EnT) (a b : Nat) (e : EnT) (he : e.2.1 = false) : e ∈ joinL l a b ↔ e ∈ l := by
  rcases joinL_cases l a b with hc | ⟨ha, hb, hf, hc⟩
  · rw [hc]
  · rw [hc]
    obtain ⟨f1, f2⟩ := follow_gap hf
    have hg : (joinI l[a].2 l[b].2).1.1 = true := by unfold joinI; rw [if_pos hf]; rfl
    constructor
    · intro h
      rcases List.mem_or_eq_of_mem_set (List.mem_of_mem_eraseIdx h) with h | h
      · exact h
      · rw [h] at he; rw [show (l[a].1, (joinI l[a].2 l[b].2).1).2.1 = true from hg] at he; cases he
    · intro h
      obtain ⟨j, hj, rfl⟩ := List.getElem_of_mem h
      have hja : a ≠ j := fun q => by subst q; rw [f1] at he; cases he
      have hjb : j ≠ b := fun q => by subst q; rw [f2] at he; cases he
      rw [List.mem_eraseIdx_iff_getElem?]
      exact ⟨j, hjb, by rw [List.getElem?_set_ne hja, List.getElem?_eq_getElem hj]⟩
theorem joinR_events (l : List EnT) (k : Nat) (r : Option Nat) (e : EnT) (he : e.2.1 = false) : e ∈ joinR l k r ↔ e ∈ l := by
  cases r; exact Iff.rfl; exact joinL_events l k _ e he
theorem joinD_events (l : List EnT) (k : Nat) (r : Option Nat) (e : EnT) (he : e.2.1 = false) : e ∈ joinD l k r ↔ e ∈ l := by
  cases r; exact Iff.rfl; exact joinL_events l _ k e he
theorem evTo_events {l l' : List EnT} {k : Nat} {rU rD : Option Nat} (h : EvTo l k l' rU rD) (e : EnT) (he : e.2.1 = false) : (e ∈ l' → e ∈ l) ∧ (e ∈ l → e ∈ l' ∨ e = l[k]'h.lt) := by
  have hk := h.lt
  have key : e ∈ l' ↔ e ∈ evOne l k l[k] := by rw [h.eq, joinD_events _ _ _ e he, joinR_events _ _ _ e he]
  rw [key]
  constructor
  · intro hm
    rcases List.mem_or_eq_of_mem_set hm with q | q
    · exact q
    · rw [q] at he; exact absurd he (by simp [gapI])
  · intro hm
    obtain ⟨j, hj, rfl⟩ := List.getElem_of_mem hm
    by_cases hjk : j = k
    · right; subst hjk; rfl
    · left
      unfold evOne
      rw [List.mem_iff_getElem?]
      exact ⟨j, by rw [List.getElem?_set_ne (fun q => hjk q.symm), List.getElem?_eq_getElem hj]⟩
theorem event_of {x : ItT} (h : lasts x = false) : x.1 = false := by
  cases hx : x.1 with
  | false => rfl
  | true => unfold lasts at h; rw [hx] at h; cases h
theorem evs_events {l l1 : List EnT} (h : Evs l l1) : (∀ e ∈ l1, e.2.1 = false → e ∈ l) ∧ ∀ e ∈ l, e.2.1 = false → e ∈ l1 ∨ (lasts e.2 = false ∧ ∀ z ∈ l1, lasts z.2 = false → prio e.2 ≤ prio z.2) := by
  induction h with
  | refl => exact ⟨fun e h _ => h, fun e h _ => .inl h⟩
  | @step l l' l'' k rU rD hv he hr ih =>
    obtain ⟨h1, h2, h3, h4⟩ := hv
    refine ⟨fun e hm hg => (evTo_events he e hg).1 (ih.1 e hm hg), fun e hm hg => ?_⟩
    rcases (evTo_events he e hg).2 hm with q | q
    · exact ih.2 e q hg
    · right
      subst q
      refine ⟨h3, fun z hz hzl => ?_⟩
      have hzg := event_of hzl
      obtain ⟨j, hj, e⟩ := List.getElem_of_mem ((evTo_events he z hzg).1 (ih.1 z hz hzg))
      rw [← e]
      rw [← e] at hzl
      exact h4 j hj hj hzl
end Go.Proofs.Ytblldmpkljcnjaa
open Go Go.Sx
namespace Go.Proofs.Ytblldmpkljcnjaa
abbrev K8 : VT := VT.one (CT.int IntKind.u8)
abbrev V64 : VT := VT.one (CT.int IntKind.u64)
abbrev MapT := List (UInt8 × UInt64)
def mg (m : MapT) : UInt8 → UInt64 := fun o => Option.getD (mget K8 V64 o m) 0
end Go.Proofs.Ytblldmpkljcnjaa
open Go Go.Sx
namespace Go.Proofs.Ytblldmpkljcnjaa
def hh (hs : List UInt64) (o : UInt8) : UInt64 := (hs[o.toNat]?).getD 0
theorem hh_set {hs : List UInt64} {o : UInt8} (h : o.toNat < hs.length) (v : UInt64) : hh (hs.set o.toNat v) = updH (hh hs) o v := by
  funext p
  unfold hh updH
  by_cases hp : p = o
  · subst hp; rw [if_pos rfl, List.getElem?_set_self h]; rfl
  · rw [if_neg hp, List.getElem?_set_ne (fun e => hp (UInt8.toNat_inj.1 e.symm))]
theorem u64_next {a high : UInt64} (h1 : ¬ a ≤ high) (h2 : ¬ high + 1 < a) : a = high + 1 := by
  rw [UInt64.not_le, UInt64.lt_iff_toNat_lt] at h1
  rw [UInt64.not_lt, UInt64.le_iff_toNat_le] at h2
  apply UInt64.toNat_inj.1
  have e1 : (1 : UInt64).toNat = 1 := rfl
  have := a.toNat_lt
  rw [UInt64.toNat_add] at h2 ⊢
  rw [e1] at h2 ⊢
  rw [Nat.mod_eq_of_lt (by omega)] at h2 ⊢
  omega
theorem putY_facts {x : ItT} {high : UInt64} (hold : ¬ (spanI x).2.2 ≤ high) (hjump : ¬ high + 1 < (spanI x).2.1) :
    spanI (putY x high) = ((spanI x).1, high + 1, (spanI x).2.2) ∧ (putY x high).1 = x.1 ∧ prio (putY x high) = prio x ∧ (x.1 = false → putY x high = x) := by
  by_cases hlow : (spanI x).2.1 ≤ high
  · have hx : x.1 = true := by
      cases hx : x.1 with
      | true => rfl
      | false =>
        unfold spanI at hold hlow
        rw [hx] at hold hlow
        exact absurd hlow hold
    have e : putY x high = (x.1, x.2.1, x.2.2.1, x.2.2.2.1, x.2.2.2.2.1, x.2.2.2.2.2.1, x.2.2.2.2.2.2.1, x.2.2.2.2.2.2.2.1, x.2.2.2.2.2.2.2.2.1, x.2.2.2.2.2.2.2.2.2.1, x.2.2.2.2.2.2.2.2.2.2.1, high + 1, x.2.2.2.2.2.2.2.2.2.2.2.2) := by
      unfold putY trimI
      rw [if_pos hlow, if_neg hold, if_neg (by rw [UInt64.not_lt]; exact hlow)]
    rw [e]
    refine ⟨?_, rfl, rfl, fun h => by rw [hx] at h; cases h⟩
    unfold spanI
    dsimp only
    rw [hx]; rfl
  · have e : putY x high = x := by unfold putY; rw [if_neg hlow]
    rw [e]
    refine ⟨?_, rfl, rfl, fun _ => rfl⟩
    rw [← u64_next hlow hjump]
theorem check_prio {x : ItT} (h : itCheck x = 0) (hx : x.1 = false) : (prio x).toNat ≤ 7 := by
  obtain ⟨g, o, seq, time, rule, labels, state, pr, v, own, go, ga, gb⟩ := x
  dsimp only at hx
  subst hx
  show pr.toNat ≤ 7
  have h : evCheck o seq time rule labels state pr own = 0 := h
  unfold evCheck at h
  cases h1 : decide ((32 : UInt8) ≤ o) with
  | true => rw [h1] at h; exact absurd (show (6 : Int64) = 0 from h) (by decide)
  | false =>
    rw [h1] at h
    cases h2 : decide (seq < 1) with
    | true => rw [h2] at h; exact absurd (show (6 : Int64) = 0 from h) (by decide)
    | false =>
      rw [h2] at h
      cases h3 : decide (seq ≤ 1099511627776) with
      | false => rw [h3] at h; exact absurd (show (6 : Int64) = 0 from h) (by decide)
      | true =>
        rw [h3] at h
        cases h4 : decide (time ≤ 1099511627776) with
        | false => rw [h4] at h; exact absurd (show (6 : Int64) = 0 from h) (by decide)
        | true =>
          rw [h4] at h
          by_cases h5 : (7 : UInt8) < pr
          · rw [dec_t h5] at h; exact absurd (show (6 : Int64) = 0 from h) (by decide)
          · have := UInt8.le_iff_toNat_le.1 (UInt8.not_lt.1 h5); exact this
def idxs (l : List EnT) : List Nat := l.map fun e => e.1.toNat
theorem idxs_set (l : List EnT) (k : Nat) (x : ItT) (hk : k < l.length) : idxs (l.set k (l[k].1, x)) = idxs l := by
  unfold idxs
  rw [List.map_set]
  apply List.ext_getElem?
  intro j
  rw [List.getElem?_set]
  split
  · rename_i e; subst e
    rw [if_pos (by simpa using hk), List.getElem?_map, List.getElem?_eq_getElem hk]; rfl
  · rfl
theorem joinL_idxs (l : List EnT) (a b : Nat) : (idxs (joinL l a b)).Sublist (idxs l) := by
  rcases joinL_cases l a b with hc | ⟨ha, hb, hf, hc⟩
  · rw [hc]; exact List.Sublist.refl _
  · rw [hc, ← idxs_set l a (joinI l[a].2 l[b].2).1 ha]
    exact (List.eraseIdx_sublist _ _).map _
theorem joinR_idxs (l : List EnT) (k : Nat) (r : Option Nat) : (idxs (joinR l k r)).Sublist (idxs l) := by cases r; exact List.Sublist.refl _; exact joinL_idxs _ _ _
theorem joinD_idxs (l : List EnT) (k : Nat) (r : Option Nat) : (idxs (joinD l k r)).Sublist (idxs l) := by cases r; exact List.Sublist.refl _; exact joinL_idxs _ _ _
theorem evTo_idxs {l l' : List EnT} {k : Nat} {rU rD : Option Nat} (h : EvTo l k l' rU rD) : (idxs l').Sublist (idxs l) := by
  rw [h.eq]
  refine (joinD_idxs _ _ _).trans ((joinR_idxs _ _ _).trans ?_)
  unfold evOne
  rw [idxs_set l k _ h.lt]
  exact List.Sublist.refl _
theorem evs_idxs {l l' : List EnT} (h : Evs l l') : (idxs l').Sublist (idxs l) := by
  induction h with
  | refl => exact List.Sublist.refl _
  | step _ he _ ih => exact ih.trans (evTo_idxs he)
def TopH (H : UInt8 → UInt64) (l : List EnT) : Prop := ∀ e ∈ l, (spanI e.2).2.2 ≤ H (orgE e)
theorem follow_org {x y : ItT} (h : follow x y = true) : (spanI x).1 = (spanI y).1 := by
  obtain ⟨h1, h2⟩ := follow_gap h
  unfold follow at h
  simp only [Bool.and_eq_true, decide_eq_true_eq] at h
  unfold spanI
  rw [if_pos h1, if_pos h2]
  exact h.2.2.1
theorem joinL_top {H : UInt8 → UInt64} {l : List EnT} (h : TopH H l) (a b : Nat) : TopH H (joinL l a b) := by
  rcases joinL_cases l a b with hc | ⟨ha, hb, hf, hc⟩
  · rw [hc]; exact h
  · rw [hc]
    intro e he
    rcases List.mem_or_eq_of_mem_set (List.mem_of_mem_eraseIdx he) with q | q
    · exact h e q
    · rw [q]
      unfold orgE
      simp only
      rw [follow_span hf]
      simp only
      rw [follow_org hf]
      exact h _ (List.getElem_mem hb)
theorem joinR_top {H : UInt8 → UInt64} {l : List EnT} (h : TopH H l) (k : Nat) (r : Option Nat) : TopH H (joinR l k r) := by cases r; exact h; exact joinL_top h _ _
theorem joinD_top {H : UInt8 → UInt64} {l : List EnT} (h : TopH H l) (k : Nat) (r : Option Nat) : TopH H (joinD l k r) := by cases r; exact h; exact joinL_top h _ _
theorem evTo_top {H : UInt8 → UInt64} {l l' : List EnT} {k : Nat} {rU rD : Option Nat} (h : EvTo l k l' rU rD) (ht : TopH H l) : TopH H l' := by
  have hk := h.lt
  rw [h.eq]
  refine joinD_top (joinR_top ?_ _ _) _ _
  intro e he
  rcases List.mem_or_eq_of_mem_set he with q | q
  · exact ht e q
  · rw [q]; exact ht l[k] (List.getElem_mem hk)
theorem evs_top {H : UInt8 → UInt64} {l l' : List EnT} (h : Evs l l') (ht : TopH H l) : TopH H l' := by
  induction h with
  | refl => exact ht
  | step _ he _ ih => exact ih (evTo_top he ht)
structure CovOK (N : Nat) (s : SpT) (first : MapT) : Prop where
  ok : SpOK N s
  keys : (first.map (·.1)).Nodup
  sorted : (idxs s.1.2.2.2.2).Pairwise (· < ·)
  low : ∀ e ∈ s.1.2.2.2.2, s.1.2.2.2.1 < e.1
  upp : ∀ e ∈ s.1.2.2.2.2, e.1 < s.1.2.2.1
  ack : s.1.2.2.2.1 < s.1.2.2.1
  chain : okH (mg first) (spans s.1.2.2.2.2)
  fin : finH (mg first) (spans s.1.2.2.2.2) = hh s.2.1
  top : TopH (hh s.2.1) s.1.2.2.2.2
  prio : ∀ e ∈ s.1.2.2.2.2, e.2.1 = false → (prio e.2).toNat ≤ 7
theorem spans_snoc (l : List EnT) (e : EnT) : spans (l ++ [e]) = spans l ++ [spanI e.2] := by unfold spans; simp
theorem next_lt {a : UInt64} (h : a.toNat ≤ 1099511627776) : a < a + 1 ∧ (a + 1).toNat = a.toNat + 1 := by
  have e1 : (1 : UInt64).toNat = 1 := rfl
  have : (a + 1).toNat = a.toNat + 1 := by rw [UInt64.toNat_add, e1, Nat.mod_eq_of_lt (by omega)]
  exact ⟨by rw [UInt64.lt_iff_toNat_lt]; omega, this⟩
theorem put1_cov {N : Nat} {s s' : SpT} {first : MapT} {x : ItT} {high : UInt64} {l1 : List EnT} {rD : Option Nat} (hs : CovOK N s first) (hx : Good x) (h : Put1 s x high s' l1 rD) : CovOK (N + 1) s' first := by
  obtain ⟨f1, f2, f3, f4⟩ := putY_facts h.old h.jump
  have ho := check_org h.ok
  have hlen : (spanI x).1.toNat < s.2.1.length := by rw [hs.ok.highs]; exact ho
  have hhigh : hh s.2.1 (spanI x).1 = high := by unfold hh; rw [h.hi]; rfl
  have hh' : hh s'.2.1 = updH (hh s.2.1) (spanI x).1 (spanI x).2.2 := by rw [h.highs]; exact hh_set hlen _
  obtain ⟨n1, n2⟩ := next_lt hs.ok.next.2
  obtain ⟨c1, c2⟩ := evs_chain h.ev (mg first) hs.chain
  have hk : l1.length < (l1 ++ [(s.1.2.2.1, putY x high)]).length := by simp
  have hat : orgE ((l1 ++ [(s.1.2.2.1, putY x high)])[l1.length]'hk) = (spanI (putY x high)).1 := by
    rw [List.getElem_append_right (Nat.le_refl _)]
    simp only [Nat.sub_self, List.getElem_cons_zero]
    rfl
  have d1 : okH (mg first) (spans (l1 ++ [(s.1.2.2.1, putY x high)])) := by
    rw [spans_snoc, okH_append]
    refine ⟨c1, ?_, trivial⟩
    rw [c2, hs.fin]
    show (spanI (putY x high)).2.1 = hh s.2.1 (spanI (putY x high)).1 + 1
    rw [f1]
    simp only
    rw [hhigh]
  have d2 : finH (mg first) (spans (l1 ++ [(s.1.2.2.1, putY x high)])) = updH (hh s.2.1) (spanI x).1 (spanI x).2.2 := by
    rw [spans_snoc, finH_append, c2, hs.fin]
    show updH (hh s.2.1) (spanI (putY x high)).1 (spanI (putY x high)).2.2 = _
    rw [f1]
  obtain ⟨e1, e2⟩ := joinD_chain _ l1.length rD (mg first) hk (by rw [hat]; exact h.down) d1
  have hmono : ∀ o, hh s.2.1 o ≤ hh s'.2.1 o := fun o => by
    rw [hh']
    unfold updH
    split
    · rename_i q; rw [q, hhigh]; exact UInt64.le_of_lt (UInt64.not_le.1 h.old)
    · exact UInt64.le_refl _
  have hsrc : ∀ e ∈ s'.1.2.2.2.2, (∃ e' ∈ s.1.2.2.2.2, e.1 = e'.1) ∨ e.1 = s.1.2.2.1 := fun e he => by
    rw [h.list] at he
    obtain ⟨e1, q1, q2⟩ := joinD_idx _ _ _ e he
    rcases List.mem_append.1 q1 with q | q
    · obtain ⟨e2, q3, q4⟩ := evs_idx h.ev e1 q
      exact .inl ⟨e2, q3, by rw [q2, q4]⟩
    · simp only [List.mem_singleton] at q
      right; rw [q2, q]
  refine ⟨put1_ok hs.ok hx h, hs.keys, ?_, ?_, ?_, ?_, ?_, ?_, ?_, ?_⟩
  · rw [h.list]
    refine List.Pairwise.sublist (joinD_idxs _ _ _) ?_
    unfold idxs
    rw [List.map_append, List.pairwise_append]
    refine ⟨hs.sorted.sublist (evs_idxs h.ev), by simp, fun a ha b hb => ?_⟩
    simp only [List.map_cons, List.map_nil, List.mem_singleton] at hb
    subst hb
    obtain ⟨e, he, rfl⟩ := List.mem_map.1 ha
    obtain ⟨e', q1, q2⟩ := evs_idx h.ev e he
    rw [q2]
    exact UInt64.lt_iff_toNat_lt.1 (hs.upp e' q1)
  · intro e he
    rw [h.acked]
    rcases hsrc e he with ⟨e', q1, q2⟩ | q
    · rw [q2]; exact hs.low e' q1
    · rw [q]; exact hs.ack
  · intro e he
    rw [h.next]
    rcases hsrc e he with ⟨e', q1, q2⟩ | q
    · rw [q2]; exact UInt64.lt_trans (hs.upp e' q1) n1
    · rw [q]; exact n1
  · rw [h.acked, h.next]; exact UInt64.lt_trans hs.ack n1
  · rw [h.list]; exact e1
  · rw [h.list, e2, d2, hh']
  · rw [h.list]
    refine joinD_top ?_ _ _
    intro e he
    rcases List.mem_append.1 he with q | q
    · exact UInt64.le_trans (evs_top h.ev hs.top e q) (hmono _)
    · simp only [List.mem_singleton] at q
      rw [q]
      unfold orgE
      simp only
      rw [f1, hh']
      unfold updH
      simp only [if_true]
      exact UInt64.le_refl _
  · intro e he hg
    rw [h.list, joinD_events _ _ _ e hg] at he
    rcases List.mem_append.1 he with q | q
    · exact hs.prio e ((evs_events h.ev).1 e q hg) hg
    · simp only [List.mem_singleton] at q
      rw [q] at hg ⊢
      simp only at hg ⊢
      rw [f2] at hg
      rw [f3]
      exact check_prio h.ok hg
end Go.Proofs.Ytblldmpkljcnjaa
