/- A walk of Go code by plain functions is sound. -/
import Derived.Test.YtegncnhhofbmiaaSxSound20
import Derived.WideKeyArgs
import Derived.ChangeSame
import Derived.ChangeArms
import Derived.WideShapes
import Derived.ChangeShapes
import Derived.OpenShut
namespace Go.Sx
open Go.ChangeShapes Go.WideShapes

/-! ### An argument that reads as data is a value of its type -/
def stepF (P : Program) (c : TypeId → CTs → Option CTs) : List Field → Nat → CTs → Option (Nat × CTs)
  | [], o, e => some (o, e)
  | f :: fs, o, e => match Nat.beq f.offset o with
    | true => match c f.type e with
      | some e' => stepF P c fs (o + P.cellsOf f.type) e'
      | none => none
    | false => none
/-- A type's cells, taken off the front. -/
def consume (P : Program) : Nat → TypeId → CTs → Option CTs
  | 0, _, _ => none
  | n + 1, t, e => match P.underlying t with
    | some .bool => match e with | .cons .bool r => some r | _ => none
    | some (.int k) => match e with | .cons (.int k') r => (match kindEq k k' with | some _ => some r | none => none) | _ => none
    | some .string => match e with | .cons .str r => some r | _ => none
    | some (.slice et) => match e with
      | .cons (.ro e') r => (match consume P n et e' with
        | some .nil => (match Nat.beq e'.size (P.cellsOf et) && Nat.blt 0 e'.size with | true => some r | false => none)
        | _ => none)
      | _ => none
    | some (.struct fs) => match stepF P (consume P n) fs.toList 0 e with
      | some (o, r) => (match Nat.beq o (P.cellsOf t) with | true => some r | false => none)
      | none => none
    | _ => none

def Reads (W : World) (cs : List Value) (e r : CTs) : Prop :=
  ∀ (f : Nat → Option Value) (y : r.T), CTs.Rep (World.view W) r y f → ∃ x : e.T, CTs.Rep (World.view W) e x (fun j => if j < cs.length then cs[j]? else f (j - cs.length))

theorem Reads.nil {W : World} {e : CTs} : Reads W [] e e := fun f y h => ⟨y, by simpa using h⟩
theorem Reads.trans {W : World} {A B : List Value} {e e1 r : CTs} (h : Reads W A e e1) (h' : Reads W B e1 r) : Reads W (A ++ B) e r := by
  intro f y hy
  obtain ⟨x1, h1⟩ := h' f y hy
  obtain ⟨x, h2⟩ := h _ x1 h1
  refine ⟨x, CTs.Rep.mono (PHeap.le_refl _) e _ _ _ (fun j v hv => ?_) h2⟩
  by_cases hA : j < A.length
  · rw [if_pos hA] at hv
    rw [if_pos (by simp; omega), List.getElem?_append_left hA]; exact hv
  · rw [if_neg hA] at hv
    by_cases hB : j - A.length < B.length
    · rw [if_pos hB] at hv
      rw [if_pos (by simp; omega), List.getElem?_append_right (by omega)]; exact hv
    · rw [if_neg hB] at hv
      rw [if_neg (by simp; omega)]
      rw [List.length_append, ← Nat.sub_sub]; exact hv
theorem Reads.cell {W : World} {t : CT} {r : CTs} {v : Value} {x : t.T} (h : CT.Rep (World.view W) t x v) : Reads W [v] (.cons t r) r := by
  intro f y hy
  refine ⟨CTs.mk t r x y, ?_⟩
  simp only [CTs.Rep, CTs.hd_mk, CTs.tl_mk]
  exact ⟨⟨v, by simp, h⟩, by simpa using hy⟩

theorem choose_list {α : Type} (Q : Nat → α → Prop) : ∀ n, (∀ i, i < n → ∃ x, Q i x) → ∃ xs : List α, xs.length = n ∧ ∀ i (h : i < xs.length), Q i xs[i]
  | 0, _ => ⟨[], rfl, fun i h => by simp at h⟩
  | n + 1, h => by
    obtain ⟨xs, h1, h2⟩ := choose_list Q n (fun i hi => h i (by omega))
    obtain ⟨x, hx⟩ := h n (by omega)
    refine ⟨xs ++ [x], by simp [h1], fun i hi => ?_⟩
    by_cases hin : i < xs.length
    · rw [List.getElem_append_left hin]; exact h2 i hin
    · have : i = xs.length := by simp at hi; omega
      subst this
      simp [h1, hx]

section
variable {H : Type} {enc : TypeId × Value → H} {P : Program} {W : World} {base : Nat}

theorem cells_get {a : Addr} {n : Nat} {cs : List Value} (h : W.cells? base a n = some cs) : cs.length = n ∧ ∀ i, i < n → W.cell? (a.add i) = cs[i]? := by
  unfold World.cells? at h
  split at h
  · exact ⟨by simpa using mapM_some_length h, fun i hi => mapM_some_get h i i (by simp [hi])⟩
  · cases h
theorem cell_plain {a : Addr} {v : Value} (h : W.cell? a = some v) : a.spot = none ∧ PHeap.cell (World.view W) a.block a.off = some v := by
  unfold World.cell? at h
  unfold PHeap.cell World.view
  split at h
  · rename_i c t f hb
    split at h
    · cases h
    · rename_i hs
      refine ⟨by simpa using hs, ?_⟩
      rw [hb]; exact h
  · cases h
theorem add_block (a : Addr) (n : Nat) : (a.add n).block = a.block ∧ (a.add n).off = a.off + n := by
  unfold Addr.add
  split
  · rename_i h; subst h; exact ⟨rfl, rfl⟩
  · exact ⟨rfl, rfl⟩
theorem add_zero' (a : Addr) : a.add 0 = a := by simp [Addr.add]
theorem cells_view {a : Addr} {n : Nat} {cs : List Value} (h : W.cells? base a n = some cs) {j : Nat} {v : Value} (hv : cs[j]? = some v) : PHeap.cell (World.view W) a.block (a.off + j) = some v := by
  obtain ⟨h1, h2⟩ := cells_get h
  have hj : j < n := by
    rcases Nat.lt_or_ge j n with h | h
    · exact h
    · rw [List.getElem?_eq_none (by omega)] at hv; cases hv
  have := h2 j hj
  rw [hv] at this
  have := (cell_plain this).2
  rw [(add_block a j).1, (add_block a j).2] at this
  exact this

theorem stepF_reads {c : TypeId → CTs → Option CTs} {cs : List Value} : ∀ (fs : List Field) (o o' : Nat) (e r : CTs), stepF P c fs o e = some (o', r) → o' ≤ cs.length →
    (∀ f ∈ fs, ∀ e r, c f.type e = some r → Reads W ((cs.drop f.offset).take (P.cellsOf f.type)) e r) → o ≤ o' ∧ Reads W ((cs.drop o).take (o' - o)) e r
  | [], o, o', e, r, h, _, _ => by
    simp only [stepF, Option.some.injEq, Prod.mk.injEq] at h
    obtain ⟨rfl, rfl⟩ := h
    refine ⟨Nat.le_refl _, ?_⟩
    rw [Nat.sub_self, List.take_zero]; exact Reads.nil
  | f :: fs, o, o', e, r, h, hl, hc => by
    simp only [stepF] at h
    split at h
    · rename_i ho
      split at h
      · rename_i e' he
        have ho := nbeq_true ho
        obtain ⟨h1, h2⟩ := stepF_reads fs (o + P.cellsOf f.type) o' e' r h hl (fun g hg => hc g (List.mem_cons_of_mem _ hg))
        refine ⟨by omega, ?_⟩
        have h3 := hc f List.mem_cons_self e e' he
        rw [ho] at h3
        have h4 := h3.trans h2
        have e1 : (cs.drop o).take (o' - o) = (cs.drop o).take (P.cellsOf f.type) ++ (cs.drop (o + P.cellsOf f.type)).take (o' - (o + P.cellsOf f.type)) := by
          have : o' - o = P.cellsOf f.type + (o' - (o + P.cellsOf f.type)) := by omega
          rw [this, List.take_add, List.drop_drop]
        rw [e1]; exact h4
      · cases h
    · cases h

/-- An array's elements, one by one. -/
def stepA (c : CTs → Option CTs) : Nat → CTs → Option CTs
  | 0, e => some e
  | m + 1, e => match c e with
    | some e' => stepA c m e'
    | none => none
theorem stepA_reads {c : CTs → Option CTs} {cs : List Value} {sz : Nat} : ∀ (m j : Nat) (e r : CTs), stepA c m e = some r →
    (∀ i, i < j + m → ∀ e r, c e = some r → Reads W ((cs.drop (i * sz)).take sz) e r) → Reads W ((cs.drop (j * sz)).take (m * sz)) e r
  | 0, j, e, r, h, _ => by
    simp only [stepA, Option.some.injEq] at h
    subst h
    rw [Nat.zero_mul, List.take_zero]; exact Reads.nil
  | m + 1, j, e, r, h, hc => by
    simp only [stepA] at h
    split at h
    · rename_i e' he
      have h3 := hc j (by omega) e e' he
      have h4 := stepA_reads m (j + 1) e' r h (fun i hi => hc i (by omega))
      have h5 := h3.trans h4
      have e1 : (cs.drop (j * sz)).take ((m + 1) * sz) = (cs.drop (j * sz)).take sz ++ (cs.drop ((j + 1) * sz)).take (m * sz) := by
        rw [show (m + 1) * sz = sz + m * sz by rw [Nat.add_mul]; omega, List.take_add, List.drop_drop]
        congr 3; rw [Nat.add_mul]; omega
      rw [e1]; exact h5
    · cases h
theorem consume_reads : ∀ (n : Nat) (t : TypeId) (e r : CTs), consume P n t e = some r → ∀ (fuel : Nat) (cs : List Value) (x : DataW H × List MemPlace),
    DataW.trod enc P W base (fun _ => true) true fuel t cs = some x → Reads W cs e r := by
  intro n
  induction n with
  | zero => intro t e r h; simp [consume] at h
  | succ n ih =>
    intro t e r h fuel cs x hx
    simp only [consume] at h
    split at h
    · rename_i hu
      split at h
      · cases h
        obtain ⟨b, rfl, _⟩ := DataW.trod_bool hu hx
        exact Reads.cell (x := b) (by simp [CT.Rep])
      · cases h
    · rename_i k hu
      split at h
      · rename_i k' _
        split at h
        · rename_i hk _
          cases h
          obtain ⟨hk⟩ := hk
          subst hk
          obtain ⟨m, rfl, _, hw⟩ := DataW.trod_int hu hx
          refine Reads.cell (x := IK.ofInt k m) ?_
          simp only [CT.Rep]
          rw [IK.toInt_ofInt]
          congr 1
          revert hw
          cases k <;> simp [Lit.wf, IntKind.wrap, IntKind.min, IntKind.max, IntKind.signed, IntKind.bits] <;> omega
        · cases h
      · cases h
    · rename_i hu
      split at h
      · cases h
        obtain ⟨s, rfl, _, hs⟩ := DataW.trod_string hu hx
        refine Reads.cell (x := s.data.toList) ?_
        simp only [CT.Rep]
        refine ⟨by simp, ?_⟩
        have : s.data.toList.length = s.size := Array.length_toList
        rw [this]
        unfold maxLen at hs
        omega
      · cases h
    · rename_i et hu
      split at h
      · rename_i e' r'
        split at h
        · rename_i hc
          split at h
          · rename_i hsz
            cases h
            rw [Bool.and_eq_true] at hsz
            have hz := nbeq_true hsz.1
            have hpos : 0 < e'.size := Nat.le_of_ble_eq_true hsz.2
            have tc := ih et e' .nil hc
            rcases DataW.trod_slice hu hx with ⟨rfl, _⟩ | ⟨a, len, cap, elems, rest, m, rfl, rfl, _, hb, hl, hm, hel, hget, hrest, _⟩
            · refine Reads.cell (x := ([] : List e'.T)) ?_
              simp only [CT.Rep]
              exact ⟨none, 0, rfl, by simp, by simp, fun _ => rfl, fun ad h => by cases h⟩
            · have each : ∀ i, i < len → ∃ cs', W.cells? base (a.add (i * P.cellsOf et)) (P.cellsOf et) = some cs' ∧ ∃ x, DataW.trod enc P W base (fun _ => true) true m et cs' = some x := by
                intro i hi
                have := hget i hi
                rw [List.getElem?_eq_getElem (by omega), Option.bind_eq_some_iff] at this
                obtain ⟨cs', h1, h2⟩ := this
                exact ⟨cs', h1, _, h2⟩
              have hsp : 0 < cap → a.spot = none := by
                intro hcap
                have : ∃ cs', W.cells? base a (P.cellsOf et) = some cs' := by
                  by_cases h0 : 0 < len
                  · obtain ⟨cs', h1, _⟩ := each 0 h0
                    rw [Nat.zero_mul, add_zero'] at h1
                    exact ⟨cs', h1⟩
                  · obtain ⟨hr1, hr2⟩ := hrest rfl
                    have := hr2 0 (by omega)
                    rw [List.getElem?_eq_getElem (by omega), Option.bind_eq_some_iff] at this
                    obtain ⟨cs', h1, _⟩ := this
                    have hl0 : len = 0 := by omega
                    rw [hl0, Nat.zero_add, Nat.zero_mul, add_zero'] at h1
                    exact ⟨cs', h1⟩
                obtain ⟨cs', h1⟩ := this
                obtain ⟨h2, h3⟩ := cells_get h1
                have h4 := h3 0 (by omega)
                rw [add_zero', List.getElem?_eq_getElem (by omega)] at h4
                exact (cell_plain h4).1
              obtain ⟨xs, x1, x2⟩ := choose_list (fun i (x : e'.T) => CTs.Rep (World.view W) e' x (fun j => PHeap.cell (World.view W) a.block (a.off + i * e'.size + j))) len (by
                intro i hi
                obtain ⟨cs', h1, y, h2⟩ := each i hi
                obtain ⟨x, hx⟩ := tc m cs' y h2 (fun _ => none) () (by simp [CTs.Rep])
                refine ⟨x, CTs.Rep.mono (PHeap.le_refl _) e' _ _ _ (fun j v hv => ?_) hx⟩
                by_cases hj : j < cs'.length
                · rw [if_pos hj] at hv
                  have := cells_view h1 hv
                  rw [(add_block a _).1, (add_block a _).2] at this
                  rw [hz]; exact this
                · rw [if_neg hj] at hv; cases hv)
              refine Reads.cell (x := xs) ?_
              simp only [CT.Rep]
              unfold maxLen at hm
              refine ⟨some a, cap, by rw [x1], by omega, by omega, (fun h => by cases h), fun ad had => ?_⟩
              cases had
              exact ⟨hsp, x2⟩
          · cases h
        · cases h
      · cases h
    · rename_i fs hu
      split at h
      · rename_i o r' hst
        split at h
        · rename_i ho
          cases h
          have ho := nbeq_true ho
          obtain ⟨xs, m, rfl, _, hl, hxl, hget⟩ := DataW.trod_struct hu hx
          have := (stepF_reads (W := W) (cs := cs) fs.toList 0 o e r hst (by omega) (fun f hf e r hc => by
            obtain ⟨i, hi⟩ := List.mem_iff_getElem?.1 hf
            have hi' : fs[i]? = some f := by rw [← hi]; simp
            have h1 := hget i f hi'
            have hlt : i < xs.length := by
              rcases Nat.lt_or_ge i fs.size with h | h
              · omega
              · rw [Array.getElem?_eq_none (by omega)] at hi'; cases hi'
            rw [List.getElem?_eq_getElem hlt] at h1
            exact ih f.type e r hc _ _ _ h1)).2
          have e1 : (cs.drop 0).take (o - 0) = cs := by
            rw [List.drop_zero, Nat.sub_zero, List.take_of_length_le (by omega)]
          rw [e1] at this
          exact this
        · cases h
      · cases h
    · cases h
end
end Go.Sx
