/- The law SpoolFinds. -/
import Derived.Test.YtblldmpkljcnjaaSpOps
import Derived.Test.YtblldmpkljcnjaaSpAwake
import Derived.Test.YtblldmpkljcnjaaSpFns4
open Go Go.Sx
namespace Go.Proofs.Ytblldmpkljcnjaa
theorem evTo_idx {l l' : List EnT} {k : Nat} {rU rD : Option Nat} (h : EvTo l k l' rU rD) : ∀ e ∈ l', ∃ e' ∈ l, e.1 = e'.1 := by
  have hj : ∀ (m : List EnT) (a b : Nat), ∀ e ∈ joinL m a b, ∃ e' ∈ m, e.1 = e'.1 := by
    intro m a b e he
    rcases joinL_cases m a b with hc | ⟨ha, hb, hf, hc⟩
    · rw [hc] at he; exact ⟨e, he, rfl⟩
    · rw [hc] at he
      rcases List.mem_or_eq_of_mem_set (List.mem_of_mem_eraseIdx he) with h | h
      · exact ⟨e, h, rfl⟩
      · exact ⟨m[a], List.getElem_mem ha, by rw [h]⟩
  intro e he
  have hk := h.lt
  rw [h.eq] at he
  have h1 : ∃ e' ∈ joinR (evOne l k (l[k]'h.lt)) k rU, e.1 = e'.1 := by
    cases rD with
    | none => exact ⟨e, he, rfl⟩
    | some a => exact hj _ _ _ e he
  obtain ⟨e1, h1, q1⟩ := h1
  have h2 : ∃ e' ∈ evOne l k (l[k]'h.lt), e1.1 = e'.1 := by
    cases rU with
    | none => exact ⟨e1, h1, rfl⟩
    | some a => exact hj _ _ _ e1 h1
  obtain ⟨e2, h2, q2⟩ := h2
  rcases List.mem_or_eq_of_mem_set h2 with h | h
  · exact ⟨e2, h, by rw [q1, q2]⟩
  · exact ⟨l[k]'hk, List.getElem_mem _, by rw [q1, q2, h]⟩
theorem evs_idx {l l' : List EnT} (h : Evs l l') : ∀ e ∈ l', ∃ e' ∈ l, e.1 = e'.1 := by
  induction h with
  | refl => exact fun e he => ⟨e, he, rfl⟩
  | step _ he _ ih =>
    intro e h
    obtain ⟨e1, h1, q1⟩ := ih e h
    obtain ⟨e2, h2, q2⟩ := evTo_idx he e1 h1
    exact ⟨e2, h2, by rw [q1, q2]⟩
theorem joinD_idx (l : List EnT) (k : Nat) (r : Option Nat) : ∀ e ∈ joinD l k r, ∃ e' ∈ l, e.1 = e'.1 := by
  intro e he
  cases r with
  | none => exact ⟨e, he, rfl⟩
  | some a =>
    rcases joinL_cases l a k with hc | ⟨ha, hb, hf, hc⟩
    · rw [show joinD l k (some a) = joinL l a k from rfl, hc] at he; exact ⟨e, he, rfl⟩
    · rw [show joinD l k (some a) = joinL l a k from rfl, hc] at he
      rcases List.mem_or_eq_of_mem_set (List.mem_of_mem_eraseIdx he) with h | h
      · exact ⟨e, h, rfl⟩
      · exact ⟨l[a], List.getElem_mem ha, by rw [h]⟩
structure SpOK (N : Nat) (s : SpT) : Prop where
  len : s.1.2.2.2.2.length ≤ N
  good : ∀ e ∈ s.1.2.2.2.2, Good e.2
  highs : s.2.1.length = 32
  next : 1 ≤ s.1.2.2.1.toNat ∧ s.1.2.2.1.toNat ≤ 1099511627776
  pos : ∀ e ∈ s.1.2.2.2.2, 0 < e.1
theorem put1_ok {N : Nat} {s s' : SpT} {x : ItT} {high : UInt64} {l1 : List EnT} {rD : Option Nat} (hs : SpOK N s) (hx : Good x) (h : Put1 s x high s' l1 rD) : SpOK (N + 1) s' := by
  have hpos : 0 < s.1.2.2.1 := by rw [UInt64.lt_iff_toNat_lt]; have := hs.next.1; show 0 < _; omega
  have h1 := h.ev.len
  have h2 := hs.len
  refine ⟨?_, ?_, ?_, ?_, ?_⟩
  · rw [h.list]
    have := joinD_len (l1 ++ [(s.1.2.2.1, putY x high)]) l1.length rD
    simp only [List.length_append, List.length_cons, List.length_nil] at this
    omega
  · rw [h.list]
    refine joinD_good ?_ _ _
    intro e he
    rcases List.mem_append.1 he with q | q
    · exact h.ev.good hs.good e q
    · simp only [List.mem_singleton] at q; rw [q]; exact putY_good hx high
  · rw [h.highs, List.length_set]; exact hs.highs
  · rw [h.next]
    have hm := h.most
    rw [UInt64.not_lt, UInt64.le_iff_toNat_le] at hm
    have hm : (s.1.2.2.1 + 1).toNat ≤ 1099511627776 := hm
    refine ⟨?_, hm⟩
    rw [UInt64.toNat_add]
    have := hs.next
    have : (1 : UInt64).toNat = 1 := rfl
    omega
  · rw [h.list]
    intro e he
    obtain ⟨e1, q1, q2⟩ := joinD_idx _ _ _ e he
    rcases List.mem_append.1 q1 with q | q
    · obtain ⟨e2, q3, q4⟩ := evs_idx h.ev e1 q
      rw [q2, q4]; exact hs.pos e2 q3
    · simp only [List.mem_singleton] at q
      rw [q2, q]; exact hpos
theorem SpOK.up {N M : Nat} {s : SpT} (h : SpOK N s) (hm : N ≤ M) : SpOK M s := ⟨Nat.le_trans h.len hm, h.good, h.highs, h.next, h.pos⟩
def nextY (x : ItT) (high k : UInt64) : ItT := if x.1 then
    (x.1, x.2.1, x.2.2.1, x.2.2.2.1, x.2.2.2.2.1, x.2.2.2.2.2.1, x.2.2.2.2.2.2.1, x.2.2.2.2.2.2.2.1, x.2.2.2.2.2.2.2.2.1, x.2.2.2.2.2.2.2.2.2.1, x.2.2.2.2.2.2.2.2.2.2.1, high + 1, high + 1 + k)
  else (x.1, x.2.1, high + 1, x.2.2.2)
def smN (z : SmT) : SmT := (z.1, z.2.1 % 4, z.2.2.1, z.2.2.2.1, z.2.2.2.2.1, z.2.2.2.2.2.1 % 3, z.2.2.2.2.2.2)
theorem mod4_lt (o : UInt8) : (o % 4).toNat < 32 := by rw [UInt8.toNat_mod]; have : (4 : UInt8).toNat = 4 := rfl; rw [this]; omega
theorem next_spec (n : Nat) (hn : 20 < n) (s : SpT) (hh : s.2.1.length = 32) (z : SmT) :
    ∃ x, F21 n (smN z) = some (x, ()) ∧ Small x ∧ F10 n ([], (), (), z, some s) = some (nextY x (s.2.1[(z.2.1 % 4).toNat]'(by have := mod4_lt z.2.1; omega)) (UInt64.ofInt ↑(UInt16.toNat (z.2.2.2.2.2.1 % 3))), some s) := by
  obtain ⟨x, e, hx⟩ := item_small n hn (smN z)
  refine ⟨x, e, hx, ?_⟩
  unfold F10
  simp only [Prod.eta]
  rw [show F21 n (z.1, z.2.1 % 4, z.2.2.1, z.2.2.2.1, z.2.2.2.2.1, z.2.2.2.2.2.1 % 3, z.2.2.2.2.2.2) = some (x, ()) from e]
  simp only [obind_s]
  rw [high_spec n s hh _ (mod4_lt z.2.1)]
  simp only [obind_s]
  unfold nextY
  cases hx1 : x.1 with
  | true => rw [oite_t, if_pos rfl]
  | false => rw [oite_f, if_neg (by decide)]
theorem nextY_good {x : ItT} (h : Good x) (a k : UInt64) : Good (nextY x a k) := by
  unfold nextY
  split
  · exact ⟨h.rule, h.labs, h.each⟩
  · exact ⟨h.rule, h.labs, h.each⟩
/-- Next's item is put. -/
theorem step_spec (n : Nat) (hn : 1001 < n) (s : SpT) (N : Nat) (hs : SpOK N s) (hN : N ≤ 900) (z : SmT) :
    ∃ x y high, Small x ∧ F21 n (smN z) = some (x, ()) ∧ F10 n ([], (), (), z, some s) = some (nextY x (s.2.1[(z.2.1 % 4).toNat]'(by have := mod4_lt z.2.1; have := hs.highs; omega)) (UInt64.ofInt ↑(UInt16.toNat (z.2.2.2.2.2.1 % 3))), some s) ∧
      F9 n (some s, nextY x (s.2.1[(z.2.1 % 4).toNat]'(by have := mod4_lt z.2.1; have := hs.highs; omega)) (UInt64.ofInt ↑(UInt16.toNat (z.2.2.2.2.2.1 % 3)))) = some y ∧
      PutR s y (nextY x (s.2.1[(z.2.1 % 4).toNat]'(by have := mod4_lt z.2.1; have := hs.highs; omega)) (UInt64.ofInt ↑(UInt16.toNat (z.2.2.2.2.2.1 % 3)))) high := by
  obtain ⟨x, e, hx, e2⟩ := next_spec n (by omega) s hs.highs z
  obtain ⟨y, high, e3, hy⟩ := put_spec n hn s (by have := hs.len; omega) hs.good hs.highs _ (nextY_good hx.good _ _)
  exact ⟨x, y, high, hx, e, e2, e3, hy⟩
theorem new_ok (q : Int64) : SpOK 0 ((q, 0, 1, 0, []), List.replicate 32 0, 0) := ⟨by simp, by simp, by simp, ⟨by show 1 ≤ (1 : UInt64).toNat; decide, by show (1 : UInt64).toNat ≤ _; decide⟩, by simp⟩
theorem quota_ok (q m : UInt16) (hm : 0 < m.toNat ∧ m.toNat ≤ 400) : ¬ (64 : Int64) + Int64.ofInt ↑(UInt16.toNat (q % m)) < 64 ∧ ¬ (65536 : Int64) < 64 + Int64.ofInt ↑(UInt16.toNat (q % m)) := by
  have h : (q % m).toNat < m.toNat := by rw [UInt16.toNat_mod]; exact Nat.mod_lt _ hm.1
  have e : (64 : Int64) + Int64.ofInt ↑(UInt16.toNat (q % m)) = I64 (64 + (q % m).toNat) := i64_add 64 _
  rw [e]
  exact ⟨fun h' => by have := (i64_lt (b := 64) (by omega) (by omega)).1 h'; omega, fun h' => by have := (i64_lt (a := 65536) (by omega) (by omega)).1 h'; omega⟩
theorem new_eq (n : Nat) (q : Int64) (h1 : ¬ q < 64) (h2 : ¬ (65536 : Int64) < q) : F8 n q = some ((some ((q, 0, 1, 0, []), List.replicate 32 0, 0), 0), ()) := by
  unfold F8
  rw [dec_f h1, oite_f, dec_f h2, oite_f]
end Go.Proofs.Ytblldmpkljcnjaa
