/- The law SpoolFinds. -/
import Derived.Test.YtblldmpkljcnjaaSpOps
import Derived.Test.YtblldmpkljcnjaaSpAwake
import Derived.Test.YtblldmpkljcnjaaSpFns4
open Go Go.Sx
namespace Go.Proofs.Ytblldmpkljcnjaa
/-! ### What is kept by Put -/
theorem evTo_idx {l l' : List EnT} {k : Nat} {rU rD : Option Nat} (h : EvTo l k l' rU rD) : ∀ e ∈ l', ∃ e' ∈ l, e.1 = e'.1 := by
  have hj : ∀ (m : List EnT) (a b : Nat), ∀ e ∈ joinL m a b, ∃ e' ∈ m, e.1 = e'.1 := by
    intro m a b e he
    rcases joinL_cases m a b with hc | ⟨ha, hb, hf, hc⟩
    · rw [hc] at he; exact ⟨e, he, rfl⟩
    · rw [hc] at he
      rcases List.mem_or_eq_of_mem_set (List.mem_of_mem_eraseIdx he) with h | h
      · exact ⟨e, h, rfl⟩
      · exact ⟨m[a], List.getElem_mem ha, by rw [h]⟩
  intro e he
  have hk := h.lt
  rw [h.eq] at he
  have h1 : ∃ e' ∈ joinR (evOne l k (l[k]'h.lt)) k rU, e.1 = e'.1 := by
    cases rD with
    | none => exact ⟨e, he, rfl⟩
    | some a => exact hj _ _ _ e he
  obtain ⟨e1, h1, q1⟩ := h1
  have h2 : ∃ e' ∈ evOne l k (l[k]'h.lt), e1.1 = e'.1 := by
    cases rU with
    | none => exact ⟨e1, h1, rfl⟩
    | some a => exact hj _ _ _ e1 h1
  obtain ⟨e2, h2, q2⟩ := h2
  rcases List.mem_or_eq_of_mem_set h2 with h | h
  · exact ⟨e2, h, by rw [q1, q2]⟩
  · exact ⟨l[k]'hk, List.getElem_mem _, by rw [q1, q2, h]⟩
theorem evs_idx {l l' : List EnT} (h : Evs l l') : ∀ e ∈ l', ∃ e' ∈ l, e.1 = e'.1 := by
  induction h with
  | refl => exact fun e he => ⟨e, he, rfl⟩
  | step _ he _ ih =>
    intro e h
    obtain ⟨e1, h1, q1⟩ := ih e h
    obtain ⟨e2, h2, q2⟩ := evTo_idx he e1 h1
    exact ⟨e2, h2, by rw [q1, q2]⟩
theorem joinD_idx (l : List EnT) (k : Nat) (r : Option Nat) : ∀ e ∈ joinD l k r, ∃ e' ∈ l, e.1 = e'.1 := by
  intro e he
  cases r with
  | none => exact ⟨e, he, rfl⟩
  | some a =>
    rcases joinL_cases l a k with hc | ⟨ha, hb, hf, hc⟩
    · rw [show joinD l k (some a) = joinL l a k from rfl, hc] at he; exact ⟨e, he, rfl⟩
    · rw [show joinD l k (some a) = joinL l a k from rfl, hc] at he
      rcases List.mem_or_eq_of_mem_set (List.mem_of_mem_eraseIdx he) with h | h
      · exact ⟨e, h, rfl⟩
      · exact ⟨l[a], List.getElem_mem ha, by rw [h]⟩
structure SpOK (N : Nat) (s : SpT) : Prop where
  len : s.1.2.2.2.2.length ≤ N
  good : ∀ e ∈ s.1.2.2.2.2, Good e.2
  highs : s.2.1.length = 32
  next : 1 ≤ s.1.2.2.1.toNat ∧ s.1.2.2.1.toNat ≤ 1099511627776
  pos : ∀ e ∈ s.1.2.2.2.2, 0 < e.1
theorem put1_ok {N : Nat} {s s' : SpT} {x : ItT} {high : UInt64} {l1 : List EnT} {rD : Option Nat} (hs : SpOK N s) (hx : Good x) (h : Put1 s x high s' l1 rD) : SpOK (N + 1) s' := by
  have hpos : 0 < s.1.2.2.1 := by rw [UInt64.lt_iff_toNat_lt]; have := hs.next.1; show 0 < _; omega
  have h1 := h.ev.len
  have h2 := hs.len
  refine ⟨?_, ?_, ?_, ?_, ?_⟩
  · rw [h.list]
    have := joinD_len (l1 ++ [(s.1.2.2.1, putY x high)]) l1.length rD
    simp only [List.length_append, List.length_cons, List.length_nil] at this
    omega
  · rw [h.list]
    refine joinD_good ?_ _ _
    intro e he
    rcases List.mem_append.1 he with q | q
    · exact h.ev.good hs.good e q
    · simp only [List.mem_singleton] at q; rw [q]; exact putY_good hx high
  · rw [h.highs, List.length_set]; exact hs.highs
  · rw [h.next]
    have hm := h.most
    rw [UInt64.not_lt, UInt64.le_iff_toNat_le] at hm
    have hm : (s.1.2.2.1 + 1).toNat ≤ 1099511627776 := hm
    refine ⟨?_, hm⟩
    rw [UInt64.toNat_add]
    have := hs.next
    have : (1 : UInt64).toNat = 1 := rfl
    omega
  · rw [h.list]
    intro e he
    obtain ⟨e1, q1, q2⟩ := joinD_idx _ _ _ e he
    rcases List.mem_append.1 q1 with q | q
    · obtain ⟨e2, q3, q4⟩ := evs_idx h.ev e1 q
      rw [q2, q4]; exact hs.pos e2 q3
    · simp only [List.mem_singleton] at q
      rw [q2, q]; exact hpos
theorem SpOK.up {N M : Nat} {s : SpT} (h : SpOK N s) (hm : N ≤ M) : SpOK M s := ⟨Nat.le_trans h.len hm, h.good, h.highs, h.next, h.pos⟩
/-! ### Next -/
def nextY (x : ItT) (high k : UInt64) : ItT := if x.1 then
    (x.1, x.2.1, x.2.2.1, x.2.2.2.1, x.2.2.2.2.1, x.2.2.2.2.2.1, x.2.2.2.2.2.2.1, x.2.2.2.2.2.2.2.1, x.2.2.2.2.2.2.2.2.1, x.2.2.2.2.2.2.2.2.2.1, x.2.2.2.2.2.2.2.2.2.2.1, high + 1, high + 1 + k)
  else (x.1, x.2.1, high + 1, x.2.2.2)
def smN (z : SmT) : SmT := (z.1, z.2.1 % 4, z.2.2.1, z.2.2.2.1, z.2.2.2.2.1, z.2.2.2.2.2.1 % 3, z.2.2.2.2.2.2)
theorem mod4_lt (o : UInt8) : (o % 4).toNat < 32 := by rw [UInt8.toNat_mod]; have : (4 : UInt8).toNat = 4 := rfl; rw [this]; omega
theorem next_spec (n : Nat) (hn : 20 < n) (s : SpT) (hh : s.2.1.length = 32) (z : SmT) :
    ∃ x, F21 n (smN z) = some (x, ()) ∧ Small x ∧ F10 n ([], (), (), z, some s) = some (nextY x (s.2.1[(z.2.1 % 4).toNat]'(by have := mod4_lt z.2.1; omega)) (UInt64.ofInt ↑(UInt16.toNat (z.2.2.2.2.2.1 % 3))), some s) := by
  obtain ⟨x, e, hx⟩ := item_small n hn (smN z)
  refine ⟨x, e, hx, ?_⟩
  unfold F10
  simp only [Prod.eta]
  rw [show F21 n (z.1, z.2.1 % 4, z.2.2.1, z.2.2.2.1, z.2.2.2.2.1, z.2.2.2.2.2.1 % 3, z.2.2.2.2.2.2) = some (x, ()) from e]
  simp only [obind_s]
  rw [high_spec n s hh _ (mod4_lt z.2.1)]
  simp only [obind_s]
  unfold nextY
  cases hx1 : x.1 with
  | true => rw [oite_t, if_pos rfl]
  | false => rw [oite_f, if_neg (by decide)]
theorem nextY_good {x : ItT} (h : Good x) (a k : UInt64) : Good (nextY x a k) := by
  unfold nextY
  split
  · exact ⟨h.rule, h.labs, h.each⟩
  · exact ⟨h.rule, h.labs, h.each⟩
/-- Next's item is put. -/
theorem step_spec (n : Nat) (hn : 1001 < n) (s : SpT) (N : Nat) (hs : SpOK N s) (hN : N ≤ 900) (z : SmT) :
    ∃ x y high, Small x ∧ F21 n (smN z) = some (x, ()) ∧ F10 n ([], (), (), z, some s) = some (nextY x (s.2.1[(z.2.1 % 4).toNat]'(by have := mod4_lt z.2.1; have := hs.highs; omega)) (UInt64.ofInt ↑(UInt16.toNat (z.2.2.2.2.2.1 % 3))), some s) ∧
      F9 n (some s, nextY x (s.2.1[(z.2.1 % 4).toNat]'(by have := mod4_lt z.2.1; have := hs.highs; omega)) (UInt64.ofInt ↑(UInt16.toNat (z.2.2.2.2.2.1 % 3)))) = some y ∧
      PutR s y (nextY x (s.2.1[(z.2.1 % 4).toNat]'(by have := mod4_lt z.2.1; have := hs.highs; omega)) (UInt64.ofInt ↑(UInt16.toNat (z.2.2.2.2.2.1 % 3)))) high := by
  obtain ⟨x, e, hx, e2⟩ := next_spec n (by omega) s hs.highs z
  obtain ⟨y, high, e3, hy⟩ := put_spec n hn s (by have := hs.len; omega) hs.good hs.highs _ (nextY_good hx.good _ _)
  exact ⟨x, y, high, hx, e, e2, e3, hy⟩
theorem putR_ok {N : Nat} {s : SpT} {x : ItT} {high : UInt64} {y : (UInt64 × UInt64 × Int64) × Option SpT} (hs : SpOK N s) (hx : Good x) (h : PutR s y x high) : ∃ s', y.2 = some s' ∧ SpOK (N + 1) s' := by
  obtain ⟨i, f, e, s', rfl, h⟩ := h
  refine ⟨s', rfl, ?_⟩
  rcases h with ⟨_, _, rfl⟩ | ⟨_, l1, rD, h⟩
  · exact hs.up (by omega)
  · exact put1_ok hs hx h
/-! ### The law -/
theorem want_same (many : Int64) (n : UInt64) : ∀ (l out : List EnT), many ≤ I64 out.length → listGo n many l out = out
  | [], _, _ => rfl
  | x :: r, out, h => by unfold listGo; rw [if_pos h]
theorem got_loop (n : Nat) (hn : 1001 < n) (rec : _) (many : Int64) (all got : List EnT) (t : Int64) (t1 : Int64) (S : Option SpT) (ns : List UInt64) (hl : got.length ≤ 1000) (hg : ∀ e ∈ got, Good e.2) : ∀ m i, i ≤ got.length → got.length - i < m →
    F3_R2076159 n rec m many all got t t1 (I64 got.length) (I64 i) S got ns = rec many all t (t1 + 1) S ns := by
  intro m
  induction m with
  | zero => intros; omega
  | succ m ih =>
    intro i hi hm
    rw [F3_R2076159_s]
    unfold F3_L2076159
    by_cases hlt : i < got.length
    · obtain ⟨b1, b2⟩ := idx_i64 (l := got) hlt (by omega)
      have gi := hg _ (List.getElem_mem hlt)
      rw [dec_t ((i64_lt (by omega) (by omega)).2 hlt), oite_t, at_i64_lt (by omega) hlt]
      simp only [obind_s, Prod.eta]
      rw [b1, oite_t, b2]
      simp only [obind_s, decide_true, Bool.not_true, oite_f, oite_t]
      rw [same_self n _ (by have := gi.labs; omega) (by have := gi.labs; omega)]
      simp only [obind_s, Bool.not_true, oite_f, i64_succ]
      exact ih (i + 1) (by omega) (by omega)
    · rw [dec_f (fun q => hlt ((i64_lt (by omega) (by omega)).1 q)), oite_f]
theorem listGo_mem (n : UInt64) (many : Int64) : ∀ (l out : List EnT) (e : EnT), e ∈ listGo n many l out → e ∈ out ∨ e ∈ l
  | [], out, e, h => .inl h
  | x :: r, out, e, h => by
    unfold listGo at h
    split at h
    · exact .inl h
    · split at h
      · rcases listGo_mem n many r _ e h with q | q
        · rcases List.mem_append.1 q with q | q
          · exact .inl q
          · simp only [List.mem_singleton] at q; right; rw [q]; simp
        · right; simp [q]
      · rcases listGo_mem n many r _ e h with q | q
        · exact .inl q
        · right; simp [q]
theorem listGo_len (n : UInt64) (many : Int64) : ∀ (l out : List EnT), (listGo n many l out).length ≤ out.length + l.length
  | [], out => by simp [listGo]
  | x :: r, out => by
    unfold listGo
    split
    · simp
    · split
      · have := listGo_len n many r (out ++ [x]); simp only [List.length_append, List.length_cons, List.length_nil] at this ⊢; omega
      · have := listGo_len n many r out; simp only [List.length_cons]; omega
theorem want_loop (n : Nat) (hn : 1001 < n) (rec : _) (many : Int64) (s : SpT) (hs : SpOK 40 s) (idx : UInt64) (t t1 : Int64) (ns : List UInt64)
    (hrec : rec many s.1.2.2.2.2 t (t1 + 1) (some s) ns = some (true, ())) : ∀ m i r want, i ≤ s.1.2.2.2.2.length → s.1.2.2.2.2.length - i < m → LastLe s.1.2.2.2.2 idx i r → want.length ≤ i → (listGo idx many (s.1.2.2.2.2.drop i) want = listGo idx many s.1.2.2.2.2 []) →
    F3_R129757 n rec m many s.1.2.2.2.2 idx (idxV r) t t1 s.1.2.2.2.2 (I64 s.1.2.2.2.2.length) (I64 i) (some s) want ns = some (true, ()) := by
  have hl := hs.len
  intro m
  induction m with
  | zero => intros; omega
  | succ m ih =>
    intro i r want hi hm hr hw hgo
    rw [F3_R129757_s]
    unfold F3_L129757
    by_cases hlt : i < s.1.2.2.2.2.length
    · rw [dec_t ((i64_lt (by omega) (by omega)).2 hlt), oite_t, at_i64_lt (by omega) hlt]
      simp only [obind_s, Prod.eta, i64_succ]
      have hst := lastLe_step hlt hr
      rw [List.drop_eq_getElem_cons hlt] at hgo
      by_cases hc : s.1.2.2.2.2[i].1 ≤ idx
      · rw [dec_t hc, oite_t]
        rw [if_pos hc] at hst
        refine ih (i + 1) (some i) want (by omega) (by omega) hst (by omega) ?_
        rw [← hgo]
        conv => rhs; unfold listGo
        split
        · rename_i hm'; exact want_same many idx _ _ hm'
        · rw [if_neg (by rw [UInt64.not_lt]; exact hc)]
      · rw [dec_f hc, oite_f]
        rw [if_neg hc] at hst
        by_cases hmany : I64 want.length < many
        · rw [show decide (Int64.ofInt ↑want.length < many) = true from dec_t hmany, oite_t, ble_t (by simp; omega), oite_t]
          refine ih (i + 1) r _ (by omega) (by omega) hst (by simp; omega) ?_
          rw [← hgo]
          conv => rhs; unfold listGo
          rw [if_neg (by rw [Int64.not_le]; exact hmany), if_pos (by rw [← UInt64.not_le]; exact hc)]
        · rw [show decide (Int64.ofInt ↑want.length < many) = false from dec_f hmany, oite_f]
          refine ih (i + 1) r want (by omega) (by omega) hst (by omega) ?_
          rw [← hgo]
          rw [Int64.not_lt] at hmany
          rw [want_same many idx _ _ hmany, want_same many idx _ _ hmany]
    · rw [dec_f (fun q => hlt ((i64_lt (by omega) (by omega)).1 q)), oite_f]
      have hie : i = s.1.2.2.2.2.length := by omega
      subst hie
      rw [List.drop_length] at hgo
      have hgo : want = listGo idx many s.1.2.2.2.2 [] := hgo
      obtain ⟨r', out, e, h1, h2⟩ := find_spec n hn s (by omega) hs.good idx
      have hrr := lastLe_uniq h1 hr
      subst hrr
      rw [e]
      simp only [obind_s, Prod.eta, ojoinA_eq]
      have j : F3_J129759 n rec many s.1.2.2.2.2 idx t t1 (some s) want ns = some (true, ()) := by
        unfold F3_J129759
        rw [list_spec n hn s (by omega) hs.good idx many]
        simp only [obind_s]
        rw [← hgo, dec_t (p := (Int64.ofInt ↑want.length = Int64.ofInt ↑want.length)) rfl, Bool.not_true, oite_f]
        have hwl := listGo_len idx many s.1.2.2.2.2 []
        rw [← hgo] at hwl
        have := got_loop n hn rec many s.1.2.2.2.2 want t t1 (some s) ns (by simp at hwl; omega) (fun e he => by
          rw [hgo] at he
          rcases listGo_mem idx many _ _ e he with q | q
          · cases q
          · exact hs.good e q) n 0 (by omega) (by simp at hwl; omega)
        exact this.trans hrec
      cases r' with
      | none =>
        rw [show (!(none : Option Nat).isSome == decide ((0 : Int64) ≤ idxV none)) = false from rfl, oite_f, show (none : Option Nat).isSome = false from rfl, oite_f]
        exact j
      | some k =>
        obtain ⟨k1, k2, k3, k4⟩ := h1
        have ho := h2 k k2 rfl
        have gk := hs.good _ (List.getElem_mem k2)
        rw [idx_pos (by omega), show (!(some k).isSome == true) = false from rfl, oite_f, show (some k).isSome = true from rfl, oite_t, show idxV (some k) = I64 k from rfl, at_i64_lt (by omega) k2]
        simp only [obind_s]
        rw [ho, dec_t (p := (s.1.2.2.2.2[k].1 = s.1.2.2.2.2[k].1)) rfl, Bool.not_true, oite_f]
        rw [same_self n _ (by have := gk.labs; omega) (by have := gk.labs; omega)]
        simp only [obind_s, Bool.not_true, oite_f]
        exact j
theorem two_loop (n : Nat) (hn : 1001 < n) (many : Int64) (s : SpT) (hs : SpOK 40 s) (ns : List UInt64) (hns : ns.length ≤ 2) : ∀ m i, i ≤ ns.length → ns.length - i < m →
    F3_R253 n m many s.1.2.2.2.2 (I64 ns.length) (I64 i) (some s) ns = some (true, ()) := by
  have hl := hs.len
  intro m
  induction m with
  | zero => intros; omega
  | succ m ih =>
    intro i hi hm
    rw [F3_R253_s]
    unfold F3_L253
    by_cases hlt : i < ns.length
    · obtain ⟨b1, b2⟩ := idx_i64 (l := ns) hlt (by omega)
      rw [dec_t ((i64_lt (by omega) (by omega)).2 hlt), oite_t, b1, oite_t, b2]
      simp only [obind_s]
      exact want_loop n hn (F3_R253 n m) many s hs ns[i] (I64 ns.length) (I64 i) ns (by rw [i64_succ]; exact ih (i + 1) (by omega) (by omega)) n 0 none [] (by omega) (by omega) (fun _ _ h => by omega) (by simp) (by simp)
    · rw [dec_f (fun q => hlt ((i64_lt (by omega) (by omega)).1 q)), oite_f]
theorem put_all (n : Nat) (hn : 1001 < n) (idx : UInt64) (many : Int64) (items : List SmT) (hi : items.length < 2 ^ 63) : ∀ m i N (s : SpT), i ≤ items.length → items.length - i < m → SpOK N s → N ≤ i → N ≤ 40 →
    F3_R61 n m idx many items (I64 items.length) (I64 i) (some s) = some (true, ()) := by
  intro m
  induction m with
  | zero => intros; omega
  | succ m ih =>
    intro i N s hil hm hs hN hN4
    rw [F3_R61_s]
    unfold F3_L61
    by_cases hlt : i < items.length
    · rw [dec_t ((i64_lt (by omega) (by omega)).2 hlt), oite_t, at_i64_lt (by omega) hlt]
      simp only [obind_s, Prod.eta, i64_succ]
      by_cases h40 : i < 40
      · rw [show decide (I64 i < 40) = true from dec_t ((i64_lt (b := 40) (by omega) (by omega)).2 h40), oite_t]
        obtain ⟨x, y, high, hx, e1, e2, e3, hy⟩ := step_spec n hn s N hs (by omega) items[i]
        rw [e2]
        simp only [obind_s]
        rw [e3]
        simp only [obind_s]
        obtain ⟨s', e4, hs'⟩ := putR_ok hs (nextY_good hx.good _ _) hy
        rw [e4]
        exact ih (i + 1) (N + 1) s' (by omega) (by omega) hs' (by omega) (by omega)
      · rw [show decide (I64 i < 40) = false from dec_f fun q => h40 ((i64_lt (b := 40) (by omega) (by omega)).1 q), oite_f]
        exact ih (i + 1) N s (by omega) (by omega) hs (by omega) hN4
    · rw [dec_f (fun q => hlt ((i64_lt (by omega) (by omega)).1 q)), oite_f, list_spec n hn s (by have := hs.len; omega) hs.good]
      simp only [obind_s]
      rw [show listGo 0 1000 s.1.2.2.2.2 [] = s.1.2.2.2.2 from (list_all 1000 (by omega) s.1.2.2.2.2 [] hs.pos (by have := hs.len; simp; omega)).trans (List.nil_append _)]
      exact two_loop n hn many s (hs.up hN4) [idx, idx % 50] (by simp) n 0 (by simp) (by simp; omega)
theorem new_ok (q : Int64) : SpOK 0 ((q, 0, 1, 0, []), List.replicate 32 0, 0) := ⟨by simp, by simp, by simp, ⟨by show 1 ≤ (1 : UInt64).toNat; decide, by show (1 : UInt64).toNat ≤ _; decide⟩, by simp⟩
theorem quota_ok (q m : UInt16) (hm : 0 < m.toNat ∧ m.toNat ≤ 400) : ¬ (64 : Int64) + Int64.ofInt ↑(UInt16.toNat (q % m)) < 64 ∧ ¬ (65536 : Int64) < 64 + Int64.ofInt ↑(UInt16.toNat (q % m)) := by
  have h : (q % m).toNat < m.toNat := by rw [UInt16.toNat_mod]; exact Nat.mod_lt _ hm.1
  have e : (64 : Int64) + Int64.ofInt ↑(UInt16.toNat (q % m)) = I64 (64 + (q % m).toNat) := i64_add 64 _
  rw [e]
  exact ⟨fun h' => by have := (i64_lt (b := 64) (by omega) (by omega)).1 h'; omega, fun h' => by have := (i64_lt (a := 65536) (by omega) (by omega)).1 h'; omega⟩
theorem new_eq (n : Nat) (q : Int64) (h1 : ¬ q < 64) (h2 : ¬ (65536 : Int64) < q) : F8 n q = some ((some ((q, 0, 1, 0, []), List.replicate 32 0, 0), 0), ()) := by
  unfold F8
  rw [dec_f h1, oite_f, dec_f h2, oite_f]
theorem finds_true : ∀ x : sig3.In, PTys.fits sig3.ps x → ∃ n y, F3 n x = some y ∧ PTys.hd (.one (.c .bool)) .nil y.1 = true := by
  rintro ⟨q, items, idx, many⟩ hfit
  have hi := hfit.2.1
  simp only [PTy.fits, CTs.fits, CT.fits] at hi
  have hi : items.length < 2 ^ 63 := hi.1
  generalize hn : items.length + 1100 + 100 = n
  refine ⟨n, (true, ()), ?_, rfl⟩
  unfold F3
  rw [← hn, awake, hn, obind_s]
  simp only [Bool.not_true, oite_f]
  obtain ⟨q1, q2⟩ := quota_ok q 300 (by decide)
  rw [new_eq n _ q1 q2]
  simp only [obind_s]
  exact put_all n (by omega) idx many items hi n 0 0 _ (by omega) (by omega) (new_ok _) (by omega) (by omega)
end Go.Proofs.Ytblldmpkljcnjaa
