/- A spool: all that waits may be an item; what is used is the sum of the sizes, within the quota. -/
import Derived.Test.YtblldmpkljcnjaaSpCov
open Go Go.Sx
namespace Go.Proofs.Ytblldmpkljcnjaa
theorem bif_six {c : Bool} {y : Int64} (h : (bif c then (6 : Int64) else y) = 0) : c = false ∧ y = 0 := by
  cases c with
  | true => exact absurd (show (6 : Int64) = 0 from h) (by decide)
  | false => exact ⟨rfl, h⟩
theorem bif_else {c : Bool} {x : Int64} (h : (bif c then x else (6 : Int64)) = 0) : c = true ∧ x = 0 := by
  cases c with
  | true => exact ⟨rfl, h⟩
  | false => exact absurd (show (6 : Int64) = 0 from h) (by decide)
theorem dec_false {p : Prop} [Decidable p] (h : decide p = false) : ¬ p := of_decide_eq_false h
/-- What a span is, of an item that may be one. -/
structure SpanOK (g : UInt8 × UInt64 × UInt64) : Prop where
  org : g.1.toNat < 32
  pos : 1 ≤ g.2.1.toNat
  le : g.2.1.toNat ≤ g.2.2.toNat
  max : g.2.2.toNat ≤ 1099511627776
theorem gapCheck_iff (o : UInt8) (a b : UInt64) : gapCheck o a b = 0 ↔ SpanOK (o, a, b) := by
  unfold gapCheck
  constructor
  · intro h
    obtain ⟨h1, h⟩ := bif_six h
    obtain ⟨h2, h⟩ := bif_six h
    obtain ⟨h3, h⟩ := bif_six h
    obtain ⟨h4, _⟩ := bif_else h
    have h1 := UInt8.lt_iff_toNat_lt.1 (UInt8.not_le.1 (dec_false h1))
    have h2 := UInt64.le_iff_toNat_le.1 (UInt64.not_lt.1 (dec_false h2))
    have h3 := UInt64.le_iff_toNat_le.1 (UInt64.not_lt.1 (dec_false h3))
    have h4 := UInt64.le_iff_toNat_le.1 (of_decide_eq_true h4)
    exact ⟨h1, h2, h3, h4⟩
  · rintro ⟨h1, h2, h3, h4⟩
    have e1 : decide ((32 : UInt8) ≤ o) = false := dec_f fun h => by have := UInt8.le_iff_toNat_le.1 h; have : (32 : UInt8).toNat = 32 := rfl; simp only at h1; omega
    have e2 : decide (a < 1) = false := dec_f fun h => by have := UInt64.lt_iff_toNat_lt.1 h; have : (1 : UInt64).toNat = 1 := rfl; simp only at h2; omega
    have e3 : decide (b < a) = false := dec_f fun h => by have := UInt64.lt_iff_toNat_lt.1 h; simp only at h3; omega
    have e4 : decide (b ≤ 1099511627776) = true := dec_t (UInt64.le_iff_toNat_le.2 h4)
    rw [e1, e2, e3, e4]
    rfl
theorem check_span {x : ItT} (h : itCheck x = 0) : SpanOK (spanI x) := by
  obtain ⟨g, o, seq, time, rule, labels, state, pr, v, own, go, ga, gb⟩ := x
  cases g with
  | true => exact (gapCheck_iff go ga gb).1 h
  | false =>
    have h : evCheck o seq time rule labels state pr own = 0 := h
    unfold evCheck at h
    obtain ⟨h1, h⟩ := bif_six h
    obtain ⟨h2, h⟩ := bif_six h
    obtain ⟨h3, h⟩ := bif_else h
    have h1 := UInt8.lt_iff_toNat_lt.1 (UInt8.not_le.1 (dec_false h1))
    have h2 := UInt64.le_iff_toNat_le.1 (UInt64.not_lt.1 (dec_false h2))
    have h3 := UInt64.le_iff_toNat_le.1 (of_decide_eq_true h3)
    exact ⟨h1, h2, Nat.le_refl _, h3⟩
theorem gap_check (g : UInt8 × UInt64 × UInt64) (h : SpanOK g) : itCheck (gapI g) = 0 := (gapCheck_iff g.1 g.2.1 g.2.2).2 h
def AllC (l : List EnT) : Prop := ∀ e ∈ l, itCheck e.2 = 0
theorem follow_facts {x y : ItT} (h : follow x y = true) : (spanI y).2.1.toNat = (spanI x).2.2.toNat + 1 ∧ (spanI y).2.1.toNat ≤ (spanI y).2.2.toNat := by
  obtain ⟨h1, h2⟩ := follow_gap h
  unfold follow at h
  simp only [Bool.and_eq_true, decide_eq_true_eq] at h
  obtain ⟨_, _, _, h3, h4, h5⟩ := h
  unfold spanI
  rw [if_pos h1, if_pos h2]
  simp only
  have h3 := UInt64.lt_iff_toNat_lt.1 h3
  have h4 := congrArg UInt64.toNat h4
  have e1 : (1 : UInt64).toNat = 1 := rfl
  rw [UInt64.toNat_sub_of_le _ _ (by rw [UInt64.le_iff_toNat_le]; have e0 : (0 : UInt64).toNat = 0 := rfl; omega), e1] at h4
  have e0 : (0 : UInt64).toNat = 0 := rfl
  exact ⟨by omega, UInt64.le_iff_toNat_le.1 h5⟩
theorem join_check {x y : ItT} (h : follow x y = true) (hx : itCheck x = 0) (hy : itCheck y = 0) : itCheck (joinI x y).1 = 0 := by
  have a := check_span hx
  have b := check_span hy
  obtain ⟨f1, f2⟩ := follow_facts h
  have hs := follow_span h
  unfold joinI at hs ⊢
  rw [if_pos h] at hs ⊢
  rw [span_gap] at hs
  refine gap_check _ ?_
  rw [hs]
  exact ⟨a.org, a.pos, by have := a.le; simp only; omega, b.max⟩
theorem joinL_allC {l : List EnT} (h : AllC l) (a b : Nat) : AllC (joinL l a b) := by
  rcases joinL_cases l a b with hc | ⟨ha, hb, hf, hc⟩
  · rw [hc]; exact h
  · rw [hc]
    intro e he
    rcases List.mem_or_eq_of_mem_set (List.mem_of_mem_eraseIdx he) with q | q
    · exact h e q
    · rw [q]; exact join_check hf (h _ (List.getElem_mem ha)) (h _ (List.getElem_mem hb))
theorem joinR_allC {l : List EnT} (h : AllC l) (k : Nat) (r : Option Nat) : AllC (joinR l k r) := by cases r; exact h; exact joinL_allC h _ _
theorem joinD_allC {l : List EnT} (h : AllC l) (k : Nat) (r : Option Nat) : AllC (joinD l k r) := by cases r; exact h; exact joinL_allC h _ _
theorem evTo_allC {l l' : List EnT} {k : Nat} {rU rD : Option Nat} (h : EvTo l k l' rU rD) (ht : AllC l) : AllC l' := by
  have hk := h.lt
  rw [h.eq]
  refine joinD_allC (joinR_allC ?_ _ _) _ _
  intro e he
  rcases List.mem_or_eq_of_mem_set he with q | q
  · exact ht e q
  · rw [q]; exact gap_check _ (check_span (ht l[k] (List.getElem_mem hk)))
theorem evs_allC {l l' : List EnT} (h : Evs l l') (ht : AllC l) : AllC l' := by
  induction h with
  | refl => exact ht
  | step _ he _ ih => exact ih (evTo_allC he ht)
theorem putY_check {x : ItT} {high : UInt64} (h : itCheck x = 0) (hold : ¬ (spanI x).2.2 ≤ high) (hjump : ¬ high + 1 < (spanI x).2.1) : itCheck (putY x high) = 0 := by
  obtain ⟨f1, f2, f3, f4⟩ := putY_facts hold hjump
  cases hx : x.1 with
  | false => rw [f4 hx]; exact h
  | true =>
    have hs := check_span h
    rw [hx] at f2
    have e : itCheck (putY x high) = gapCheck (spanI (putY x high)).1 (spanI (putY x high)).2.1 (spanI (putY x high)).2.2 := by
      generalize putY x high = y at f2
      obtain ⟨g, o, seq, time, rule, labels, state, pr, v, own, go, ga, gb⟩ := y
      dsimp only at f2
      subst f2
      rfl
    rw [e, f1]
    refine (gapCheck_iff _ _ _).2 ⟨hs.org, ?_, ?_, hs.max⟩
    · rw [UInt64.not_le, UInt64.lt_iff_toNat_lt] at hold
      have := hs.max
      have e1 : (1 : UInt64).toNat = 1 := rfl
      simp only
      rw [UInt64.toNat_add, e1, Nat.mod_eq_of_lt (by omega)]
      omega
    · rw [UInt64.not_le, UInt64.lt_iff_toNat_lt] at hold
      have := hs.max
      have e1 : (1 : UInt64).toNat = 1 := rfl
      simp only
      rw [UInt64.toNat_add, e1, Nat.mod_eq_of_lt (by omega)]
      omega
theorem gap_sz {x : ItT} (h : x.1 = true) : (itB x).length = 2 + (enc (spanI x).2.1).length + (enc (spanI x).2.2).length := by
  obtain ⟨g, o, seq, time, rule, labels, state, pr, v, own, go, ga, gb⟩ := x
  dsimp only at h
  subst h
  simp [itB, spanI, gapB, gapOf]
  omega
theorem join_sz {x y : ItT} (h : follow x y = true) : (itB (joinI x y).1).length ≤ (itB x).length + (itB y).length := by
  obtain ⟨h1, h2⟩ := follow_gap h
  have e : (joinI x y).1.1 = true := by unfold joinI; rw [if_pos h]; rfl
  rw [gap_sz e, follow_span h, gap_sz h1, gap_sz h2]
  simp only
  omega
theorem sumB_joinL (l : List EnT) (a b : Nat) (hab : a ≠ b) : sumB (joinL l a b) ≤ sumB l := by
  rcases joinL_cases l a b with hc | ⟨ha, hb, hf, hc⟩
  · rw [hc]; exact Nat.le_refl _
  · rw [hc]
    have h1 := sumB_join l a b (l[a].1, (joinI l[a].2 l[b].2).1) hab ha hb
    have h2 : sz (l[a].1, (joinI l[a].2 l[b].2).1) ≤ sz l[a] + sz l[b] := join_sz hf
    omega
theorem sum_bound : ∀ (l : List EnT), (∀ e ∈ l, Good e.2) → sumB l ≤ l.length * 4294967296
  | [], _ => by simp [sumB]
  | e :: l, h => by
    have h1 := (h e (by simp)).bytes
    have h2 := sum_bound l fun e' he => h e' (by simp [he])
    rw [sumB_cons, List.length_cons]
    have : sz e = (itB e.2).length := rfl
    omega
structure BOK (N q : Nat) (s : SpT) : Prop where
  cov : CovOK N s []
  chk : AllC s.1.2.2.2.2
  used : UsedOK s.1.2.1 s.1.2.2.2.2
  fits : sumB s.1.2.2.2.2 ≤ q
  quota : s.1.1 = I64 q
  tops : ∀ v ∈ s.2.1, v.toNat ≤ 1099511627776
theorem BOK.up {N M q : Nat} {s : SpT} (h : BOK N q s) (hm : N ≤ M) : BOK M q s :=
  ⟨⟨h.cov.ok.up hm, h.cov.keys, h.cov.sorted, h.cov.low, h.cov.upp, h.cov.ack, h.cov.chain, h.cov.fin, h.cov.top, h.cov.prio⟩, h.chk, h.used, h.fits, h.quota, h.tops⟩
theorem put1_bok {N q : Nat} {s s' : SpT} {x : ItT} {high : UInt64} {l1 : List EnT} {rD : Option Nat} (hs : BOK N q s) (hN : N ≤ 900) (hq : q ≤ 1000) (hx : Good x) (h : Put1 s x high s' l1 rD) : BOK (N + 1) q s' := by
  have hcov := put1_cov hs.cov hx h
  have hgl1 := h.ev.good hs.cov.ok.good
  have hll1 := h.ev.len
  have hl := hs.cov.ok.len
  have hgood : ∀ e ∈ l1 ++ [(s.1.2.2.1, putY x high)], Good e.2 := by
    intro e he
    rcases List.mem_append.1 he with q | q
    · exact hgl1 e q
    · simp only [List.mem_singleton] at q; rw [q]; exact putY_good hx high
  have hb := sum_bound _ hgood
  have hlen : (l1 ++ [(s.1.2.2.1, putY x high)]).length ≤ 1000 := by simp; omega
  obtain ⟨u1, u2⟩ := h.used hs.used
  refine ⟨hcov, ?_, u1, ?_, by rw [h.quota, hs.quota], ?_⟩
  · rw [h.list]
    refine joinD_allC ?_ _ _
    intro e he
    rcases List.mem_append.1 he with q | q
    · exact evs_allC h.ev hs.chk e q
    · simp only [List.mem_singleton] at q; rw [q]; exact putY_check h.ok h.old h.jump
  · rw [hs.quota] at u2
    have h1 : sumB (l1 ++ [(s.1.2.2.1, putY x high)]) ≤ q := by
      rcases Nat.lt_or_ge q (sumB (l1 ++ [(s.1.2.2.1, putY x high)])) with q1 | q1
      · refine absurd ((i64_lt (by omega) ?_).2 q1) u2
        have : (l1 ++ [(s.1.2.2.1, putY x high)]).length * 4294967296 ≤ 1000 * 4294967296 := Nat.mul_le_mul_right _ hlen
        omega
      · exact q1
    rw [h.list]
    refine Nat.le_trans ?_ h1
    have hd := h.down
    cases rD with
    | none => exact Nat.le_refl _
    | some a => exact sumB_joinL _ _ _ (by have := hd.1; omega)
  · rw [h.highs]
    intro v hv
    rcases List.mem_or_eq_of_mem_set hv with q | q
    · exact hs.tops v q
    · rw [q]; exact (check_span h.ok).max
theorem putR_bok {N q : Nat} {s : SpT} {x : ItT} {high : UInt64} {y : (UInt64 × UInt64 × Int64) × Option SpT} (hs : BOK N q s) (hN : N ≤ 900) (hq : q ≤ 1000) (hx : Good x) (h : PutR s y x high) : ∃ s', y.2 = some s' ∧ BOK (N + 1) q s' := by
  obtain ⟨i, f, e, s', rfl, h⟩ := h
  refine ⟨s', rfl, ?_⟩
  rcases h with ⟨_, _, rfl⟩ | ⟨_, l1, rD, h⟩
  · exact hs.up (by omega)
  · exact put1_bok hs hN hq hx h
theorem hh_zero (o : UInt8) : hh (List.replicate 32 (0 : UInt64)) o = 0 := by
  unfold hh
  rw [List.getElem?_replicate]
  split <;> rfl
theorem new_bok (q : Nat) : BOK 0 q ((I64 q, 0, 1, 0, []), List.replicate 32 0, 0) :=
  ⟨⟨new_ok _, by simp, by simp [idxs], by simp, by simp, by show (0 : UInt64) < 1; decide, trivial, by funext o; rw [hh_zero]; rfl, by simp [TopH], by simp⟩, by simp [AllC], rfl, by simp [sumB], rfl, by
    intro v hv
    rw [List.eq_of_mem_replicate hv]
    decide⟩
end Go.Proofs.Ytblldmpkljcnjaa
open Go Go.Sx
namespace Go.Proofs.Ytblldmpkljcnjaa
set_option maxRecDepth 100000
theorem list2_loop (n : Nat) (behind : UInt64) (many : Int64) (l : List EnT) (hl : l.length ≤ 1000) (hg : ∀ e ∈ l, Good e.2) : ∀ m i out, i ≤ l.length → l.length - i < m → out.length ≤ i →
    F1012_R61 n m behind many l (I64 l.length) (I64 i) out = some (listGo behind many (l.drop i) out, ()) := by
  intro m
  induction m with
  | zero => intros; omega
  | succ m ih =>
    intro i out hi hm ho
    rw [F1012_R61_s]
    unfold F1012_L61
    by_cases hlt : i < l.length
    · have gi := hg _ (List.getElem_mem hlt)
      rw [dec_t ((i64_lt (by omega) (by omega)).2 hlt), oite_t, at_i64_lt (by omega) hlt]
      simp only [obind_s, Prod.eta, i64_succ]
      rw [List.drop_eq_getElem_cons hlt]
      unfold listGo
      by_cases hm' : many ≤ I64 out.length
      · rw [show decide (many ≤ Int64.ofInt ↑out.length) = true from dec_t hm', oite_t, if_pos hm']
      · rw [show decide (many ≤ Int64.ofInt ↑out.length) = false from dec_f hm', oite_f, if_neg hm']
        by_cases hb : behind < l[i].1
        · rw [dec_t hb, oite_t, if_pos hb]
          have e30 : F30 n l[i].2 = some (l[i].2, ()) := clone_eq n _ (by have := gi.labs; omega)
          rw [e30]
          simp only [obind_s, Prod.eta]
          rw [ble_t (by simp; omega), oite_t]
          exact ih (i + 1) _ (by omega) (by omega) (by simp; omega)
        · rw [dec_f hb, oite_f, if_neg hb]
          exact ih (i + 1) _ (by omega) (by omega) (by omega)
    · rw [dec_f (fun q => hlt ((i64_lt (by omega) (by omega)).1 q)), oite_f, List.drop_eq_nil_of_le (by omega)]
      rfl
theorem len32 (h : List UInt64) (hl : h.length = 32) : ∃ a0 a1 a2 a3 a4 a5 a6 a7 a8 a9 a10 a11 a12 a13 a14 a15 a16 a17 a18 a19 a20 a21 a22 a23 a24 a25 a26 a27 a28 a29 a30 a31 : UInt64,
    h = [a0, a1, a2, a3, a4, a5, a6, a7, a8, a9, a10, a11, a12, a13, a14, a15, a16, a17, a18, a19, a20, a21, a22, a23, a24, a25, a26, a27, a28, a29, a30, a31] := by
  match h, hl with
  | [a0, a1, a2, a3, a4, a5, a6, a7, a8, a9, a10, a11, a12, a13, a14, a15, a16, a17, a18, a19, a20, a21, a22, a23, a24, a25, a26, a27, a28, a29, a30, a31], _ =>
    exact ⟨a0, a1, a2, a3, a4, a5, a6, a7, a8, a9, a10, a11, a12, a13, a14, a15, a16, a17, a18, a19, a20, a21, a22, a23, a24, a25, a26, a27, a28, a29, a30, a31, rfl⟩
theorem base_eq (n : Nat) (hn : 1001 < n) (s0 s1 : Int64) (s2 s3 s5 : UInt64) (l : List EnT) (hl : l.length ≤ 1000) (hg : ∀ e ∈ l, Good e.2) (hp : ∀ e ∈ l, 0 < e.1)
    (a0 a1 a2 a3 a4 a5 a6 a7 a8 a9 a10 a11 a12 a13 a14 a15 a16 a17 a18 a19 a20 a21 a22 a23 a24 a25 a26 a27 a28 a29 a30 a31 : UInt64) :
    F18 n (some (s0, s1, s2, s3, l, a0, a1, a2, a3, a4, a5, a6, a7, a8, a9, a10, a11, a12, a13, a14, a15, a16, a17, a18, a19, a20, a21, a22, a23, a24, a25, a26, a27, a28, a29, a30, a31, s5)) =
      some ((s2, s3, s5, a0, a1, a2, a3, a4, a5, a6, a7, a8, a9, a10, a11, a12, a13, a14, a15, a16, a17, a18, a19, a20, a21, a22, a23, a24, a25, a26, a27, a28, a29, a30, a31, l), ()) := by
  have e : F1012 n (some (s0, s1, s2, s3, l, a0, a1, a2, a3, a4, a5, a6, a7, a8, a9, a10, a11, a12, a13, a14, a15, a16, a17, a18, a19, a20, a21, a22, a23, a24, a25, a26, a27, a28, a29, a30, a31, s5), 0, I64 l.length) = some (l, ()) := by
    have := list2_loop n 0 (I64 l.length) l hl hg n 0 [] (by omega) (by omega) (by simp)
    rw [List.drop_zero, list_all l.length (by omega) l [] hp (by simp), List.nil_append] at this
    exact this
  show obind (F1012 n (some (s0, s1, s2, s3, l, a0, a1, a2, a3, a4, a5, a6, a7, a8, a9, a10, a11, a12, a13, a14, a15, a16, a17, a18, a19, a20, a21, a22, a23, a24, a25, a26, a27, a28, a29, a30, a31, s5), 0, I64 l.length)) _ = _
  rw [e]
  rfl
def ofOK (nx : UInt64) (H : List UInt64) : UInt64 → (UInt8 → UInt64) → List EnT → Bool
  | _, _, [] => true
  | ix, h, e :: r => decide (ix < e.1) && (decide (e.1 < nx) && ((decide (h (orgE e) = 0) || decide ((spanI e.2).2.1 = h (orgE e) + 1)) && (decide ((spanI e.2).2.2 ≤ hh H (orgE e)) && ofOK nx H e.1 (updH h (orgE e) (spanI e.2).2.2) r)))
def lastL : List UInt64 → List EnT → List UInt64
  | a, [] => a
  | a, e :: r => lastL (a.set (orgE e).toNat (spanI e.2).2.2) r
theorem lastL_len : ∀ (r : List EnT) (a : List UInt64), (lastL a r).length = a.length
  | [], _ => rfl
  | e :: r, a => by unfold lastL; rw [lastL_len r, List.length_set]
theorem lastL_hh : ∀ (r : List EnT) (a : List UInt64), a.length = 32 → AllC r → hh (lastL a r) = finH (hh a) (spans r)
  | [], _, _, _ => rfl
  | e :: r, a, ha, hc => by
    have ho := (check_span (hc e (by simp))).org
    unfold lastL
    rw [lastL_hh r _ (by rw [List.length_set]; exact ha) fun e' he => hc e' (by simp [he]), show hh (a.set (orgE e).toNat (spanI e.2).2.2) = updH (hh a) (orgE e) (spanI e.2).2.2 from hh_set (by rw [ha]; exact ho) _]
    rfl
theorem hh_get {a : List UInt64} {o : UInt8} (h : o.toNat < a.length) : a[o.toNat]? = some (hh a o) := by
  unfold hh; rw [List.getElem?_eq_getElem h]; rfl
theorem pos_dec (v : UInt64) : decide (0 < v) = !decide (v = 0) := by rw [pos64, zero64]
theorem j_spec (n : Nat) (hn : 1001 < n) (rec : _) (q : Int64) (l : List EnT) (t1 t2 : Int64) (H sa lasta : List UInt64) (hla : lasta.length = 32) (b0 b1 b2 s2 s3 s5 : UInt64) (bl : List EnT) (s0 s1 : Int64) (e : EnT) (hg : Good e.2) (hc : itCheck e.2 = 0) (sl : List EnT) (hsl : sl.length ≤ 1000) :
    F19_J130743 n rec q (orgE e) (spanI e.2).2.2 l t1 t2 H b0 b1 b2 bl sa s0 s1 s2 s3 s5 lasta e.1 e.2.1 e.2.2.1 e.2.2.2.1 e.2.2.2.2.1 e.2.2.2.2.2.1 e.2.2.2.2.2.2.1 e.2.2.2.2.2.2.2.1 e.2.2.2.2.2.2.2.2.1 e.2.2.2.2.2.2.2.2.2.1 e.2.2.2.2.2.2.2.2.2.2.1 e.2.2.2.2.2.2.2.2.2.2.2.1 e.2.2.2.2.2.2.2.2.2.2.2.2.1 e.2.2.2.2.2.2.2.2.2.2.2.2.2 sl =
      rec q e.1 l t1 (t2 + 1) H b0 b1 b2 bl sa s0 (s1 + I64 (sz e)) s2 s3 s5 (lasta.set (orgE e).toNat (spanI e.2).2.2) (sl ++ [e]) := by
  have ho := (check_span hc).org
  obtain ⟨o1, o2⟩ := u8_idx _ ho
  unfold F19_J130743
  simp only [Prod.eta]
  unfold orgE
  rw [o1, oite_t, o2, oite_t, show Nat.blt (Int.toNat ↑(UInt8.toNat (spanI e.2).1) * 1) (List.length lasta) = true from by rw [Nat.mul_one, hla]; exact o2, oite_t, size_eq n (by omega) _ hg]
  simp only [obind_s]
  have e30 : F30 n e.2 = some (e.2, ()) := clone_eq n _ (by have := hg.labs; omega)
  rw [e30]
  simp only [obind_s, Prod.eta]
  rw [ble_t (by simp; omega), oite_t, Nat.mul_one, Int.toNat_natCast]
  rfl
theorem of_loop (n : Nat) (hn : 1001 < n) (q : Int64) (l : List EnT) (hl : l.length ≤ 100) (hg : ∀ e ∈ l, Good e.2) (hc : AllC l) (H : List UInt64) (hH : H.length = 32) (nx ac ev : UInt64) (s0 : Int64) (s2 s3 s5 : UInt64) :
    ∀ m i ix s1 lasta sl, i ≤ l.length → l.length - i < m → lasta.length = 32 → sl.length ≤ i →
      F19_R1021 n m q ix l (I64 l.length) (I64 i) H nx ac ev l H s0 s1 s2 s3 s5 lasta sl =
        if ofOK nx H ix (hh lasta) (l.drop i) = true then F19_R2045 n q (lastL lasta (l.drop i)) 0 H nx ac ev l H s0 (s1 + I64 (sumB (l.drop i))) s2 s3 s5 (sl ++ l.drop i) else some ((none, 9), ()) := by
  intro m
  induction m with
  | zero => intros; omega
  | succ m ih =>
    intro i ix s1 lasta sl hi hm hla hsl
    rw [F19_R1021_s]
    unfold F19_L1021
    by_cases hlt : i < l.length
    · have gi := hg _ (List.getElem_mem hlt)
      have ci := hc _ (List.getElem_mem hlt)
      have ho := (check_span ci).org
      obtain ⟨o1, o2⟩ := u8_idx _ ho
      rw [dec_t ((i64_lt (by omega) (by omega)).2 hlt), oite_t, at_i64_lt (by omega) hlt]
      simp only [obind_s, Prod.eta]
      rw [it_eq n 50 (by omega) _ (gi.fit 50 (by omega)), ci]
      simp only [obind_s, decide_true, Bool.not_true, oite_f]
      rw [span_eq]
      simp only [obind_s, ojoinA_eq]
      rw [List.drop_eq_getElem_cons hlt]
      have e1 : hh lasta (spanI l[i].2).1 = hh lasta (orgE l[i]) := rfl
      have hget : lasta[Int.toNat ↑(UInt8.toNat (spanI l[i].2).1) * 1]? = some (hh lasta (orgE l[i])) := by
        rw [Nat.mul_one, Int.toNat_natCast]; exact hh_get (by rw [hla]; exact ho)
      have hgetH : H[Int.toNat ↑(UInt8.toNat (spanI l[i].2).1) * 1]? = some (hh H (orgE l[i])) := by
        rw [Nat.mul_one, Int.toNat_natCast]; exact hh_get (by rw [hH]; exact ho)
      have hj := j_spec n hn (F19_R1021 n m) q l (I64 l.length) (I64 i) H H lasta hla nx ac ev s2 s3 s5 l s0 s1 l[i] gi ci sl (by omega)
      unfold ofOK
      have hnext := ih (i + 1) l[i].1 (s1 + I64 (sz l[i])) (lasta.set (orgE l[i]).toNat (spanI l[i].2).2.2) (sl ++ [l[i]]) (by omega) (by omega) (by rw [List.length_set]; exact hla) (by simp; omega)
      rw [i64_succ] at hj
      rw [hnext] at hj
      have hset : hh (lasta.set (orgE l[i]).toNat (spanI l[i].2).2.2) = updH (hh lasta) (orgE l[i]) (spanI l[i].2).2.2 := hh_set (by rw [hla]; exact ho) _
      rw [hset, Int64.add_assoc, i64_add, ← sumB_cons, List.append_assoc, List.singleton_append] at hj
      have hlast : lastL lasta (l[i] :: l.drop (i + 1)) = lastL (lasta.set (orgE l[i]).toNat (spanI l[i].2).2.2) (l.drop (i + 1)) := rfl
      rw [hlast]
      by_cases h1 : l[i].1 ≤ ix
      · rw [dec_t h1, oite_t, dec_f (UInt64.not_lt.2 h1)]
        rfl
      rw [dec_f h1, oite_f, dec_t (UInt64.not_le.1 h1), Bool.true_and]
      by_cases h2 : nx ≤ l[i].1
      · rw [dec_t h2, oite_t, dec_f (UInt64.not_lt.2 h2)]
        rfl
      rw [dec_f h2, oite_f, dec_t (UInt64.not_le.1 h2), Bool.true_and, o1, oite_t, o2, oite_t, hget]
      simp only [obind_s]
      rw [pos_dec]
      have top : ∀ (rest : Bool), (oite true (oite true (obind (some (hh H (orgE l[i]))) fun x_8 => oite (decide (x_8 < (spanI l[i].2).2.2)) (some ((none, (9 : Int64)), ())) (F19_J130743 n (F19_R1021 n m) q (orgE l[i]) (spanI l[i].2).2.2 l (I64 l.length) (I64 i) H nx ac ev l H s0 s1 s2 s3 s5 lasta l[i].1 l[i].2.1 l[i].2.2.1 l[i].2.2.2.1 l[i].2.2.2.2.1 l[i].2.2.2.2.2.1 l[i].2.2.2.2.2.2.1 l[i].2.2.2.2.2.2.2.1 l[i].2.2.2.2.2.2.2.2.1 l[i].2.2.2.2.2.2.2.2.2.1 l[i].2.2.2.2.2.2.2.2.2.2.1 l[i].2.2.2.2.2.2.2.2.2.2.2.1 l[i].2.2.2.2.2.2.2.2.2.2.2.2.1 l[i].2.2.2.2.2.2.2.2.2.2.2.2.2 sl)) none) none : Option ((Option SpT × Int64) × Unit)) =
          if (decide ((spanI l[i].2).2.2 ≤ hh H (orgE l[i])) && ofOK nx H l[i].1 (updH (hh lasta) (orgE l[i]) (spanI l[i].2).2.2) (l.drop (i + 1))) = true then
            F19_R2045 n q (lastL (lasta.set (orgE l[i]).toNat (spanI l[i].2).2.2) (l.drop (i + 1))) 0 H nx ac ev l H s0 (s1 + I64 (sumB (l[i] :: l.drop (i + 1)))) s2 s3 s5 (sl ++ l[i] :: l.drop (i + 1)) else some ((none, 9), ()) := fun _ => by
        rw [oite_t, oite_t, obind_s]
        by_cases h5 : hh H (orgE l[i]) < (spanI l[i].2).2.2
        · rw [dec_t h5, oite_t, dec_f (UInt64.not_le.2 h5)]
          rfl
        · rw [dec_f h5, oite_f, hj, dec_t (UInt64.not_lt.1 h5), Bool.true_and]
      cases h3 : decide (hh lasta (orgE l[i]) = 0) with
      | true =>
        rw [Bool.not_true, oite_f, Bool.true_or, Bool.true_and, hgetH]
        exact top true
      | false =>
        rw [Bool.not_false, oite_t, oite_t, oite_t, Bool.false_or]
        by_cases h4 : (spanI l[i].2).2.1 = hh lasta (orgE l[i]) + 1
        · rw [dec_t h4, Bool.not_true, oite_f, Bool.true_and, hgetH]
          exact top true
        · rw [dec_f h4, Bool.not_false, oite_t]
          rfl
    · have hle : l.drop i = [] := List.drop_eq_nil_of_le (by omega)
      rw [dec_f (fun q => hlt ((i64_lt (by omega) (by omega)).1 q)), oite_f, hle]
      show F19_R2045 n q lasta 0 H nx ac ev l H s0 s1 s2 s3 s5 sl = if true = true then _ else _
      rw [if_pos rfl, List.append_nil]
      have e0 : s1 + I64 (sumB []) = s1 := by
        show s1 + I64 0 = s1
        exact Int64.add_zero s1
      rw [e0]
      rfl
abbrev FinT := (Option SpT × Int64) × Unit
def finOut (q s0 s1 : Int64) (s2 s3 s5 : UInt64) (sl : List EnT) (H : List UInt64) : Option FinT := if q < s1 then some ((none, 26), ()) else some ((some ((s0, s1, s2, s3, sl), H, s5), 0), ())
theorem fin_loop (q : Int64) (ta H : List UInt64) (hta : ta.length = 32) (hH : H.length = 32) (nx ac ev : UInt64) (bl : List EnT) (s0 s1 : Int64) (s2 s3 s5 : UInt64) (sl : List EnT) : ∀ m k, k ≤ 32 → 32 - k < m →
    ((F19_R2045 m q ta (I64 k) H nx ac ev bl H s0 s1 s2 s3 s5 sl = some ((none, 9), ())) ∨ F19_R2045 m q ta (I64 k) H nx ac ev bl H s0 s1 s2 s3 s5 sl = finOut q s0 s1 s2 s3 s5 sl H) ∧
    ((∀ j (h : j < 32), k ≤ j → (ta[j] = 0 ∨ ta[j] = H[j]) ∧ H[j].toNat ≤ 1099511627776) → F19_R2045 m q ta (I64 k) H nx ac ev bl H s0 s1 s2 s3 s5 sl = finOut q s0 s1 s2 s3 s5 sl H) := by
  intro m
  induction m with
  | zero => intros; omega
  | succ m ih =>
    intro k hk hm
    rw [F19_R2045_s]
    unfold F19_L2045
    by_cases hlt : k < 32
    · have hkt : k < ta.length := by omega
      have hkH : k < H.length := by omega
      obtain ⟨i1, i2⟩ := ih (k + 1) (by omega) (by omega)
      have eh : H[Int.toNat (Int64.toInt (I64 k)) * 1]? = some H[k] := by
        rw [Nat.mul_one, i64_toInt (by omega), Int.toNat_natCast]; exact List.getElem?_eq_getElem hkH
      have e0 : decide ((0 : Int) ≤ Int64.toInt (I64 k)) = true := dec_t (by rw [i64_toInt (by omega)]; omega)
      have e1 : Nat.blt (Int.toNat (Int64.toInt (I64 k))) 32 = true := by rw [i64_toInt (by omega), Int.toNat_natCast]; exact ble_t hlt
      rw [show decide (I64 k < 32) = true from dec_t ((i64_lt (b := 32) (by omega) (by omega)).2 hlt), oite_t, at_i64_lt (by omega) hkt]
      simp only [obind_s, e0, e1, oite_t, eh, i64_succ]
      have tail : ∀ (Z : Option FinT), ((oite (decide ((1099511627776 : UInt64) < H[k])) (some ((none, (9 : Int64)), ())) (F19_R2045 m q ta (I64 (k + 1)) H nx ac ev bl H s0 s1 s2 s3 s5 sl) = some ((none, 9), ())) ∨
          oite (decide ((1099511627776 : UInt64) < H[k])) (some ((none, (9 : Int64)), ())) (F19_R2045 m q ta (I64 (k + 1)) H nx ac ev bl H s0 s1 s2 s3 s5 sl) = finOut q s0 s1 s2 s3 s5 sl H) ∧
          ((∀ j (h : j < 32), k ≤ j → (ta[j] = 0 ∨ ta[j] = H[j]) ∧ H[j].toNat ≤ 1099511627776) → oite (decide ((1099511627776 : UInt64) < H[k])) (some ((none, (9 : Int64)), ())) (F19_R2045 m q ta (I64 (k + 1)) H nx ac ev bl H s0 s1 s2 s3 s5 sl) = finOut q s0 s1 s2 s3 s5 sl H) := fun _ => by
        by_cases h3 : (1099511627776 : UInt64) < H[k]
        · rw [dec_t h3, oite_t]
          refine ⟨.inl rfl, fun hh => ?_⟩
          have := (hh k hlt (Nat.le_refl _)).2
          have h3 := UInt64.lt_iff_toNat_lt.1 h3
          have e9 : (1099511627776 : UInt64).toNat = 1099511627776 := rfl
          omega
        · rw [dec_f h3, oite_f]
          exact ⟨i1, fun hh => i2 fun j hj hkj => hh j hj (by omega)⟩
      by_cases h1 : (0 : UInt64) < ta[k]
      · rw [dec_t h1, oite_t]
        by_cases h2 : ta[k] = H[k]
        · rw [dec_t h2, Bool.not_true, oite_f]
          exact tail none
        · rw [dec_f h2, Bool.not_false, oite_t]
          refine ⟨.inl rfl, fun hh => ?_⟩
          rcases (hh k hlt (Nat.le_refl _)).1 with h | h
          · rw [h] at h1; exact absurd h1 (by decide)
          · exact absurd h h2
      · rw [dec_f h1, oite_f]
        exact tail none
    · have : k = 32 := by omega
      subst this
      rw [show decide (I64 32 < 32) = false from by decide, oite_f]
      have e : oite (decide (q < s1)) (some ((none, (26 : Int64)), ())) (some ((some ((s0, s1, s2, s3, sl), H, s5), (0 : Int64)), ())) = finOut q s0 s1 s2 s3 s5 sl H := by
        unfold finOut
        by_cases hq : q < s1
        · rw [dec_t hq, oite_t, if_pos hq]
        · rw [dec_f hq, oite_f, if_neg hq]
      exact ⟨.inr e, fun _ => e⟩
end Go.Proofs.Ytblldmpkljcnjaa
open Go Go.Sx
namespace Go.Proofs.Ytblldmpkljcnjaa
set_option maxRecDepth 100000
theorem i64_nlt {a b : Nat} (ha : a < 2 ^ 63) (hb : b < 2 ^ 63) : ¬ I64 a < I64 b ↔ b ≤ a := by rw [i64_lt ha hb]; omega
/-- What Of answers. -/
theorem of_spec (n : Nat) (hn : 1001 < n) (Q : Nat) (hQ1 : 64 ≤ Q) (hQ2 : Q ≤ 1000) (nx ac ev : UInt64) (l : List EnT) (hl : l.length ≤ 60) (hg : ∀ e ∈ l, Good e.2) (hc : AllC l)
    (a0 a1 a2 a3 a4 a5 a6 a7 a8 a9 a10 a11 a12 a13 a14 a15 a16 a17 a18 a19 a20 a21 a22 a23 a24 a25 a26 a27 a28 a29 a30 a31 : UInt64) (H : List UInt64) (eH : H = [a0, a1, a2, a3, a4, a5, a6, a7, a8, a9, a10, a11, a12, a13, a14, a15, a16, a17, a18, a19, a20, a21, a22, a23, a24, a25, a26, a27, a28, a29, a30, a31]) :
    ∃ r, F19 n (I64 Q, nx, ac, ev, a0, a1, a2, a3, a4, a5, a6, a7, a8, a9, a10, a11, a12, a13, a14, a15, a16, a17, a18, a19, a20, a21, a22, a23, a24, a25, a26, a27, a28, a29, a30, a31, l) = some (r, ()) ∧
      ((r.1 = none ∧ (r.2 = 6 ∨ r.2 = 9 ∨ r.2 = 26)) ∨ (r = (some ((I64 Q, I64 (sumB l), nx, ac, l), H, ev), 0) ∧ ofOK nx H ac (fun _ => 0) l = true ∧ sumB l ≤ Q)) ∧
      (1 ≤ nx.toNat → nx.toNat ≤ 1099511627776 → ac < nx → ofOK nx H ac (fun _ => 0) l = true → (∀ o : UInt8, o.toNat < 32 → finH (fun _ => 0) (spans l) o = 0 ∨ finH (fun _ => 0) (spans l) o = hh H o) → (∀ v ∈ H, v.toNat ≤ 1099511627776) → sumB l ≤ Q → r.2 = 0) := by
  have hH : H.length = 32 := by rw [eH]; rfl
  have hb := sum_bound l hg
  have hb2 : l.length * 4294967296 ≤ 60 * 4294967296 := Nat.mul_le_mul_right _ hl
  have e8 : F8 n (I64 Q) = some ((some ((I64 Q, 0, 1, 0, []), List.replicate 32 0, 0), 0), ()) := new_eq n _ (fun h => by have := (i64_lt (b := 64) (by omega) (by omega)).1 h; omega) (fun h => by have := (i64_lt (a := 65536) (by omega) (by omega)).1 h; omega)
  unfold F19
  simp only
  rw [e8]
  simp only [obind_s, decide_true, Bool.not_true, oite_f]
  have six : ∀ (X : Prop) (c : Bool) (Z : Option FinT), (c = true → ¬ X) → (c = false → ∃ r, Z = some (r, ()) ∧ ((r.1 = none ∧ (r.2 = 6 ∨ r.2 = 9 ∨ r.2 = 26)) ∨ (r = (some ((I64 Q, I64 (sumB l), nx, ac, l), H, ev), 0) ∧ ofOK nx H ac (fun _ => 0) l = true ∧ sumB l ≤ Q)) ∧ (X → r.2 = 0)) →
      ∃ r, oite c (some ((none, (6 : Int64)), ())) Z = some (r, ()) ∧ ((r.1 = none ∧ (r.2 = 6 ∨ r.2 = 9 ∨ r.2 = 26)) ∨ (r = (some ((I64 Q, I64 (sumB l), nx, ac, l), H, ev), 0) ∧ ofOK nx H ac (fun _ => 0) l = true ∧ sumB l ≤ Q)) ∧ (X → r.2 = 0) := fun X c Z h1 h2 => by
    cases c with
    | true => exact ⟨_, rfl, .inl ⟨rfl, .inl rfl⟩, fun hx => absurd hx (h1 rfl)⟩
    | false => exact h2 rfl
  have key : ∀ X : Prop, (X → 1 ≤ nx.toNat ∧ nx.toNat ≤ 1099511627776 ∧ ac < nx ∧ ofOK nx H ac (fun _ => 0) l = true ∧ (∀ o : UInt8, o.toNat < 32 → finH (fun _ => 0) (spans l) o = 0 ∨ finH (fun _ => 0) (spans l) o = hh H o) ∧ (∀ v ∈ H, v.toNat ≤ 1099511627776) ∧ sumB l ≤ Q) →
      ∃ r, (oite (decide (nx < 1)) (some ((none, (6 : Int64)), ())) (oite (decide ((1099511627776 : UInt64) < nx)) (some ((none, (6 : Int64)), ())) (oite (decide (nx ≤ ac)) (some ((none, (6 : Int64)), ())) (oite (decide (I64 Q < I64 l.length)) (some ((none, (6 : Int64)), ()))
        (F19_R1021 n n (I64 Q) ac l (I64 l.length) 0 H nx ac ev l H (I64 Q) 0 nx ac ev (List.replicate 32 0) []))))) = some (r, ()) ∧
      ((r.1 = none ∧ (r.2 = 6 ∨ r.2 = 9 ∨ r.2 = 26)) ∨ (r = (some ((I64 Q, I64 (sumB l), nx, ac, l), H, ev), 0) ∧ ofOK nx H ac (fun _ => 0) l = true ∧ sumB l ≤ Q)) ∧ (X → r.2 = 0) := by
    intro X hX
    refine six X _ _ (fun h hx => ?_) fun _ => six X _ _ (fun h hx => ?_) fun _ => six X _ _ (fun h hx => ?_) fun _ => six X _ _ (fun h hx => ?_) fun _ => ?_
    · have h := UInt64.lt_iff_toNat_lt.1 (of_decide_eq_true h)
      have := (hX hx).1
      have e1 : (1 : UInt64).toNat = 1 := rfl
      omega
    · have h := UInt64.lt_iff_toNat_lt.1 (of_decide_eq_true h)
      have := (hX hx).2.1
      have e1 : (1099511627776 : UInt64).toNat = 1099511627776 := rfl
      omega
    · exact absurd (hX hx).2.2.1 (UInt64.not_lt.2 (of_decide_eq_true h))
    · have := (i64_lt (by omega) (by omega)).1 (of_decide_eq_true h); omega
    · have hloop := of_loop n hn (I64 Q) l (by omega) hg hc H hH nx ac ev (I64 Q) nx ac ev n 0 ac 0 (List.replicate 32 0) [] (by omega) (by omega) (by simp) (by simp)
      rw [List.drop_zero, show hh (List.replicate 32 (0 : UInt64)) = fun _ => 0 from funext hh_zero] at hloop
      have e0 : (0 : Int64) + I64 (sumB l) = I64 (sumB l) := Int64.zero_add _
      rw [e0, List.nil_append] at hloop
      rw [show (0 : Int64) = I64 0 from rfl] at hloop ⊢
      rw [hloop]
      by_cases hok : ofOK nx H ac (fun _ => 0) l = true
      · rw [if_pos hok]
        have hll : (lastL (List.replicate 32 0) l).length = 32 := by rw [lastL_len]; rfl
        have hlh : hh (lastL (List.replicate 32 0) l) = finH (fun _ => 0) (spans l) := by
          rw [lastL_hh l _ (by simp) hc, show hh (List.replicate 32 (0 : UInt64)) = fun _ => 0 from funext hh_zero]
        obtain ⟨c1, c2⟩ := fin_loop (I64 Q) (lastL (List.replicate 32 0) l) H hll hH nx ac ev l (I64 Q) (I64 (sumB l)) nx ac ev l n 0 (by omega) (by omega)
        have fo : ∀ X : Prop, (X → sumB l ≤ Q) → ∃ r, finOut (I64 Q) (I64 Q) (I64 (sumB l)) nx ac ev l H = some (r, ()) ∧ ((r.1 = none ∧ (r.2 = 6 ∨ r.2 = 9 ∨ r.2 = 26)) ∨ (r = (some ((I64 Q, I64 (sumB l), nx, ac, l), H, ev), 0) ∧ ofOK nx H ac (fun _ => 0) l = true ∧ sumB l ≤ Q)) ∧ (X → r.2 = 0) := fun X hX => by
          unfold finOut
          by_cases hq : I64 Q < I64 (sumB l)
          · rw [if_pos hq]
            exact ⟨_, rfl, .inl ⟨rfl, .inr (.inr rfl)⟩, fun hx => by have := (i64_lt (by omega) (by omega)).1 hq; have := hX hx; omega⟩
          · rw [if_neg hq]
            exact ⟨_, rfl, .inr ⟨rfl, hok, (i64_nlt (by omega) (by omega)).1 hq⟩, fun _ => rfl⟩
        by_cases hx : X
        · have hf := hX hx
          rw [show (0 : Int64) = I64 0 from rfl] at *
          rw [c2 fun j hj _ => ?_]
          · exact fo X fun _ => hf.2.2.2.2.2.2
          · have hu : (UInt8.ofNat j).toNat = j := by rw [UInt8.toNat_ofNat']; omega
            have h1 := hf.2.2.2.2.1 (UInt8.ofNat j) (by omega)
            rw [← hlh] at h1
            have g1 : hh (lastL (List.replicate 32 0) l) (UInt8.ofNat j) = (lastL (List.replicate 32 0) l)[j] := by unfold hh; rw [hu, List.getElem?_eq_getElem (by omega)]; rfl
            have g2 : hh H (UInt8.ofNat j) = H[j] := by unfold hh; rw [hu, List.getElem?_eq_getElem (by omega)]; rfl
            rw [g1, g2] at h1
            exact ⟨h1, hf.2.2.2.2.2.1 _ (List.getElem_mem _)⟩
        · rcases c1 with c1 | c1
          · exact ⟨_, c1, .inl ⟨rfl, .inr (.inl rfl)⟩, fun h => absurd h hx⟩
          · obtain ⟨r, q1, q2, _⟩ := fo False fun h => h.elim
            exact ⟨r, c1.trans q1, q2, fun h => absurd h hx⟩
      · rw [if_neg hok]
        exact ⟨_, rfl, .inl ⟨rfl, .inr (.inl rfl)⟩, fun hx => absurd (hX hx).2.2.2.1 hok⟩
  obtain ⟨r, k1, k2, k3⟩ := key (1 ≤ nx.toNat ∧ nx.toNat ≤ 1099511627776 ∧ ac < nx ∧ ofOK nx H ac (fun _ => 0) l = true ∧ (∀ o : UInt8, o.toNat < 32 → finH (fun _ => 0) (spans l) o = 0 ∨ finH (fun _ => 0) (spans l) o = hh H o) ∧ (∀ v ∈ H, v.toNat ≤ 1099511627776) ∧ sumB l ≤ Q) fun h => h
  subst eH
  exact ⟨r, k1, k2, fun h1 h2 h3 h4 h5 h6 h7 => k3 ⟨h1, h2, h3, h4, h5, h6, h7⟩⟩
/-- What the law looks at, of a spool that Of made. -/
theorem chk_loop (n : Nat) (q used : Int64) (nx ac b0 b1 b2 : UInt64) (H ba : List UInt64) (hH : H.length = 32) (t : SpT) (ht : t.2.1 = H) (l bl : List EnT) (hl : l.length ≤ 1000) (hc : AllC l) (h1 : used ≤ q) (h2 : nx = b0) (h3 : ac = b1) : ∀ m i last (h : UInt8 → UInt64), i ≤ l.length → l.length - i < m →
    ofOK nx H last h (l.drop i) = true → F5_R131069 n m q used nx ac last (I64 l.length) (I64 i) ba b0 b1 b2 (some t) l bl = some (true, ()) := by
  intro m
  induction m with
  | zero => intros; omega
  | succ m ih =>
    intro i last h hi hm hok
    rw [F5_R131069_s]
    unfold F5_L131069
    by_cases hlt : i < l.length
    · have ci := hc _ (List.getElem_mem hlt)
      have ho := (check_span ci).org
      obtain ⟨b1', b2'⟩ := idx_i64 (l := l) hlt (by omega)
      rw [List.drop_eq_getElem_cons hlt] at hok
      unfold ofOK at hok
      simp only [Bool.and_eq_true, decide_eq_true_eq] at hok
      obtain ⟨k1, k2, _, k4, k5⟩ := hok
      rw [dec_t ((i64_lt (by omega) (by omega)).2 hlt), oite_t, b1', oite_t, b2']
      simp only [obind_s, Prod.eta]
      rw [span_eq]
      simp only [obind_s]
      rw [dec_f (UInt64.not_le.2 k1), oite_f, dec_f (UInt64.not_le.2 k2), oite_f, high_spec n t (by rw [ht]; exact hH) _ ho]
      simp only [obind_s]
      have e : t.2.1[(spanI l[i].2).1.toNat]'(by rw [ht, hH]; exact ho) = hh H (orgE l[i]) := by
        unfold hh orgE
        rw [List.getElem?_eq_getElem (by rw [hH]; exact ho)]
        simp only [ht]; rfl
      rw [e, dec_f (UInt64.not_lt.2 k4), oite_f, i64_succ]
      exact ih (i + 1) _ _ (by omega) (by omega) k5
    · rw [dec_f (fun q => hlt ((i64_lt (by omega) (by omega)).1 q)), oite_f, dec_t h1, oite_t, dec_t h2, oite_t, dec_t h3]
/-- The end of the law. -/
theorem j511 (n : Nat) (hn : 1001 < n) (what : UInt8) (Q : Nat) (hQ1 : 64 ≤ Q) (hQ2 : Q ≤ 1000) (nx ac ev : UInt64) (l : List EnT) (hl : l.length ≤ 60) (hg : ∀ e ∈ l, Good e.2) (hc : AllC l) (H : List UInt64) (hH : H.length = 32)
    (h6 : what % 7 = 6 → 1 ≤ nx.toNat ∧ nx.toNat ≤ 1099511627776 ∧ ac < nx ∧ ofOK nx H ac (fun _ => 0) l = true ∧ (∀ o : UInt8, o.toNat < 32 → finH (fun _ => 0) (spans l) o = 0 ∨ finH (fun _ => 0) (spans l) o = hh H o) ∧ (∀ v ∈ H, v.toNat ≤ 1099511627776) ∧ sumB l ≤ Q) :
    F5_J511 n what (I64 Q) H nx ac ev l = some (true, ()) := by
  obtain ⟨a0, a1, a2, a3, a4, a5, a6, a7, a8, a9, a10, a11, a12, a13, a14, a15, a16, a17, a18, a19, a20, a21, a22, a23, a24, a25, a26, a27, a28, a29, a30, a31, eH⟩ := len32 H hH
  obtain ⟨r, e1, e2, e3⟩ := of_spec n hn Q hQ1 hQ2 nx ac ev l hl hg hc a0 a1 a2 a3 a4 a5 a6 a7 a8 a9 a10 a11 a12 a13 a14 a15 a16 a17 a18 a19 a20 a21 a22 a23 a24 a25 a26 a27 a28 a29 a30 a31 H eH
  have hb := sum_bound l hg
  have hb2 : l.length * 4294967296 ≤ 60 * 4294967296 := Nat.mul_le_mul_right _ hl
  have head : F5_J511 n what (I64 Q) H nx ac ev l = obind (F19 n (I64 Q, nx, ac, ev, a0, a1, a2, a3, a4, a5, a6, a7, a8, a9, a10, a11, a12, a13, a14, a15, a16, a17, a18, a19, a20, a21, a22, a23, a24, a25, a26, a27, a28, a29, a30, a31, l)) fun x_35 => oite (decide (what % 7 = 6)) (some (decide (x_35.1.2 = 0), ())) (oite (!decide (x_35.1.2 = 0)) (oelim x_35.1.1 (oite (decide (x_35.1.2 = 6)) (some (true, ())) (oite (decide (x_35.1.2 = 9)) (some (true, ())) (some (decide (x_35.1.2 = 26), ())))) fun _ => some (false, ()))
      (obind (F20 n x_35.1.1) fun x_36 => obind (F12 n (x_36.2, 0, 1000)) fun x_37 => F5_R131069 n n (I64 Q) x_36.1.2.1 x_36.1.2.2.1 x_36.1.2.2.2.1 x_36.1.2.2.2.1 (I64 x_37.1.length) 0 H nx ac ev x_37.2 x_37.1 l)) := by
    subst eH; rfl
  rw [head, e1]
  simp only [obind_s]
  by_cases hw : what % 7 = 6
  · rw [dec_t hw, oite_t]
    obtain ⟨g1, g2, g3, g4, g5, g6, g7⟩ := h6 hw
    rw [dec_t (e3 g1 g2 g3 g4 g5 g6 g7)]
  · rw [dec_f hw, oite_f]
    rcases e2 with ⟨q1, q2⟩ | ⟨q1, q2, q3⟩
    · obtain ⟨r1, r2⟩ := r
      simp only at q1 q2
      subst q1
      rcases q2 with rfl | rfl | rfl <;> rfl
    · subst q1
      simp only [decide_true, Bool.not_true, oite_f]
      have hpos : ∀ (r : List EnT) (ix : UInt64) (h : UInt8 → UInt64), ofOK nx H ix h r = true → ∀ e ∈ r, 0 < e.1 := by
        intro r
        induction r with
        | nil => intro _ _ _ e he; cases he
        | cons a r ih =>
          intro ix h hok e he
          unfold ofOK at hok
          simp only [Bool.and_eq_true, decide_eq_true_eq] at hok
          obtain ⟨k1, _, _, _, k5⟩ := hok
          rcases List.mem_cons.1 he with rfl | he
          · rw [UInt64.lt_iff_toNat_lt] at k1 ⊢
            have e0 : (0 : UInt64).toNat = 0 := rfl
            omega
          · exact ih _ _ k5 e he
      have e20 : F20 n (some ((I64 Q, I64 (sumB l), nx, ac, l), H, ev)) = some ((I64 l.length, I64 (sumB l), nx, ac, ev), some ((I64 Q, I64 (sumB l), nx, ac, l), H, ev)) := rfl
      rw [e20]
      simp only [obind_s]
      rw [list_spec n hn _ (by dsimp only; omega) hg]
      simp only [obind_s]
      have el : listGo 0 1000 l [] = l := (list_all 1000 (by omega) l [] (hpos l ac _ q2) (by simp; omega)).trans (List.nil_append _)
      rw [el]
      exact chk_loop n (I64 Q) (I64 (sumB l)) nx ac nx ac ev H H hH _ rfl l l (by omega) hc ((i64_le (by omega) (by omega)).2 q3) rfl rfl n 0 ac (fun _ => 0) (by omega) (by omega) (by rw [List.drop_zero]; exact q2)
theorem mod_small (x : UInt64) (m : UInt64) (hm : 0 < m.toNat) : (x % m).toNat < m.toNat := by rw [UInt64.toNat_mod]; exact Nat.mod_lt _ hm
theorem j255_b (n : Nat) (hn : 1001 < n) (what at_ : UInt8) (n_ : UInt64) (Q : Nat) (hQ1 : 64 ≤ Q) (hQ2 : Q ≤ 1000) (nx ac ev : UInt64) (l : List EnT) (hl : l.length ≤ 60) (hg : ∀ e ∈ l, Good e.2) (hc : AllC l) (H : List UInt64) (hH : H.length = 32) (k : Nat) (hk : 0 < l.length → k < l.length) (hk0 : l.length = 0 → k = 0)
    (h6 : 1 ≤ nx.toNat ∧ nx.toNat ≤ 1099511627776 ∧ ac < nx ∧ ofOK nx H ac (fun _ => 0) l = true ∧ (∀ o : UInt8, o.toNat < 32 → finH (fun _ => 0) (spans l) o = 0 ∨ finH (fun _ => 0) (spans l) o = hh H o) ∧ (∀ v ∈ H, v.toNat ≤ 1099511627776) ∧ sumB l ≤ Q) :
    F5_J255 n what at_ n_ (I64 Q) (I64 k) H nx ac ev l = some (true, ()) := by
  have J := fun (Q : Nat) hQ1 hQ2 nx ac l hl hg hc H hH h6 => j511 n hn what Q hQ1 hQ2 nx ac ev l hl hg hc H hH h6
  have hk62 : k < 2 ^ 62 := by
    rcases Nat.eq_zero_or_pos l.length with h | h
    · have := hk0 h; omega
    · have := hk h; omega
  unfold F5_J255
  simp only [ojoinA_eq]
  generalize hw : what % 7 = w at *
  by_cases h0 : w = 0
  · rw [dec_t h0, oite_t]
    exact J Q hQ1 hQ2 _ _ l hl hg hc H hH fun h => by rw [h0] at h; exact absurd h (by decide)
  rw [dec_f h0, oite_f]
  by_cases h1 : w = 1
  · rw [dec_t h1, oite_t]
    exact J Q hQ1 hQ2 _ _ l hl hg hc H hH fun h => by rw [h1] at h; exact absurd h (by decide)
  rw [dec_f h1, oite_f]
  by_cases h2 : w = 2
  · rw [dec_t h2, oite_t]
    have ha : (at_ % 8).toNat < 32 := by rw [UInt8.toNat_mod]; have : (8 : UInt8).toNat = 8 := rfl; rw [this]; omega
    obtain ⟨o1, o2⟩ := u8_idx _ ha
    rw [o1, oite_t, o2, oite_t, show Nat.blt (Int.toNat ↑(UInt8.toNat (at_ % 8)) * 1) (List.length H) = true from by rw [Nat.mul_one, hH]; exact o2, oite_t]
    exact J Q hQ1 hQ2 _ _ l hl hg hc _ (by rw [List.length_set]; exact hH) fun h => by rw [h2] at h; exact absurd h (by decide)
  rw [dec_f h2, oite_f]
  by_cases h3 : w = 3
  · rw [dec_t h3, oite_t]
    have hm := mod_small n_ 100 (by decide)
    have e100 : (100 : UInt64).toNat = 100 := rfl
    have e : (64 : Int64) + Int64.ofInt ↑(UInt64.toNat (n_ % 100)) = I64 (64 + (n_ % 100).toNat) := i64_add 64 _
    rw [e]
    exact J _ (by omega) (by omega) _ _ l hl hg hc H hH fun h => by rw [h3] at h; exact absurd h (by decide)
  rw [dec_f h3, oite_f]
  by_cases h4 : w = 4
  · rw [dec_t h4, oite_t]
    by_cases hpos : 0 < l.length
    · have hkl := hk hpos
      obtain ⟨b1, b2⟩ := idx_i64 (l := l) hkl (by omega)
      rw [show decide ((0 : Int64) < Int64.ofInt ↑l.length) = true from dec_t ((i64_lt (a := 0) (by omega) (by omega)).2 hpos), oite_t, b1, oite_t, b2]
      simp only [obind_s, Prod.eta]
      rw [i64_toInt (by omega), Int.toNat_natCast]
      refine J Q hQ1 hQ2 _ _ _ (by rw [List.length_set]; exact hl) (fun e he => ?_) (fun e he => ?_) H hH fun h => by rw [h4] at h; exact absurd h (by decide)
      · rcases List.mem_or_eq_of_mem_set he with q | q
        · exact hg e q
        · rw [q]; exact hg l[k] (List.getElem_mem hkl)
      · rcases List.mem_or_eq_of_mem_set he with q | q
        · exact hc e q
        · rw [q]; exact hc l[k] (List.getElem_mem hkl)
    · rw [show decide ((0 : Int64) < Int64.ofInt ↑l.length) = false from dec_f fun h => hpos ((i64_lt (a := 0) (by omega) (by omega)).1 h), oite_f]
      exact J Q hQ1 hQ2 _ _ l hl hg hc H hH fun h => by rw [h4] at h; exact absurd h (by decide)
  rw [dec_f h4, oite_f]
  by_cases h5 : w = 5
  · rw [dec_t h5, oite_t]
    by_cases hpos : 0 < l.length
    · have hkl := hk hpos
      have ek : (I64 k).toInt = k := i64_toInt (by omega)
      have ek1 : (I64 k + 1).toInt = ((k + 1 : Nat) : Int) := by rw [i64_succ]; exact i64_toInt (by omega)
      rw [show decide ((0 : Int64) < Int64.ofInt ↑l.length) = true from dec_t ((i64_lt (a := 0) (by omega) (by omega)).2 hpos), oite_t]
      simp only [ek, ek1, Int.toNat_natCast]
      have t1 : decide ((0 : Int) ≤ ((k + 1 : Nat) : Int)) = true := dec_t (by omega)
      have t2 : Nat.ble (k + 1) l.length = true := ble_t hkl
      have tk : List.take (l.length - (k + 1)) (List.drop (k + 1) l) = l.drop (k + 1) := List.take_of_length_le (by simp)
      rw [t1, t2, tk]
      have fin : ∀ l' : List EnT, l'.length ≤ l.length → (∀ e ∈ l', e ∈ l) → F5_J511 n what (I64 Q) H nx ac ev l' = some (true, ()) := fun l' q1 q2 =>
        J Q hQ1 hQ2 _ _ l' (by omega) (fun e he => hg e (q2 e he)) (fun e he => hc e (q2 e he)) H hH fun h => by rw [h5] at h; exact absurd h (by decide)
      have mdrop : ∀ e ∈ l.drop (k + 1), e ∈ l := fun e he => List.mem_of_mem_drop he
      by_cases hkz : (k : Int) = 0
      · rw [dec_t hkz, Bool.and_self, oite_t, oite_t, ble_t (by simp; omega), oite_t]
        exact fin _ (by simp) (by simpa using mdrop)
      · rw [dec_f hkz, Bool.and_self, oite_f, dec_t (show (0 : Int) ≤ k from by omega), dec_t (show (k : Int) ≤ k from by omega), ble_t (show k ≤ l.length from by omega)]
        simp only [Bool.and_self, oite_t]
        rw [ble_t (by simp; omega), oite_t]
        refine fin _ (by simp; omega) fun e he => ?_
        rcases List.mem_append.1 he with q | q
        · exact List.mem_of_mem_take q
        · exact mdrop e q
    · rw [show decide ((0 : Int64) < Int64.ofInt ↑l.length) = false from dec_f fun h => hpos ((i64_lt (a := 0) (by omega) (by omega)).1 h), oite_f]
      exact J Q hQ1 hQ2 _ _ l hl hg hc H hH fun h => by rw [h5] at h; exact absurd h (by decide)
  rw [dec_f h5, oite_f]
  exact J Q hQ1 hQ2 _ _ l hl hg hc H hH fun _ => h6
theorem ofOK_of (nx : UInt64) (H : List UInt64) : ∀ (l : List EnT) (ix : UInt64) (h : UInt8 → UInt64), (∀ e ∈ l, ix < e.1) → (idxs l).Pairwise (· < ·) → (∀ e ∈ l, e.1 < nx) → okH h (spans l) → TopH (hh H) l → ofOK nx H ix h l = true
  | [], _, _, _, _, _, _, _ => rfl
  | e :: l, ix, h, h1, h2, h3, h4, h5 => by
    unfold ofOK
    have h2' : (∀ a ∈ idxs l, e.1.toNat < a) ∧ (idxs l).Pairwise (· < ·) := List.pairwise_cons.1 h2
    have h4' : (spanI e.2).2.1 = h (spanI e.2).1 + 1 ∧ okH (updH h (spanI e.2).1 (spanI e.2).2.2) (spans l) := h4
    have ih := ofOK_of nx H l e.1 (updH h (orgE e) (spanI e.2).2.2) (fun e' he => UInt64.lt_iff_toNat_lt.2 (h2'.1 _ (List.mem_map.2 ⟨e', he, rfl⟩))) h2'.2 (fun e' he => h3 e' (by simp [he])) h4'.2 (fun e' he => h5 e' (by simp [he]))
    rw [dec_t (h1 e (by simp)), dec_t (h3 e (by simp)), show decide ((spanI e.2).2.1 = h (orgE e) + 1) = true from dec_t h4'.1, dec_t (h5 e (by simp)), ih]
    simp
theorem put_allb (n : Nat) (hn : 1001 < n) (what at_ : UInt8) (n_ : UInt64) (Q : Nat) (hQ1 : 64 ≤ Q) (hQ2 : Q ≤ 1000) (items : List SmT) (hi : items.length < 2 ^ 63) : ∀ m i N (s : SpT), i ≤ items.length → items.length - i < m → BOK N Q s → N ≤ i → N ≤ 30 →
    F5_R125 n m what at_ n_ (I64 Q) items (I64 items.length) (I64 i) (some s) = some (true, ()) := by
  intro m
  induction m with
  | zero => intros; omega
  | succ m ih =>
    intro i N s hil hm hs hN hN4
    rw [F5_R125_s]
    unfold F5_L125
    by_cases hlt : i < items.length
    · rw [dec_t ((i64_lt (by omega) (by omega)).2 hlt), oite_t, at_i64_lt (by omega) hlt]
      simp only [obind_s, Prod.eta, i64_succ]
      by_cases h30 : i < 30
      · rw [show decide (I64 i < 30) = true from dec_t ((i64_lt (b := 30) (by omega) (by omega)).2 h30), oite_t]
        obtain ⟨x, y, high, hx, e1, e2, e3, hy⟩ := step_spec n hn s N hs.cov.ok (by omega) items[i]
        rw [e2]
        simp only [obind_s]
        rw [e3]
        simp only [obind_s]
        obtain ⟨s', e4, hs'⟩ := putR_bok hs (by omega) hQ2 (nextY_good hx.good _ _) hy
        rw [e4]
        exact ih (i + 1) (N + 1) s' (by omega) (by omega) hs' (by omega) (by omega)
      · rw [show decide (I64 i < 30) = false from dec_f fun q => h30 ((i64_lt (b := 30) (by omega) (by omega)).1 q), oite_f]
        exact ih (i + 1) N s (by omega) (by omega) hs (by omega) hN4
    · rw [dec_f (fun q => hlt ((i64_lt (by omega) (by omega)).1 q)), oite_f]
      simp only [ojoinA_eq, oelim_s]
      obtain ⟨⟨s0, s1, s2, s3, l⟩, H, ev⟩ := s
      have hH : H.length = 32 := hs.cov.ok.highs
      have hl : l.length ≤ N := hs.cov.ok.len
      have hg : ∀ e ∈ l, Good e.2 := hs.cov.ok.good
      have hp : ∀ e ∈ l, 0 < e.1 := hs.cov.ok.pos
      have h6 : 1 ≤ s2.toNat ∧ s2.toNat ≤ 1099511627776 ∧ s3 < s2 ∧ ofOK s2 H s3 (fun _ => 0) l = true ∧ (∀ o : UInt8, o.toNat < 32 → finH (fun _ => 0) (spans l) o = 0 ∨ finH (fun _ => 0) (spans l) o = hh H o) ∧ (∀ v ∈ H, v.toNat ≤ 1099511627776) ∧ sumB l ≤ Q :=
        ⟨hs.cov.ok.next.1, hs.cov.ok.next.2, hs.cov.ack, ofOK_of s2 H l s3 _ hs.cov.low hs.cov.sorted hs.cov.upp hs.cov.chain hs.cov.top, fun o _ => .inr (congrFun hs.cov.fin o), hs.tops, hs.fits⟩
      obtain ⟨a0, a1, a2, a3, a4, a5, a6, a7, a8, a9, a10, a11, a12, a13, a14, a15, a16, a17, a18, a19, a20, a21, a22, a23, a24, a25, a26, a27, a28, a29, a30, a31, eH⟩ := len32 H hH
      have hb := base_eq n hn s0 s1 s2 s3 ev l (by omega) hg hp a0 a1 a2 a3 a4 a5 a6 a7 a8 a9 a10 a11 a12 a13 a14 a15 a16 a17 a18 a19 a20 a21 a22 a23 a24 a25 a26 a27 a28 a29 a30 a31
      have j63 : F5_J63 n what at_ n_ (I64 Q) H s2 s3 ev l = some (true, ()) := by
        unfold F5_J63
        simp only [ojoinA_eq]
        by_cases hpos : 0 < l.length
        · rw [show decide ((0 : Int64) < Int64.ofInt ↑l.length) = true from dec_t ((i64_lt (a := 0) (by omega) (by omega)).2 hpos), oite_t, show decide (Int64.ofInt ↑l.length = 0) = false from dec_f fun h => by have := (i64_eq (a := l.length) (b := 0) (by omega) (by omega)).1 h; omega, oite_f]
          have hb8 : (at_.toNat : Nat) < 256 := at_.toNat_lt
          have em : Int64.ofInt ↑(UInt8.toNat at_) % Int64.ofInt ↑l.length = I64 (at_.toNat % l.length) := by
            apply Int64.toInt_inj.1
            rw [Int64.toInt_mod, i64_toInt (by omega), i64_toInt (by omega), i64_toInt (by have := Nat.mod_lt at_.toNat hpos; omega)]
            rw [Int.tmod_eq_emod_of_nonneg (by omega)]
            omega
          rw [em]
          exact j255_b n hn what at_ n_ Q hQ1 hQ2 s2 s3 ev l (by omega) hg hs.chk H hH _ (fun h => Nat.mod_lt _ h) (fun h => by omega) h6
        · rw [show decide ((0 : Int64) < Int64.ofInt ↑l.length) = false from dec_f fun h => hpos ((i64_lt (a := 0) (by omega) (by omega)).1 h), oite_f]
          exact j255_b n hn what at_ n_ Q hQ1 hQ2 s2 s3 ev l (by omega) hg hs.chk H hH 0 (fun h => h) (fun _ => rfl) h6
      subst eH
      simp only [List.getElem?_cons_zero, List.getElem?_cons_succ, Nat.zero_add, obind_s]
      show obind (F18 n (some (s0, s1, s2, s3, l, a0, a1, a2, a3, a4, a5, a6, a7, a8, a9, a10, a11, a12, a13, a14, a15, a16, a17, a18, a19, a20, a21, a22, a23, a24, a25, a26, a27, a28, a29, a30, a31, ev))) _ = _
      rw [hb]
      exact j63
theorem bases_true : ∀ x : sig5.In, PTys.fits sig5.ps x → ∃ n y, F5 n x = some y ∧ PTys.hd (.one (.c .bool)) .nil y.1 = true := by
  rintro ⟨q, items, what, at_, n_⟩ hfit
  have hi := hfit.2.1
  simp only [PTy.fits, CTs.fits, CT.fits] at hi
  have hi : items.length < 2 ^ 63 := hi.1
  generalize hn : items.length + 1100 + 100 = n
  refine ⟨n, (true, ()), ?_, rfl⟩
  unfold F5
  rw [← hn, awake, hn, obind_s]
  simp only [Bool.not_true, oite_f]
  obtain ⟨q1, q2⟩ := quota_ok q 300 (by decide)
  rw [new_eq n _ q1 q2]
  simp only [obind_s]
  have hm : (q % 300).toNat < 300 := by rw [UInt16.toNat_mod]; exact Nat.mod_lt _ (by decide)
  have e : (64 : Int64) + Int64.ofInt ↑(UInt16.toNat (q % 300)) = I64 (64 + (q % 300).toNat) := i64_add 64 _
  rw [e]
  exact put_allb n (by omega) what at_ n_ _ (by omega) (by omega) items hi n 0 0 _ (by omega) (by omega) (new_bok _) (by omega) (by omega)
end Go.Proofs.Ytblldmpkljcnjaa
