/- A spool: maps of counts, equal items, what is kept, prefixes, Ack. -/
import Derived.Test.YtblldmpkljcnjaaSpChain
import Derived.Test.YtblldmpkljcnjaaSpFns5
open Go Go.Sx
namespace Go.Proofs.Ytblldmpkljcnjaa
abbrev K8 : VT := VT.one (CT.int IntKind.u8)
abbrev V64 : VT := VT.one (CT.int IntKind.u64)
abbrev MapT := List (UInt8 × UInt64)
def mg (m : MapT) : UInt8 → UInt64 := fun o => Option.getD (mget K8 V64 o m) 0
theorem eqb8 (a b : UInt8) : VT.eqb K8 a b = decide (a = b) := rfl
theorem mget_put (o : UInt8) (v : UInt64) (p : UInt8) : ∀ (m : MapT), mget K8 V64 p (mput K8 V64 o v m) = if p = o then some v else mget K8 V64 p m
  | [] => by
    unfold mput mget
    simp only [eqb8]
    by_cases h : p = o
    · rw [dec_t h, if_pos h]
    · rw [dec_f h, if_neg h]; rfl
  | q :: r => by
    have ih := mget_put o v p r
    unfold mput
    simp only [eqb8]
    by_cases h : o = q.1
    · rw [dec_t h]
      unfold mget
      simp only [eqb8]
      by_cases hp : p = o
      · rw [if_pos hp, dec_t hp]
      · rw [if_neg hp, dec_f hp, dec_f (fun e => hp (by rw [e, h]))]
    · rw [dec_f h]
      unfold mget
      simp only [eqb8]
      by_cases hp : p = q.1
      · rw [dec_t hp, if_neg (fun e => h (by rw [← e, hp]))]
      · rw [dec_f hp]; exact ih
theorem mg_put (o : UInt8) (v : UInt64) (m : MapT) : mg (mput K8 V64 o v m) = updH (mg m) o v := by
  funext p
  unfold mg updH
  rw [mget_put]
  split <;> rfl
theorem keys_put (o : UInt8) (v : UInt64) : ∀ (m : MapT), (m.map (·.1)).Nodup → ((mput K8 V64 o v m).map (·.1)).Nodup ∧ ∀ p ∈ mput K8 V64 o v m, p.1 = o ∨ p ∈ m
  | [], _ => by unfold mput; simp
  | q :: r, h => by
    rw [List.map_cons, List.nodup_cons] at h
    obtain ⟨h1, h2⟩ := keys_put o v r h.2
    unfold mput
    simp only [eqb8]
    by_cases hq : o = q.1
    · rw [dec_t hq]
      refine ⟨?_, fun p hp => ?_⟩
      · simp only [List.map_cons, List.nodup_cons]; rw [hq]; exact h
      · rcases List.mem_cons.1 hp with e | e
        · left; rw [e]
        · right; exact List.mem_cons_of_mem _ e
    · rw [dec_f hq]
      refine ⟨?_, fun p hp => ?_⟩
      · simp only [List.map_cons, List.nodup_cons]
        refine ⟨fun hm => ?_, h1⟩
        obtain ⟨p, hp, e⟩ := List.mem_map.1 hm
        rcases h2 p hp with q1 | q1
        · exact hq (by rw [← q1, e])
        · exact h.1 (List.mem_map.2 ⟨p, q1, e⟩)
      · rcases List.mem_cons.1 hp with e | e
        · right; rw [e]; simp
        · rcases h2 p e with q1 | q1
          · exact .inl q1
          · right; exact List.mem_cons_of_mem _ q1
theorem mget_none {o : UInt8} : ∀ {m : MapT}, o ∉ m.map (·.1) → mget K8 V64 o m = none
  | [], _ => rfl
  | q :: r, h => by
    rw [List.map_cons, List.mem_cons, not_or] at h
    unfold mget
    simp only [eqb8]
    rw [dec_f h.1]; exact mget_none h.2
theorem mget_erase (p : UInt8) : ∀ (m : MapT) (j : Nat) (h : j < m.length), (m.map (·.1)).Nodup → mget K8 V64 p (m.eraseIdx j) = if p = m[j].1 then none else mget K8 V64 p m
  | q :: r, 0, _, h => by
    rw [List.map_cons, List.nodup_cons] at h
    simp only [List.eraseIdx_cons_zero, List.getElem_cons_zero]
    by_cases hp : p = q.1
    · rw [if_pos hp, mget_none (by rw [hp]; exact h.1)]
    · rw [if_neg hp]
      conv => rhs; unfold mget
      simp only [eqb8]
      rw [dec_f hp]
  | q :: r, j + 1, hj, h => by
    rw [List.map_cons, List.nodup_cons] at h
    have hj' : j < r.length := by simpa using hj
    have ih := mget_erase p r j hj' h.2
    simp only [List.eraseIdx_cons_succ, List.getElem_cons_succ]
    unfold mget
    simp only [eqb8]
    by_cases hp : p = q.1
    · rw [dec_t hp]
      have : p ≠ r[j].1 := fun e => h.1 (List.mem_map.2 ⟨r[j], List.getElem_mem hj', by rw [← e, hp]⟩)
      rw [if_neg this]
    · rw [dec_f hp]; exact ih
theorem mget_at {m : MapT} {j : Nat} (hj : j < m.length) (h : (m.map (·.1)).Nodup) : mget K8 V64 m[j].1 m = some m[j].2 := by
  induction m generalizing j with
  | nil => simp at hj
  | cons q r ih =>
    rw [List.map_cons, List.nodup_cons] at h
    unfold mget
    simp only [eqb8]
    cases j with
    | zero => simp only [List.getElem_cons_zero, decide_true]
    | succ j =>
      simp only [List.getElem_cons_succ]
      have hj' : j < r.length := by simpa using hj
      rw [dec_f (fun e => h.1 (List.mem_map.2 ⟨r[j], List.getElem_mem hj', e⟩))]
      exact ih hj' h.2
theorem erase_nodup {m : MapT} (h : (m.map (·.1)).Nodup) (j : Nat) : ((m.eraseIdx j).map (·.1)).Nodup := h.sublist ((List.eraseIdx_sublist _ _).map _)
theorem labs_loop (a b : List Pair) (hl : a.length < 1000) (he : a.length = b.length) : ∀ m i, i ≤ a.length → a.length - i < m → ∃ r, F32_R29 m a b (I64 i) = some (r, ()) := by
  intro m
  induction m with
  | zero => intros; omega
  | succ m ih =>
    intro i hi hm
    rw [F32_R29_s]
    unfold F32_L29
    by_cases hlt : i < a.length
    · rw [dec_t ((i64_lt (by omega) (by omega)).2 hlt), oite_t, at_i64_lt (by omega) hlt]
      simp only [obind_s]
      rw [at_i64_lt (by omega) (show i < b.length by omega)]
      simp only [obind_s, i64_succ]
      cases (!(a[i].1 == b[i].1 && (a[i].2 == b[i].2 && true))) with
      | true => exact ⟨false, rfl⟩
      | false => rw [oite_f]; exact ih (i + 1) (by omega) (by omega)
    · rw [dec_f (fun q => hlt ((i64_lt (by omega) (by omega)).1 q)), oite_f]
      exact ⟨true, rfl⟩
theorem labs_same (n : Nat) (hn : 1000 < n) (a b : List Pair) (ha : a.length < 1000) (hb : b.length < 1000) : ∃ r, F32 n (a, b) = some (r, ()) := by
  unfold F32
  simp only
  by_cases he : a.length = b.length
  · rw [dec_t (by rw [he] : Int64.ofInt ↑a.length = Int64.ofInt ↑b.length), Bool.not_true, oite_f]
    exact labs_loop a b ha he n 0 (by omega) (by omega)
  · rw [dec_f (fun q => he ((i64_eq (by omega) (by omega)).1 q) : ¬ Int64.ofInt ↑a.length = Int64.ofInt ↑b.length), Bool.not_false, oite_t]
    exact ⟨false, rfl⟩
theorem same_spec (n : Nat) (hn : 1000 < n) (x y : ItT) (hx : Good x) (hy : Good y) :
    ∃ r, F14 n (x, y) = some (r, ()) ∧ (r = true → x.1 = y.1 ∧ (x.1 = false → prio x = prio y ∧ lasts x = lasts y ∧ spanI x = spanI y)) := by
  obtain ⟨g, o, seq, time, rule, labels, state, pr, v, own, go, ga, gb⟩ := x
  obtain ⟨g', o', seq', time', rule', labels', state', pr', v', own', go', ga', gb'⟩ := y
  have h1 := hx.labs
  have h2 := hy.labs
  dsimp only at h1 h2
  obtain ⟨r, hr⟩ := labs_same n hn labels labels' (by omega) (by omega)
  unfold F14
  dsimp only
  cases g with
  | true =>
    cases g' with
    | false => exact ⟨false, rfl, fun h => by cases h⟩
    | true =>
      rw [show (!true == true) = false from rfl, oite_f, oite_t]
      exact ⟨_, rfl, fun _ => ⟨rfl, fun h => by cases h⟩⟩
  | false =>
    cases g' with
    | true => exact ⟨false, rfl, fun h => by cases h⟩
    | false =>
      rw [show (!false == false) = false from rfl, oite_f, oite_f]
      have no : ∀ {P : Prop}, ∃ r : Bool, (some (false, ()) : Option (Bool × Unit)) = some (r, ()) ∧ (r = true → P) := ⟨false, rfl, fun h => by cases h⟩
      by_cases c1 : o = o'
      · rw [dec_t c1, oite_t]
        by_cases c2 : seq = seq'
        · rw [dec_t c2, oite_t]
          cases decide (time = time') with
          | false => exact no
          | true =>
          rw [oite_t]
          cases (rule == rule') with
          | false => exact no
          | true =>
          rw [oite_t]
          cases decide (state = state') with
          | false => exact no
          | true =>
          rw [oite_t]
          by_cases c3 : pr = pr'
          · rw [dec_t c3, oite_t]
            cases decide (v = v') with
            | false => exact no
            | true =>
            rw [oite_t]
            by_cases c4 : own = own'
            · rw [dec_t c4, oite_t, hr]
              simp only [obind_s]
              refine ⟨r, rfl, fun _ => ⟨trivial, fun _ => ⟨c3, ?_, ?_⟩⟩⟩
              · show (false || !decide (own = 0)) = (false || !decide (own' = 0)); rw [c4]
              · show (o, seq, seq) = (o', seq', seq'); rw [c1, c2]
            · rw [dec_f c4]; exact no
          · rw [dec_f c3]; exact no
        · rw [dec_f c2]; exact no
      · rw [dec_f c1]; exact no
theorem has_loop (n : Nat) (hn : 1000 < n) (after : List EnT) (hl : after.length ≤ 1000) (hg : ∀ e ∈ after, Good e.2) (x : ItT) (hx : Good x) : ∀ m i, i ≤ after.length → after.length - i < m →
    ∃ r, F35_R13 n m after (I64 after.length) (I64 i) x.1 x.2.1 x.2.2.1 x.2.2.2.1 x.2.2.2.2.1 x.2.2.2.2.2.1 x.2.2.2.2.2.2.1 x.2.2.2.2.2.2.2.1 x.2.2.2.2.2.2.2.2.1 x.2.2.2.2.2.2.2.2.2.1 x.2.2.2.2.2.2.2.2.2.2.1 x.2.2.2.2.2.2.2.2.2.2.2.1 x.2.2.2.2.2.2.2.2.2.2.2.2 = some (r, ()) ∧
      (r = true → ∃ z ∈ after, F14 n (x, z.2) = some (true, ())) ∧ (r = false → ∀ j (h : j < after.length), i ≤ j → after[j].2 ≠ x) := by
  intro m
  induction m with
  | zero => intros; omega
  | succ m ih =>
    intro i hi hm
    rw [F35_R13_s]
    unfold F35_L13
    by_cases hlt : i < after.length
    · have gi := hg _ (List.getElem_mem hlt)
      rw [dec_t ((i64_lt (by omega) (by omega)).2 hlt), oite_t, at_i64_lt (by omega) hlt]
      simp only [obind_s, Prod.eta, i64_succ]
      obtain ⟨r, e, _⟩ := same_spec n hn x after[i].2 hx gi
      rw [e]
      simp only [obind_s]
      cases r with
      | true => exact ⟨true, rfl, fun _ => ⟨_, List.getElem_mem hlt, e⟩, fun h => by cases h⟩
      | false =>
        rw [oite_f]
        obtain ⟨r, e1, e2, e3⟩ := ih (i + 1) (by omega) (by omega)
        refine ⟨r, e1, e2, fun hr j hj hij he => ?_⟩
        by_cases hji : j = i
        · subst hji
          rw [he, same_self n x (by have := hx.labs; omega) (by have := hx.labs; omega)] at e
          cases e
        · exact e3 hr j hj (by omega) he
    · rw [dec_f (fun q => hlt ((i64_lt (by omega) (by omega)).1 q)), oite_f]
      exact ⟨false, rfl, (fun h => by cases h), fun _ j hj hij => by omega⟩
theorem has_spec (n : Nat) (hn : 1000 < n) (after : List EnT) (hl : after.length ≤ 1000) (hln : after.length < n) (hg : ∀ e ∈ after, Good e.2) (x : ItT) (hx : Good x) :
    ∃ r, F35 n (after, x) = some (r, ()) ∧ (r = true → ∃ z ∈ after, F14 n (x, z.2) = some (true, ())) ∧ (r = false → ∀ z ∈ after, z.2 ≠ x) := by
  obtain ⟨r, e1, e2, e3⟩ := has_loop n hn after hl hg x hx n 0 (by omega) (by omega)
  refine ⟨r, ?_, e2, fun hr z hz => ?_⟩
  · unfold F35; exact e1
  · obtain ⟨j, hj, rfl⟩ := List.getElem_of_mem hz
    exact e3 hr j hj (by omega)
theorem kept_loop (n : Nat) (before after : List EnT) (hl : before.length ≤ 1000) (y : ItT) (K1 : ∀ x ∈ before, lasts x.2 = true → x.2.1 = false → F35 n (after, x.2) = some (true, ()))
    (K2 : ∀ x ∈ before, ∀ w ∈ before, lasts x.2 = false → lasts w.2 = false → F35 n (after, x.2) = some (true, ()) → F35 n (after, w.2) = some (false, ()) → prio w.2 ≤ prio x.2)
    (K3 : ∀ x ∈ before, x.2.1 = false → (prio x.2).toNat ≤ 7) (K4 : y.1 = true ∨ F35 n (after, y) = some (true, ())) (T : ∀ x ∈ before, ∃ r, F35 n (after, x.2) = some (r, ())) :
    ∀ m i least most, i ≤ before.length → before.length - i < m → (least = 8 ∨ ∃ x ∈ before, lasts x.2 = false ∧ F35 n (after, x.2) = some (true, ()) ∧ least = I64 (prio x.2).toNat) →
      (most = -1 ∨ ∃ w ∈ before, lasts w.2 = false ∧ F35 n (after, w.2) = some (false, ()) ∧ most = I64 (prio w.2).toNat) →
    F17_R29 n m after least most before (I64 before.length) (I64 i) y.1 y.2.1 y.2.2.1 y.2.2.2.1 y.2.2.2.2.1 y.2.2.2.2.2.1 y.2.2.2.2.2.2.1 y.2.2.2.2.2.2.2.1 y.2.2.2.2.2.2.2.2.1 y.2.2.2.2.2.2.2.2.2.1 y.2.2.2.2.2.2.2.2.2.2.1 y.2.2.2.2.2.2.2.2.2.2.2.1 y.2.2.2.2.2.2.2.2.2.2.2.2 = some (true, ()) := by
  intro m
  induction m with
  | zero => intros; omega
  | succ m ih =>
    intro i least most hi hm hL hM
    rw [F17_R29_s]
    unfold F17_L29
    by_cases hlt : i < before.length
    · have hmem := List.getElem_mem hlt
      rw [dec_t ((i64_lt (by omega) (by omega)).2 hlt), oite_t, at_i64_lt (by omega) hlt]
      simp only [obind_s, Prod.eta, i64_succ]
      rw [lasts_eq]
      simp only [obind_s]
      cases hla : lasts before[i].2 with
      | true =>
        rw [oite_t]
        cases hg : before[i].2.1 with
        | true => rw [Bool.not_true, oite_f]; exact ih (i + 1) _ _ (by omega) (by omega) hL hM
        | false =>
          rw [Bool.not_false, oite_t, K1 _ hmem hla hg]
          simp only [obind_s, Bool.not_true, oite_f]
          exact ih (i + 1) _ _ (by omega) (by omega) hL hM
      | false =>
        rw [oite_f]
        obtain ⟨r, hr⟩ := T _ hmem
        rw [hr]
        simp only [obind_s]
        cases r with
        | true =>
          rw [oite_t]
          refine ih (i + 1) _ _ (by omega) (by omega) ?_ hM
          unfold IK.minI
          split
          · exact .inr ⟨_, hmem, hla, hr, rfl⟩
          · exact hL
        | false =>
          rw [oite_f]
          refine ih (i + 1) _ _ (by omega) (by omega) hL ?_
          unfold IK.maxI
          split
          · exact .inr ⟨_, hmem, hla, hr, rfl⟩
          · exact hM
    · rw [dec_f (fun q => hlt ((i64_lt (by omega) (by omega)).1 q)), oite_f]
      have hle : most ≤ least := by
        rcases hM with rfl | ⟨w, hw, w1, w2, rfl⟩
        · rcases hL with rfl | ⟨x, hx, x1, x2, rfl⟩
          · decide
          · have := K3 x hx (event_of x1)
            rw [Int64.le_iff_toInt_le, i64_toInt (by omega)]
            show (-1 : Int) ≤ _
            omega
        · have kw := K3 w hw (event_of w1)
          rcases hL with rfl | ⟨x, hx, x1, x2, rfl⟩
          · exact (i64_le (b := 8) (by omega) (by omega)).2 (by omega)
          · have kx := K3 x hx (event_of x1)
            have := UInt8.le_iff_toNat_le.1 (K2 x hx w hw x1 w1 x2 w2)
            exact (i64_le (by omega) (by omega)).2 this
      rw [dec_t hle, oite_t]
      cases hg : y.1 with
      | true => rfl
      | false =>
        rcases K4 with h | h
        · rw [hg] at h; cases h
        · rw [oite_f, ← hg]
          simp only [Prod.eta]
          rw [h]
          rfl
theorem kept_spec (n : Nat) (before after : List EnT) (hl : before.length ≤ 1000) (hn : 1000 < n) (y : ItT) (K1 : ∀ x ∈ before, lasts x.2 = true → x.2.1 = false → F35 n (after, x.2) = some (true, ()))
    (K2 : ∀ x ∈ before, ∀ w ∈ before, lasts x.2 = false → lasts w.2 = false → F35 n (after, x.2) = some (true, ()) → F35 n (after, w.2) = some (false, ()) → prio w.2 ≤ prio x.2)
    (K3 : ∀ x ∈ before, x.2.1 = false → (prio x.2).toNat ≤ 7) (K4 : y.1 = true ∨ F35 n (after, y) = some (true, ())) (T : ∀ x ∈ before, ∃ r, F35 n (after, x.2) = some (r, ())) :
    F17 n (before, after, y) = some (true, ()) := by
  unfold F17
  exact kept_loop n before after hl y K1 K2 K3 K4 T n 0 8 (-1) (by omega) (by omega) (.inl rfl) (.inl rfl)
theorem list_take (k : Nat) (hk : k < 2 ^ 62) : ∀ (l out : List EnT), (∀ e ∈ l, 0 < e.1) → out.length ≤ k → listGo 0 (I64 k) l out = out ++ l.take (k - out.length)
  | [], out, _, _ => by simp [listGo]
  | x :: r, out, h, ho => by
    unfold listGo
    by_cases hm : k ≤ out.length
    · rw [if_pos ((i64_le (by omega) (by omega)).2 hm), show k - out.length = 0 from by omega]; simp
    · rw [if_neg (fun q => hm ((i64_le (by omega) (by omega)).1 q)), if_pos (h x (by simp)), list_take k hk r (out ++ [x]) (fun e he => h e (by simp [he])) (by simp; omega)]
      rw [show k - out.length = (k - (out ++ [x]).length) + 1 from by simp; omega, List.take_succ_cons]
      simp
theorem ack_loop (n : Nat) (hn : 50 < n) (J : _) (idx : UInt64) (sa : List UInt64) (s0 : Int64) (s2 s3 s5 : UInt64) (l : List EnT) (hl : l.length ≤ 1000) (hg : ∀ e ∈ l, Good e.2) (k : Nat) (hk : k ≤ l.length) (h1 : ∀ j (h : j < l.length), j < k → l[j].1 ≤ idx)
    (h2 : ∀ (h : k < l.length), ¬ l[k].1 ≤ idx) : ∀ m i s1, i ≤ k → l.length - i < m → ∃ u, F16_R62 n J m idx (I64 i) sa s0 s1 s2 s3 s5 l = J (I64 k) sa s0 u s2 s3 s5 l := by
  intro m
  induction m with
  | zero => intros; omega
  | succ m ih =>
    intro i s1 hi hm
    rw [F16_R62_s]
    unfold F16_L62
    by_cases hlt : i < l.length
    · obtain ⟨b1, b2⟩ := idx_i64 (l := l) hlt (by omega)
      have gi := hg _ (List.getElem_mem hlt)
      rw [dec_t ((i64_lt (by omega) (by omega)).2 hlt), oite_t, b1, oite_t, b2]
      simp only [obind_s, Prod.eta, i64_succ]
      by_cases hik : i = k
      · subst hik
        rw [dec_f (h2 hlt), oite_f]
        exact ⟨s1, rfl⟩
      · rw [dec_t (h1 i hlt (by omega)), oite_t, oite_t, size_eq n hn _ gi]
        simp only [obind_s]
        exact ih (i + 1) _ (by omega) (by omega)
    · rw [dec_f (fun q => hlt ((i64_lt (by omega) (by omega)).1 q)), oite_f]
      have : i = k := by omega
      subst this
      exact ⟨s1, rfl⟩
theorem ack_spec (n : Nat) (hn : 1000 < n) (s : SpT) (hl : s.1.2.2.2.2.length ≤ 1000) (hln : s.1.2.2.2.2.length < n) (hg : ∀ e ∈ s.1.2.2.2.2, Good e.2) (idx : UInt64) (hi1 : idx < s.1.2.2.1) (hi2 : s.1.2.2.2.1 < idx) (k : Nat) (hk : k ≤ s.1.2.2.2.2.length)
    (h1 : ∀ j (h : j < s.1.2.2.2.2.length), j < k → s.1.2.2.2.2[j].1 ≤ idx) (h2 : ∀ (h : k < s.1.2.2.2.2.length), ¬ s.1.2.2.2.2[k].1 ≤ idx) :
    ∃ c u, F16 n (some s, idx) = some (c, some ((s.1.1, u, s.1.2.2.1, idx, s.1.2.2.2.2.drop k), s.2)) := by
  obtain ⟨⟨s0, s1, s2, s3, l⟩, sa, s5⟩ := s
  dsimp only at hl hln hg hi1 hi2 hk h1 h2 ⊢
  unfold F16
  simp only [oelim_s, ojoinA_eq]
  rw [dec_f (by rw [UInt64.not_le]; exact hi1), oite_f, dec_f (by rw [UInt64.not_le]; exact hi2), oite_f]
  obtain ⟨u, e⟩ := ack_loop n (by omega) (F16_J31 n) idx sa s0 s2 idx s5 l hl hg k hk h1 h2 n 0 s1 (by omega) (by omega)
  refine ⟨0, u, ?_⟩
  rw [show (0 : Int64) = I64 0 from rfl, e]
  unfold F16_J31
  have ek := i64_toInt (k := k) (by omega)
  rw [ek]
  simp only [Int.toNat_natCast]
  rw [dec_t (by omega), ble_t hk]
  simp only [Bool.and_self, oite_t]
  have et : List.take (l.length - k) (List.drop k l) = List.drop k l := List.take_of_length_le (by simp)
  rw [et]
  have e33 : F33 n (List.drop k l) = some (List.drop k l, ()) := by
    unfold F33 cloneF
    rw [ble_t (by unfold maxCells; rw [List.length_drop]; omega), oite_t]
  rw [e33]
  rfl
end Go.Proofs.Ytblldmpkljcnjaa
