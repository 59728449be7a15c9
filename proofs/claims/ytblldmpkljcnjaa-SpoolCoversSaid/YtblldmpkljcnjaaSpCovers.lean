/- The law SpoolCovers. -/
import Derived.Test.YtblldmpkljcnjaaSpCov
open Go Go.Sx
namespace Go.Proofs.Ytblldmpkljcnjaa
theorem four_loop (n : Nat) (rec : _) (acks : List UInt8) (e : Int64) (before after : List EnT) (t : List SmT) (t1 t2 : Int64) (s : SpT) (hh32 : s.2.1.length = 32) (first highs : MapT) (y : ItT) (hm : mg highs = hh s.2.1)
    (hk : F17 n (before, after, y) = some (true, ())) (hrec : rec acks e t t1 (t2 + 1) (some s) first = some (true, ())) : ∀ m k, k ≤ 4 → 4 - k < m →
    F4_R16441341 n rec m acks e before after t t1 t2 (UInt8.ofNat k) (some s) first y.1 y.2.1 y.2.2.1 y.2.2.2.1 y.2.2.2.2.1 y.2.2.2.2.2.1 y.2.2.2.2.2.2.1 y.2.2.2.2.2.2.2.1 y.2.2.2.2.2.2.2.2.1 y.2.2.2.2.2.2.2.2.2.1 y.2.2.2.2.2.2.2.2.2.2.1 y.2.2.2.2.2.2.2.2.2.2.2.1 y.2.2.2.2.2.2.2.2.2.2.2.2 highs = some (true, ()) := by
  intro m
  induction m with
  | zero => intros; omega
  | succ m ih =>
    intro k hk4 hm4
    rw [F4_R16441341_s]
    unfold F4_L16441341
    have hkn : (UInt8.ofNat k).toNat = k := by rw [UInt8.toNat_ofNat']; omega
    by_cases hlt : k < 4
    · rw [show decide (UInt8.ofNat k < 4) = true from dec_t (by rw [UInt8.lt_iff_toNat_lt, hkn]; exact hlt), oite_t, high_spec n s hh32 _ (by omega)]
      simp only [obind_s]
      have e1 : Option.getD (mget K8 V64 (UInt8.ofNat k) highs) 0 = s.2.1[(UInt8.ofNat k).toNat]'(by omega) := by
        have := congrFun hm (UInt8.ofNat k)
        unfold hh at this
        rw [List.getElem?_eq_getElem (by omega)] at this
        exact this
      rw [dec_t e1, Bool.not_true, oite_f]
      have e2 : UInt8.ofNat k + 1 = UInt8.ofNat (k + 1) := by
        apply UInt8.toNat_inj.1
        rw [UInt8.toNat_add, hkn, UInt8.toNat_ofNat']
        have : (1 : UInt8).toNat = 1 := rfl
        omega
      rw [e2]
      exact ih (k + 1) (by omega) (by omega)
    · rw [show decide (UInt8.ofNat k < 4) = false from dec_f (by rw [UInt8.lt_iff_toNat_lt, hkn]; exact hlt), oite_f]
      simp only [Prod.eta]
      rw [hk]
      simp only [obind_s, Bool.not_true, oite_f]
      exact hrec
theorem chain_loop (n : Nat) (hn : 1001 < n) (rec : _) (acks : List UInt8) (e : Int64) (before after : List EnT) (t : List SmT) (t1 t2 : Int64) (s : SpT) (hh32 : s.2.1.length = 32) (first : MapT) (y : ItT)
    (hk : F17 n (before, after, y) = some (true, ())) (hrec : rec acks e t t1 (t2 + 1) (some s) first = some (true, ())) (l : List EnT) (hl : l.length ≤ 1000) : ∀ m i highs, i ≤ l.length → l.length - i < m →
      okH (mg highs) (spans (l.drop i)) → finH (mg highs) (spans (l.drop i)) = hh s.2.1 →
    F4_R8220669 n rec m acks e before after t t1 t2 l (I64 l.length) (I64 i) (some s) first y.1 y.2.1 y.2.2.1 y.2.2.2.1 y.2.2.2.2.1 y.2.2.2.2.2.1 y.2.2.2.2.2.2.1 y.2.2.2.2.2.2.2.1 y.2.2.2.2.2.2.2.2.1 y.2.2.2.2.2.2.2.2.2.1 y.2.2.2.2.2.2.2.2.2.2.1 y.2.2.2.2.2.2.2.2.2.2.2.1 y.2.2.2.2.2.2.2.2.2.2.2.2 highs = some (true, ()) := by
  intro m
  induction m with
  | zero => intros; omega
  | succ m ih =>
    intro i highs hi hm h1 h2
    rw [F4_R8220669_s]
    unfold F4_L8220669
    by_cases hlt : i < l.length
    · rw [dec_t ((i64_lt (by omega) (by omega)).2 hlt), oite_t, at_i64_lt (by omega) hlt]
      simp only [obind_s, Prod.eta, i64_succ]
      rw [span_eq]
      simp only [obind_s]
      rw [List.drop_eq_getElem_cons hlt] at h1 h2
      have h1 : (spanI l[i].2).2.1 = mg highs (spanI l[i].2).1 + 1 ∧ okH (updH (mg highs) (spanI l[i].2).1 (spanI l[i].2).2.2) (spans (l.drop (i + 1))) := h1
      have h2 : finH (updH (mg highs) (spanI l[i].2).1 (spanI l[i].2).2.2) (spans (l.drop (i + 1))) = hh s.2.1 := h2
      rw [dec_t (show (spanI l[i].2).2.1 = Option.getD (mget (VT.one (CT.int IntKind.u8)) (VT.one (CT.int IntKind.u64)) (spanI l[i].2).1 highs) 0 + 1 from h1.1), Bool.not_true, oite_f]
      refine ih (i + 1) _ (by omega) (by omega) ?_ ?_
      · rw [mg_put]; exact h1.2
      · rw [mg_put]; exact h2
    · rw [dec_f (fun q => hlt ((i64_lt (by omega) (by omega)).1 q)), oite_f]
      rw [List.drop_eq_nil_of_le (by omega)] at h2
      have := four_loop n rec acks e before after t t1 t2 s hh32 first highs y h2 hk hrec n 0 (by omega) (by omega)
      exact this
theorem copy_loop (n : Nat) (hn : 1001 < n) (rec : _) (acks : List UInt8) (e : Int64) (before after : List EnT) (t : List SmT) (t1 t2 : Int64) (s : SpT) (N : Nat) (hN : N ≤ 900) (first : MapT) (hs : CovOK N s first) (y : ItT)
    (hk : F17 n (before, after, y) = some (true, ())) (hrec : rec acks e t t1 (t2 + 1) (some s) first = some (true, ())) : ∀ m (highs tr : MapT), tr.length < m → (tr.map (·.1)).Nodup →
      (∀ o, mg first o = Option.getD (mget K8 V64 o tr) (mg highs o)) →
    F4_R4110333 n rec m acks e before after t t1 t2 (some s) y.1 y.2.1 y.2.2.1 y.2.2.2.1 y.2.2.2.2.1 y.2.2.2.2.2.1 y.2.2.2.2.2.2.1 y.2.2.2.2.2.2.2.1 y.2.2.2.2.2.2.2.2.1 y.2.2.2.2.2.2.2.2.2.1 y.2.2.2.2.2.2.2.2.2.2.1 y.2.2.2.2.2.2.2.2.2.2.2.1 y.2.2.2.2.2.2.2.2.2.2.2.2 highs first tr = some (true, ()) := by
  have hl := hs.ok.len
  intro m
  induction m with
  | zero => intros; omega
  | succ m ih =>
    intro highs tr hm hnd hgo
    rw [F4_R4110333_s]
    unfold F4_L4110333
    by_cases h0 : 0 < tr.length
    · rw [show Nat.blt 0 tr.length = true from by rw [Nat.blt_eq]; exact h0, oite_t]
      refine oallN_mk h0 fun j hj => ?_
      rw [List.getElem?_eq_getElem hj]
      simp only [obind_s]
      refine ih _ _ (by rw [List.length_eraseIdx]; split <;> omega) (erase_nodup hnd j) fun o => ?_
      rw [hgo o, mget_erase o tr j hj hnd]
      show _ = Option.getD _ (mg (mput K8 V64 tr[j].1 tr[j].2 highs) o)
      rw [mg_put]
      unfold updH
      by_cases ho : o = tr[j].1
      · rw [if_pos ho, if_pos ho, ho, mget_at hj hnd]; rfl
      · rw [if_neg ho, if_neg ho]
    · have h0 : tr = [] := List.length_eq_zero_iff.1 (by omega)
      subst h0
      have hmg : mg highs = mg first := by
        funext o
        rw [hgo o]; rfl
      rw [show Nat.blt 0 ([] : MapT).length = false from rfl, oite_f, list_spec n hn s (by omega) hs.ok.good]
      simp only [obind_s]
      rw [show listGo 0 1000 s.1.2.2.2.2 [] = s.1.2.2.2.2 from (list_all 1000 (by omega) s.1.2.2.2.2 [] hs.ok.pos (by simp; omega)).trans (List.nil_append _)]
      have := chain_loop n hn rec acks e before after t t1 t2 s hs.ok.highs first y hk hrec s.1.2.2.2.2 (by omega) n 0 highs (by omega) (by omega) (by rw [List.drop_zero, hmg]; exact hs.chain) (by rw [List.drop_zero, hmg]; exact hs.fin)
      exact this
theorem tail_ok (n : Nat) (hn : 1001 < n) (rec : _) (acks : List UInt8) (e : Int64) (before after : List EnT) (t : List SmT) (t1 t2 : Int64) (s : SpT) (N : Nat) (hN : N ≤ 900) (first : MapT) (hf : first.length < n) (hs : CovOK N s first) (y : ItT)
    (hk : F17 n (before, after, y) = some (true, ())) (hrec : rec acks e t t1 (t2 + 1) (some s) first = some (true, ())) :
    F4_J256895 n rec acks e before after t t1 t2 (some s) first y.1 y.2.1 y.2.2.1 y.2.2.2.1 y.2.2.2.2.1 y.2.2.2.2.2.1 y.2.2.2.2.2.2.1 y.2.2.2.2.2.2.2.1 y.2.2.2.2.2.2.2.2.1 y.2.2.2.2.2.2.2.2.2.1 y.2.2.2.2.2.2.2.2.2.2.1 y.2.2.2.2.2.2.2.2.2.2.2.1 y.2.2.2.2.2.2.2.2.2.2.2.2 = some (true, ()) := by
  unfold F4_J256895
  exact copy_loop n hn rec acks e before after t t1 t2 s N hN first hs y hk hrec n [] first hf hs.keys fun o => by
    unfold mg
    cases mget K8 V64 o first <;> rfl
def firstGo : List EnT → MapT → MapT
  | [], f => f
  | z :: r, f => firstGo r (mput K8 V64 (spanI z.2).1 (spanI z.2).2.2 f)
theorem firstGo_mg : ∀ (l : List EnT) (f : MapT), mg (firstGo l f) = finH (mg f) (spans l)
  | [], f => rfl
  | z :: r, f => by
    unfold firstGo
    rw [firstGo_mg r, mg_put]; rfl
theorem put_len (o : UInt8) (v : UInt64) : ∀ (m : MapT), (mput K8 V64 o v m).length ≤ m.length + 1
  | [] => by simp [mput]
  | q :: r => by
    have := put_len o v r
    unfold mput
    simp only [eqb8]
    cases decide (o = q.1) with
    | true => simp
    | false => simp only [List.length_cons]; omega
theorem firstGo_keys : ∀ (l : List EnT) (f : MapT), (f.map (·.1)).Nodup → ((firstGo l f).map (·.1)).Nodup ∧ (firstGo l f).length ≤ f.length + l.length
  | [], f, h => ⟨h, by simp [firstGo]⟩
  | z :: r, f, h => by
    obtain ⟨a1, a2⟩ := firstGo_keys r (mput K8 V64 (spanI z.2).1 (spanI z.2).2.2 f) (keys_put _ _ f h).1
    have := put_len (spanI z.2).1 (spanI z.2).2.2 f
    refine ⟨a1, ?_⟩
    unfold firstGo
    simp only [List.length_cons]; omega
theorem pair_lt {l : List Nat} (h : l.Pairwise (· < ·)) {i j : Nat} (hi : i < l.length) (hj : j < l.length) (hij : i < j) : l[i] < l[j] := List.pairwise_iff_getElem.1 h i j hi hj hij
theorem idx_lt {l : List EnT} (h : (idxs l).Pairwise (· < ·)) {i j : Nat} (hi : i < l.length) (hj : j < l.length) (hij : i < j) : l[i].1 < l[j].1 := by
  have := pair_lt h (i := i) (j := j) (by unfold idxs; simpa using hi) (by unfold idxs; simpa using hj) hij
  unfold idxs at this
  simp only [List.getElem_map] at this
  exact UInt64.lt_iff_toNat_lt.2 this
theorem ack_cov (n : Nat) (hn : 1001 < n) (s : SpT) (N : Nat) (hN : N ≤ 900) (first : MapT) (hs : CovOK N s first) (k : Nat) (hk : k < s.1.2.2.2.2.length) :
    ∃ c s', F16 n (some s, s.1.2.2.2.2[k].1) = some (c, some s') ∧ CovOK N s' (firstGo (s.1.2.2.2.2.take (k + 1)) first) := by
  have hl := hs.ok.len
  have hmem := List.getElem_mem hk
  obtain ⟨c, u, e⟩ := ack_spec n (by omega) s (by omega) (by omega) hs.ok.good s.1.2.2.2.2[k].1 (hs.upp _ hmem) (hs.low _ hmem) (k + 1) (by omega)
    (fun j hj hjk => by
      rcases Nat.lt_or_ge j k with q | q
      · exact UInt64.le_of_lt (idx_lt hs.sorted hj hk q)
      · have : j = k := by omega
        subst this; exact UInt64.le_refl _)
    (fun h => by rw [UInt64.not_le]; exact idx_lt hs.sorted hk h (by omega))
  refine ⟨c, _, e, ?_⟩
  have hsp : spans s.1.2.2.2.2 = spans (s.1.2.2.2.2.take (k + 1)) ++ spans (s.1.2.2.2.2.drop (k + 1)) := by
    unfold spans; rw [← List.map_append, List.take_append_drop]
  have hch := hs.chain
  have hfin := hs.fin
  rw [hsp] at hch hfin
  rw [okH_append] at hch
  rw [finH_append] at hfin
  have hd : ∀ z ∈ s.1.2.2.2.2.drop (k + 1), z ∈ s.1.2.2.2.2 := fun z hz => List.mem_of_mem_drop hz
  refine ⟨⟨?_, fun z hz => hs.ok.good z (hd z hz), hs.ok.highs, hs.ok.next, fun z hz => hs.ok.pos z (hd z hz)⟩, (firstGo_keys _ first hs.keys).1, ?_, ?_, fun z hz => hs.upp z (hd z hz), hs.upp _ hmem, ?_, ?_, fun z hz => hs.top z (hd z hz), fun z hz => hs.prio z (hd z hz)⟩
  · show (s.1.2.2.2.2.drop (k + 1)).length ≤ N
    rw [List.length_drop]; omega
  · show (idxs (s.1.2.2.2.2.drop (k + 1))).Pairwise (· < ·)
    exact hs.sorted.sublist ((List.drop_sublist _ _).map _)
  · intro z hz
    show s.1.2.2.2.2[k].1 < z.1
    obtain ⟨j, hj, rfl⟩ := List.getElem_of_mem hz
    rw [List.getElem_drop]
    exact idx_lt hs.sorted hk _ (by omega)
  · show okH (mg (firstGo (s.1.2.2.2.2.take (k + 1)) first)) (spans (s.1.2.2.2.2.drop (k + 1)))
    rw [firstGo_mg]; exact hch.2
  · show finH (mg (firstGo (s.1.2.2.2.2.take (k + 1)) first)) (spans (s.1.2.2.2.2.drop (k + 1))) = hh s.2.1
    rw [firstGo_mg]; exact hfin
theorem pref_loop (n : Nat) (J : _) (acks : List UInt8) (e : Int64) (before after : List EnT) (t : List SmT) (t1 t2 : Int64) (s : SpT) (y : ItT) (l : List EnT) (hl : l.length ≤ 1000) (h0 : 0 < l.length)
    (c : Int64) (s' : SpT) (hack : F16 n (some s, (l[l.length - 1]'(by omega)).1) = some (c, some s')) : ∀ m i first, i ≤ l.length → l.length - i < m →
    F4_R65765209 n J m acks e before after l t t1 t2 l (I64 l.length) (I64 i) (some s) first y.1 y.2.1 y.2.2.1 y.2.2.2.1 y.2.2.2.2.1 y.2.2.2.2.2.1 y.2.2.2.2.2.2.1 y.2.2.2.2.2.2.2.1 y.2.2.2.2.2.2.2.2.1 y.2.2.2.2.2.2.2.2.2.1 y.2.2.2.2.2.2.2.2.2.2.1 y.2.2.2.2.2.2.2.2.2.2.2.1 y.2.2.2.2.2.2.2.2.2.2.2.2 = J acks e before after t t1 t2 (some s') (firstGo (l.drop i) first) y.1 y.2.1 y.2.2.1 y.2.2.2.1 y.2.2.2.2.1 y.2.2.2.2.2.1 y.2.2.2.2.2.2.1 y.2.2.2.2.2.2.2.1 y.2.2.2.2.2.2.2.2.1 y.2.2.2.2.2.2.2.2.2.1 y.2.2.2.2.2.2.2.2.2.2.1 y.2.2.2.2.2.2.2.2.2.2.2.1 y.2.2.2.2.2.2.2.2.2.2.2.2 := by
  intro m
  induction m with
  | zero => intros; omega
  | succ m ih =>
    intro i first hi hm
    rw [F4_R65765209_s]
    unfold F4_L65765209
    by_cases hlt : i < l.length
    · rw [dec_t ((i64_lt (by omega) (by omega)).2 hlt), oite_t, at_i64_lt (by omega) hlt]
      simp only [obind_s, Prod.eta, i64_succ]
      rw [span_eq]
      simp only [obind_s]
      rw [List.drop_eq_getElem_cons hlt]
      exact ih (i + 1) _ (by omega) (by omega)
    · rw [dec_f (fun q => hlt ((i64_lt (by omega) (by omega)).1 q)), oite_f, List.drop_eq_nil_of_le (by omega)]
      rw [show Int64.ofInt ↑l.length - 1 = I64 (l.length - 1) from i64_sub (a := l.length) (b := 1) (by omega), at_i64_lt (by omega) (show l.length - 1 < l.length by omega)]
      simp only [obind_s]
      rw [hack]
      rfl
theorem cov_loop (n : Nat) (hn : 1001 < n) (acks : List UInt8) (ha : acks.length < 2 ^ 63) (items : List SmT) (hi : items.length < 2 ^ 63) : ∀ m i N (s : SpT) (first : MapT), i ≤ items.length → items.length - i < m → CovOK N s first → N ≤ i → i ≤ 81 → first.length ≤ 3 * i →
    F4_R125 n m acks 0 items (I64 items.length) (I64 i) (some s) first = some (true, ()) := by
  intro m
  induction m with
  | zero => intros; omega
  | succ m ih =>
    intro i N s first hil hm hs hN h81 hfl
    have hlen := hs.ok.len
    rw [F4_R125_s]
    unfold F4_L125
    by_cases hlt : i < items.length
    · rw [dec_t ((i64_lt (by omega) (by omega)).2 hlt), oite_t, at_i64_lt (by omega) hlt]
      simp only [obind_s, Prod.eta]
      by_cases h80 : 80 < i
      · rw [show decide (80 < I64 i) = true from dec_t ((i64_lt (a := 80) (by omega) (by omega)).2 h80), oite_t]; rfl
      · rw [show decide (80 < I64 i) = false from dec_f fun q => h80 ((i64_lt (a := 80) (by omega) (by omega)).1 q), oite_f]
        obtain ⟨x, yy, high, hx, e1, e2, e3, hy⟩ := step_spec n hn s N hs.ok (by omega) items[i]
        have hgood := nextY_good hx.good (s.2.1[(items[i].2.1 % 4).toNat]'(by have := mod4_lt items[i].2.1; have := hs.ok.highs; omega)) (UInt64.ofInt ↑(UInt16.toNat (items[i].2.2.2.2.2.1 % 3)))
        generalize nextY x (s.2.1[(items[i].2.1 % 4).toNat]'(by have := mod4_lt items[i].2.1; have := hs.ok.highs; omega)) (UInt64.ofInt ↑(UInt16.toNat (items[i].2.2.2.2.2.1 % 3))) = y at e2 e3 hy hgood
        have all : ∀ (N' : Nat) (f' : MapT) (z : SpT), CovOK N' z f' → N' ≤ 100 → F12 n (some z, 0, 1000) = some (z.1.2.2.2.2, some z) := fun N' f' z hz hN' => by
          have := hz.ok.len
          rw [list_spec n hn z (by omega) hz.ok.good]
          rw [show listGo 0 1000 z.1.2.2.2.2 [] = z.1.2.2.2.2 from (list_all 1000 (by omega) z.1.2.2.2.2 [] hz.ok.pos (by simp; omega)).trans (List.nil_append _)]
        rw [e2]
        simp only [obind_s]
        rw [all N first s hs (by omega)]
        simp only [obind_s]
        rw [e3]
        simp only [obind_s]
        obtain ⟨pi, pf, pe, s', rfl, hput⟩ := hy
        rcases hput with ⟨q1, q2, rfl⟩ | ⟨q1, l1, rD, hp⟩
        · dsimp only
          rw [all N first s' hs (by omega)]
          simp only [obind_s]
          rw [dec_f q1, Bool.not_false, oite_t]
          simp only [decide_true]
          rw [Bool.not_true, oite_f, dec_t q2, Bool.not_true, oite_f, i64_succ]
          exact ih (i + 1) N s' first (by omega) (by omega) hs (by omega) (by omega) (by omega)
        · have hs' := put1_cov hs hgood hp
          have hl' := hs'.ok.len
          have hkept := put1_kept hs (by omega) hgood hp n hn
          dsimp only
          rw [all (N + 1) first s' hs' (by omega)]
          simp only [obind_s, ojoinA_eq]
          rw [dec_t q1, Bool.not_true, oite_f]
          have hJ : ∀ (s2 : SpT) (first2 : MapT), CovOK (N + 1) s2 first2 → first2.length ≤ 3 * (i + 1) →
              F4_J256895 n (F4_R125 n m) acks 0 s.1.2.2.2.2 s'.1.2.2.2.2 items (I64 items.length) (I64 i) (some s2) first2 y.1 y.2.1 y.2.2.1 y.2.2.2.1 y.2.2.2.2.1 y.2.2.2.2.2.1 y.2.2.2.2.2.2.1 y.2.2.2.2.2.2.2.1 y.2.2.2.2.2.2.2.2.1 y.2.2.2.2.2.2.2.2.2.1 y.2.2.2.2.2.2.2.2.2.2.1 y.2.2.2.2.2.2.2.2.2.2.2.1 y.2.2.2.2.2.2.2.2.2.2.2.2 = some (true, ()) := fun s2 first2 h2 hf2 =>
            tail_ok n hn (F4_R125 n m) acks 0 _ _ items _ _ s2 (N + 1) (by omega) first2 (by omega) h2 y hkept (by
              rw [i64_succ]
              exact ih (i + 1) (N + 1) s2 first2 (by omega) (by omega) h2 (by omega) (by omega) hf2)
          by_cases hac : i < acks.length
          · rw [show decide (I64 i < Int64.ofInt ↑acks.length) = true from dec_t ((i64_lt (by omega) (by omega)).2 hac), oite_t, at_i64_lt (by omega) hac]
            simp only [obind_s]
            cases decide (acks[i] % 4 = 0) with
            | false => rw [oite_f]; exact hJ s' first hs' (by omega)
            | true =>
              rw [oite_t]
              have hm3 : (acks[i] / 4 % 3).toNat < 3 := by rw [UInt8.toNat_mod]; exact Nat.mod_lt _ (by decide)
              rw [show (1 : Int64) + Int64.ofInt ↑(UInt8.toNat (acks[i] / 4 % 3)) = I64 (1 + (acks[i] / 4 % 3).toNat) from i64_add 1 _]
              generalize (acks[i] / 4 % 3).toNat = d at hm3
              rw [list_spec n hn s' (by omega) hs'.ok.good]
              simp only [obind_s]
              rw [show listGo 0 (I64 (1 + d)) s'.1.2.2.2.2 [] = s'.1.2.2.2.2.take (1 + d) from (list_take (1 + d) (by omega) s'.1.2.2.2.2 [] hs'.ok.pos (by simp)).trans (List.nil_append _)]
              by_cases h0 : 0 < (s'.1.2.2.2.2.take (1 + d)).length
              · rw [show decide (0 < Int64.ofInt ↑(s'.1.2.2.2.2.take (1 + d)).length) = true from dec_t ((i64_lt (a := 0) (by omega) (by rw [List.length_take]; omega)).2 h0), oite_t]
                have hk : (s'.1.2.2.2.2.take (1 + d)).length - 1 < s'.1.2.2.2.2.length := by rw [List.length_take] at h0 ⊢; omega
                obtain ⟨c, s2, eack, h2⟩ := ack_cov n hn s' (N + 1) (by omega) first hs' _ hk
                have hlast : (s'.1.2.2.2.2.take (1 + d))[(s'.1.2.2.2.2.take (1 + d)).length - 1]'(by omega) = s'.1.2.2.2.2[(s'.1.2.2.2.2.take (1 + d)).length - 1] := List.getElem_take ..
                have htake : s'.1.2.2.2.2.take ((s'.1.2.2.2.2.take (1 + d)).length - 1 + 1) = s'.1.2.2.2.2.take (1 + d) := by
                  rw [show (s'.1.2.2.2.2.take (1 + d)).length - 1 + 1 = (s'.1.2.2.2.2.take (1 + d)).length from by omega, List.length_take]
                  rcases Nat.le_total (1 + d) s'.1.2.2.2.2.length with q | q
                  · rw [Nat.min_eq_left q]
                  · rw [Nat.min_eq_right q, List.take_of_length_le (Nat.le_refl _), List.take_of_length_le q]
                rw [htake] at h2
                have := pref_loop n (F4_J256895 n (F4_R125 n m)) acks 0 s.1.2.2.2.2 s'.1.2.2.2.2 items (I64 items.length) (I64 i) s' y (s'.1.2.2.2.2.take (1 + d)) (by rw [List.length_take]; omega) h0 c s2 (by rw [hlast]; exact eack) n 0 first (by omega) (by rw [List.length_take]; omega)
                refine Eq.trans this ?_
                rw [List.drop_zero]
                have hkeys := (firstGo_keys (s'.1.2.2.2.2.take (1 + d)) first hs'.keys).2
                exact hJ s2 _ h2 (by rw [List.length_take] at hkeys; omega)
              · rw [show decide (0 < Int64.ofInt ↑(s'.1.2.2.2.2.take (1 + d)).length) = false from dec_f fun q => h0 ((i64_lt (a := 0) (by omega) (by rw [List.length_take]; omega)).1 q), oite_f]
                exact hJ s' first hs' (by omega)
          · rw [show decide (I64 i < Int64.ofInt ↑acks.length) = false from dec_f fun q => hac ((i64_lt (by omega) (by omega)).1 q), oite_f]
            exact hJ s' first hs' (by omega)
    · rw [dec_f (fun q => hlt ((i64_lt (by omega) (by omega)).1 q)), oite_f]; rfl
theorem new_cov (q : Int64) : CovOK 0 ((q, 0, 1, 0, []), List.replicate 32 0, 0) [] := by
  refine ⟨new_ok q, by simp, by simp [idxs], by simp, by simp, by show (0 : UInt64) < 1; decide, trivial, ?_, (fun e he => by cases he), (fun e he => by cases he)⟩
  funext o
  show (0 : UInt64) = hh (List.replicate 32 0) o
  unfold hh
  rw [List.getElem?_replicate]
  split <;> rfl
theorem covers_true : ∀ x : sig4.In, PTys.fits sig4.ps x → ∃ n y, F4 n x = some y ∧ PTys.hd (.one (.c .bool)) .nil y.1 = true := by
  rintro ⟨q, items, acks⟩ hfit
  have hi := hfit.2.1
  have ha := hfit.2.2.1
  simp only [PTy.fits, CTs.fits, CT.fits] at hi ha
  have hi : items.length < 2 ^ 63 := hi.1
  have ha : acks.length < 2 ^ 63 := ha.1
  generalize hn : items.length + 1100 + 100 = n
  refine ⟨n, (true, ()), ?_, rfl⟩
  unfold F4
  rw [← hn, awake, hn, obind_s]
  simp only [Bool.not_true, oite_f]
  obtain ⟨q1, q2⟩ := quota_ok q 300 (by decide)
  rw [new_eq n _ q1 q2]
  simp only [obind_s]
  exact cov_loop n (by omega) acks ha items hi n 0 0 _ [] (by omega) (by omega) (new_cov _) (by omega) (by omega) (by simp)
end Go.Proofs.Ytblldmpkljcnjaa
