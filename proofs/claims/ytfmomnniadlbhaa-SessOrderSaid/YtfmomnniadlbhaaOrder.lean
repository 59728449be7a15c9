/- A link: what holds at each of its steps. -/
import Derived.Test.YtfmomnniadlbhaaOut
import Derived.Test.YtfmomnniadlbhaaDo
import Derived.Test.YtfmomnniadlbhaaOrdF
open Go Go.Sx
namespace Go.Proofs.Ytfmomnniadlbhaa
abbrev InT := UInt8 × UInt8 × Int64 × UInt64 × UInt64 × Option Rc.RecT
abbrev mkI (w : Int64) (life ep : UInt64) (rc : Rc.RecT) : InT := (0, 1, w, life, ep, some rc)
abbrev ackF (ep cum bits life : UInt64) : FrT := (2, 0, 1, ep, 0, false, 0, 0, 0, [], [], 0, 0, 0, 0, 0, 0, 0, cum, bits, life)
abbrev Gh := UInt64 → List ItT
structure IOK (put : List ItT) (x : ItT) : Prop where
  good : Good x
  chk : itCheck x = 0
  org4 : (org x).toNat < 4
  was : x.1 = true ∨ x ∈ put
theorem IOK.mono {a b : List ItT} {x : ItT} (h : IOK a x) (hs : ∀ y ∈ a, y ∈ b) : IOK b x := ⟨h.good, h.chk, h.org4, h.was.imp id (hs x)⟩
def Del (G : Gh) (H : HN) (e : UInt64) (c : Nat) : Prop := ∀ q, q < c → ∃ x, (G e)[q]? = some x ∧ top x ≤ H (org x)
def FrOK (G : Gh) (H : HN) (cur : Nat) (f : FrT) : Prop :=
  (∃ ep sq x, f = dataF ep sq x ∧ 0 < ep ∧ ep.toNat ≤ cur ∧ 1 ≤ sq.toNat ∧ (G ep)[sq.toNat - 1]? = some x) ∨
  (∃ ep cum bits life, f = ackF ep cum bits life ∧ 0 < ep ∧ ep.toNat ≤ cur ∧ Del G H ep cum.toNat)
structure RcOK (G : Gh) (H : HN) (w : Int64) (ep : UInt64) (rc : Rc.RecT) : Prop where
  win : rc.1 = w
  one : 1 ≤ rc.2.1.toNat
  del : Del G H ep (rc.2.1.toNat - 1)
  held : ∀ p ∈ rc.2.2.1, 1 ≤ p.1.toNat ∧ (G ep)[p.1.toNat - 1]? = some p.2
  fine : Rc.Fine w.toInt.toNat rc.2.1 rc.2.2.1
structure SendOK (Gc : List ItT) (w : Int64) (sd : SndT) (l : List EnT) : Prop where
  win : sd.1 = w
  tms : sd.2.1 = 1 ∧ sd.2.2.1 = 4
  len : (flS sd).length ≤ l.length
  few : (flS sd).length ≤ w.toInt.toNat
  idx : (prs (flS sd)).map (·.2) = (l.take (flS sd).length).map (·.1)
  pre : ∃ pre, Gc = pre ++ items (l.take (flS sd).length) ∧ (prs (flS sd)).map (·.1.toNat) = List.range' (pre.length + 1) (flS sd).length
  next : sd.2.2.2.2.1.toNat = Gc.length + 1
structure GOK (put : List ItT) (G : Gh) (H : HN) (cur : Nat) : Prop where
  ch : ∀ e, ChN H (G e)
  none : ∀ e : UInt64, cur < e.toNat → G e = []
  it : ∀ e, ∀ x ∈ G e, IOK put x
  len : ∀ e, (G e).length ≤ 2 ^ 41
def GLe (G G' : Gh) : Prop := ∀ (e : UInt64) (q : Nat) (x : ItT), (G e)[q]? = some x → (G' e)[q]? = some x
theorem GLe.refl (G : Gh) : GLe G G := fun _ _ _ h => h
theorem Del.mono {G G' : Gh} {H H' : HN} {e : UInt64} {c : Nat} (h : Del G H e c) (hg : GLe G G') (hh : HLe H H') : Del G' H' e c := fun q hq => by
  obtain ⟨x, h1, h2⟩ := h q hq
  exact ⟨x, hg _ _ _ h1, Nat.le_trans h2 (hh _)⟩
theorem FrOK.mono {G G' : Gh} {H H' : HN} {cur cur' : Nat} {f : FrT} (h : FrOK G H cur f) (hg : GLe G G') (hh : HLe H H') (hc : cur ≤ cur') : FrOK G' H' cur' f := by
  rcases h with ⟨ep, sq, x, h1, h2, h3, h4, h5⟩ | ⟨ep, cum, bits, life, h1, h2, h3, h4⟩
  · exact .inl ⟨ep, sq, x, h1, h2, by omega, h4, hg _ _ _ h5⟩
  · exact .inr ⟨ep, cum, bits, life, h1, h2, by omega, h4.mono hg hh⟩
theorem RcOK.mono {G G' : Gh} {H H' : HN} {w : Int64} {ep : UInt64} {rc : Rc.RecT} (h : RcOK G H w ep rc) (hg : GLe G G') (hh : HLe H H') : RcOK G' H' w ep rc :=
  ⟨h.win, h.one, h.del.mono hg hh, fun p hp => ⟨(h.held p hp).1, hg _ _ _ (h.held p hp).2⟩, h.fine⟩
theorem GOK.mono {put put' : List ItT} {G : Gh} {H H' : HN} {cur cur' : Nat} (h : GOK put G H cur) (hp : ∀ y ∈ put, y ∈ put') (hh : HLe H H') (hc : cur ≤ cur') : GOK put' G H' cur' :=
  ⟨fun e => (h.ch e).mono hh, fun e he => h.none e (by omega), fun e x hx => (h.it e x hx).mono hp, h.len⟩
theorem sorted_pair {l : List EnT} (h : (idxs l).Pairwise (· < ·)) : l.Pairwise fun a b => a.1 < b.1 := by
  unfold idxs at h
  rw [List.pairwise_map] at h
  exact h.imp fun q => UInt64.lt_iff_toNat_lt.2 q
theorem listGo_drop {b : UInt64} {many : Int64} : ∀ (l out : List EnT) (k : Nat), (∀ j (h : j < l.length), j < k → l[j].1 ≤ b) → (∀ j (h : j < l.length), k ≤ j → b < l[j].1) → ∃ m, listGo b many l out = out ++ (l.drop k).take m
  | [], out, k, _, _ => ⟨0, by simp [listGo]⟩
  | x :: r, out, k, h1, h2 => by
    unfold listGo
    by_cases hm : many ≤ I64 out.length
    · rw [if_pos hm]; exact ⟨0, by simp⟩
    · rw [if_neg hm]
      cases k with
      | zero =>
        have hx : b < x.1 := h2 0 (by simp) (Nat.le_refl _)
        rw [if_pos hx]
        obtain ⟨m, e⟩ := listGo_drop (b := b) (many := many) r (out ++ [x]) 0 (fun j _ h => by omega) (fun j h _ => h2 (j + 1) (by simp; omega) (by omega))
        exact ⟨m + 1, by rw [e]; simp⟩
      | succ k =>
        have hx : ¬ b < x.1 := UInt64.not_lt.2 (h1 0 (by simp) (by omega))
        rw [if_neg hx]
        obtain ⟨m, e⟩ := listGo_drop (b := b) (many := many) r out k (fun j h q => h1 (j + 1) (by simp; omega) (by omega)) (fun j h q => h2 (j + 1) (by simp; omega) (by omega))
        exact ⟨m, by rw [e]; simp⟩
structure NextOK (put : List ItT) (H : HN) (l : List EnT) : Prop where
  ch : ChN H (items l)
  it : ∀ e ∈ l, IOK put e.2
theorem ChN_next {H : HN} {l : List EnT} {pre : List ItT} {k : Nat} (h : ChN H (items l)) (hk : k < l.length) (hp : ChN H (pre ++ items (l.take k))) : ChN H (pre ++ items (l.take k) ++ [l[k].2]) := by
  refine ChN_snoc hp ?_
  have e : items l = items (l.take k) ++ (l[k].2 :: items (l.drop (k + 1))) := by
    unfold items
    rw [← List.map_cons (f := fun e : EnT => e.2), ← List.map_append, ← List.drop_eq_getElem_cons hk, List.take_append_drop]
  rw [e, ChN_append] at h
  have h1 := h.2.1
  have h2 := finN_mono (items (l.take k)) (finN_ge pre H) (org l[k].2)
  rw [finN_append]
  omega
theorem offs_ok {put : List ItT} {H : HN} {w : Int64} {now : UInt64} {l : List EnT} (hl : NextOK put H l) (hw : 0 ≤ w.toInt ∧ w.toInt ≤ 64) {sd sd' : SndT} {es : List EnT} (ho : Offs now sd es sd') : ∀ {m : Nat} {Gc : List ItT}, es = (l.drop (flS sd).length).take m → ChN H Gc → (∀ x ∈ Gc, IOK put x) → Gc.length ≤ 2 ^ 41 →
    SendOK Gc w sd l → ∃ Gc', SendOK Gc' w sd' l ∧ ChN H Gc' ∧ (∀ x ∈ Gc', IOK put x) ∧ Gc'.length ≤ 2 ^ 41 ∧ ∃ t, Gc' = Gc ++ t := by
  induction ho with
  | stop s es => intro m Gc _ h1 h2 h3 h4; exact ⟨Gc, h4, h1, h2, h3, [], by simp⟩
  | @step s s' e es h1 h2 h3 hr ih =>
    intro m Gc he hc hi hln hs
    have hk : (flS s).length < l.length := by
      rcases Nat.lt_or_ge (flS s).length l.length with g | g
      · exact g
      · rw [List.drop_eq_nil_of_le g] at he; simp at he
    obtain ⟨m', rfl⟩ : ∃ m', m = m' + 1 := ⟨m - 1, by rcases m with _ | m; simp at he; omega⟩
    rw [List.drop_eq_getElem_cons hk, List.take_succ_cons] at he
    obtain ⟨h0, he2⟩ := List.cons.inj he
    subst h0
    have hfl : (flS (addF s l[(flS s).length].1 now)).length = (flS s).length + 1 := by show (flS s ++ [_]).length = _; simp
    have htk : l.take ((flS s).length + 1) = l.take (flS s).length ++ [l[(flS s).length]] := by rw [List.take_add_one, List.getElem?_eq_getElem hk]; rfl
    obtain ⟨pre, p1, p2⟩ := hs.pre
    have hprs : prs (flS (addF s l[(flS s).length].1 now)) = prs (flS s) ++ [(s.2.2.2.2.1, l[(flS s).length].1)] := by show prs (flS s ++ [_]) = _; unfold prs; simp
    have hGl : Gc.length = pre.length + (flS s).length := by rw [p1]; simp [items]; omega
    have hroom : (flS s).length + 1 ≤ w.toInt.toNat := by
      have hsw := hs.win
      rw [hsw, i64_of hw.1] at h1
      have := hs.few
      rw [i64_sub this] at h1
      rcases Nat.lt_or_ge (flS s).length w.toInt.toNat with g | g
      · exact g
      · exact absurd ((i64_lt (a := w.toInt.toNat - (flS s).length) (b := 1) (by omega) (by omega)).2 (by omega)) h1
    have hnx : (s.2.2.2.2.1).toNat ≤ 1099511627776 := by
      have := UInt64.not_lt.1 h2
      exact UInt64.le_iff_toNat_le.1 this
    have hn1 : (s.2.2.2.2.1 + 1).toNat = s.2.2.2.2.1.toNat + 1 := by
      rw [UInt64.toNat_add]
      have : (1 : UInt64).toNat = 1 := rfl
      omega
    have step : SendOK (Gc ++ [l[(flS s).length].2]) w (addF s l[(flS s).length].1 now) l := by
      refine ⟨hs.win, hs.tms, by rw [hfl]; omega, by rw [hfl]; exact hroom, ?_, ⟨pre, ?_, ?_⟩, ?_⟩
      · rw [hfl, hprs, htk]
        simp only [List.map_append, List.map_cons, List.map_nil]
        rw [hs.idx]
      · rw [hfl, htk]
        rw [show items (l.take (flS s).length ++ [l[(flS s).length]]) = items (l.take (flS s).length) ++ [l[(flS s).length].2] from by unfold items; rw [List.map_append]; rfl, ← List.append_assoc, ← p1]
      · rw [hfl, hprs]
        simp only [List.map_append, List.map_cons, List.map_nil]
        rw [p2, List.range'_concat, hs.next, hGl]
        rw [show pre.length + (flS s).length + 1 = pre.length + 1 + 1 * (flS s).length from by omega]
      · show (s.2.2.2.2.1 + 1).toNat = _
        rw [hn1, hs.next]; simp
    have hch : ChN H (Gc ++ [l[(flS s).length].2]) := by
      rw [p1] at hc ⊢
      exact ChN_next hl.ch hk hc
    obtain ⟨Gc', g1, g2, g3, g4, t, g5⟩ := ih (m := m') (Gc := Gc ++ [l[(flS s).length].2]) (by rw [hfl]; exact he2) hch (fun x hx => by
      rcases List.mem_append.1 hx with q | q
      · exact hi x q
      · rw [List.mem_singleton.1 q]; exact hl.it _ (List.getElem_mem _)) (by have := hs.next; simp; omega) step
    exact ⟨Gc', g1, g2, g3, g4, l[(flS s).length].2 :: t, by rw [g5]; simp⟩
end Go.Proofs.Ytfmomnniadlbhaa
open Go Go.Sx
namespace Go.Proofs.Ytfmomnniadlbhaa
abbrev lsS (s : SpT) : List EnT := s.1.2.2.2.2
structure SpI (N : Nat) (put : List ItT) (H : HN) (s : SpT) : Prop where
  cov : ∃ A, CovOK N s A ∧ ∀ p, (A p).toNat ≤ H p
  it : ∀ e ∈ lsS s, IOK put e.2
theorem CovOK.up {N M : Nat} {s : SpT} {A : UInt8 → UInt64} (h : CovOK N s A) (hm : N ≤ M) : CovOK M s A :=
  ⟨h.ok.up hm, h.sorted, h.low, h.upp, h.ack, h.chain, h.fin, h.top, h.prio⟩
theorem SpI.mono {N M : Nat} {put put' : List ItT} {H H' : HN} {s : SpT} (h : SpI N put H s) (hm : N ≤ M) (hp : ∀ y ∈ put, y ∈ put') (hh : HLe H H') : SpI M put' H' s := by
  obtain ⟨A, h1, h2⟩ := h.cov
  exact ⟨⟨A, h1.up hm, fun p => Nat.le_trans (h2 p) (hh p)⟩, fun e he => (h.it e he).mono hp⟩
theorem SpI.next {N : Nat} {put : List ItT} {H : HN} {s : SpT} (h : SpI N put H s) : NextOK put H (lsS s) := by
  obtain ⟨A, h1, h2⟩ := h.cov
  exact ⟨(okH_ChN _ A H h2 h1.chain).1, h.it⟩
theorem joinL_org (m : List EnT) (a b : Nat) : ∀ e ∈ joinL m a b, ∃ e' ∈ m, orgE e = orgE e' := by
  intro e he
  rcases joinL_cases m a b with hc | ⟨ha, hb, hf, hc⟩
  · rw [hc] at he; exact ⟨e, he, rfl⟩
  · rw [hc] at he
    rcases List.mem_or_eq_of_mem_set (List.mem_of_mem_eraseIdx he) with h | h
    · exact ⟨e, h, rfl⟩
    · exact ⟨m[a], List.getElem_mem ha, by rw [h]; exact join_org hf⟩
theorem joinD_org (m : List EnT) (k : Nat) (r : Option Nat) : ∀ e ∈ joinD m k r, ∃ e' ∈ m, orgE e = orgE e' := by
  cases r with
  | none => exact fun e he => ⟨e, he, rfl⟩
  | some a => exact joinL_org m a k
theorem joinR_org (m : List EnT) (k : Nat) (r : Option Nat) : ∀ e ∈ joinR m k r, ∃ e' ∈ m, orgE e = orgE e' := by
  cases r with
  | none => exact fun e he => ⟨e, he, rfl⟩
  | some a => exact joinL_org m k a
theorem evTo_org {l l' : List EnT} {k : Nat} {rU rD : Option Nat} (h : EvTo l k l' rU rD) : ∀ e ∈ l', ∃ e' ∈ l, orgE e = orgE e' := by
  intro e he
  have hk := h.lt
  rw [h.eq] at he
  obtain ⟨e1, h1, q1⟩ := joinD_org _ _ _ e he
  obtain ⟨e2, h2, q2⟩ := joinR_org _ _ _ e1 h1
  rcases List.mem_or_eq_of_mem_set h2 with h | h
  · exact ⟨e2, h, by rw [q1, q2]⟩
  · exact ⟨l[k]'hk, List.getElem_mem _, by rw [q1, q2, h]; rfl⟩
theorem evs_org {l l' : List EnT} (h : Evs l l') : ∀ e ∈ l', ∃ e' ∈ l, orgE e = orgE e' := by
  induction h with
  | refl => exact fun e he => ⟨e, he, rfl⟩
  | step _ he _ ih =>
    intro e h
    obtain ⟨e1, h1, q1⟩ := ih e h
    obtain ⟨e2, h2, q2⟩ := evTo_org he e1 h1
    exact ⟨e2, h2, by rw [q1, q2]⟩
theorem put_spi {N : Nat} {put : List ItT} {H : HN} {s s' : SpT} {x : ItT} {high : UInt64} {l1 : List EnT} {rD : Option Nat} (h : SpI N put H s) (hx : Good x) (ho : (org x).toNat < 4) (hp : Put1 s x high s' l1 rD) : SpI (N + 1) (put ++ [x]) H s' := by
  obtain ⟨A, h1, h2⟩ := h.cov
  have hc := put1_cov h1 hx hp
  obtain ⟨f1, f2, _, f4⟩ := putY_facts hp.old hp.jump
  refine ⟨⟨A, hc, h2⟩, fun e he => ⟨hc.ok.good e he, ?_, ?_, ?_⟩⟩
  · have ha : AllC (lsS s') := by
      unfold lsS
      rw [hp.list]
      refine joinD_allC ?_ _ _
      intro e he
      rcases List.mem_append.1 he with q | q
      · exact evs_allC hp.ev (fun e he => (h.it e he).chk) e q
      · rw [List.mem_singleton.1 q]; exact putY_check hp.ok hp.old hp.jump
    exact ha e he
  · unfold lsS at he
    rw [hp.list] at he
    obtain ⟨e1, q1, q2⟩ := joinD_org _ _ _ e he
    show (orgE e).toNat < 4
    rw [q2]
    rcases List.mem_append.1 q1 with q | q
    · obtain ⟨e2, q3, q4⟩ := evs_org hp.ev e1 q
      rw [q4]; exact (h.it e2 q3).org4
    · rw [List.mem_singleton.1 q]
      show (spanI (putY x high)).1.toNat < 4
      rw [f1]; exact ho
  · cases hg : e.2.1 with
    | true => exact .inl rfl
    | false =>
      right
      unfold lsS at he
      rw [hp.list, joinD_events _ _ _ e hg] at he
      rcases List.mem_append.1 he with q | q
      · rcases (h.it e ((evs_events hp.ev).1 e q hg)).was with w | w
        · rw [hg] at w; cases w
        · exact List.mem_append_left _ w
      · have e1 := List.mem_singleton.1 q
        rw [e1] at hg ⊢
        have hg : (putY x high).1 = false := hg
        rw [f2] at hg
        show putY x high ∈ _
        rw [f4 hg]
        simp
theorem putR_spi {N : Nat} {put : List ItT} {H : HN} {s : SpT} {x : ItT} {high : UInt64} {y : (UInt64 × UInt64 × Int64) × Option SpT} (h : SpI N put H s) (hx : Good x) (ho : (org x).toNat < 4) (hp : PutR s y x high) :
    ∃ i f e s', y = ((i, f, e), some s') ∧ ((e ≠ 0 ∧ s' = s) ∨ (e = 0 ∧ SpI (N + 1) (put ++ [x]) H s' ∧ Kept (lsS s) (lsS s') f)) := by
  obtain ⟨i, f, e, s', rfl, h1⟩ := hp
  refine ⟨i, f, e, s', rfl, ?_⟩
  rcases h1 with ⟨h1, _, h2⟩ | ⟨h1, h2, l1, rD, h3⟩
  · exact .inl ⟨h1, h2⟩
  · exact .inr ⟨h1, put_spi h hx ho h3, h2⟩
theorem ack_spi {N : Nat} {put : List ItT} {H : HN} {s : SpT} (h : SpI N put H s) (k : Nat) (hk : k ≤ (lsS s).length) (idx : UInt64) (u : Int64) (hlow : ∀ e ∈ (lsS s).drop k, idx < e.1) (hnx : idx < s.1.2.2.1)
    (hd : ∀ e ∈ (lsS s).take k, top e.2 ≤ H (org e.2)) : SpI N put H ((s.1.1, u, s.1.2.2.1, idx, (lsS s).drop k), s.2) := by
  obtain ⟨A, h1, h2⟩ := h.cov
  have hsub : ∀ e ∈ (lsS s).drop k, e ∈ lsS s := fun e he => List.mem_of_mem_drop he
  have hsp : spans (lsS s) = spans ((lsS s).take k) ++ spans ((lsS s).drop k) := by unfold spans; rw [← List.map_append, List.take_append_drop]
  have hch := h1.chain
  rw [show s.1.2.2.2.2 = lsS s from rfl, hsp, okH_append] at hch
  refine ⟨⟨finH A (spans ((lsS s).take k)), ⟨⟨?_, fun e he => h1.ok.good e (hsub e he), h1.ok.highs, h1.ok.next, fun e he => h1.ok.pos e (hsub e he)⟩, ?_, hlow, fun e he => h1.upp e (hsub e he), hnx, hch.2, ?_, fun e he => h1.top e (hsub e he), fun e he => h1.prio e (hsub e he)⟩, fun p => ?_⟩, fun e he => h.it e (hsub e he)⟩
  · have := h1.ok.len
    show ((lsS s).drop k).length ≤ N
    rw [List.length_drop]
    have : (lsS s).length ≤ N := this
    omega
  · show (idxs ((lsS s).drop k)).Pairwise _
    refine h1.sorted.sublist ?_
    unfold idxs
    exact (List.drop_sublist _ _).map _
  · have := h1.fin
    rw [show s.1.2.2.2.2 = lsS s from rfl, hsp, finH_append] at this
    exact this
  · obtain ⟨_, g2⟩ := okH_ChN _ A H h2 hch.1
    refine Nat.le_trans (g2 p) (finN_le (fun x hx => ?_) p)
    obtain ⟨e, he, rfl⟩ := List.mem_map.1 hx
    exact hd e he
theorem send_kept {Gc : List ItT} {w : Int64} {sd : SndT} {l l' : List EnT} (h : SendOK Gc w sd l) (ht : l'.take (flS sd).length = l.take (flS sd).length) : SendOK Gc w sd l' := by
  refine ⟨h.win, h.tms, ?_, h.few, by rw [ht]; exact h.idx, by rw [ht]; exact h.pre, h.next⟩
  have := congrArg List.length ht
  rw [List.length_take, List.length_take, Nat.min_eq_left h.len] at this
  omega
theorem send_new (w : Int64) (l : List EnT) : SendOK [] w (newS w) l := ⟨rfl, ⟨rfl, rfl⟩, Nat.zero_le _, Nat.zero_le _, rfl, ⟨[], rfl, rfl⟩, rfl⟩
theorem send_drop {Gc : List ItT} {w : Int64} {sd sd' : SndT} {l : List EnT} (h : SendOK Gc w sd l) (k : Nat) (hk : k ≤ (flS sd).length) (hp : prs (flS sd') = (prs (flS sd)).drop k) (h1 : sd'.1 = sd.1) (h2 : sd'.2.1 = sd.2.1) (h3 : sd'.2.2.1 = sd.2.2.1) (h4 : sd'.2.2.2.2.1 = sd.2.2.2.2.1) :
    SendOK Gc w sd' (l.drop k) := by
  have hlen : (flS sd').length = (flS sd).length - k := by rw [← prs_len, hp, List.length_drop, prs_len]
  have htk : (l.drop k).take (flS sd').length = (l.take (flS sd).length).drop k := by rw [hlen, List.drop_take]
  obtain ⟨pre, p1, p2⟩ := h.pre
  have hl := h.len
  have hf := h.few
  refine ⟨by rw [h1]; exact h.win, by rw [h2, h3]; exact h.tms, by rw [hlen, List.length_drop]; omega, by rw [hlen]; omega, ?_, ⟨pre ++ items (l.take k), ?_, ?_⟩, by rw [h4]; exact h.next⟩
  · rw [hp, List.map_drop, h.idx, htk, List.map_drop]
  · rw [htk, p1, List.append_assoc]
    congr 1
    unfold items
    rw [← List.map_append]
    congr 1
    have : l.take k = (l.take (flS sd).length).take k := by rw [List.take_take, Nat.min_eq_left hk]
    rw [this, List.take_append_drop]
  · rw [hp, List.map_drop, p2, hlen, List.drop_range']
    congr 1
    simp [items]
    omega
end Go.Proofs.Ytfmomnniadlbhaa
open Go Go.Sx
namespace Go.Proofs.Ytfmomnniadlbhaa
theorem ex1 {T : Type} {X Y : Option T} {P : T → Prop} (h : X = Y) (g : ∃ r, Y = some r ∧ P r) : ∃ r, X = some r ∧ P r := by subst h; exact g
abbrev LkT := (Int64 × UInt64 × UInt64 × Option SpT × Option OutT × Option InT × UInt64 × UInt64 × UInt64 × List FrT × List ItT × List ItT) × List UInt64 × Int64
abbrev mkL (w : Int64) (sp : Option SpT) (o : Option OutT) (i : Option InT) (v0 v1 now : UInt64) (way : List FrT) (put got : List ItT) (hs : List UInt64) (ch : Int64) : LkT := ((w, 1, 4, sp, o, i, v0, v1, now, way, put, got), hs, ch)
def HH (hs : List UInt64) : HN := fun p => (hh hs p).toNat
structure GotOK (put got : List ItT) (hs : List UInt64) : Prop where
  four : hs.length = 4
  ch : okH (fun _ => 0) (got.map spanI)
  fin : finH (fun _ => 0) (got.map spanI) = hh hs
  it : ∀ y ∈ got, Good y ∧ (org y).toNat < 4 ∧ (y.1 = true ∨ y ∈ put)
  low : ∀ p, HH hs p ≤ 1099511627776
theorem GotOK.mono {put put' got : List ItT} {hs : List UInt64} (h : GotOK put got hs) (hp : ∀ y ∈ put, y ∈ put') : GotOK put' got hs :=
  ⟨h.four, h.ch, h.fin, fun y hy => ⟨(h.it y hy).1, (h.it y hy).2.1, (h.it y hy).2.2.imp id (hp y)⟩, h.low⟩
theorem hh_at {hs : List UInt64} {o : UInt8} (h : o.toNat < hs.length) : hs[o.toNat]? = some (hh hs o) := by
  unfold hh; rw [List.getElem?_eq_getElem h]; rfl
theorem u64_sub1 {a : UInt64} (h : 1 ≤ a.toNat) : (a - 1).toNat = a.toNat - 1 := by
  have e : (1 : UInt64).toNat = 1 := rfl
  rw [UInt64.toNat_sub_of_le _ _ (by rw [UInt64.le_iff_toNat_le, e]; exact h), e]
theorem u64_add1 {a : UInt64} (h : a.toNat < 2 ^ 60) : (a + 1).toNat = a.toNat + 1 := by
  have e : (1 : UInt64).toNat = 1 := rfl
  rw [UInt64.toNat_add, e]; omega
theorem answer_eq (n : Nat) (hn : 100 < n) (w : Int64) (life ep : UInt64) (rc : Rc.RecT) :
    (ep = 0 ∧ ∃ f, F15 n (some (mkI w life ep rc)) = some ((f, false), some (mkI w life ep rc))) ∨ (ep ≠ 0 ∧ ∃ bits, F15 n (some (mkI w life ep rc)) = some ((ackF ep (rc.2.1 - 1) bits life, true), some (mkI w life ep rc))) := by
  obtain ⟨rw_, want, m, old⟩ := rc
  have ha := Rc.ack_eq n hn rw_ want m old
  by_cases h : ep = 0
  · left
    refine ⟨h, ?_⟩
    unfold F15
    rw [oelim_s]
    dsimp only
    rw [dec_t h, oite_t]
    exact ⟨_, rfl⟩
  · right
    refine ⟨h, UInt64.ofNat (Rc.VB (Rc.hb want m) 0 64), ?_⟩
    unfold F15
    rw [oelim_s]
    dsimp only
    rw [dec_f h, oite_f]
    exact obind_of ha _
theorem trim_put {y : ItT} {a : UInt64} (h : ¬ (spanI y).2.2 ≤ a) : trimI y a = (putY y a, true) := by
  unfold putY trimI
  rw [if_neg h]
  by_cases h2 : a < (spanI y).2.1
  · rw [if_pos h2, if_neg (UInt64.not_le.2 h2)]
  · rw [if_neg h2, if_pos (UInt64.not_lt.1 h2)]
structure ComeP (G : Gh) (put : List ItT) (w : Int64) (sp : Option SpT) (o : Option OutT) (life ep v0 v1 now : UInt64) (way : List FrT) (ch : Int64) (hs : List UInt64) (B : Nat) (r : Bool × Option LkT) : Prop where
  ex : ∃ rc' way' got' hs', r = (true, some (mkL w sp o (some (mkI w life ep rc')) v0 v1 now way' put got' hs' ch)) ∧ HLe (HH hs) (HH hs') ∧ RcOK G (HH hs') w ep rc' ∧ GotOK put got' hs' ∧ got'.length ≤ B ∧
    (way' = way ∨ ∃ cum bits, way' = way ++ [ackF ep cum bits life] ∧ ep ≠ 0 ∧ Del G (HH hs') ep cum.toNat)
theorem ComeP.of {G : Gh} {put : List ItT} {w : Int64} {sp : Option SpT} {o : Option OutT} {life ep v0 v1 now : UInt64} {way : List FrT} {ch : Int64} {hs hs1 : List UInt64} {B : Nat} {r : Bool × Option LkT} (h : ComeP G put w sp o life ep v0 v1 now way ch hs1 B r) (hl : HLe (HH hs) (HH hs1)) : ComeP G put w sp o life ep v0 v1 now way ch hs B r := by
  obtain ⟨rc', way', got', hs', h1, h2, h3⟩ := h.ex
  exact ⟨rc', way', got', hs', h1, hl.trans h2, h3⟩
theorem come_loop (n : Nat) (hn : 1000 < n) (G : Gh) (put : List ItT) (w : Int64) (sp : Option SpT) (o : Option OutT) (life ep v0 v1 now : UInt64) (way : List FrT) (hway : way.length < 2 ^ 30) (ch : Int64) (B : Nat) (hB : B < 2 ^ 30)
    (hit : ∀ x ∈ G ep, IOK put x) (hGl : (G ep).length ≤ 2 ^ 41) : ∀ (m : Nat) (hs : List UInt64) (rc : Rc.RecT) (got : List ItT), rc.2.2.1.length < m → got.length + rc.2.2.1.length ≤ B → ChN (HH hs) (G ep) → RcOK G (HH hs) w ep rc → GotOK put got hs →
    ∃ r, F44_R30 n m hs w 1 4 v0 v1 now ch sp o (some (mkI w life ep rc)) way put got = some r ∧ ComeP G put w sp o life ep v0 v1 now way ch hs B r := by
  intro m
  induction m with
  | zero => intros; omega
  | succ m ih =>
    intro hs rc got hm hb hch hrc hg
    rw [F44_R30_s]
    unfold F44_L30
    rw [obind_s]
    obtain ⟨rw_, want, mp, old⟩ := rc
    dsimp only at hm hb ⊢
    cases hget : mget Rc.KU Rc.VI want mp with
    | none =>
      refine ex1 (obind_of (Rc.peek_none n rw_ want mp old hget) _) ?_
      dsimp only
      rw [show (!false) = true from rfl, oite_t]
      have hA := answer_eq n (by omega) w life ep (rw_, want, mp, old)
      rcases hA with ⟨h0, f, e1⟩ | ⟨h0, bits, e1⟩
      · refine ex1 (obind_of e1 _) ?_
        dsimp only
        rw [oite_f]
        exact ⟨_, rfl, (rw_, want, mp, old), way, got, hs, rfl, HLe.refl _, hrc, hg, by omega, .inl rfl⟩
      · refine ex1 (obind_of e1 _) ?_
        dsimp only
        rw [oite_t, ble_t (by simp; omega), oite_t]
        refine ⟨_, rfl, (rw_, want, mp, old), way ++ [ackF ep (want - 1) bits life], got, hs, rfl, HLe.refl _, hrc, hg, by omega, .inr ⟨want - 1, bits, rfl, h0, ?_⟩⟩
        have := hrc.one
        rw [u64_sub1 this]
        exact hrc.del
    | some y =>
      have hym := Rc.mget_mem want mp y hget
      obtain ⟨k1, k2⟩ := hrc.held _ hym
      have hyG : y ∈ G ep := List.mem_of_getElem? k2
      have hy := hit y hyG
      have hone := hrc.one
      have ho4 : (org y).toNat < hs.length := by rw [hg.four]; exact hy.org4
      have hat := hh_at ho4
      have k1 : 1 ≤ want.toNat := k1
      have k2 : (G ep)[want.toNat - 1]? = some y := k2
      have hfrm : frm y ≤ HH hs (org y) + 1 := ChN_at hch k2 fun j z hj hz => by
        obtain ⟨z', h1, h2⟩ := hrc.del j hj
        rw [hz] at h1; cases h1; exact h2
      have hlow := hg.low (org y)
      have hadd : (hh hs (org y) + 1).toNat = (hh hs (org y)).toNat + 1 := u64_add1 (by unfold HH at hlow; omega)
      have hjump : ¬ hh hs (org y) + 1 < (spanI y).2.1 := fun q => by
        have := UInt64.lt_iff_toNat_lt.1 q
        rw [hadd] at this
        unfold HH at hfrm
        have : frm y = (spanI y).2.1.toNat := rfl
        omega
      have hwl : want.toNat - 1 < (G ep).length := by
        rcases Nat.lt_or_ge (want.toNat - 1) (G ep).length with g | g
        · exact g
        · rw [List.getElem?_eq_none g] at k2; cases k2
      have hw60 : want.toNat < 2 ^ 60 := by omega
      have hw1 := u64_add1 hw60
      have hnext : F56 n (some (rw_, want, mp, old)) = some (0, some (rw_, want + 1, mdel Rc.KU Rc.VI want mp, old)) := by
        rw [Rc.next_eq, if_pos (by rw [hget]; rfl)]
      have hdl := Rc.mdel_len want mp (by rw [hget]; rfl)
      have hrc' : ∀ H', HLe (HH hs) H' → top y ≤ H' (org y) → RcOK G H' w ep (rw_, want + 1, mdel Rc.KU Rc.VI want mp, old) := by
        intro H' hl ht
        refine ⟨hrc.win, by show 1 ≤ (want + 1).toNat; omega, fun q hq => ?_, fun p hp => ?_, hrc.fine.next hw60⟩
        · have hq : q < (want + 1).toNat - 1 := hq
          rw [hw1] at hq
          by_cases e : q < want.toNat - 1
          · exact (hrc.del.mono (GLe.refl G) hl) q e
          · have : q = want.toNat - 1 := by have : 1 ≤ want.toNat := hone; omega
            subst this
            exact ⟨y, k2, ht⟩
        · exact hrc.held p ((Rc.mdel_sub want mp).subset hp)
      have o1 : decide ((0 : Int) ≤ ↑(UInt8.toNat (org y))) = true := dec_t (by omega)
      have o2 : Nat.blt (Int.toNat ↑(UInt8.toNat (org y))) 4 = true := by rw [Int.toNat_natCast]; exact ble_t hy.org4
      have o3 : hs[Int.toNat ↑(UInt8.toNat (org y)) * 1]? = some (hh hs (org y)) := by rw [Nat.mul_one, Int.toNat_natCast]; exact hat
      have o4 : Nat.blt (Int.toNat ↑(UInt8.toNat (org y)) * 1) hs.length = true := by rw [Nat.mul_one, Int.toNat_natCast]; exact ble_t ho4
      refine ex1 (obind_of (Rc.peek_some n rw_ want mp old y (by have := hy.good.labs; omega) hget) _) ?_
      dsimp only
      rw [show (!true) = false from rfl, oite_f]
      refine ex1 (obind_of (span_eq n y) _) ?_
      dsimp only
      rw [o1, oite_t, o2, oite_t, o3, obind_s, dec_f hjump, oite_f, oite_t, oite_t, obind_s]
      refine ex1 (obind_of (trim_eq n y (hh hs (org y))) _) ?_
      dsimp only
      by_cases hold : (spanI y).2.2 ≤ hh hs (org y)
      · have et : (trimI y (hh hs (org y))).2 = false := by unfold trimI; rw [if_pos hold]
        rw [et, oite_f]
        refine ex1 (obind_of hnext _) ?_
        dsimp only
        exact ih hs (rw_, want + 1, mdel Rc.KU Rc.VI want mp, old) got (by show (mdel Rc.KU Rc.VI want mp).length < m; omega) (by show got.length + (mdel Rc.KU Rc.VI want mp).length ≤ B; omega) hch (hrc' _ (HLe.refl _) (UInt64.le_iff_toNat_le.1 hold)) hg
      · rw [trim_put hold]
        obtain ⟨f1, f2, _, f4⟩ := putY_facts hold hjump
        dsimp only
        rw [oite_t, ble_t (by simp; omega), oite_t, oite_t, oite_t, o4, oite_t]
        refine ex1 (obind_of hnext _) ?_
        dsimp only
        have hset : hs.set (Int.toNat ↑(UInt8.toNat (org y)) * 1) (spanI y).2.2 = hs.set (org y).toNat (spanI y).2.2 := by rw [Nat.mul_one, Int.toNat_natCast]
        have hh2 : hh (hs.set (org y).toNat (spanI y).2.2) = updH (hh hs) (org y) (spanI y).2.2 := hh_set ho4 _
        have hle : HLe (HH hs) (HH (hs.set (org y).toNat (spanI y).2.2)) := fun p => by
          unfold HH
          rw [hh2]
          unfold updH
          split
          · rename_i q; subst q; have := UInt64.lt_iff_toNat_lt.1 (UInt64.not_le.1 hold); omega
          · exact Nat.le_refl _
        have htop : top y ≤ HH (hs.set (org y).toNat (spanI y).2.2) (org y) := by
          unfold HH
          rw [hh2]
          unfold updH
          rw [if_pos rfl]
          exact Nat.le_refl _
        have hgot : GotOK put (got ++ [putY y (hh hs (org y))]) (hs.set (org y).toNat (spanI y).2.2) := by
          refine ⟨by rw [List.length_set]; exact hg.four, ?_, ?_, ?_, ?_⟩
          · rw [List.map_append, okH_append, hg.fin]
            refine ⟨hg.ch, ?_, trivial⟩
            rw [f1]
          · rw [List.map_append, finH_append, hg.fin, hh2]
            show updH (hh hs) (spanI (putY y (hh hs (org y)))).1 (spanI (putY y (hh hs (org y)))).2.2 = _
            rw [f1]
          · intro z hz
            rcases List.mem_append.1 hz with q | q
            · exact hg.it z q
            · rw [List.mem_singleton.1 q]
              refine ⟨putY_good hy.good _, ?_, ?_⟩
              · show (spanI (putY y (hh hs (org y)))).1.toNat < 4
                rw [f1]; exact hy.org4
              · rcases hy.was with q | q
                · left; rw [f2]; exact q
                · cases hb : y.1 with
                  | true => left; rw [f2]; exact hb
                  | false => right; rw [f4 hb]; exact q
          · intro p
            unfold HH
            rw [hh2]
            unfold updH
            split
            · exact (check_span hy.chk).max
            · exact hg.low p
        rw [hset]
        obtain ⟨r, e, hr⟩ := ih (hs.set (org y).toNat (spanI y).2.2) (rw_, want + 1, mdel Rc.KU Rc.VI want mp, old) (got ++ [putY y (hh hs (org y))]) (by show (mdel Rc.KU Rc.VI want mp).length < m; omega) (by show (got ++ [_]).length + (mdel Rc.KU Rc.VI want mp).length ≤ B; rw [List.length_append, List.length_singleton]; omega) (hch.mono hle) (hrc' _ hle htop) hgot
        exact ⟨r, e, hr.of hle⟩
end Go.Proofs.Ytfmomnniadlbhaa
open Go Go.Sx
namespace Go.Proofs.Ytfmomnniadlbhaa
theorem rnew_eq (n : Nat) (w : Int64) (h1 : ¬ w < 1) (h2 : ¬ (64 : Int64) < w) : F13 n w = some ((some (w, 1, [], 0), 0), ()) := by
  unfold F13
  rw [dec_f h1, oite_f, dec_f h2, oite_f]
theorem win_lt {w : Int64} (h1 : 1 ≤ w.toInt) (h8 : w.toInt ≤ 8) : ¬ w < 1 ∧ ¬ (64 : Int64) < w := by
  have e1 : (1 : Int64).toInt = 1 := rfl
  have e64 : (64 : Int64).toInt = 64 := rfl
  exact ⟨fun q => by have := Int64.lt_iff_toInt_lt.1 q; omega, fun q => by have := Int64.lt_iff_toInt_lt.1 q; omega⟩
theorem win_u64 {w : Int64} (h1 : 1 ≤ w.toInt) (h8 : w.toInt ≤ 8) : (UInt64.ofInt w.toInt).toNat = w.toInt.toNat := by
  have := u64_ofInt ((w.toInt.toNat : Nat) : Int)
  rw [show ((w.toInt.toNat : Nat) : Int) = w.toInt from by omega] at this
  omega
theorem rc_new {G : Gh} {H : HN} (w : Int64) (ep : UInt64) : RcOK G H w ep (w, 1, [], 0) :=
  ⟨rfl, by show 1 ≤ (1 : UInt64).toNat; decide, fun q hq => by have : (1 : UInt64).toNat = 1 := rfl; dsimp only at hq; omega, fun p hp => by simp at hp, ⟨by simp, by simp, by simp⟩⟩
theorem take_ok {G : Gh} {H : HN} {put : List ItT} {w : Int64} (h1 : 1 ≤ w.toInt) (h8 : w.toInt ≤ 8) {ep sq : UInt64} {x : ItT} (hx : IOK put x) (hs : 1 ≤ sq.toNat) (hG : (G ep)[sq.toNat - 1]? = some x) {rc : Rc.RecT} (h : RcOK G H w ep rc) (n : Nat) (hn : 1000 < n) :
    ∃ c rc', F37 n (some rc, sq, x) = some (c, some rc') ∧ RcOK G H w ep rc' := by
  obtain ⟨w', want, m, old⟩ := rc
  have hw : w' = w := h.win
  subst hw
  have e := Rc.take_eq n (by omega) w' want m old sq x 50 (hx.good.fit 50 (by omega)) (by have := hx.good.labs; omega)
  rw [e]
  by_cases g1 : sq < want ∨ (mget Rc.KU Rc.VI sq m).isSome = true
  · rw [if_pos g1]; exact ⟨_, _, rfl, rfl, h.one, h.del, h.held, h.fine⟩
  · rw [if_neg g1]
    have g2 : want.toNat ≤ sq.toNat := by
      have : ¬ sq < want := fun q => g1 (.inl q)
      exact UInt64.le_iff_toNat_le.1 (UInt64.not_lt.1 this)
    have g3 : mget Rc.KU Rc.VI sq m = none := by
      cases hm : mget Rc.KU Rc.VI sq m with
      | none => rfl
      | some z => exact absurd (.inr (by rw [hm]; rfl)) g1
    by_cases g4 : UInt64.ofInt w'.toInt ≤ sq - want
    · rw [if_pos g4]; exact ⟨_, _, rfl, h⟩
    · rw [if_neg g4, if_pos hx.chk]
      have g5 : sq.toNat - want.toNat < w'.toInt.toNat := by
        have := UInt64.lt_iff_toNat_lt.1 (UInt64.not_le.1 g4)
        rw [win_u64 h1 h8, UInt64.toNat_sub_of_le _ _ (UInt64.le_iff_toNat_le.2 g2)] at this
        exact this
      refine ⟨_, _, rfl, rfl, h.one, h.del, fun p hp => ?_, h.fine.put g3 g2 (by show sq.toNat < want.toNat + w'.toInt.toNat; omega) (by have := hx.good.labs; omega)⟩
      rcases Rc.mput_mem sq x m p hp with q | q
      · exact h.held p q
      · rw [q]; exact ⟨hs, hG⟩
theorem data_eq (n : Nat) (hn : 1000 < n) {G : Gh} {H : HN} {put : List ItT} {w : Int64} (h1 : 1 ≤ w.toInt) (h8 : w.toInt ≤ 8) (life ep e sq : UInt64) {x : ItT} (hx : IOK put x) (he : 0 < e) (hs : 1 ≤ sq.toNat) (hG : (G e)[sq.toNat - 1]? = some x) {rc : Rc.RecT} (h : RcOK G H w ep rc) :
    ∃ c ep' rc', F17 n (some (mkI w life ep rc), dataF e sq x) = some (c, some (mkI w life ep' rc')) ∧ RcOK G H w ep' rc' ∧ (ep' = ep ∨ ep' = e) := by
  obtain ⟨w1, w2⟩ := win_lt h1 h8
  unfold F17
  rw [ojoinA_rw, oelim_s]
  dsimp only
  rw [show (!decide ((1 : UInt8) = 1)) = false from rfl, oite_f, oite_f, show (!decide ((0 : UInt8) = 0)) = false from rfl, oite_f]
  by_cases g1 : e < ep
  · rw [dec_t g1, oite_t]; exact ⟨_, ep, rc, rfl, h, .inl rfl⟩
  · rw [dec_f g1, oite_f]
    have fin : ∀ ep' rc0, ep' = e → RcOK G H w ep' rc0 → ∃ r, F17_J3 n 0 1 w life ep' 1 1 0 e sq x.1 x.2.1 x.2.2.1 x.2.2.2.1 x.2.2.2.2.1 x.2.2.2.2.2.1 x.2.2.2.2.2.2.1 x.2.2.2.2.2.2.2.1 x.2.2.2.2.2.2.2.2.1 x.2.2.2.2.2.2.2.2.2.1 x.2.2.2.2.2.2.2.2.2.2.1 x.2.2.2.2.2.2.2.2.2.2.2.1 x.2.2.2.2.2.2.2.2.2.2.2.2 0 0 0 (some rc0) = some r ∧
        ∃ c rc', r = (c, some (mkI w life ep' rc')) ∧ RcOK G H w ep' rc' := by
      intro ep' rc0 hep h0
      subst hep
      unfold F17_J3
      have hT := take_ok h1 h8 hx hs hG h0 n hn
      obtain ⟨c, rc', e1, h2⟩ := hT
      refine ex1 (obind_of e1 _) ?_
      exact ⟨_, rfl, c, rc', rfl, h2⟩
    by_cases g2 : ep < e
    · rw [dec_t g2, oite_t]
      obtain ⟨r, e1, c, rc', rfl, h2⟩ := fin e (w, 1, [], 0) rfl (rc_new w e)
      refine ⟨c, e, rc', ?_, h2, .inr rfl⟩
      refine (obind_of (rnew_eq n w w1 w2) _).trans ?_
      dsimp only
      rw [show (!decide ((0 : Int64) = 0)) = false from rfl, oite_f]
      exact e1
    · rw [dec_f g2, oite_f]
      have hee : ep = e := by
        apply UInt64.toNat.inj
        have a := UInt64.le_iff_toNat_le.1 (UInt64.not_lt.1 g1)
        have b := UInt64.le_iff_toNat_le.1 (UInt64.not_lt.1 g2)
        omega
      obtain ⟨r, e1, c, rc', rfl, h2⟩ := fin ep rc hee h
      exact ⟨c, ep, rc', e1, h2, .inl rfl⟩
theorem oack_eq (n : Nat) (hn : 1000 < n) {w : Int64} (h1 : 1 ≤ w.toInt) (h8 : w.toInt ≤ 8) (life ses other : UInt64) (hses : ¬ (1048576 : UInt64) ≤ ses + 1) (sd : SndT) (hf : (flS sd).length ≤ 100) (e cum bits lf : UInt64) :
    (∃ c, F10 n (some (mkO w life ses other sd), ackF e cum bits lf) = some ((0, c), some (mkO w life ses other sd)) ∧ c ≠ 0) ∨
    (∃ c, F10 n (some (mkO w life ses other sd), ackF e cum bits lf) = some ((0, c), some (mkO w life (ses + 1) lf (newS w))) ∧ c ≠ 0) ∨
    (e = epO life ses ∧ ∃ i c sd', F10 n (some (mkO w life ses other sd), ackF e cum bits lf) = some ((i, c), some (mkO w life ses lf sd')) ∧ F35 n (some sd, cum, bits) = some ((i, c), some sd')) := by
  obtain ⟨w1, w2⟩ := win_lt h1 h8
  unfold F10
  rw [ojoinA_rw, oelim_s]
  dsimp only
  rw [show (!decide ((2 : UInt8) = 2)) = false from rfl, oite_f, show (!decide ((0 : UInt8) = 0)) = false from rfl, oite_f, show (!decide ((1 : UInt8) = 1)) = false from rfl, oite_f]
  by_cases g1 : e = epO life ses
  · rw [show decide (e = IK.shl IntKind.u64 life 20 ||| ses) = true from dec_t g1, Bool.not_true, oite_f]
    by_cases g2 : lf < other
    · rw [dec_t g2, oite_t]; exact .inl ⟨_, rfl, by decide⟩
    · rw [dec_f g2, oite_f]
      have fin : ∃ i c sd', F10_J3 n 1 0 w 1 4 life ses other 2 0 1 e 0 false 0 0 0 [] [] 0 0 0 0 0 0 0 cum bits lf (some sd) = some ((i, c), some (mkO w life ses lf sd')) ∧ F35 n (some sd, cum, bits) = some ((i, c), some sd') := by
        unfold F10_J3
        rcases ack_eq n sd (by omega) (by omega) cum bits with ⟨_, e1⟩ | ⟨_, i, k, s', e1, _⟩
        · exact ⟨0, 6, sd, obind_of e1 _, e1⟩
        · exact ⟨i, 0, s', obind_of e1 _, e1⟩
      by_cases g3 : other = 0
      · rw [dec_t g3, Bool.not_true, oite_f]
        exact .inr (.inr ⟨g1, fin⟩)
      · rw [dec_f g3, Bool.not_false, oite_t]
        by_cases g4 : other < lf
        · rw [dec_t g4, oite_t]
          refine .inr (.inl ⟨18, ?_, by decide⟩)
          refine (obind_of (restart_eq n w life ses lf sd w1 w2 hses) _).trans ?_
          rfl
        · rw [dec_f g4, oite_f]
          exact .inr (.inr ⟨g1, fin⟩)
  · rw [show decide (e = IK.shl IntKind.u64 life 20 ||| ses) = false from dec_f g1, Bool.not_false, oite_t]
    exact .inl ⟨_, rfl, by decide⟩
end Go.Proofs.Ytfmomnniadlbhaa
open Go Go.Sx
namespace Go.Proofs.Ytfmomnniadlbhaa
theorem epO_nat (life ses : UInt64) (h1 : life.toNat < 2 ^ 20) (h2 : ses.toNat < 2 ^ 20) : (epO life ses).toNat = life.toNat * 2 ^ 20 + ses.toNat := by
  have h : IK.toInt .u64 (IK.shl .u64 life 20) = IntKind.u64.wrap (IK.toInt .u64 life * 2 ^ (min (20 : Int).toNat IntKind.u64.bits)) := IK.shl_toInt .u64 life 20
  have e1 : IK.toInt .u64 (IK.shl .u64 life 20) = ((IK.shl .u64 life 20 : UInt64).toNat : Int) := rfl
  have e2 : IK.toInt .u64 life = (life.toNat : Int) := rfl
  have e3 : min (20 : Int).toNat IntKind.u64.bits = 20 := rfl
  rw [e1, e2, e3, IntKind.wrap_u64] at h
  have hs : (IK.shl .u64 life 20 : UInt64).toNat = life.toNat * 2 ^ 20 := by omega
  unfold epO
  show (UInt64.toNat ((IK.shl .u64 life 20 : UInt64) ||| ses)) = _
  rw [UInt64.toNat_or, hs]
  have := Nat.shiftLeft_add_eq_or_of_lt h2 life.toNat
  rw [Nat.shiftLeft_eq] at this
  exact this.symm
structure St where
  w : Int64
  sp : SpT
  life : UInt64
  ses : UInt64
  other : UInt64
  sd : SndT
  il : UInt64
  ep : UInt64
  rc : Rc.RecT
  v0 : UInt64
  v1 : UInt64
  now : UInt64
  way : List FrT
  put : List ItT
  got : List ItT
  hs : List UInt64
  ch : Int64
abbrev St.t (s : St) : LkT := mkL s.w (some s.sp) (some (mkO s.w s.life s.ses s.other s.sd)) (some (mkI s.w s.il s.ep s.rc)) s.v0 s.v1 s.now s.way s.put s.got s.hs s.ch
def St.cur (s : St) : Nat := s.life.toNat * 2 ^ 20 + s.ses.toNat
structure StOK (N : Nat) (G : Gh) (s : St) : Prop where
  w1 : 1 ≤ s.w.toInt
  w8 : s.w.toInt ≤ 8
  sp : SpI N s.put (HH s.hs) s.sp
  snd : SendOK (G (epO s.life s.ses)) s.w s.sd (lsS s.sp)
  g : GOK s.put G (HH s.hs) s.cur
  fr : ∀ f ∈ s.way, FrOK G (HH s.hs) s.cur f
  rc : RcOK G (HH s.hs) s.w s.ep s.rc
  epc : s.ep.toNat ≤ s.cur
  got : GotOK s.put s.got s.hs
  life : s.life = s.v0
  life1 : 1 ≤ s.v0.toNat
  lifeN : s.v0.toNat ≤ N + 1
  ses1 : 1 ≤ s.ses.toNat
  sesN : s.ses.toNat ≤ N + 1
  v1 : 1 ≤ s.v1.toNat
  v1N : s.v1.toNat ≤ N + 1
  wayl : s.way.length ≤ 200 + 9 * N
  gotl : s.got.length ≤ 9 * N
  putl : s.put.length ≤ N
  putg : ∀ x ∈ s.put, Good x
theorem StOK.up {N M : Nat} {G : Gh} {s : St} (h : StOK N G s) (hm : N ≤ M) : StOK M G s := by
  obtain ⟨a1, a2, a3, a4, a5, a6, a7, a8, a9, a10, a11, a12, a13, a14, a15, a16, a17, a18, a19, a20⟩ := h
  exact ⟨a1, a2, a3.mono hm (fun _ q => q) (HLe.refl _), a4, a5, a6, a7, a8, a9, a10, a11, by omega, a13, by omega, a15, by omega, by omega, by omega, by omega, a20⟩
theorem StOK.cur_eq {N : Nat} {G : Gh} {s : St} (h : StOK N G s) (hN : N ≤ 500000) : (epO s.life s.ses).toNat = s.cur := by
  have h1 := h.lifeN
  have h2 := h.sesN
  exact epO_nat _ _ (by rw [h.life]; omega) (by omega)
theorem StOK.recv {N : Nat} {G : Gh} {s : St} (h : StOK N G s) {ep : UInt64} {rc : Rc.RecT} {got : List ItT} {hs : List UInt64} {way : List FrT} (hl : HLe (HH s.hs) (HH hs)) (hr : RcOK G (HH hs) s.w ep rc) (he : ep.toNat ≤ s.cur) (hg : GotOK s.put got hs) (hgl : got.length ≤ 9 * (N + 1))
    (hw : ∀ f ∈ way, FrOK G (HH hs) s.cur f) (hwl : way.length ≤ 200 + 9 * (N + 1)) : StOK (N + 1) G { s with ep := ep, rc := rc, got := got, hs := hs, way := way } := by
  obtain ⟨a1, a2, a3, a4, a5, a6, a7, a8, a9, a10, a11, a12, a13, a14, a15, a16, a17, a18, a19, a20⟩ := h
  exact ⟨a1, a2, a3.mono (by omega) (fun _ q => q) hl, a4, a5.mono (fun _ q => q) hl (Nat.le_refl _), hw, hr, he, hg, a10, a11, Nat.le_succ_of_le a12, a13, Nat.le_succ_of_le a14, a15, Nat.le_succ_of_le a16, hwl, hgl, Nat.le_succ_of_le a19, a20⟩
theorem StOK.renew {N : Nat} {G : Gh} {s : St} (h : StOK N G s) (hN : N ≤ 500000) (other : UInt64) : StOK (N + 1) G { s with ses := s.ses + 1, other := other, sd := newS s.w } ∧ s.cur ≤ ({ s with ses := s.ses + 1, other := other, sd := newS s.w } : St).cur := by
  have hc := h.cur_eq hN
  obtain ⟨a1, a2, a3, a4, a5, a6, a7, a8, a9, a10, a11, a12, a13, a14, a15, a16, a17, a18, a19, a20⟩ := h
  have e1 := u64_add1 (a := s.ses) (by omega)
  have hcur : ({ s with ses := s.ses + 1, other := other, sd := newS s.w } : St).cur = s.cur + 1 := by
    show s.life.toNat * 2 ^ 20 + (s.ses + 1).toNat = s.life.toNat * 2 ^ 20 + s.ses.toNat + 1
    omega
  have hG : G (epO s.life (s.ses + 1)) = [] := a5.none _ (by
    rw [epO_nat _ _ (by rw [a10]; omega) (by omega), e1]
    show s.life.toNat * 2 ^ 20 + s.ses.toNat < _
    omega)
  refine ⟨⟨a1, a2, a3.mono (by omega) (fun _ q => q) (HLe.refl _), ?_, ?_, ?_, a7, ?_, a9, a10, a11, Nat.le_succ_of_le a12, by show 1 ≤ (s.ses + 1).toNat; omega, by show (s.ses + 1).toNat ≤ N + 1 + 1; omega, a15, Nat.le_succ_of_le a16, by show s.way.length ≤ _; omega, by show s.got.length ≤ _; omega, by show s.put.length ≤ _; omega, a20⟩, by rw [hcur]; omega⟩
  · show SendOK (G (epO s.life (s.ses + 1))) _ _ _
    rw [hG]; exact send_new _ _
  · rw [hcur]; exact a5.mono (fun _ q => q) (HLe.refl _) (by omega)
  · intro f hf
    rw [hcur]; exact (a6 f hf).mono (GLe.refl G) (HLe.refl _) (by omega)
  · rw [hcur]; show s.ep.toNat ≤ _; omega
theorem come_ok (n : Nat) (hn : 2000 < n) {N : Nat} (hN : N ≤ 900) {G : Gh} {s : St} (h : StOK N G s) {f : FrT} (hf : FrOK G (HH s.hs) s.cur f) :
    ∃ s', F44 n (some s.t, f) = some (true, some s'.t) ∧ StOK (N + 1) G s' ∧ s.cur ≤ s'.cur := by
  rcases hf with ⟨e, sq, x, rfl, g1, g2, g3, g4⟩ | ⟨e, cum, bits, lf, rfl, g1, g2, g3⟩
  · have hx := h.g.it e x (List.mem_of_getElem? g4)
    have hD := data_eq n (by omega) h.w1 h.w8 s.il s.ep e sq hx g1 g3 g4 h.rc
    obtain ⟨c, ep', rc', e1, h1, h2⟩ := hD
    have hml := h1.fine.len
    have hw8 := h.w8
    have hepc := h.epc
    have hgl := h.gotl
    have hwl := h.wayl
    have hcl := come_loop n (by omega) G s.put s.w (some s.sp) (some (mkO s.w s.life s.ses s.other s.sd)) s.il ep' s.v0 s.v1 s.now s.way (by omega) s.ch (9 * (N + 1)) (by omega) (h.g.it ep') (h.g.len ep') n s.hs rc' s.got (by omega) (by omega) (h.g.ch ep') h1 h.got
    obtain ⟨r, e2, rc2, way2, got2, hs2, rfl, k1, k2, k3, k4, k5⟩ := hcl
    refine ⟨{ s with ep := ep', rc := rc2, got := got2, hs := hs2, way := way2 }, ?_, h.recv k1 k2 (by rcases h2 with rfl | rfl <;> omega) k3 k4 ?_ ?_, Nat.le_refl _⟩
    · unfold F44
      dsimp only
      rw [show decide ((1 : UInt8) = 2) = false from rfl, oite_f, obind_s]
      exact (obind_of e1 _).trans e2
    · intro f hm
      rcases k5 with rfl | ⟨cum, bits, rfl, q1, q2⟩
      · exact (h.fr f hm).mono (GLe.refl G) k1 (Nat.le_refl _)
      · rcases List.mem_append.1 hm with q | q
        · exact (h.fr f q).mono (GLe.refl G) k1 (Nat.le_refl _)
        · rw [List.mem_singleton.1 q]
          refine .inr ⟨ep', cum, bits, s.il, rfl, ?_, by rcases h2 with rfl | rfl <;> omega, q2⟩
          rw [UInt64.lt_iff_toNat_lt]
          have : ep'.toNat ≠ 0 := fun q => q1 (UInt64.toNat.inj q)
          show 0 < ep'.toNat
          omega
    · rcases k5 with rfl | ⟨cum, bits, rfl, q1, q2⟩
      · omega
      · rw [List.length_append, List.length_singleton]; omega
  · have hfew := h.snd.few
    have hw8 := h.w8
    have hses := h.sesN
    have hss : ¬ (1048576 : UInt64) ≤ s.ses + 1 := fun q => by
      have := UInt64.le_iff_toNat_le.1 q
      rw [u64_add1 (by omega)] at this
      have e : (1048576 : UInt64).toNat = 1048576 := rfl
      omega
    have hO := oack_eq n (by omega) h.w1 h.w8 s.life s.ses s.other hss s.sd (by omega) e cum bits lf
    rcases hO with ⟨c, e1, c0⟩ | ⟨c, e1, c0⟩ | ⟨he, i, c, sd', e1, e2⟩
    · refine ⟨s, ?_, h.up (by omega), Nat.le_refl _⟩
      unfold F44
      dsimp only
      rw [show decide ((2 : UInt8) = 2) = true from rfl, oite_t, obind_s]
      refine (obind_of e1 _).trans ?_
      dsimp only
      rw [dec_f c0, oite_f]
    · obtain ⟨r1, r2⟩ := h.renew (by omega) lf
      refine ⟨_, ?_, r1, r2⟩
      unfold F44
      dsimp only
      rw [show decide ((2 : UInt8) = 2) = true from rfl, oite_t, obind_s]
      refine (obind_of e1 _).trans ?_
      dsimp only
      rw [dec_f c0, oite_f]
    · have hA := ack_eq n s.sd (by omega) (by omega) cum bits
      rcases hA with ⟨_, e3⟩ | ⟨hcn, i', k, s', e3, p1, p2, p3, p4, p5, p6, p7, p8, p9, p10⟩
      · rw [e3] at e2
        cases e2
        refine ⟨{ s with other := lf }, ?_, ?_, Nat.le_refl _⟩
        · unfold F44
          dsimp only
          rw [show decide ((2 : UInt8) = 2) = true from rfl, oite_t, obind_s]
          refine (obind_of e1 _).trans ?_
          dsimp only
          rw [show decide ((6 : Int64) = 0) = false from rfl, oite_f]
        · obtain ⟨a1, a2, a3, a4, a5, a6, a7, a8, a9, a10, a11, a12, a13, a14, a15, a16, a17, a18, a19, a20⟩ := h.up (show N ≤ N + 1 by omega)
          exact ⟨a1, a2, a3, a4, a5, a6, a7, a8, a9, a10, a11, a12, a13, a14, a15, a16, a17, a18, a19, a20⟩
      · rw [e3] at e2
        cases e2
        obtain ⟨A, hcov, _⟩ := h.sp.cov
        have hll := h.snd.len
        have hsd := send_drop h.snd k p5 p6 p1 p2 p3 p4
        -- the first so many stand in the spool, and were delivered
        have hidx : ∀ j (hj : j < (flS s.sd).length), ((flS s.sd)[j]).2.1 = ((lsS s.sp)[j]'(by omega)).1 := fun j hj => by
          have e := congrArg (fun l => l[j]?) h.snd.idx
          simp only [prs, List.map_map, List.getElem?_map, List.getElem?_eq_getElem hj] at e
          rw [List.getElem?_take_of_lt hj, List.getElem?_eq_getElem (by omega)] at e
          exact Option.some.inj e
        obtain ⟨pre, q1, q2⟩ := h.snd.pre
        have hseq : ∀ j (hj : j < (flS s.sd).length), ((flS s.sd)[j]).1.toNat = pre.length + 1 + j := fun j hj => by
          have e := congrArg (fun l => l[j]?) q2
          simp only [prs, List.map_map, List.getElem?_map, List.getElem?_eq_getElem hj, List.getElem?_range' hj] at e
          have := Option.some.inj e
          simp only [Function.comp] at this
          omega
        have hdel : ∀ e ∈ (lsS s.sp).take k, top e.2 ≤ HH s.hs (org e.2) := fun e' he' => by
          obtain ⟨j, hj, rfl⟩ := List.getElem_of_mem he'
          have hjk : j < k := by rw [List.length_take] at hj; omega
          have hjf : j < (flS s.sd).length := by omega
          have hcu := p7 j hjf hjk
          have hs1 := hseq j hjf
          have hcu := UInt64.le_iff_toNat_le.1 hcu
          obtain ⟨x, x1, x2⟩ := g3 (pre.length + j) (by omega)
          rw [he, q1, List.getElem?_append_right (by omega), show pre.length + j - pre.length = j from by omega] at x1
          unfold items at x1
          rw [List.getElem?_map, List.getElem?_take_of_lt hjf, List.getElem?_eq_getElem (by omega)] at x1
          have x3 : ((lsS s.sp)[j]'(by omega)).2 = x := Option.some.inj x1
          have e2 : ((lsS s.sp).take k)[j] = (lsS s.sp)[j]'(by omega) := by simp
          rw [e2, x3]
          exact x2
        by_cases hk0 : k = 0
        · subst hk0
          have hi0 := p9 rfl
          subst hi0
          refine ⟨{ s with other := lf, sd := sd' }, ?_, ?_, Nat.le_refl _⟩
          · unfold F44
            dsimp only
            rw [show decide ((2 : UInt8) = 2) = true from rfl, oite_t, obind_s]
            refine (obind_of e1 _).trans ?_
            dsimp only
            rw [show decide ((0 : Int64) = 0) = true from rfl, oite_t, show decide ((0 : UInt64) < 0) = false from rfl, oite_f]
          · obtain ⟨a1, a2, a3, a4, a5, a6, a7, a8, a9, a10, a11, a12, a13, a14, a15, a16, a17, a18, a19, a20⟩ := h.up (show N ≤ N + 1 by omega)
            exact ⟨a1, a2, a3, by simpa using hsd, a5, a6, a7, a8, a9, a10, a11, a12, a13, a14, a15, a16, a17, a18, a19, a20⟩
        · have hk1 : k - 1 < (flS s.sd).length := by omega
          have hi := p10 hk1 (by omega)
          rw [hidx _ hk1] at hi
          have hmem : (lsS s.sp)[k - 1]'(by omega) ∈ lsS s.sp := List.getElem_mem _
          have hsorted : (lsS s.sp).Pairwise fun a b => a.1 < b.1 := sorted_pair hcov.sorted
          have h1 : ∀ j (hj : j < (lsS s.sp).length), j < k → (lsS s.sp)[j].1 ≤ i := fun j hj hjk => by
            rw [hi]
            by_cases e : j = k - 1
            · subst e; exact UInt64.le_refl _
            · exact UInt64.le_of_lt (List.pairwise_iff_getElem.1 hsorted j (k - 1) hj (by omega) (by omega))
          have h2 : ∀ (hj : k < (lsS s.sp).length), ¬ (lsS s.sp)[k].1 ≤ i := fun hj => by
            rw [hi, UInt64.not_le]
            exact List.pairwise_iff_getElem.1 hsorted (k - 1) k (by omega) hj (by omega)
          have hnx : i < s.sp.1.2.2.1 := by rw [hi]; exact hcov.upp _ hmem
          have hac : s.sp.1.2.2.2.1 < i := by rw [hi]; exact hcov.low _ hmem
          have hlen := hcov.ok.len
          have hS := ack_spec n (by omega) s.sp (by omega) (by omega) hcov.ok.good i hnx hac k (by have := hll; unfold lsS at this; omega) h1 h2
          obtain ⟨c, u, e4⟩ := hS
          have hlow : ∀ e ∈ (lsS s.sp).drop k, i < e.1 := fun e' he' => by
            obtain ⟨j, hj, rfl⟩ := List.getElem_of_mem he'
            rw [List.length_drop] at hj
            rw [List.getElem_drop, hi]
            exact List.pairwise_iff_getElem.1 hsorted (k - 1) (k + j) (by omega) (by omega) (by omega)
          have hspi := ack_spi h.sp k (by omega) i u hlow hnx hdel
          refine ⟨{ s with other := lf, sd := sd', sp := ((s.sp.1.1, u, s.sp.1.2.2.1, i, (lsS s.sp).drop k), s.sp.2) }, ?_, ?_, Nat.le_refl _⟩
          · unfold F44
            dsimp only
            rw [show decide ((2 : UInt8) = 2) = true from rfl, oite_t, obind_s]
            refine (obind_of e1 _).trans ?_
            dsimp only
            have hpos : 0 < i := UInt64.lt_of_le_of_lt (UInt64.le_iff_toNat_le.2 (Nat.zero_le _)) hac
            rw [show decide ((0 : Int64) = 0) = true from rfl, oite_t, dec_t hpos, oite_t]
            exact obind_of e4 _
          · obtain ⟨a1, a2, a3, a4, a5, a6, a7, a8, a9, a10, a11, a12, a13, a14, a15, a16, a17, a18, a19, a20⟩ := h.up (show N ≤ N + 1 by omega)
            exact ⟨a1, a2, hspi.mono (by omega) (fun _ q => q) (HLe.refl _), hsd, a5, a6, a7, a8, a9, a10, a11, a12, a13, a14, a15, a16, a17, a18, a19, a20⟩
end Go.Proofs.Ytfmomnniadlbhaa
open Go Go.Sx
namespace Go.Proofs.Ytfmomnniadlbhaa
theorem i64_mod {a b : Nat} (ha : a < 2 ^ 63) (hb : b < 2 ^ 63) : I64 a % I64 b = I64 (a % b) := by
  apply Int64.toInt_inj.1
  rw [Int64.toInt_mod, i64_toInt ha, i64_toInt hb, i64_toInt (Nat.lt_of_le_of_lt (Nat.mod_le _ _) ha)]
  exact (Int.ofNat_tmod a b).symm
theorem send_idx {Gc : List ItT} {w : Int64} {sd : SndT} {l : List EnT} (h : SendOK Gc w sd l) : ∀ j (hj : j < (flS sd).length), ((flS sd)[j]).2.1 = (l[j]'(by have := h.len; omega)).1 := fun j hj => by
  have e := congrArg (fun l => l[j]?) h.idx
  simp only [prs, List.map_map, List.getElem?_map, List.getElem?_eq_getElem hj] at e
  rw [List.getElem?_take_of_lt hj, List.getElem?_eq_getElem (by have := h.len; omega)] at e
  exact Option.some.inj e
theorem send_last {Gc : List ItT} {w : Int64} {sd : SndT} {l : List EnT} (h : SendOK Gc w sd l) (h0 : 0 < (flS sd).length) : lastI (flS sd) = (l[(flS sd).length - 1]'(by have := h.len; omega)).1 := by
  rw [last_at h0]; exact send_idx h _ _
theorem max_nat (a b : UInt64) : (IK.maxI .u64 a b : UInt64).toNat = max a.toNat b.toNat := by
  have h := maxI_toInt .u64 a b
  have e1 : IK.toInt .u64 (IK.maxI .u64 a b) = ((IK.maxI .u64 a b : UInt64).toNat : Int) := rfl
  have e2 : IK.toInt .u64 a = (a.toNat : Int) := rfl
  have e3 : IK.toInt .u64 b = (b.toNat : Int) := rfl
  rw [e1, e2, e3] at h
  split at h <;> omega
theorem le_max_r (a b : UInt64) : b ≤ IK.maxI .u64 a b := by
  rw [UInt64.le_iff_toNat_le, max_nat]; omega
theorem max_lt {a b c : UInt64} (h1 : a < c) (h2 : b < c) : IK.maxI .u64 a b < c := by
  rw [UInt64.lt_iff_toNat_lt] at h1 h2 ⊢
  rw [max_nat]; omega
def setG (G : Gh) (e : UInt64) (L : List ItT) : Gh := fun p => if p = e then L else G p
theorem fill_ok (n : Nat) (hn : 2000 < n) {N : Nat} (hN : N ≤ 900) {G : Gh} {s : St} (h : StOK N G s) (now : UInt64) :
    ∃ c sd' G', F20 n (some (mkO s.w s.life s.ses s.other s.sd), some s.sp, now) = some (c, some (mkO s.w s.life s.ses s.other sd'), some s.sp) ∧ StOK N G' { s with sd := sd', now := now } ∧
      Offs now s.sd (listGo (IK.maxI .u64 s.sp.1.2.2.2.1 (lastI (flS s.sd))) (s.sd.1 - I64 (flS s.sd).length) (lsS s.sp) []) sd' := by
  obtain ⟨A, hcov, _⟩ := h.sp.cov
  have hlen := hcov.ok.len
  have hsl := h.snd.len
  have hlen2 : (lsS s.sp).length ≤ N := hlen
  have hF := fill_eq n (by omega) s.w s.life s.ses s.other s.sd s.sp (by omega) hcov.ok.good (by omega) now
  obtain ⟨c, sd', e1, ho⟩ := hF
  have hsorted : (lsS s.sp).Pairwise fun a b => a.1 < b.1 := sorted_pair hcov.sorted
  have hD := listGo_drop (b := IK.maxI .u64 s.sp.1.2.2.2.1 (lastI (flS s.sd))) (many := s.sd.1 - I64 (flS s.sd).length) (lsS s.sp) [] (flS s.sd).length (fun j hj hjk => by
      refine UInt64.le_trans ?_ (le_max_r _ _)
      rw [send_last h.snd (by omega)]
      by_cases e : j = (flS s.sd).length - 1
      · subst e; exact UInt64.le_refl _
      · exact UInt64.le_of_lt (List.pairwise_iff_getElem.1 hsorted j _ hj (by omega) (by omega))) (fun j hj hjk => by
      refine max_lt (hcov.low _ (List.getElem_mem hj)) ?_
      by_cases h0 : 0 < (flS s.sd).length
      · rw [send_last h.snd h0]
        exact List.pairwise_iff_getElem.1 hsorted _ j (by omega) hj (by omega)
      · have : flS s.sd = [] := List.length_eq_zero_iff.1 (by omega)
        rw [this]
        exact hcov.ok.pos _ (List.getElem_mem hj))
  obtain ⟨m, hm⟩ := hD
  rw [List.nil_append] at hm
  have hw1 := h.w1
  have hw8 := h.w8
  have hO := offs_ok h.sp.next ⟨by omega, by omega⟩ ho (m := m) (Gc := G (epO s.life s.ses)) hm (h.g.ch _) (h.g.it _) (h.g.len _) h.snd
  obtain ⟨Gc', g1, g2, g3, g4, t, g5⟩ := hO
  have hcur := h.cur_eq (by omega)
  have hle : GLe G (setG G (epO s.life s.ses) Gc') := fun e q x hx => by
    unfold setG
    split
    · rename_i he
      subst he
      rw [g5, List.getElem?_append_left (by rcases Nat.lt_or_ge q (G (epO s.life s.ses)).length with g | g; exact g; rw [List.getElem?_eq_none g] at hx; cases hx)]
      exact hx
    · exact hx
  refine ⟨c, sd', setG G (epO s.life s.ses) Gc', e1, ?_, ho⟩
  obtain ⟨a1, a2, a3, a4, a5, a6, a7, a8, a9, a10, a11, a12, a13, a14, a15, a16, a17, a18, a19, a20⟩ := h
  refine ⟨a1, a2, a3, ?_, ⟨fun e => ?_, fun e he => ?_, fun e => ?_, fun e => ?_⟩, fun f hf => (a6 f hf).mono hle (HLe.refl _) (Nat.le_refl _), a7.mono hle (HLe.refl _), a8, a9, a10, a11, a12, a13, a14, a15, a16, a17, a18, a19, a20⟩
  · show SendOK (setG G (epO s.life s.ses) Gc' (epO s.life s.ses)) _ _ _
    unfold setG; rw [if_pos rfl]; exact g1
  · unfold setG; split
    · exact g2
    · exact a5.ch e
  · have he : s.cur < e.toNat := he
    unfold setG; rw [if_neg (fun q => by rw [q] at he; omega)]; exact a5.none e he
  · unfold setG; split
    · exact g3
    · exact a5.it e
  · unfold setG; split
    · exact g4
    · exact a5.len e
theorem sentOf_mem {ep : UInt64} {l : List EnT} : ∀ (ps : List (UInt64 × UInt64)) (f : FrT), f ∈ sentOf ep l ps → ∃ p ∈ ps, ∃ e ∈ l, e.1 = p.2 ∧ f = dataF ep p.1 e.2
  | [], f, h => by cases h
  | p :: r, f, h => by
    unfold sentOf at h
    split at h
    · rename_i e he
      rcases List.mem_cons.1 h with q | q
      · exact ⟨p, by simp, e, List.mem_of_find?_eq_some he, by simpa using List.find?_some he, q⟩
      · obtain ⟨p', h1, h2⟩ := sentOf_mem r f q
        exact ⟨p', by simp [h1], h2⟩
    · obtain ⟨p', h1, h2⟩ := sentOf_mem r f h
      exact ⟨p', by simp [h1], h2⟩
theorem sentOf_len {ep : UInt64} {l : List EnT} : ∀ (ps : List (UInt64 × UInt64)), (sentOf ep l ps).length ≤ ps.length
  | [] => Nat.le_refl _
  | p :: r => by
    have := sentOf_len (ep := ep) (l := l) r
    unfold sentOf
    split
    · simp; exact this
    · simp; omega
theorem send_seq {Gc : List ItT} {w : Int64} {sd : SndT} {l : List EnT} (h : SendOK Gc w sd l) : ∀ p ∈ prs (flS sd), ∃ j, j < (flS sd).length ∧ ∃ hj : j < l.length, p.2 = l[j].1 ∧ 1 ≤ p.1.toNat ∧ Gc[p.1.toNat - 1]? = some l[j].2 := fun p hp => by
  obtain ⟨j, hj, rfl⟩ := List.getElem_of_mem hp
  rw [prs_len] at hj
  have hl := h.len
  obtain ⟨pre, q1, q2⟩ := h.pre
  have e := congrArg (fun l => l[j]?) q2
  simp only [prs, List.map_map, List.getElem?_map, List.getElem?_eq_getElem hj, List.getElem?_range' hj] at e
  have e := Option.some.inj e
  simp only [Function.comp] at e
  have hp : (prs (flS sd))[j]'(by rw [prs_len]; exact hj) = pr (flS sd)[j] := by simp [prs]
  rw [hp]
  refine ⟨j, hj, by omega, send_idx h j hj, by show 1 ≤ ((flS sd)[j]).1.toNat; omega, ?_⟩
  rw [q1, List.getElem?_append_right (by show pre.length ≤ ((flS sd)[j]).1.toNat - 1; omega), show (pr (flS sd)[j]).1.toNat - 1 - pre.length = j from by show ((flS sd)[j]).1.toNat - 1 - pre.length = j; omega]
  unfold items
  rw [List.getElem?_map, List.getElem?_take_of_lt hj, List.getElem?_eq_getElem (by omega)]
  rfl
theorem send_same {Gc : List ItT} {w : Int64} {sd sd' : SndT} {l : List EnT} (h : SendOK Gc w sd l) (hp : prs (flS sd') = prs (flS sd)) (h1 : sd'.1 = sd.1) (h2 : sd'.2.1 = sd.2.1) (h3 : sd'.2.2.1 = sd.2.2.1) (h4 : sd'.2.2.2.2.1 = sd.2.2.2.2.1) : SendOK Gc w sd' l := by
  have := send_drop h 0 (Nat.zero_le _) (by rw [hp]; rfl) h1 h2 h3 h4
  simpa using this
theorem frames_ok (n : Nat) (hn : 2000 < n) {N : Nat} (hN : N ≤ 900) {G : Gh} {s : St} (h : StOK N G s) (now : UInt64) :
    ∃ ds sd', F21 n (some (mkO s.w s.life s.ses s.other s.sd), some s.sp, now) = some (sentOf (epO s.life s.ses) (lsS s.sp) (prs ds), some (mkO s.w s.life s.ses s.other sd'), some s.sp) ∧ StOK N G { s with sd := sd' } ∧
      F41 n (some s.sd, now) = some (ds, some sd') ∧ (prs ds).Sublist (prs (flS s.sd)) ∧ (∀ f ∈ sentOf (epO s.life s.ses) (lsS s.sp) (prs ds), FrOK G (HH s.hs) s.cur f) ∧ (sentOf (epO s.life s.ses) (lsS s.sp) (prs ds)).length ≤ 8 := by
  obtain ⟨A, hcov, _⟩ := h.sp.cov
  have hlen := hcov.ok.len
  have hsl := h.snd.len
  have hlen2 : (lsS s.sp).length ≤ N := hlen
  have hsorted : (lsS s.sp).Pairwise fun a b => a.1 < b.1 := sorted_pair hcov.sorted
  have hF := frames_eq n (by omega) s.w s.life s.ses s.other s.sd s.sp (by omega) hcov.ok.good hsorted (by omega) now
  obtain ⟨ds, sd', e1, e2, g1, g2, g3, g4, g5, g6⟩ := hF
  have hcur := h.cur_eq (by omega)
  have hw8 := h.w8
  have hfew := h.snd.few
  refine ⟨ds, sd', e1, ?_, e2, g2, fun f hf => ?_, ?_⟩
  · obtain ⟨a1, a2, a3, a4, a5, a6, a7, a8, a9, a10, a11, a12, a13, a14, a15, a16, a17, a18, a19, a20⟩ := h
    exact ⟨a1, a2, a3, send_same a4 g1 g3 g4 g5 g6, a5, a6, a7, a8, a9, a10, a11, a12, a13, a14, a15, a16, a17, a18, a19, a20⟩
  · obtain ⟨p, hp, e, he, hi, rfl⟩ := sentOf_mem _ f hf
    obtain ⟨j, hj, hjl, q1, q2, q3⟩ := send_seq h.snd p (g2.subset hp)
    obtain ⟨i, hil, rfl⟩ := List.getElem_of_mem he
    have hij : i = j := by
      rw [q1] at hi
      rcases Nat.lt_trichotomy i j with g | g | g
      · have := List.pairwise_iff_getElem.1 hsorted i j hil hjl g
        rw [hi] at this; exact absurd this (UInt64.lt_irrefl _)
      · exact g
      · have := List.pairwise_iff_getElem.1 hsorted j i hjl hil g
        rw [hi] at this; exact absurd this (UInt64.lt_irrefl _)
    subst hij
    refine .inl ⟨epO s.life s.ses, p.1, _, rfl, ?_, by omega, q2, q3⟩
    rw [UInt64.lt_iff_toNat_lt, hcur]
    have := h.ses1
    show 0 < s.cur
    unfold St.cur
    omega
  · have h1 := sentOf_len (ep := epO s.life s.ses) (l := lsS s.sp) (prs ds)
    have h2 := g2.length_le
    rw [prs_len (flS s.sd)] at h2
    omega
end Go.Proofs.Ytfmomnniadlbhaa
open Go Go.Sx
namespace Go.Proofs.Ytfmomnniadlbhaa
theorem item_org (n : Nat) (hn : 20 < n) (z : SmT) : ∃ x, F57 n z = some (x, ()) ∧ org x = z.2.1 % 32 := by
  obtain ⟨s0, s1, s2, s3, s4, s5, s6, s7, s8, s9, s10⟩ := z
  cases s0 with
  | true => exact ⟨_, rfl, rfl⟩
  | false =>
    obtain ⟨f1, rule, f2, f3⟩ := const_idx [[(104 : UInt8), (111 : UInt8), (116 : UInt8)], [(99 : UInt8), (111 : UInt8), (108 : UInt8), (100 : UInt8)],
        [(100 : UInt8), (105 : UInt8), (115 : UInt8), (107 : UInt8), (46 : UInt8), (102 : UInt8), (117 : UInt8), (108 : UInt8), (108 : UInt8)], [(120 : UInt8)]] s7 4 (by decide) rfl
    have key : ∀ state : UInt8, ∃ x, F57_J63 n false s1 s2 s3 s4 s5 s6 s7 s8 s9 s10 false 0 0 0 [] 0 0 0 0 0 0 0 (s1 % 32) (1 + UInt64.ofInt ↑(UInt16.toNat s4)) (UInt64.ofInt ↑(UInt16.toNat s6)) rule state (s2 % 8)
        (Int64.ofInt ↑(UInt8.toNat s9) - 100) 0 = some (x, ()) ∧ org x = s1 % 32 := by
      intro state
      unfold F57_J63
      rw [ojoinA_rw]
      by_cases h7 : s3 % 8 = 7
      · rw [dec_t h7, oite_t]
        obtain ⟨d, hd⟩ := j127 n (by omega) false s1 s2 s3 s4 s5 s6 s7 s8 s9 s10 false 0 0 0 [] 0 0 0 0 0 0 0 (s1 % 32) (1 + UInt64.ofInt ↑(UInt16.toNat s4)) (UInt64.ofInt ↑(UInt16.toNat s6)) [111, 119, 110, 46, 120] state (s2 % 8)
          (Int64.ofInt ↑(UInt8.toNat s9) - 100) (1 + s3 / 8 % 2)
        exact ⟨_, hd, rfl⟩
      · rw [dec_f h7, oite_f]
        obtain ⟨d, hd⟩ := j127 n (by omega) false s1 s2 s3 s4 s5 s6 s7 s8 s9 s10 false 0 0 0 [] 0 0 0 0 0 0 0 (s1 % 32) (1 + UInt64.ofInt ↑(UInt16.toNat s4)) (UInt64.ofInt ↑(UInt16.toNat s6)) rule state (s2 % 8)
          (Int64.ofInt ↑(UInt8.toNat s9) - 100) 0
        exact ⟨_, hd, rfl⟩
    unfold F57
    dsimp only
    rw [oite_f, f1, f3, oite_t, obind_s, ojoinA_rw]
    cases s10 with
    | true => rw [oite_t]; exact key 2
    | false => rw [oite_f]; exact key 0
theorem next_org {x : ItT} {a k : UInt64} : org (nextY x a k) = org x := by
  unfold nextY
  split
  · rename_i h; unfold org spanI; rw [if_pos h, if_pos h]
  · rename_i h; unfold org spanI; rw [if_neg h, if_neg h]
theorem mod4_32 (o : UInt8) : ((o % 4) % 32).toNat < 4 := by
  rw [UInt8.toNat_mod, UInt8.toNat_mod]
  have e1 : (4 : UInt8).toNat = 4 := rfl
  have e2 : (32 : UInt8).toNat = 32 := rfl
  rw [e1, e2]
  omega
theorem changed_eq (n : Nat) {w : Int64} (h1 : 1 ≤ w.toInt) (h8 : w.toInt ≤ 8) (life ses other : UInt64) (hses : ¬ (1048576 : UInt64) ≤ ses + 1) (sd : SndT) (hf : (flS sd).length < 1000) (f : UInt64) :
    ((f = 0 ∨ lastI (flS sd) < f) ∧ F22 n (some (mkO w life ses other sd), f) = some (false, some (mkO w life ses other sd))) ∨
    F22 n (some (mkO w life ses other sd), f) = some (true, some (mkO w life (ses + 1) other (newS w))) := by
  obtain ⟨w1, w2⟩ := win_lt h1 h8
  unfold F22
  rw [oelim_s]
  dsimp only
  by_cases h0 : f = 0
  · rw [dec_t h0, oite_t]; exact .inl ⟨.inl h0, rfl⟩
  · rw [dec_f h0, oite_f]
    by_cases hl : lastI (flS sd) < f
    · refine .inl ⟨.inr hl, (obind_of (last_eq n sd (by omega)) _).trans ?_⟩
      dsimp only
      rw [dec_t hl, oite_t]
    · refine .inr ((obind_of (last_eq n sd (by omega)) _).trans ?_)
      dsimp only
      rw [dec_f hl, oite_f]
      exact obind_of (restart_eq n w life ses other sd w1 w2 hses) _
theorem newIn_eq (n : Nat) (w : Int64) (life : UInt64) (h1 : ¬ w < 1) (h2 : ¬ (64 : Int64) < w) (hl : ¬ life < 1) (hl2 : ¬ (1048576 : UInt64) ≤ life) :
    F14 n (0, 1, life, w) = some ((some (mkI w life 0 (w, 1, [], 0)), 0), ()) := by
  unfold F14
  dsimp only
  rw [show decide ((32 : UInt8) ≤ 0) = false from rfl, show decide ((32 : UInt8) ≤ 1) = false from rfl, show decide ((0 : UInt8) = 1) = false from rfl, dec_f hl, dec_f hl2]
  simp only [oite_f]
  exact obind_of (rnew_eq n w h1 h2) _
theorem lim20 {a : UInt64} (h : a.toNat ≤ 1000) : ¬ (1048576 : UInt64) ≤ a + 1 ∧ ¬ a + 1 < 1 ∧ (a + 1).toNat = a.toNat + 1 := by
  have e := u64_add1 (a := a) (by omega)
  have e1 : (1048576 : UInt64).toNat = 1048576 := rfl
  have e2 : (1 : UInt64).toNat = 1 := rfl
  refine ⟨fun q => by have := UInt64.le_iff_toNat_le.1 q; omega, fun q => by have := UInt64.lt_iff_toNat_lt.1 q; omega, e⟩
theorem StOK.out {N : Nat} {G : Gh} {s : St} (h : StOK N G s) (hN : N ≤ 900) : StOK (N + 1) G { s with life := s.v0 + 1, v0 := s.v0 + 1, ses := 1, other := 0, sd := newS s.w } ∧ s.cur ≤ ({ s with life := s.v0 + 1, v0 := s.v0 + 1, ses := 1, other := 0, sd := newS s.w } : St).cur := by
  obtain ⟨a1, a2, a3, a4, a5, a6, a7, a8, a9, a10, a11, a12, a13, a14, a15, a16, a17, a18, a19, a20⟩ := h
  obtain ⟨_, _, e1⟩ := lim20 (a := s.v0) (by omega)
  have e2 : (1 : UInt64).toNat = 1 := rfl
  have hc0 : s.cur = s.v0.toNat * 2 ^ 20 + s.ses.toNat := by unfold St.cur; rw [a10]
  have hcur : ({ s with life := s.v0 + 1, v0 := s.v0 + 1, ses := 1, other := 0, sd := newS s.w } : St).cur = (s.v0.toNat + 1) * 2 ^ 20 + 1 := by
    show (s.v0 + 1).toNat * 2 ^ 20 + (1 : UInt64).toNat = _
    rw [e1, e2]
  have hG : G (epO (s.v0 + 1) 1) = [] := a5.none _ (by rw [epO_nat _ _ (by omega) (by omega), hc0]; omega)
  refine ⟨⟨a1, a2, a3.mono (by omega) (fun _ q => q) (HLe.refl _), ?_, ?_, ?_, a7, ?_, a9, rfl, by show 1 ≤ (s.v0 + 1).toNat; omega, by show (s.v0 + 1).toNat ≤ N + 1 + 1; omega, by show 1 ≤ (1 : UInt64).toNat; omega, by show (1 : UInt64).toNat ≤ N + 1 + 1; omega, a15, Nat.le_succ_of_le a16, by show s.way.length ≤ _; omega, by show s.got.length ≤ _; omega, by show s.put.length ≤ _; omega, a20⟩, by rw [hcur, hc0]; omega⟩
  · show SendOK (G (epO (s.v0 + 1) 1)) _ _ _
    rw [hG]; exact send_new _ _
  · rw [hcur]; exact a5.mono (fun _ q => q) (HLe.refl _) (by omega)
  · intro f hf
    rw [hcur]; exact (a6 f hf).mono (GLe.refl G) (HLe.refl _) (by omega)
  · rw [hcur]; show s.ep.toNat ≤ _; omega
theorem StOK.inn {N : Nat} {G : Gh} {s : St} (h : StOK N G s) (hN : N ≤ 900) : StOK (N + 1) G { s with il := s.v1 + 1, v1 := s.v1 + 1, ep := 0, rc := (s.w, 1, [], 0) } := by
  obtain ⟨a1, a2, a3, a4, a5, a6, a7, a8, a9, a10, a11, a12, a13, a14, a15, a16, a17, a18, a19, a20⟩ := h
  obtain ⟨_, _, e1⟩ := lim20 (a := s.v1) (by omega)
  exact ⟨a1, a2, a3.mono (by omega) (fun _ q => q) (HLe.refl _), a4, a5, a6, rc_new _ _, Nat.zero_le _, a9, a10, a11, Nat.le_succ_of_le a12, a13, Nat.le_succ_of_le a14, by show 1 ≤ (s.v1 + 1).toNat; omega, by show (s.v1 + 1).toNat ≤ N + 1 + 1; omega, by show s.way.length ≤ _; omega, by show s.got.length ≤ _; omega, by show s.put.length ≤ _; omega, a20⟩
theorem StOK.wayd {N : Nat} {G : Gh} {s : St} (h : StOK N G s) {way : List FrT} (hw : ∀ f ∈ way, FrOK G (HH s.hs) s.cur f) (hl : way.length ≤ 200 + 9 * (N + 1)) : StOK (N + 1) G { s with way := way } := by
  obtain ⟨a1, a2, a3, a4, a5, a6, a7, a8, a9, a10, a11, a12, a13, a14, a15, a16, a17, a18, a19, a20⟩ := h.up (show N ≤ N + 1 by omega)
  exact ⟨a1, a2, a3, a4, a5, hw, a7, a8, a9, a10, a11, a12, a13, a14, a15, a16, hl, a18, a19, a20⟩
theorem StOK.puts {N : Nat} {G : Gh} {s : St} (h : StOK N G s) {x : ItT} (hx : Good x) {sp' : SpT} {f : UInt64} (h1 : SpI (N + 1) (s.put ++ [x]) (HH s.hs) sp') (h2 : Kept (lsS s.sp) (lsS sp') f) (hf : f = 0 ∨ lastI (flS s.sd) < f) (ch : Int64) :
    StOK (N + 1) G { s with sp := sp', put := s.put ++ [x], ch := ch } := by
  obtain ⟨A, hcov, _⟩ := h.sp.cov
  have hsorted : (lsS s.sp).Pairwise fun a b => a.1 < b.1 := sorted_pair hcov.sorted
  obtain ⟨p, p1, p2, p3, p4⟩ := h2 hsorted hcov.ok.pos
  have hsl := h.snd.len
  have hkp : (flS s.sd).length ≤ p := by
    rcases hf with h0 | h0
    · rw [p3 h0]; exact hsl
    · rcases Nat.lt_or_ge p (flS s.sd).length with g | g
      · exfalso
        rw [send_last h.snd (by omega)] at h0
        have hm : (lsS s.sp)[(flS s.sd).length - 1]'(by omega) ∈ (lsS s.sp).drop p := by
          refine List.mem_iff_getElem.2 ⟨(flS s.sd).length - 1 - p, by rw [List.length_drop]; omega, ?_⟩
          rw [List.getElem_drop]
          congr 1
          omega
        exact absurd h0 (UInt64.not_lt.2 (p4 _ hm))
      · exact g
  have ht : (lsS sp').take (flS s.sd).length = (lsS s.sp).take (flS s.sd).length := by
    have e : ((lsS sp').take p).take (flS s.sd).length = ((lsS s.sp).take p).take (flS s.sd).length := by rw [p2]
    rwa [List.take_take, List.take_take, Nat.min_eq_left hkp] at e
  have hsub : ∀ y ∈ s.put, y ∈ s.put ++ [x] := fun y hy => List.mem_append_left _ hy
  obtain ⟨a1, a2, a3, a4, a5, a6, a7, a8, a9, a10, a11, a12, a13, a14, a15, a16, a17, a18, a19, a20⟩ := h
  refine ⟨a1, a2, h1, send_kept a4 ht, a5.mono hsub (HLe.refl _) (Nat.le_refl _), a6, a7, a8, a9.mono hsub, a10, a11, Nat.le_succ_of_le a12, a13, Nat.le_succ_of_le a14, a15, Nat.le_succ_of_le a16, by show s.way.length ≤ _; omega, by show s.got.length ≤ _; omega, by show (s.put ++ [x]).length ≤ _; rw [List.length_append, List.length_singleton]; omega, fun y hy => ?_⟩
  rcases List.mem_append.1 hy with q | q
  · exact a20 y q
  · rw [List.mem_singleton.1 q]; exact hx
theorem StOK.putsNew {N : Nat} {G : Gh} {s : St} (h : StOK N G s) (hN : N ≤ 900) {x : ItT} (hx : Good x) {sp' : SpT} (h1 : SpI (N + 1) (s.put ++ [x]) (HH s.hs) sp') (ch : Int64) :
    StOK (N + 1) G { s with sp := sp', put := s.put ++ [x], ch := ch, ses := s.ses + 1, sd := newS s.w } ∧ s.cur ≤ ({ s with sp := sp', put := s.put ++ [x], ch := ch, ses := s.ses + 1, sd := newS s.w } : St).cur := by
  obtain ⟨h2, h3⟩ := h.renew (by omega) s.other
  have hsub : ∀ y ∈ s.put, y ∈ s.put ++ [x] := fun y hy => List.mem_append_left _ hy
  obtain ⟨a1, a2, a3, a4, a5, a6, a7, a8, a9, a10, a11, a12, a13, a14, a15, a16, a17, a18, a19, a20⟩ := h2
  have hpl := h.putl
  have e : G (epO s.life (s.ses + 1)) = [] := by
    have := a5.none (epO s.life (s.ses + 1))
    have h4 := h.sesN
    have h5 := h.lifeN
    have e1 := u64_add1 (a := s.ses) (by omega)
    refine h.g.none _ ?_
    rw [epO_nat _ _ (by rw [h.life]; omega) (by omega), e1]
    show s.life.toNat * 2 ^ 20 + s.ses.toNat < _
    omega
  refine ⟨⟨a1, a2, h1, ?_, a5.mono hsub (HLe.refl _) (Nat.le_refl _), a6, a7, a8, a9.mono hsub, a10, a11, a12, a13, a14, a15, a16, a17, a18, by show (s.put ++ [x]).length ≤ _; rw [List.length_append, List.length_singleton]; omega, fun y hy => ?_⟩, h3⟩
  · show SendOK (G (epO s.life (s.ses + 1))) _ _ _
    rw [e]; exact send_new _ _
  · rcases List.mem_append.1 hy with q | q
    · exact h.putg y q
    · rw [List.mem_singleton.1 q]; exact hx
end Go.Proofs.Ytfmomnniadlbhaa
open Go Go.Sx
namespace Go.Proofs.Ytfmomnniadlbhaa
abbrev ActT := UInt8 × Bool × UInt8 × UInt8 × UInt8 × UInt16 × UInt16 × UInt16 × UInt8 × UInt8 × UInt8 × Bool × UInt8
def DoP (N : Nat) (s : St) (r : Bool × Option LkT) : Prop := ∃ G' s', r = (true, some s'.t) ∧ StOK (N + 1) G' s' ∧ s.cur ≤ s'.cur
theorem DoP.same {N : Nat} {G : Gh} {s : St} (h : StOK N G s) : DoP N s (true, some s.t) := ⟨G, s, rfl, h.up (by omega), Nat.le_refl _⟩
theorem j247_ok (n : Nat) (hn : 2000 < n) {N : Nat} (hN : N ≤ 900) {G : Gh} {s : St} (h : StOK N G s) (k : Int64) (hk : 0 < s.way.length → ∃ j, k = I64 j ∧ j < s.way.length) (a : ActT) (b : Bool) :
    ∃ r, F26_J247 n F26_J15 k (a.1 % 11) b s.hs s.w 1 4 s.v0 s.v1 s.now s.ch a.1 a.2.1 a.2.2.1 a.2.2.2.1 a.2.2.2.2.1 a.2.2.2.2.2.1 a.2.2.2.2.2.2.1 a.2.2.2.2.2.2.2.1 a.2.2.2.2.2.2.2.2.1 a.2.2.2.2.2.2.2.2.2.1 a.2.2.2.2.2.2.2.2.2.2.1 a.2.2.2.2.2.2.2.2.2.2.2.1 a.2.2.2.2.2.2.2.2.2.2.2.2
      (some s.sp) (some (mkO s.w s.life s.ses s.other s.sd)) (some (mkI s.w s.il s.ep s.rc)) s.way s.put s.got = some r ∧ DoP N s r := by
  have hwl := h.wayl
  have hpl := h.putl
  unfold F26_J247
  cases b with
  | true =>
    rw [oite_t]
    by_cases h0 : s.way.length = 0
    · rw [show decide (Int64.ofInt ↑s.way.length = 0) = true from dec_t ((i64_eq (a := s.way.length) (b := 0) (by omega) (by omega)).2 h0), oite_t]
      exact ⟨_, rfl, .same h⟩
    · obtain ⟨j, rfl, hj⟩ := hk (by omega)
      rw [show decide (Int64.ofInt ↑s.way.length = 0) = false from dec_f (fun q => h0 ((i64_eq (a := s.way.length) (b := 0) (by omega) (by omega)).1 q)), oite_f]
      obtain ⟨q1, q2⟩ := idx_i64 (l := s.way) (k := j) hj (by omega)
      have ej := i64_toInt (k := j) (by omega)
      have ej1 := i64_toInt (k := j + 1) (by omega)
      rw [q1, oite_t, q2]
      simp only [obind_s, i64_succ]
      rw [ej, ej1]
      simp only [Int.toNat_natCast, Nat.sub_zero, List.drop_zero]
      rw [dec_t (show (0 : Int) ≤ (j : Int) by omega), dec_t (show (0 : Int) ≤ ((j + 1 : Nat) : Int) by omega), ble_t (show j ≤ s.way.length by omega), ble_t (show j + 1 ≤ s.way.length by omega)]
      simp only [Bool.and_self, oite_t, List.nil_append]
      rw [ble_t (show 0 + (List.take j s.way).length ≤ 4294967296 by rw [List.length_take]; omega), oite_t, ble_t (by rw [List.length_take, List.length_take, List.length_drop]; omega), oite_t]
      have hway : ∀ f ∈ List.take j s.way ++ List.take (s.way.length - (j + 1)) (List.drop (j + 1) s.way), FrOK G (HH s.hs) s.cur f := fun f hf => by
        rcases List.mem_append.1 hf with q | q
        · exact h.fr f (List.mem_of_mem_take q)
        · exact h.fr f (List.mem_of_mem_drop (List.mem_of_mem_take q))
      have hl2 : (List.take j s.way ++ List.take (s.way.length - (j + 1)) (List.drop (j + 1) s.way)).length ≤ 200 + 9 * N := by
        rw [List.length_append, List.length_take, List.length_take, List.length_drop]; omega
      have h2 : StOK N G { s with way := List.take j s.way ++ List.take (s.way.length - (j + 1)) (List.drop (j + 1) s.way) } := by
        obtain ⟨a1, a2, a3, a4, a5, a6, a7, a8, a9, a10, a11, a12, a13, a14, a15, a16, a17, a18, a19, a20⟩ := h
        exact ⟨a1, a2, a3, a4, a5, hway, a7, a8, a9, a10, a11, a12, a13, a14, a15, a16, hl2, a18, a19, a20⟩
      cases hlt : decide (a.1 % 11 < 7) with
      | true =>
        rw [oite_t]
        have hC := come_ok n hn hN h2 (f := s.way[j]) (h.fr _ (List.getElem_mem _))
        obtain ⟨s', e1, e2, e3⟩ := hC
        refine ex1 (obind_of e1 _) ?_
        exact ⟨_, rfl, G, s', rfl, e2, e3⟩
      | false =>
        rw [oite_f]
        exact ⟨_, rfl, G, _, rfl, h2.up (by omega), Nat.le_refl _⟩
  | false =>
    rw [oite_f]
    by_cases h8 : a.1 % 11 = 8
    · rw [dec_t h8, oite_t]
      by_cases h0 : 0 < s.way.length
      · obtain ⟨j, rfl, hj⟩ := hk h0
        obtain ⟨q1, q2⟩ := idx_i64 (l := s.way) (k := j) hj (by omega)
        rw [show decide ((0 : Int64) < Int64.ofInt ↑s.way.length) = true from dec_t ((i64_lt (a := 0) (by omega) (by omega)).2 h0), oite_t, q1, oite_t, q2, obind_s, ble_t (by simp; omega), oite_t]
        refine ⟨_, rfl, G, { s with way := s.way ++ [s.way[j]] }, rfl, h.wayd (fun f hf => ?_) (by rw [List.length_append, List.length_singleton]; omega), Nat.le_refl _⟩
        rcases List.mem_append.1 hf with q | q
        · exact h.fr f q
        · rw [List.mem_singleton.1 q]; exact h.fr _ (List.getElem_mem _)
      · rw [show decide ((0 : Int64) < Int64.ofInt ↑s.way.length) = false from dec_f (fun q => h0 ((i64_lt (a := 0) (by omega) (by omega)).1 q)), oite_f]
        exact ⟨_, rfl, .same h⟩
    · rw [dec_f h8, oite_f]
      obtain ⟨w1, w2⟩ := win_lt h.w1 h.w8
      by_cases h9 : a.1 % 11 = 9
      · rw [dec_t h9, oite_t]
        have hl := h.lifeN
        obtain ⟨l1, l2, l3⟩ := lim20 (a := s.v0) (by omega)
        refine ex1 (obind_of (newOut_eq n s.w (s.v0 + 1) w1 w2 l2 l1) _) ?_
        obtain ⟨r1, r2⟩ := h.out hN
        exact ⟨_, rfl, G, _, rfl, r1, r2⟩
      · rw [dec_f h9, oite_f]
        by_cases h10 : a.1 % 11 = 10
        · rw [dec_t h10, oite_t]
          have hl := h.v1N
          obtain ⟨l1, l2, l3⟩ := lim20 (a := s.v1) (by omega)
          refine ex1 (obind_of (newIn_eq n s.w (s.v1 + 1) w1 w2 l2 l1) _) ?_
          exact ⟨_, rfl, G, _, rfl, h.inn hN, Nat.le_refl _⟩
        · rw [dec_f h10, oite_f]
          obtain ⟨A, hcov, _⟩ := h.sp.cov
          have hS := step_spec n (by omega) s.sp N hcov.ok hN (a.2.1, a.2.2.1, a.2.2.2.1, a.2.2.2.2.1, a.2.2.2.2.2.1, a.2.2.2.2.2.2.1, a.2.2.2.2.2.2.2.1, a.2.2.2.2.2.2.2.2.1, a.2.2.2.2.2.2.2.2.2.1, a.2.2.2.2.2.2.2.2.2.2.1, a.2.2.2.2.2.2.2.2.2.2.2.1)
          obtain ⟨x, y, high, hx, e1, e2, e3, e4⟩ := hS
          have hI := item_org n (by omega) (smN (a.2.1, a.2.2.1, a.2.2.2.1, a.2.2.2.2.1, a.2.2.2.2.2.1, a.2.2.2.2.2.2.1, a.2.2.2.2.2.2.2.1, a.2.2.2.2.2.2.2.2.1, a.2.2.2.2.2.2.2.2.2.1, a.2.2.2.2.2.2.2.2.2.2.1, a.2.2.2.2.2.2.2.2.2.2.2.1))
          obtain ⟨x', e5, e6⟩ := hI
          rw [e1] at e5
          have hxx : x = x' := congrArg Prod.fst (Option.some.inj e5)
          subst hxx
          refine ex1 (obind_of e2 _) ?_
          dsimp only
          have hgood : Good (nextY x (s.sp.2.1[(a.2.2.1 % 4).toNat]'(by have := mod4_lt a.2.2.1; have := hcov.ok.highs; omega)) (UInt64.ofInt ↑(UInt16.toNat (a.2.2.2.2.2.2.1 % 3)))) := nextY_good hx.good _ _
          have horg : (org (nextY x (s.sp.2.1[(a.2.2.1 % 4).toNat]'(by have := mod4_lt a.2.2.1; have := hcov.ok.highs; omega)) (UInt64.ofInt ↑(UInt16.toNat (a.2.2.2.2.2.2.1 % 3))))).toNat < 4 := by
            rw [next_org, e6]; exact mod4_32 a.2.2.1
          have hP := putR_spi h.sp hgood horg e4
          obtain ⟨i, f, e, sp', rfl, hP⟩ := hP
          refine ex1 (obind_of e3 _) ?_
          dsimp only
          rcases hP with ⟨g0, rfl⟩ | ⟨rfl, g1, g2⟩
          · rw [dec_f g0, oite_f]
            exact ⟨_, rfl, .same h⟩
          · rw [show decide ((0 : Int64) = 0) = true from rfl, oite_t, ble_t (by simp; omega), oite_t]
            have hs := h.sesN
            obtain ⟨l1, l2, l3⟩ := lim20 (a := s.ses) (by omega)
            have hfew := h.snd.few
            have hw8 := h.w8
            have hC := changed_eq n h.w1 h.w8 s.life s.ses s.other l1 s.sd (by omega) f
            rcases hC with ⟨c1, c2⟩ | c2
            · refine ex1 (obind_of c2 _) ?_
              dsimp only
              rw [oite_f]
              exact ⟨_, rfl, G, _, rfl, h.puts hgood g1 g2 c1 s.ch, Nat.le_refl _⟩
            · refine ex1 (obind_of c2 _) ?_
              dsimp only
              rw [oite_t]
              obtain ⟨r1, r2⟩ := h.putsNew hN hgood g1 (s.ch + 1)
              exact ⟨_, rfl, G, _, rfl, r1, r2⟩
theorem do_ok (n : Nat) (hn : 2000 < n) {N : Nat} (hN : N ≤ 900) {G : Gh} {s : St} (h : StOK N G s) (a : ActT) : ∃ r, F26 n (some s.t, a) = some r ∧ DoP N s r := by
  have hwl := h.wayl
  have hj7 : ∀ k : Int64, (0 < s.way.length → ∃ j, k = I64 j ∧ j < s.way.length) → ∃ r, F26_J7 n k s.hs s.w 1 4 s.v0 s.v1 s.now s.ch a.1 a.2.1 a.2.2.1 a.2.2.2.1 a.2.2.2.2.1 a.2.2.2.2.2.1 a.2.2.2.2.2.2.1 a.2.2.2.2.2.2.2.1 a.2.2.2.2.2.2.2.2.1 a.2.2.2.2.2.2.2.2.2.1 a.2.2.2.2.2.2.2.2.2.2.1 a.2.2.2.2.2.2.2.2.2.2.2.1 a.2.2.2.2.2.2.2.2.2.2.2.2
      (some s.sp) (some (mkO s.w s.life s.ses s.other s.sd)) (some (mkI s.w s.il s.ep s.rc)) s.way s.put s.got = some r ∧ DoP N s r := by
    intro k hk
    unfold F26_J7
    rw [ojoinA_rw, ojoinA_rw]
    have hj61 : ∀ b : Bool, ∃ r, F26_J61 n F26_J15 k (a.1 % 11) b s.hs s.w 1 4 s.v0 s.v1 s.now s.ch a.1 a.2.1 a.2.2.1 a.2.2.2.1 a.2.2.2.2.1 a.2.2.2.2.2.1 a.2.2.2.2.2.2.1 a.2.2.2.2.2.2.2.1 a.2.2.2.2.2.2.2.2.1 a.2.2.2.2.2.2.2.2.2.1 a.2.2.2.2.2.2.2.2.2.2.1 a.2.2.2.2.2.2.2.2.2.2.2.1 a.2.2.2.2.2.2.2.2.2.2.2.2
        (some s.sp) (some (mkO s.w s.life s.ses s.other s.sd)) (some (mkI s.w s.il s.ep s.rc)) s.way s.put s.got = some r ∧ DoP N s r := by
      intro b
      unfold F26_J61
      cases b with
      | true =>
        rw [oite_t]
        have hF := fill_ok n hn hN h (s.now + 1)
        obtain ⟨c, sd1, G1, e1, h1, _⟩ := hF
        refine ex1 (obind_of e1 _) ?_
        dsimp only
        have hR := frames_ok n hn hN h1 (s.now + 1)
        obtain ⟨ds, sd2, e2, h2, _, _, h3, h4⟩ := hR
        refine ex1 (obind_of e2 _) ?_
        dsimp only
        dsimp only at h3 h4
        have hall : ∀ f ∈ s.way ++ sentOf (epO s.life s.ses) (lsS s.sp) (prs ds), FrOK G1 (HH s.hs) s.cur f := fun f hf => by
          rcases List.mem_append.1 hf with q | q
          · exact h1.fr f q
          · exact h3 f q
        rw [ble_t (by omega), oite_t]
        have hlen : (s.way ++ sentOf (epO s.life s.ses) (lsS s.sp) (prs ds)).length ≤ 200 + 9 * (N + 1) := by rw [List.length_append]; omega
        by_cases hb : (200 : Int64) < Int64.ofInt ↑(s.way ++ sentOf (epO s.life s.ses) (lsS s.sp) (prs ds)).length
        · have hb' := (i64_lt (a := 200) (b := (s.way ++ sentOf (epO s.life s.ses) (lsS s.sp) (prs ds)).length) (by omega) (by omega)).1 hb
          rw [dec_t hb, oite_t, show Int.toNat (Int64.toInt 200) = 200 from rfl, ble_t (by omega), Bool.and_true, oite_t, List.drop_zero, Nat.sub_zero]
          have := h2.wayd (way := List.take 200 (s.way ++ sentOf (epO s.life s.ses) (lsS s.sp) (prs ds))) (fun f hf => hall f (List.mem_of_mem_take hf)) (by rw [List.length_take]; omega)
          exact ⟨_, rfl, G1, _, rfl, this, Nat.le_refl _⟩
        · rw [dec_f hb, oite_f]
          have := h2.wayd (way := s.way ++ sentOf (epO s.life s.ses) (lsS s.sp) (prs ds)) hall hlen
          exact ⟨_, rfl, G1, _, rfl, this, Nat.le_refl _⟩
      | false =>
        rw [oite_f, ojoinA_rw]
        cases decide (a.1 % 11 = 5) with
        | true => rw [oite_t]; exact j247_ok n hn hN h k hk a true
        | false =>
          rw [oite_f]
          cases decide (a.1 % 11 = 6) with
          | true => rw [oite_t]; exact j247_ok n hn hN h k hk a true
          | false => rw [oite_f]; exact j247_ok n hn hN h k hk a _
    cases decide (a.1 % 11 = 3) with
    | true => rw [oite_t]; exact hj61 true
    | false => rw [oite_f]; exact hj61 _
  unfold F26
  rw [ojoinA_rw, obind_s]
  dsimp only
  by_cases h0 : 0 < s.way.length
  · rw [show decide ((0 : Int64) < Int64.ofInt ↑s.way.length) = true from dec_t ((i64_lt (a := 0) (by omega) (by omega)).2 h0), oite_t,
      show decide (Int64.ofInt ↑s.way.length = 0) = false from dec_f (fun q => by have := (i64_eq (a := s.way.length) (b := 0) (by omega) (by omega)).1 q; omega), oite_f]
    refine hj7 _ fun _ => ⟨a.2.2.2.2.2.2.2.2.2.2.2.2.toNat % s.way.length, ?_, Nat.mod_lt _ h0⟩
    have := UInt8.toNat_lt a.2.2.2.2.2.2.2.2.2.2.2.2
    exact i64_mod (a := a.2.2.2.2.2.2.2.2.2.2.2.2.toNat) (by omega) (by omega)
  · rw [show decide ((0 : Int64) < Int64.ofInt ↑s.way.length) = false from dec_f (fun q => h0 ((i64_lt (a := 0) (by omega) (by omega)).1 q)), oite_f]
    exact hj7 0 fun q => absurd q h0
end Go.Proofs.Ytfmomnniadlbhaa
open Go Go.Sx
namespace Go.Proofs.Ytfmomnniadlbhaa
theorem hs_eq {a b : List UInt64} (ha : a.length = 4) (hb : b.length = 4) (h : hh a = hh b) : a = b := by
  apply List.ext_getElem (by omega)
  intro i h1 h2
  have e := congrFun h (UInt8.ofNat i)
  unfold hh at e
  have ei : (UInt8.ofNat i).toNat = i := by rw [UInt8.toNat_ofNat']; omega
  rw [ei, List.getElem?_eq_getElem h1, List.getElem?_eq_getElem h2] at e
  exact e
theorem was_loop (n : Nat) (hn : 1000 < n) (rec : _) (T i : Int64) (la : List UInt64) (w : Int64) (l1 l2 l6 l7 l8 : UInt64) (ch : Int64) (highs : List UInt64) (y : ItT) (hy : Good y) (got put : List ItT) (hp : ∀ x ∈ put, Good x) (hpl : put.length < 2 ^ 30)
    (sp : Option SpT) (o : Option OutT) (ii : Option InT) (way : List FrT) : ∀ (m j : Nat) (was : Bool), j ≤ put.length → put.length - j < m → (was = true ∨ y ∈ put.drop j) →
    F29_R120573 n rec m was T i (I64 put.length) (I64 j) la w l1 l2 l6 l7 l8 ch highs y.1 y.2.1 y.2.2.1 y.2.2.2.1 y.2.2.2.2.1 y.2.2.2.2.2.1 y.2.2.2.2.2.2.1 y.2.2.2.2.2.2.2.1 y.2.2.2.2.2.2.2.2.1 y.2.2.2.2.2.2.2.2.2.1 y.2.2.2.2.2.2.2.2.2.2.1 y.2.2.2.2.2.2.2.2.2.2.2.1 y.2.2.2.2.2.2.2.2.2.2.2.2 got put sp o ii way =
      rec T (i + 1) la w l1 l2 l6 l7 l8 ch highs got sp o ii way put := by
  intro m
  induction m with
  | zero => intros; omega
  | succ m ih =>
    intro j was hj hm hw
    rw [F29_R120573_s]
    unfold F29_L120573
    by_cases hlt : j < put.length
    · obtain ⟨q1, q2⟩ := idx_i64 (l := put) (k := j) hlt (by omega)
      rw [dec_t ((i64_lt (by omega) (by omega)).2 hlt), oite_t, q1, oite_t, q2]
      simp only [obind_s, i64_succ]
      cases was with
      | true => rw [oite_t]; exact ih (j + 1) true (by omega) (by omega) (.inl rfl)
      | false =>
        rw [oite_f]
        have hg := hp _ (List.getElem_mem hlt)
        by_cases he : put[j] = y
        · have e1 := same_self n y (by have := hy.labs; omega) (by have := hy.labs; omega)
          refine Eq.trans (obind_of (a := (true, ())) (by rw [he]; exact e1) _) ?_
          exact ih (j + 1) true (by omega) (by omega) (.inl rfl)
        · have hS := same_spec n hn y put[j] hy hg
          obtain ⟨r, e1, _⟩ := hS
          refine (obind_of e1 _).trans ?_
          refine ih (j + 1) r (by omega) (by omega) ?_
          right
          rcases hw with h | h
          · cases h
          · rw [List.drop_eq_getElem_cons hlt] at h
            rcases List.mem_cons.1 h with q | q
            · exact absurd q.symm he
            · exact q
    · rw [dec_f (fun q => hlt ((i64_lt (by omega) (by omega)).1 q)), oite_f]
      have hw : was = true := by
        rcases hw with h | h
        · exact h
        · rw [List.drop_eq_nil_of_le (by omega)] at h; cases h
      rw [hw]
      rfl
theorem right_loop (n : Nat) (hn : 1000 < n) (w : Int64) (v0 v1 now : UInt64) (ch : Int64) (hs : List UInt64) (got put : List ItT) (hg : GotOK put got hs) (hp : ∀ x ∈ put, Good x) (hgl : got.length < 2 ^ 30) (hpl : put.length < 2 ^ 30) (hpn : put.length < n)
    (sp : Option SpT) (o : Option OutT) (ii : Option InT) (way : List FrT) : ∀ (m j : Nat) (highs : List UInt64), j ≤ got.length → got.length - j < m → highs.length = 4 → hh highs = finH (fun _ => 0) ((got.take j).map spanI) →
    F29_R29 n m (I64 got.length) (I64 j) hs w 1 4 v0 v1 now ch highs got sp o ii way put = some (true, some (mkL w sp o ii v0 v1 now way put got hs ch)) := by
  intro m
  induction m with
  | zero => intros; omega
  | succ m ih =>
    intro j highs hj hm hl hh1
    rw [F29_R29_s]
    unfold F29_L29
    by_cases hlt : j < got.length
    · obtain ⟨q1, q2⟩ := idx_i64 (l := got) (k := j) hlt (by omega)
      rw [dec_t ((i64_lt (by omega) (by omega)).2 hlt), oite_t, q1, oite_t, q2]
      simp only [obind_s]
      refine (obind_of (span_eq n got[j]) _).trans ?_
      dsimp only
      obtain ⟨g1, g2, g3⟩ := hg.it _ (List.getElem_mem hlt)
      have hat := hh_at (hs := highs) (o := org got[j]) (by omega)
      have o1 : decide ((0 : Int) ≤ ↑(UInt8.toNat (org got[j]))) = true := dec_t (by omega)
      have o2 : Nat.blt (Int.toNat ↑(UInt8.toNat (org got[j]))) 4 = true := by rw [Int.toNat_natCast]; exact ble_t g2
      have o3 : highs[Int.toNat ↑(UInt8.toNat (org got[j])) * 1]? = some (hh highs (org got[j])) := by rw [Nat.mul_one, Int.toNat_natCast]; exact hat
      have o4 : Nat.blt (Int.toNat ↑(UInt8.toNat (org got[j])) * 1) highs.length = true := by rw [Nat.mul_one, Int.toNat_natCast]; exact ble_t (by omega)
      have hch : (spanI got[j]).2.1 = hh highs (org got[j]) + 1 := by
        have e : got.map spanI = (got.take j).map spanI ++ (spanI got[j] :: (got.drop (j + 1)).map spanI) := by
          rw [← List.map_cons (f := spanI), ← List.map_append, ← List.drop_eq_getElem_cons hlt, List.take_append_drop]
        have hc := hg.ch
        rw [e, okH_append] at hc
        rw [hh1]
        exact hc.2.1
      rw [o1, oite_t, o2, oite_t, o3, obind_s, dec_t hch, Bool.not_true, oite_f, oite_t, oite_t, o4, oite_t]
      have hset : highs.set (Int.toNat ↑(UInt8.toNat (org got[j])) * 1) (spanI got[j]).2.2 = highs.set (org got[j]).toNat (spanI got[j]).2.2 := by rw [Nat.mul_one, Int.toNat_natCast]
      rw [hset]
      have hnext := ih (j + 1) (highs.set (org got[j]).toNat (spanI got[j]).2.2) (by omega) (by omega) (by rw [List.length_set]; exact hl) (by
        rw [hh_set (by omega), hh1]
        have : (got.take (j + 1)).map spanI = (got.take j).map spanI ++ [spanI got[j]] := by
          rw [List.take_add_one, List.getElem?_eq_getElem hlt, List.map_append]; rfl
        rw [this, finH_append]
        rfl)
      rw [← i64_succ] at hnext
      cases hgap : (got[j]).1 with
      | true => rw [oite_t]; exact hnext
      | false =>
        rw [oite_f]
        have hmem : got[j] ∈ put := by
          rcases g3 with q | q
          · rw [hgap] at q; cases q
          · exact q
        have hW := was_loop n hn (F29_R29 n m) (I64 got.length) (I64 j) hs w 1 4 v0 v1 now ch (highs.set (org got[j]).toNat (spanI got[j]).2.2) got[j] g1 got put hp hpl sp o ii way n 0 false (by omega) (by omega) (.inr (by simpa using hmem))
        rw [hgap] at hW
        exact hW.trans hnext
    · rw [dec_f (fun q => hlt ((i64_lt (by omega) (by omega)).1 q)), oite_f]
      have hjl : j = got.length := by omega
      rw [hjl, List.take_length, hg.fin] at hh1
      have heq := hs_eq hl hg.four hh1
      subst heq
      match highs, hl with
      | [a, b, c, d], _ =>
        have e : firstN (CT.int IntKind.u64) (3 + 1) [a, b, c, d] = some (a, b, c, d) := rfl
        refine (obind_of e _).trans ((obind_of e _).trans ?_)
        dsimp only
        rw [dec_t (rfl : a = a), dec_t (rfl : b = b), dec_t (rfl : c = c), dec_t (rfl : d = d)]
        rfl
theorem right_ok (n : Nat) (hn : 1000 < n) {N : Nat} (hN : N ≤ 900000) (hNn : 9 * N + 1 < n) {G : Gh} {s : St} (h : StOK N G s) : F29 n (some s.t) = some (true, some s.t) := by
  have hgl := h.gotl
  have hpl := h.putl
  unfold F29
  rw [obind_s]
  dsimp only
  exact right_loop n hn s.w s.v0 s.v1 s.now s.ch s.hs s.got s.put h.got h.putg (by omega) (by omega) (by omega) _ _ _ s.way n 0 (List.replicate 4 0) (by omega) (by omega) rfl (by
    funext o
    unfold hh
    show ((List.replicate 4 (0 : UInt64))[o.toNat]?).getD 0 = 0
    rw [List.getElem?_replicate]
    split <;> rfl)
theorem new_spi (q : Int64) (H : HN) : SpI 0 [] H ((q, 0, 1, 0, []), List.replicate 32 0, 0) := by
  refine ⟨⟨fun _ => 0, ⟨new_ok _, by simp [idxs], by simp, by simp, by show (0 : UInt64) < 1; decide, trivial, ?_, by simp [TopH], by simp⟩, fun p => Nat.zero_le _⟩, fun e he => by simp [lsS] at he⟩
  funext o
  unfold hh
  show (0 : UInt64) = ((List.replicate 32 (0 : UInt64))[o.toNat]?).getD 0
  rw [List.getElem?_replicate]
  split <;> rfl
theorem begin_ok (n : Nat) (window : UInt8) (q : UInt16) (hq : q.toNat ≤ 400) : ∃ s, F25 n (window, q) = some (some s.t, ()) ∧ StOK 0 (fun _ => []) s := by
  have e1 : (1 : Int64) + Int64.ofInt ↑(UInt8.toNat (window % 8)) = I64 (1 + (window % 8).toNat) := i64_add 1 _
  have hw : (window % 8).toNat < 8 := by rw [UInt8.toNat_mod]; exact Nat.mod_lt _ (by decide)
  have e2 : (I64 (1 + (window % 8).toNat)).toInt = 1 + (window % 8).toNat := by rw [i64_toInt (by omega)]; omega
  have w1 : 1 ≤ (I64 (1 + (window % 8).toNat)).toInt := by omega
  have w8 : (I64 (1 + (window % 8).toNat)).toInt ≤ 8 := by omega
  obtain ⟨c1, c2⟩ := win_lt w1 w8
  have eq64 : (64 : Int64) + Int64.ofInt ↑(UInt16.toNat q) = I64 (64 + q.toNat) := i64_add 64 _
  have q1 : ¬ I64 (64 + q.toNat) < 64 := fun h' => by have := (i64_lt (b := 64) (by omega) (by omega)).1 h'; omega
  have q2 : ¬ (65536 : Int64) < I64 (64 + q.toNat) := fun h' => by have := (i64_lt (a := 65536) (by omega) (by omega)).1 h'; omega
  refine ⟨⟨I64 (1 + (window % 8).toNat), ((I64 (64 + q.toNat), 0, 1, 0, []), List.replicate 32 0, 0), 1, 1, 0, newS (I64 (1 + (window % 8).toNat)), 1, 0, (I64 (1 + (window % 8).toNat), 1, [], 0), 1, 1, 0, [], [], [], List.replicate 4 0, 0⟩, ?_, ?_⟩
  · unfold F25
    dsimp only
    rw [e1, eq64]
    refine (obind_of (new_eq n _ q1 q2) _).trans ?_
    refine (obind_of (newOut_eq n _ 1 c1 c2 (by decide) (by decide)) _).trans ?_
    exact obind_of (newIn_eq n _ 1 c1 c2 (by decide) (by decide)) _
  · have h1 : (1 : UInt64).toNat = 1 := rfl
    refine ⟨w1, w8, new_spi _ _, send_new _ _, ⟨fun _ => trivial, fun _ _ => rfl, (fun _ x hx => by cases hx), fun _ => Nat.zero_le _⟩, (fun f hf => by cases hf), rc_new _ _, Nat.zero_le _, ⟨rfl, trivial, ?_, (fun y hy => by cases hy), fun p => ?_⟩, rfl, by show 1 ≤ (1 : UInt64).toNat; omega, by show (1 : UInt64).toNat ≤ 0 + 1; omega, by show 1 ≤ (1 : UInt64).toNat; omega, by show (1 : UInt64).toNat ≤ 0 + 1; omega, by show 1 ≤ (1 : UInt64).toNat; omega, by show (1 : UInt64).toNat ≤ 0 + 1; omega, Nat.zero_le _, Nat.zero_le _, Nat.zero_le _, (fun x hx => by cases hx)⟩
    · funext o
      unfold hh
      show (0 : UInt64) = ((List.replicate 4 (0 : UInt64))[o.toNat]?).getD 0
      rw [List.getElem?_replicate]
      split <;> rfl
    · unfold HH hh
      show (((List.replicate 4 (0 : UInt64))[p.toNat]?).getD 0).toNat ≤ _
      rw [List.getElem?_replicate]
      split <;> exact Nat.zero_le _
end Go.Proofs.Ytfmomnniadlbhaa
open Go Go.Sx
namespace Go.Proofs.Ytfmomnniadlbhaa
theorem awakeO (n : Nat) : F8 n () = some (true, ()) := by
  unfold F8
  refine (obind_of (newOut_eq n 3 2 (by decide) (by decide) (by decide) (by decide)) _).trans ?_
  dsimp only
  rw [show decide ((0 : Int64) = 0) = true from rfl, oite_t, obind_s]
  congr 2
theorem order_loop (n : Nat) (hn : 10000 < n) (acts : List ActT) (ha : acts.length < 2 ^ 63) : ∀ (m i : Nat) (G : Gh) (s : St), i ≤ acts.length → acts.length - i < m → i ≤ 151 → StOK i G s →
    F6_R61 n m acts (I64 acts.length) (I64 i) (some s.t) = some (true, ()) := by
  intro m
  induction m with
  | zero => intros; omega
  | succ m ih =>
    intro i G s hi hm hi2 h
    have hR := right_ok n (by omega) (by omega) (by omega) h
    rw [F6_R61_s]
    unfold F6_L61
    by_cases hlt : i < acts.length
    · rw [dec_t ((i64_lt (by omega) (by omega)).2 hlt), oite_t, at_i64_lt (by omega) hlt, obind_s]
      by_cases hb : 150 < i
      · rw [show decide ((150 : Int64) < I64 i) = true from dec_t ((i64_lt (a := 150) (by omega) (by omega)).2 hb), oite_t]
        exact obind_of hR _
      · rw [show decide ((150 : Int64) < I64 i) = false from dec_f (fun q => hb ((i64_lt (a := 150) (by omega) (by omega)).1 q)), oite_f]
        have hD := do_ok n (by omega) (show i ≤ 900 by omega) h acts[i]
        obtain ⟨r, e1, G', s', rfl, h2, _⟩ := hD
        refine (obind_of e1 _).trans ?_
        dsimp only
        rw [Bool.not_true, oite_f, obind_s]
        have hml := h2.rc.fine.len
        have hw8 := h2.w8
        have hw1 := h2.w1
        have hfew := h2.snd.few
        have hwI := i64_of (x := s'.w) (by omega)
        rw [obind_s]
        have e30 : F30 n (some s'.rc) = some ((s'.rc.2.1, I64 s'.rc.2.2.1.length, s'.rc.2.2.2), some s'.rc) := by
          unfold F30
          rw [oelim_s]
          rw [ble_t (by omega), oite_t]
        refine (obind_of e30 _).trans ?_
        dsimp only
        have c1 : ¬ s'.w < I64 s'.rc.2.2.1.length := fun q => by
          rw [hwI] at q
          have := (i64_lt (a := s'.w.toInt.toNat) (b := s'.rc.2.2.1.length) (by omega) (by omega)).1 q
          omega
        rw [dec_f c1, oite_f, obind_s]
        have e31 : F31 n (some s'.sd) = some (flS s'.sd, some s'.sd) := by
          unfold F31
          rw [oelim_s]
          rw [ble_t (by show 0 + (flS s'.sd).length ≤ _; omega), oite_t]
          rfl
        refine (obind_of e31 _).trans ?_
        dsimp only
        have c2 : ¬ s'.w < Int64.ofInt ↑(flS s'.sd).length := fun q => by
          rw [hwI] at q
          have := (i64_lt (a := s'.w.toInt.toNat) (b := (flS s'.sd).length) (by omega) (by omega)).1 q
          omega
        rw [dec_f c2, oite_f, i64_succ]
        exact ih (i + 1) G' s' (by omega) (by omega) (by omega) h2
    · rw [dec_f (fun q => hlt ((i64_lt (by omega) (by omega)).1 q)), oite_f]
      exact obind_of hR _
theorem order_true : ∀ x : sig6.In, PTys.fits sig6.ps x → ∃ n y, F6 n x = some y ∧ PTys.hd (.one (.c .bool)) .nil y.1 = true := by
  rintro ⟨window, quota, acts⟩ hfit
  have hi := hfit.2.2.1
  simp only [PTy.fits, CTs.fits, CT.fits] at hi
  have hi : acts.length < 2 ^ 63 := hi.1
  generalize hn : acts.length + 10001 = n
  refine ⟨n, (true, ()), ?_, rfl⟩
  unfold F6
  refine (obind_of (awakeO n) _).trans ?_
  dsimp only
  rw [Bool.not_true, oite_f]
  have hq : (quota % 300).toNat ≤ 400 := by
    rw [UInt16.toNat_mod]
    have : (300 : UInt16).toNat = 300 := rfl
    have := Nat.mod_lt quota.toNat (show 0 < (300 : UInt16).toNat by decide)
    omega
  have hB := begin_ok n window (quota % 300) hq
  obtain ⟨s, e1, h⟩ := hB
  refine (obind_of e1 _).trans ?_
  exact order_loop n (by omega) acts hi n 0 _ s (by omega) (by omega) (by omega) h
end Go.Proofs.Ytfmomnniadlbhaa
