/- A link: what holds at each of its steps. -/
import Derived.Test.YtfmomnniadlbhaaOut
import Derived.Test.YtfmomnniadlbhaaDo
open Go Go.Sx
namespace Go.Proofs.Ytfmomnniadlbhaa
abbrev InT := UInt8 × UInt8 × Int64 × UInt64 × UInt64 × Option Rc.RecT
abbrev mkI (w : Int64) (life ep : UInt64) (rc : Rc.RecT) : InT := (0, 1, w, life, ep, some rc)
abbrev ackF (ep cum bits life : UInt64) : FrT := (2, 0, 1, ep, 0, false, 0, 0, 0, [], [], 0, 0, 0, 0, 0, 0, 0, cum, bits, life)
abbrev Gh := UInt64 → List ItT
structure IOK (put : List ItT) (x : ItT) : Prop where
 good : Good x
 chk : itCheck x = 0
 org4 : (org x).toNat < 4
 was : x.1 = true ∨ x ∈ put
theorem IOK.mono {a b : List ItT} {x : ItT} (h : IOK a x) (hs : ∀ y ∈ a, y ∈ b) : IOK b x := ⟨h.good, h.chk, h.org4, h.was.imp id (hs x)⟩
def Del (G : Gh) (H : HN) (e : UInt64) (c : Nat) : Prop := ∀ q, q < c → ∃ x, (G e)[q]? = some x ∧ top x ≤ H (org x)
def FrOK (G : Gh) (H : HN) (cur : Nat) (f : FrT) : Prop :=
 (∃ ep sq x, f = dataF ep sq x ∧ 0 < ep ∧ ep.toNat ≤ cur ∧ 1 ≤ sq.toNat ∧ (G ep)[sq.toNat - 1]? = some x) ∨
 (∃ ep cum bits life, f = ackF ep cum bits life ∧ 0 < ep ∧ ep.toNat ≤ cur ∧ Del G H ep cum.toNat)
structure RcOK (G : Gh) (H : HN) (w : Int64) (ep : UInt64) (rc : Rc.RecT) : Prop where
 win : rc.1 = w
 one : 1 ≤ rc.2.1.toNat
 del : Del G H ep (rc.2.1.toNat - 1)
 held : ∀ p ∈ rc.2.2.1, 1 ≤ p.1.toNat ∧ (G ep)[p.1.toNat - 1]? = some p.2
 fine : Rc.Fine w.toInt.toNat rc.2.1 rc.2.2.1
structure SendOK (Gc : List ItT) (w : Int64) (sd : SndT) (l : List EnT) : Prop where
 win : sd.1 = w
 tms : sd.2.1 = 1 ∧ sd.2.2.1 = 4
 len : (flS sd).length ≤ l.length
 few : (flS sd).length ≤ w.toInt.toNat
 idx : (prs (flS sd)).map (·.2) = (l.take (flS sd).length).map (·.1)
 pre : ∃ pre, Gc = pre ++ items (l.take (flS sd).length) ∧ (prs (flS sd)).map (·.1.toNat) = List.range' (pre.length + 1) (flS sd).length
 next : sd.2.2.2.2.1.toNat = Gc.length + 1
structure GOK (put : List ItT) (G : Gh) (H : HN) (cur : Nat) : Prop where
 ch : ∀ e, ChN H (G e)
 none : ∀ e : UInt64, cur < e.toNat → G e = []
 it : ∀ e, ∀ x ∈ G e, IOK put x
 len : ∀ e, (G e).length ≤ 2 ^ 40
def GLe (G G' : Gh) : Prop := ∀ (e : UInt64) (q : Nat) (x : ItT), (G e)[q]? = some x → (G' e)[q]? = some x
theorem GLe.refl (G : Gh) : GLe G G := fun _ _ _ h => h
theorem Del.mono {G G' : Gh} {H H' : HN} {e : UInt64} {c : Nat} (h : Del G H e c) (hg : GLe G G') (hh : HLe H H') : Del G' H' e c := fun q hq => by
 obtain ⟨x, h1, h2⟩ := h q hq
 exact ⟨x, hg _ _ _ h1, Nat.le_trans h2 (hh _)⟩
theorem FrOK.mono {G G' : Gh} {H H' : HN} {cur cur' : Nat} {f : FrT} (h : FrOK G H cur f) (hg : GLe G G') (hh : HLe H H') (hc : cur ≤ cur') : FrOK G' H' cur' f := by
 rcases h with ⟨ep, sq, x, h1, h2, h3, h4, h5⟩ | ⟨ep, cum, bits, life, h1, h2, h3, h4⟩
 ·exact .inl ⟨ep, sq, x, h1, h2, by omega, h4, hg _ _ _ h5⟩
 ·exact .inr ⟨ep, cum, bits, life, h1, h2, by omega, h4.mono hg hh⟩
theorem RcOK.mono {G G' : Gh} {H H' : HN} {w : Int64} {ep : UInt64} {rc : Rc.RecT} (h : RcOK G H w ep rc) (hg : GLe G G') (hh : HLe H H') : RcOK G' H' w ep rc :=
 ⟨h.win, h.one, h.del.mono hg hh, fun p hp => ⟨(h.held p hp).1, hg _ _ _ (h.held p hp).2⟩, h.fine⟩
theorem GOK.mono {put put' : List ItT} {G : Gh} {H H' : HN} {cur cur' : Nat} (h : GOK put G H cur) (hp : ∀ y ∈ put, y ∈ put') (hh : HLe H H') (hc : cur ≤ cur') : GOK put' G H' cur' :=
 ⟨fun e => (h.ch e).mono hh, fun e he => h.none e (by omega), fun e x hx => (h.it e x hx).mono hp, h.len⟩
theorem sorted_pair {l : List EnT} (h : (idxs l).Pairwise (· < ·)) : l.Pairwise fun a b => a.1 < b.1 := by
 unfold idxs at h
 rw [List.pairwise_map] at h
 exact h.imp fun q => UInt64.lt_iff_toNat_lt.2 q
theorem listGo_drop {b : UInt64} {many : Int64} : ∀ (l out : List EnT) (k : Nat), (∀ j (h : j < l.length), j < k → l[j].1 ≤ b) → (∀ j (h : j < l.length), k ≤ j → b < l[j].1) → ∃ m, listGo b many l out = out ++ (l.drop k).take m
 | [], out, k, _, _ => ⟨0, by simp [listGo]⟩
 | x :: r, out, k, h1, h2 => by
  unfold listGo
  by_cases hm : many ≤ I64 out.length
  ·rw [if_pos hm]; exact ⟨0, by simp⟩
  ·rw [if_neg hm]
   cases k with
   | zero =>
    have hx : b < x.1 := h2 0 (by simp) (Nat.le_refl _)
    rw [if_pos hx]
    obtain ⟨m, e⟩ := listGo_drop (b := b) (many := many) r (out ++ [x]) 0 (fun j _ h => by omega) (fun j h _ => h2 (j + 1) (by simp; omega) (by omega))
    exact ⟨m + 1, by rw [e]; simp⟩
   | succ k =>
    have hx : ¬ b < x.1 := UInt64.not_lt.2 (h1 0 (by simp) (by omega))
    rw [if_neg hx]
    obtain ⟨m, e⟩ := listGo_drop (b := b) (many := many) r out k (fun j h q => h1 (j + 1) (by simp; omega) (by omega)) (fun j h q => h2 (j + 1) (by simp; omega) (by omega))
    exact ⟨m, by rw [e]; simp⟩
structure NextOK (put : List ItT) (H : HN) (l : List EnT) : Prop where
 ch : ChN H (items l)
 it : ∀ e ∈ l, IOK put e.2
theorem ChN_next {H : HN} {l : List EnT} {pre : List ItT} {k : Nat} (h : ChN H (items l)) (hk : k < l.length) (hp : ChN H (pre ++ items (l.take k))) : ChN H (pre ++ items (l.take k) ++ [l[k].2]) := by
 refine ChN_snoc hp ?_
 have e : items l = items (l.take k) ++ (l[k].2 :: items (l.drop (k + 1))) := by
  unfold items
  rw [← List.map_cons (f := fun e : EnT => e.2), ← List.map_append, ← List.drop_eq_getElem_cons hk, List.take_append_drop]
 rw [e, ChN_append] at h
 have h1 := h.2.1
 have h2 := finN_mono (items (l.take k)) (finN_ge pre H) (org l[k].2)
 rw [finN_append]
 omega
theorem offs_ok {put : List ItT} {H : HN} {w : Int64} {now : UInt64} {l : List EnT} (hl : NextOK put H l) (hw : 0 ≤ w.toInt ∧ w.toInt ≤ 64) {sd sd' : SndT} {es : List EnT} (ho : Offs now sd es sd') : ∀ {m : Nat} {Gc : List ItT}, es = (l.drop (flS sd).length).take m → ChN H Gc → (∀ x ∈ Gc, IOK put x) → Gc.length ≤ 2 ^ 40 →
  SendOK Gc w sd l → ∃ Gc', SendOK Gc' w sd' l ∧ ChN H Gc' ∧ (∀ x ∈ Gc', IOK put x) ∧ Gc'.length ≤ 2 ^ 40 ∧ ((∃ t, Gc' = Gc ++ t ∧ ∀ x ∈ t, ∃ e ∈ l, x = e.2) ∧ Gc'.length + (flS sd).length = Gc.length + (flS sd').length) := by
 induction ho with
 | stop s es _ => intro m Gc _ h1 h2 h3 h4; exact ⟨Gc, h4, h1, h2, h3, ⟨[], by simp, fun x hx => by cases hx⟩, rfl⟩
 | @step s s' e es h1 h2 h3 hr ih =>
  intro m Gc he hc hi hln hs
  have hk : (flS s).length < l.length := by
   rcases Nat.lt_or_ge (flS s).length l.length with g | g
   ·exact g
   ·rw [List.drop_eq_nil_of_le g] at he; simp at he
  obtain ⟨m', rfl⟩ : ∃ m', m = m' + 1 := ⟨m - 1, by rcases m with _ | m; simp at he; omega⟩
  rw [List.drop_eq_getElem_cons hk, List.take_succ_cons] at he
  obtain ⟨h0, he2⟩ := List.cons.inj he
  subst h0
  have hfl : (flS (addF s l[(flS s).length].1 now)).length = (flS s).length + 1 := by show (flS s ++ [_]).length = _; simp
  have htk : l.take ((flS s).length + 1) = l.take (flS s).length ++ [l[(flS s).length]] := by rw [List.take_add_one, List.getElem?_eq_getElem hk]; rfl
  obtain ⟨pre, p1, p2⟩ := hs.pre
  have hprs : prs (flS (addF s l[(flS s).length].1 now)) = prs (flS s) ++ [(s.2.2.2.2.1, l[(flS s).length].1)] := by show prs (flS s ++ [_]) = _; unfold prs; simp
  have hGl : Gc.length = pre.length + (flS s).length := by rw [p1]; simp [items]; omega
  have hroom : (flS s).length + 1 ≤ w.toInt.toNat := by
   have hsw := hs.win
   rw [hsw, i64_of hw.1] at h1
   have := hs.few
   rw [i64_sub this] at h1
   rcases Nat.lt_or_ge (flS s).length w.toInt.toNat with g | g
   ·exact g
   ·exact absurd ((i64_lt (a := w.toInt.toNat - (flS s).length) (b := 1) (by omega) (by omega)).2 (by omega)) h1
  have hnx : (s.2.2.2.2.1).toNat ≤ 1099511627776 := by
   have := UInt64.not_lt.1 h2
   exact UInt64.le_iff_toNat_le.1 this
  have hn1 : (s.2.2.2.2.1 + 1).toNat = s.2.2.2.2.1.toNat + 1 := by
   rw [UInt64.toNat_add]
   have : (1 : UInt64).toNat = 1 := rfl
   omega
  have step : SendOK (Gc ++ [l[(flS s).length].2]) w (addF s l[(flS s).length].1 now) l := by
   refine ⟨hs.win, hs.tms, by rw [hfl]; omega, by rw [hfl]; exact hroom, ?_, ⟨pre, ?_, ?_⟩, ?_⟩
   ·rw [hfl, hprs, htk]
    simp only [List.map_append, List.map_cons, List.map_nil]
    rw [hs.idx]
   ·rw [hfl, htk]
    rw [show items (l.take (flS s).length ++ [l[(flS s).length]]) = items (l.take (flS s).length) ++ [l[(flS s).length].2] from by unfold items; rw [List.map_append]; rfl, ← List.append_assoc, ← p1]
   ·rw [hfl, hprs]
    simp only [List.map_append, List.map_cons, List.map_nil]
    rw [p2, List.range'_concat, hs.next, hGl]
    rw [show pre.length + (flS s).length + 1 = pre.length + 1 + 1 * (flS s).length from by omega]
   ·show (s.2.2.2.2.1 + 1).toNat = _
    rw [hn1, hs.next]; simp
  have hch : ChN H (Gc ++ [l[(flS s).length].2]) := by
   rw [p1] at hc ⊢
   exact ChN_next hl.ch hk hc
  obtain ⟨Gc', g1, g2, g3, g4, ⟨t, g5, g6⟩, g7⟩ := ih (m := m') (Gc := Gc ++ [l[(flS s).length].2]) (by rw [hfl]; exact he2) hch (fun x hx => by
   rcases List.mem_append.1 hx with q | q
   ·exact hi x q
   ·rw [List.mem_singleton.1 q]; exact hl.it _ (List.getElem_mem _)) (by have := hs.next; simp; omega) step
  refine ⟨Gc', g1, g2, g3, g4, ⟨l[(flS s).length].2 :: t, by rw [g5]; simp, fun x hx => ?_⟩, ?_⟩
  ·rcases List.mem_cons.1 hx with q | q
   ·exact ⟨_, List.getElem_mem hk, q⟩
   ·exact g6 x q
  ·rw [hfl, List.length_append, List.length_singleton] at g7
   omega
theorem offs_fl {now : UInt64} {sd sd' : SndT} {es : List EnT} (ho : Offs now sd es sd') : ∃ news, flS sd' = flS sd ++ news ∧ (∀ f ∈ news, f.2.2.1 = now ∧ f.2.2.2.1 = sd.2.1 ∧ f.2.2.2.2.2 = false) := by
 induction ho with
 | stop s es _ => exact ⟨[], by simp, fun f hf => by cases hf⟩
 | @step s s' e es h1 h2 h3 hr ih =>
  obtain ⟨news, e1, e2⟩ := ih
  refine ⟨(s.2.2.2.2.1, e.1, now, s.2.1, false, false) :: news, ?_, fun f hf => ?_⟩
  ·rw [e1]
   show (flS s ++ [_]) ++ news = _
   rw [List.append_assoc]; rfl
  ·rcases List.mem_cons.1 hf with q | q
   ·rw [q]; exact ⟨rfl, rfl, rfl⟩
   ·exact e2 f q
end Go.Proofs.Ytfmomnniadlbhaa
open Go Go.Sx
namespace Go.Proofs.Ytfmomnniadlbhaa
abbrev lsS (s : SpT) : List EnT := s.1.2.2.2.2
def HH (hs : List UInt64) : HN := fun p => (hh hs p).toNat
structure SpI (N : Nat) (put : List ItT) (H : HN) (s : SpT) : Prop where
 cov : ∃ A, CovOK N s A ∧ ∀ p, (A p).toNat ≤ H p
 it : ∀ e ∈ lsS s, IOK put e.2
theorem CovOK.up {N M : Nat} {s : SpT} {A : UInt8 → UInt64} (h : CovOK N s A) (hm : N ≤ M) : CovOK M s A :=
 ⟨h.ok.up hm, h.sorted, h.low, h.upp, h.ack, h.chain, h.fin, h.top, h.prio⟩
theorem SpI.mono {N M : Nat} {put put' : List ItT} {H H' : HN} {s : SpT} (h : SpI N put H s) (hm : N ≤ M) (hp : ∀ y ∈ put, y ∈ put') (hh : HLe H H') : SpI M put' H' s := by
 obtain ⟨A, h1, h2⟩ := h.cov
 exact ⟨⟨A, h1.up hm, fun p => Nat.le_trans (h2 p) (hh p)⟩, fun e he => (h.it e he).mono hp⟩
theorem SpI.next {N : Nat} {put : List ItT} {H : HN} {s : SpT} (h : SpI N put H s) : NextOK put H (lsS s) := by
 obtain ⟨A, h1, h2⟩ := h.cov
 exact ⟨(okH_ChN _ A H h2 h1.chain).1, h.it⟩
theorem joinL_org (m : List EnT) (a b : Nat) : ∀ e ∈ joinL m a b, ∃ e' ∈ m, orgE e = orgE e' := by
 intro e he
 rcases joinL_cases m a b with hc | ⟨ha, hb, hf, hc⟩
 ·rw [hc] at he; exact ⟨e, he, rfl⟩
 ·rw [hc] at he
  rcases List.mem_or_eq_of_mem_set (List.mem_of_mem_eraseIdx he) with h | h
  ·exact ⟨e, h, rfl⟩
  ·exact ⟨m[a], List.getElem_mem ha, by rw [h]; exact join_org hf⟩
theorem joinD_org (m : List EnT) (k : Nat) (r : Option Nat) : ∀ e ∈ joinD m k r, ∃ e' ∈ m, orgE e = orgE e' := by
 cases r with
 | none => exact fun e he => ⟨e, he, rfl⟩
 | some a => exact joinL_org m a k
theorem joinR_org (m : List EnT) (k : Nat) (r : Option Nat) : ∀ e ∈ joinR m k r, ∃ e' ∈ m, orgE e = orgE e' := by
 cases r with
 | none => exact fun e he => ⟨e, he, rfl⟩
 | some a => exact joinL_org m k a
theorem evTo_org {l l' : List EnT} {k : Nat} {rU rD : Option Nat} (h : EvTo l k l' rU rD) : ∀ e ∈ l', ∃ e' ∈ l, orgE e = orgE e' := by
 intro e he
 have hk := h.lt
 rw [h.eq] at he
 obtain ⟨e1, h1, q1⟩ := joinD_org _ _ _ e he
 obtain ⟨e2, h2, q2⟩ := joinR_org _ _ _ e1 h1
 rcases List.mem_or_eq_of_mem_set h2 with h | h
 ·exact ⟨e2, h, by rw [q1, q2]⟩
 ·exact ⟨l[k]'hk, List.getElem_mem _, by rw [q1, q2, h]; rfl⟩
theorem evs_org {l l' : List EnT} (h : Evs l l') : ∀ e ∈ l', ∃ e' ∈ l, orgE e = orgE e' := by
 induction h with
 | refl => exact fun e he => ⟨e, he, rfl⟩
 | step _ he _ ih =>
  intro e h
  obtain ⟨e1, h1, q1⟩ := ih e h
  obtain ⟨e2, h2, q2⟩ := evTo_org he e1 h1
  exact ⟨e2, h2, by rw [q1, q2]⟩
theorem put_spi {N : Nat} {put : List ItT} {H : HN} {s s' : SpT} {x : ItT} {high : UInt64} {l1 : List EnT} {rD : Option Nat} (h : SpI N put H s) (hx : Good x) (ho : (org x).toNat < 4) (hp : Put1 s x high s' l1 rD) : SpI (N + 1) (put ++ [x]) H s' := by
 obtain ⟨A, h1, h2⟩ := h.cov
 have hc := put1_cov h1 hx hp
 obtain ⟨f1, f2, _, f4⟩ := putY_facts hp.old hp.jump
 refine ⟨⟨A, hc, h2⟩, fun e he => ⟨hc.ok.good e he, ?_, ?_, ?_⟩⟩
 ·have ha : AllC (lsS s') := by
   unfold lsS
   rw [hp.list]
   refine joinD_allC ?_ _ _
   intro e he
   rcases List.mem_append.1 he with q | q
   ·exact evs_allC hp.ev (fun e he => (h.it e he).chk) e q
   ·rw [List.mem_singleton.1 q]; exact putY_check hp.ok hp.old hp.jump
  exact ha e he
 ·unfold lsS at he
  rw [hp.list] at he
  obtain ⟨e1, q1, q2⟩ := joinD_org _ _ _ e he
  show (orgE e).toNat < 4
  rw [q2]
  rcases List.mem_append.1 q1 with q | q
  ·obtain ⟨e2, q3, q4⟩ := evs_org hp.ev e1 q
   rw [q4]; exact (h.it e2 q3).org4
  ·rw [List.mem_singleton.1 q]
   show (spanI (putY x high)).1.toNat < 4
   rw [f1]; exact ho
 ·cases hg : e.2.1 with
  | true => exact .inl rfl
  | false =>
   right
   unfold lsS at he
   rw [hp.list, joinD_events _ _ _ e hg] at he
   rcases List.mem_append.1 he with q | q
   ·rcases (h.it e ((evs_events hp.ev).1 e q hg)).was with w | w
    ·rw [hg] at w; cases w
    ·exact List.mem_append_left _ w
   ·have e1 := List.mem_singleton.1 q
    rw [e1] at hg ⊢
    have hg : (putY x high).1 = false := hg
    rw [f2] at hg
    show putY x high ∈ _
    rw [f4 hg]
    simp
theorem putR_spi {N : Nat} {put : List ItT} {H : HN} {s : SpT} {x : ItT} {high : UInt64} {y : (UInt64 × UInt64 × Int64) × Option SpT} (h : SpI N put H s) (hx : Good x) (ho : (org x).toNat < 4) (hp : PutR s y x high) :
  ∃ i f e s', y = ((i, f, e), some s') ∧ ((e ≠ 0 ∧ s' = s) ∨ (e = 0 ∧ SpI (N + 1) (put ++ [x]) H s' ∧ Kept (lsS s) (lsS s') f ∧ HLe (HH s.2.1) (HH s'.2.1))) := by
 obtain ⟨i, f, e, s', rfl, h1⟩ := hp
 refine ⟨i, f, e, s', rfl, ?_⟩
 rcases h1 with ⟨h1, _, h2⟩ | ⟨h1, h2, l1, rD, h3⟩
 ·exact .inl ⟨h1, h2⟩
 ·refine .inr ⟨h1, put_spi h hx ho h3, h2, fun p => ?_⟩
  obtain ⟨A, hc, _⟩ := h.cov
  have ho := check_org h3.ok
  have hlen : (spanI x).1.toNat < s.2.1.length := by rw [hc.ok.highs]; exact ho
  unfold HH
  rw [h3.highs, hh_set hlen]
  unfold updH
  split
  ·rename_i q
   have : hh s.2.1 (spanI x).1 = high := by unfold hh; rw [h3.hi]; rfl
   rw [q, this]
   exact UInt64.le_iff_toNat_le.1 (UInt64.le_of_lt (UInt64.not_le.1 h3.old))
  ·exact Nat.le_refl _
theorem ack_spi {N : Nat} {put : List ItT} {H : HN} {s : SpT} (h : SpI N put H s) (k : Nat) (hk : k ≤ (lsS s).length) (idx : UInt64) (u : Int64) (hlow : ∀ e ∈ (lsS s).drop k, idx < e.1) (hnx : idx < s.1.2.2.1)
  (hd : ∀ e ∈ (lsS s).take k, top e.2 ≤ H (org e.2)) : SpI N put H ((s.1.1, u, s.1.2.2.1, idx, (lsS s).drop k), s.2) := by
 obtain ⟨A, h1, h2⟩ := h.cov
 have hsub : ∀ e ∈ (lsS s).drop k, e ∈ lsS s := fun e he => List.mem_of_mem_drop he
 have hsp : spans (lsS s) = spans ((lsS s).take k) ++ spans ((lsS s).drop k) := by unfold spans; rw [← List.map_append, List.take_append_drop]
 have hch := h1.chain
 rw [show s.1.2.2.2.2 = lsS s from rfl, hsp, okH_append] at hch
 refine ⟨⟨finH A (spans ((lsS s).take k)), ⟨⟨?_, fun e he => h1.ok.good e (hsub e he), h1.ok.highs, h1.ok.next, fun e he => h1.ok.pos e (hsub e he)⟩, ?_, hlow, fun e he => h1.upp e (hsub e he), hnx, hch.2, ?_, fun e he => h1.top e (hsub e he), fun e he => h1.prio e (hsub e he)⟩, fun p => ?_⟩, fun e he => h.it e (hsub e he)⟩
 ·have := h1.ok.len
  show ((lsS s).drop k).length ≤ N
  rw [List.length_drop]
  have : (lsS s).length ≤ N := this
  omega
 ·show (idxs ((lsS s).drop k)).Pairwise _
  refine h1.sorted.sublist ?_
  unfold idxs
  exact (List.drop_sublist _ _).map _
 ·have := h1.fin
  rw [show s.1.2.2.2.2 = lsS s from rfl, hsp, finH_append] at this
  exact this
 ·obtain ⟨_, g2⟩ := okH_ChN _ A H h2 hch.1
  refine Nat.le_trans (g2 p) (finN_le (fun x hx => ?_) p)
  obtain ⟨e, he, rfl⟩ := List.mem_map.1 hx
  exact hd e he
theorem send_kept {Gc : List ItT} {w : Int64} {sd : SndT} {l l' : List EnT} (h : SendOK Gc w sd l) (ht : l'.take (flS sd).length = l.take (flS sd).length) : SendOK Gc w sd l' := by
 refine ⟨h.win, h.tms, ?_, h.few, by rw [ht]; exact h.idx, by rw [ht]; exact h.pre, h.next⟩
 have := congrArg List.length ht
 rw [List.length_take, List.length_take, Nat.min_eq_left h.len] at this
 omega
theorem send_new (w : Int64) (l : List EnT) : SendOK [] w (newS w) l := ⟨rfl, ⟨rfl, rfl⟩, Nat.zero_le _, Nat.zero_le _, rfl, ⟨[], rfl, rfl⟩, rfl⟩
theorem send_drop {Gc : List ItT} {w : Int64} {sd sd' : SndT} {l : List EnT} (h : SendOK Gc w sd l) (k : Nat) (hk : k ≤ (flS sd).length) (hp : prs (flS sd') = (prs (flS sd)).drop k) (h1 : sd'.1 = sd.1) (h2 : sd'.2.1 = sd.2.1) (h3 : sd'.2.2.1 = sd.2.2.1) (h4 : sd'.2.2.2.2.1 = sd.2.2.2.2.1) :
  SendOK Gc w sd' (l.drop k) := by
 have hlen : (flS sd').length = (flS sd).length - k := by rw [← prs_len, hp, List.length_drop, prs_len]
 have htk : (l.drop k).take (flS sd').length = (l.take (flS sd).length).drop k := by rw [hlen, List.drop_take]
 obtain ⟨pre, p1, p2⟩ := h.pre
 have hl := h.len
 have hf := h.few
 refine ⟨by rw [h1]; exact h.win, by rw [h2, h3]; exact h.tms, by rw [hlen, List.length_drop]; omega, by rw [hlen]; omega, ?_, ⟨pre ++ items (l.take k), ?_, ?_⟩, by rw [h4]; exact h.next⟩
 ·rw [hp, List.map_drop, h.idx, htk, List.map_drop]
 ·rw [htk, p1, List.append_assoc]
  congr 1
  unfold items
  rw [← List.map_append]
  congr 1
  have : l.take k = (l.take (flS sd).length).take k := by rw [List.take_take, Nat.min_eq_left hk]
  rw [this, List.take_append_drop]
 ·rw [hp, List.map_drop, p2, hlen, List.drop_range']
  congr 1
  simp [items]
  omega
end Go.Proofs.Ytfmomnniadlbhaa
open Go Go.Sx
namespace Go.Proofs.Ytfmomnniadlbhaa
theorem ex1 {T : Type} {X Y : Option T} {P : T → Prop} (h : X = Y) (g : ∃ r, Y = some r ∧ P r) : ∃ r, X = some r ∧ P r := by subst h; exact g
abbrev LkT := (Int64 × UInt64 × UInt64 × Option SpT × Option OutT × Option InT × UInt64 × UInt64 × UInt64 × List FrT × List ItT × List ItT) × List UInt64 × Int64
abbrev mkL (w : Int64) (sp : Option SpT) (o : Option OutT) (i : Option InT) (v0 v1 now : UInt64) (way : List FrT) (put got : List ItT) (hs : List UInt64) (ch : Int64) : LkT := ((w, 1, 4, sp, o, i, v0, v1, now, way, put, got), hs, ch)
structure GotOK (put got : List ItT) (hs : List UInt64) : Prop where
 four : hs.length = 4
 ch : okH (fun _ => 0) (got.map spanI)
 fin : finH (fun _ => 0) (got.map spanI) = hh hs
 it : ∀ y ∈ got, Good y ∧ (org y).toNat < 4 ∧ (y.1 = true ∨ y ∈ put)
 low : ∀ p, HH hs p ≤ 1099511627776
theorem GotOK.mono {put put' got : List ItT} {hs : List UInt64} (h : GotOK put got hs) (hp : ∀ y ∈ put, y ∈ put') : GotOK put' got hs :=
 ⟨h.four, h.ch, h.fin, fun y hy => ⟨(h.it y hy).1, (h.it y hy).2.1, (h.it y hy).2.2.imp id (hp y)⟩, h.low⟩
theorem hh_at {hs : List UInt64} {o : UInt8} (h : o.toNat < hs.length) : hs[o.toNat]? = some (hh hs o) := by
 unfold hh; rw [List.getElem?_eq_getElem h]; rfl
theorem u64_sub1 {a : UInt64} (h : 1 ≤ a.toNat) : (a - 1).toNat = a.toNat - 1 := by
 have e : (1 : UInt64).toNat = 1 := rfl
 rw [UInt64.toNat_sub_of_le _ _ (by rw [UInt64.le_iff_toNat_le, e]; exact h), e]
theorem u64_add1 {a : UInt64} (h : a.toNat < 2 ^ 60) : (a + 1).toNat = a.toNat + 1 := by
 have e : (1 : UInt64).toNat = 1 := rfl
 rw [UInt64.toNat_add, e]; omega
theorem answer_eq (n : Nat) (hn : 100 < n) (w : Int64) (life ep : UInt64) (rc : Rc.RecT) :
  (ep = 0 ∧ ∃ f, F15 n (some (mkI w life ep rc)) = some ((f, false), some (mkI w life ep rc))) ∨ (ep ≠ 0 ∧ ∃ bits, F15 n (some (mkI w life ep rc)) = some ((ackF ep (rc.2.1 - 1) bits life, true), some (mkI w life ep rc))) := by
 obtain ⟨rw_, want, m, old⟩ := rc
 have ha := Rc.ack_eq n hn rw_ want m old
 by_cases h : ep = 0
 ·left
  refine ⟨h, ?_⟩
  unfold F15
  rw [oelim_s]
  dsimp only
  rw [dec_t h, oite_t]
  exact ⟨_, rfl⟩
 ·right
  refine ⟨h, UInt64.ofNat (Rc.VB (Rc.hb want m) 0 64), ?_⟩
  unfold F15
  rw [oelim_s]
  dsimp only
  rw [dec_f h, oite_f]
  exact obind_of ha _
theorem trim_put {y : ItT} {a : UInt64} (h : ¬ (spanI y).2.2 ≤ a) : trimI y a = (putY y a, true) := by
 unfold putY trimI
 rw [if_neg h]
 by_cases h2 : a < (spanI y).2.1
 ·rw [if_pos h2, if_neg (UInt64.not_le.2 h2)]
 ·rw [if_neg h2, if_pos (UInt64.not_lt.1 h2)]
structure ComeP (G : Gh) (put : List ItT) (w : Int64) (sp : Option SpT) (o : Option OutT) (life ep v0 v1 now : UInt64) (way : List FrT) (ch : Int64) (U : HN) (W : Nat) (hs : List UInt64) (B : Nat) (r : Bool × Option LkT) : Prop where
 ex : ∃ rc' way' got' hs', r = (true, some (mkL w sp o (some (mkI w life ep rc')) v0 v1 now way' put got' hs' ch)) ∧ HLe (HH hs) (HH hs') ∧ RcOK G (HH hs') w ep rc' ∧ GotOK put got' hs' ∧ got'.length ≤ B ∧
  (way' = way ∧ ep = 0 ∨ ∃ cum bits, way' = way ++ [ackF ep cum bits life] ∧ ep ≠ 0 ∧ Del G (HH hs') ep cum.toNat ∧ cum.toNat + 1 = rc'.2.1.toNat) ∧
  mget Rc.KU Rc.VI rc'.2.1 rc'.2.2.1 = none ∧ W ≤ rc'.2.1.toNat ∧ HLe (HH hs') U
theorem ComeP.of {G : Gh} {put : List ItT} {w : Int64} {sp : Option SpT} {o : Option OutT} {life ep v0 v1 now : UInt64} {way : List FrT} {ch : Int64} {U : HN} {W : Nat} {hs hs1 : List UInt64} {B : Nat} {r : Bool × Option LkT} (h : ComeP G put w sp o life ep v0 v1 now way ch U W hs1 B r) (hl : HLe (HH hs) (HH hs1)) : ComeP G put w sp o life ep v0 v1 now way ch U W hs B r := by
 obtain ⟨rc', way', got', hs', h1, h2, h3⟩ := h.ex
 exact ⟨rc', way', got', hs', h1, hl.trans h2, h3⟩
theorem come_loop (n : Nat) (hn : 1000 < n) (G : Gh) (put : List ItT) (w : Int64) (sp : Option SpT) (o : Option OutT) (life ep v0 v1 now : UInt64) (way : List FrT) (hway : way.length < 2 ^ 30) (ch : Int64) (B : Nat) (hB : B < 2 ^ 30)
  (hit : ∀ x ∈ G ep, IOK put x) (hGl : (G ep).length ≤ 2 ^ 40) (U : HN) (hgu : ∀ x ∈ G ep, top x ≤ U (org x)) (W : Nat) : ∀ (m : Nat) (hs : List UInt64) (rc : Rc.RecT) (got : List ItT), rc.2.2.1.length < m → got.length + rc.2.2.1.length ≤ B → ChN (HH hs) (G ep) → RcOK G (HH hs) w ep rc → GotOK put got hs → HLe (HH hs) U → (W ≤ rc.2.1.toNat ∨ (W ≤ rc.2.1.toNat + 1 ∧ (mget Rc.KU Rc.VI rc.2.1 rc.2.2.1).isSome = true)) →
  ∃ r, F44_R30 n m hs w 1 4 v0 v1 now ch sp o (some (mkI w life ep rc)) way put got = some r ∧ ComeP G put w sp o life ep v0 v1 now way ch U W hs B r := by
 intro m
 induction m with
 | zero => intros; omega
 | succ m ih =>
  intro hs rc got hm hb hch hrc hg hu hW
  rw [F44_R30_s]
  unfold F44_L30
  rw [obind_s]
  obtain ⟨rw_, want, mp, old⟩ := rc
  dsimp only at hm hb ⊢
  cases hget : mget Rc.KU Rc.VI want mp with
  | none =>
   have hW1 : W ≤ want.toNat := by
    rcases hW with q | ⟨_, q⟩
    ·exact q
    ·rw [show mget Rc.KU Rc.VI want mp = none from hget] at q; cases q
   refine ex1 (obind_of (Rc.peek_none n rw_ want mp old hget) _) ?_
   dsimp only
   rw [show (!false) = true from rfl, oite_t]
   have hA := answer_eq n (by omega) w life ep (rw_, want, mp, old)
   rcases hA with ⟨h0, f, e1⟩ | ⟨h0, bits, e1⟩
   ·refine ex1 (obind_of e1 _) ?_
    dsimp only
    rw [oite_f]
    exact ⟨_, rfl, (rw_, want, mp, old), way, got, hs, rfl, HLe.refl _, hrc, hg, by omega, .inl ⟨rfl, h0⟩, hget, hW1, hu⟩
   ·refine ex1 (obind_of e1 _) ?_
    dsimp only
    rw [oite_t, ble_t (by simp; omega), oite_t]
    refine ⟨_, rfl, (rw_, want, mp, old), way ++ [ackF ep (want - 1) bits life], got, hs, rfl, HLe.refl _, hrc, hg, by omega, .inr ⟨want - 1, bits, rfl, h0, ?_, ?_⟩, hget, hW1, hu⟩
    ·have := hrc.one
     rw [u64_sub1 this]
     exact hrc.del
    ·have := hrc.one
     rw [u64_sub1 this]
     have : 1 ≤ want.toNat := this
     show want.toNat - 1 + 1 = want.toNat
     omega
  | some y =>
   have hym := Rc.mget_mem want mp y hget
   obtain ⟨k1, k2⟩ := hrc.held _ hym
   have hyG : y ∈ G ep := List.mem_of_getElem? k2
   have hy := hit y hyG
   have hone := hrc.one
   have ho4 : (org y).toNat < hs.length := by rw [hg.four]; exact hy.org4
   have hat := hh_at ho4
   have k1 : 1 ≤ want.toNat := k1
   have k2 : (G ep)[want.toNat - 1]? = some y := k2
   have hfrm : frm y ≤ HH hs (org y) + 1 := ChN_at hch k2 fun j z hj hz => by
    obtain ⟨z', h1, h2⟩ := hrc.del j hj
    rw [hz] at h1; cases h1; exact h2
   have hlow := hg.low (org y)
   have hadd : (hh hs (org y) + 1).toNat = (hh hs (org y)).toNat + 1 := u64_add1 (by unfold HH at hlow; omega)
   have hjump : ¬ hh hs (org y) + 1 < (spanI y).2.1 := fun q => by
    have := UInt64.lt_iff_toNat_lt.1 q
    rw [hadd] at this
    unfold HH at hfrm
    have : frm y = (spanI y).2.1.toNat := rfl
    omega
   have hwl : want.toNat - 1 < (G ep).length := by
    rcases Nat.lt_or_ge (want.toNat - 1) (G ep).length with g | g
    ·exact g
    ·rw [List.getElem?_eq_none g] at k2; cases k2
   have hw60 : want.toNat < 2 ^ 60 := by omega
   have hw1 := u64_add1 hw60
   have hnext : F56 n (some (rw_, want, mp, old)) = some (0, some (rw_, want + 1, mdel Rc.KU Rc.VI want mp, old)) := by
    rw [Rc.next_eq, if_pos (by rw [hget]; rfl)]
   have hW2 : W ≤ (want + 1).toNat ∨ (W ≤ (want + 1).toNat + 1 ∧ (mget Rc.KU Rc.VI (want + 1) (mdel Rc.KU Rc.VI want mp)).isSome = true) := by
    left
    rw [hw1]
    rcases hW with q | ⟨q, _⟩
    ·have : W ≤ want.toNat := q
     omega
    ·exact q
   have hdl := Rc.mdel_len want mp (by rw [hget]; rfl)
   have hrc' : ∀ H', HLe (HH hs) H' → top y ≤ H' (org y) → RcOK G H' w ep (rw_, want + 1, mdel Rc.KU Rc.VI want mp, old) := by
    intro H' hl ht
    refine ⟨hrc.win, by show 1 ≤ (want + 1).toNat; omega, fun q hq => ?_, fun p hp => ?_, hrc.fine.next hw60⟩
    ·have hq : q < (want + 1).toNat - 1 := hq
     rw [hw1] at hq
     by_cases e : q < want.toNat - 1
     ·exact (hrc.del.mono (GLe.refl G) hl) q e
     ·have : q = want.toNat - 1 := by have : 1 ≤ want.toNat := hone; omega
      subst this
      exact ⟨y, k2, ht⟩
    ·exact hrc.held p ((Rc.mdel_sub want mp).subset hp)
   have o1 : decide ((0 : Int) ≤ ↑(UInt8.toNat (org y))) = true := dec_t (by omega)
   have o2 : Nat.blt (Int.toNat ↑(UInt8.toNat (org y))) 4 = true := by rw [Int.toNat_natCast]; exact ble_t hy.org4
   have o3 : hs[Int.toNat ↑(UInt8.toNat (org y)) * 1]? = some (hh hs (org y)) := by rw [Nat.mul_one, Int.toNat_natCast]; exact hat
   have o4 : Nat.blt (Int.toNat ↑(UInt8.toNat (org y)) * 1) hs.length = true := by rw [Nat.mul_one, Int.toNat_natCast]; exact ble_t ho4
   refine ex1 (obind_of (Rc.peek_some n rw_ want mp old y (by have := hy.good.labs; omega) hget) _) ?_
   dsimp only
   rw [show (!true) = false from rfl, oite_f]
   refine ex1 (obind_of (span_eq n y) _) ?_
   dsimp only
   rw [o1, oite_t, o2, oite_t, o3, obind_s, dec_f hjump, oite_f, oite_t, oite_t, obind_s]
   refine ex1 (obind_of (trim_eq n y (hh hs (org y))) _) ?_
   dsimp only
   by_cases hold : (spanI y).2.2 ≤ hh hs (org y)
   ·have et : (trimI y (hh hs (org y))).2 = false := by unfold trimI; rw [if_pos hold]
    rw [et, oite_f]
    refine ex1 (obind_of hnext _) ?_
    dsimp only
    exact ih hs (rw_, want + 1, mdel Rc.KU Rc.VI want mp, old) got (by show (mdel Rc.KU Rc.VI want mp).length < m; omega) (by show got.length + (mdel Rc.KU Rc.VI want mp).length ≤ B; omega) hch (hrc' _ (HLe.refl _) (UInt64.le_iff_toNat_le.1 hold)) hg hu hW2
   ·rw [trim_put hold]
    obtain ⟨f1, f2, _, f4⟩ := putY_facts hold hjump
    dsimp only
    rw [oite_t, ble_t (by simp; omega), oite_t, oite_t, oite_t, o4, oite_t]
    refine ex1 (obind_of hnext _) ?_
    dsimp only
    have hset : hs.set (Int.toNat ↑(UInt8.toNat (org y)) * 1) (spanI y).2.2 = hs.set (org y).toNat (spanI y).2.2 := by rw [Nat.mul_one, Int.toNat_natCast]
    have hh2 : hh (hs.set (org y).toNat (spanI y).2.2) = updH (hh hs) (org y) (spanI y).2.2 := hh_set ho4 _
    have hle : HLe (HH hs) (HH (hs.set (org y).toNat (spanI y).2.2)) := fun p => by
     unfold HH
     rw [hh2]
     unfold updH
     split
     ·rename_i q; subst q; have := UInt64.lt_iff_toNat_lt.1 (UInt64.not_le.1 hold); omega
     ·exact Nat.le_refl _
    have htop : top y ≤ HH (hs.set (org y).toNat (spanI y).2.2) (org y) := by
     unfold HH
     rw [hh2]
     unfold updH
     rw [if_pos rfl]
     exact Nat.le_refl _
    have hup : HLe (HH (hs.set (org y).toNat (spanI y).2.2)) U := fun p => by
     unfold HH
     rw [hh2]
     unfold updH
     split
     ·rename_i q; subst q; exact hgu y hyG
     ·exact hu p
    have hgot : GotOK put (got ++ [putY y (hh hs (org y))]) (hs.set (org y).toNat (spanI y).2.2) := by
     refine ⟨by rw [List.length_set]; exact hg.four, ?_, ?_, ?_, ?_⟩
     ·rw [List.map_append, okH_append, hg.fin]
      refine ⟨hg.ch, ?_, trivial⟩
      rw [f1]
     ·rw [List.map_append, finH_append, hg.fin, hh2]
      show updH (hh hs) (spanI (putY y (hh hs (org y)))).1 (spanI (putY y (hh hs (org y)))).2.2 = _
      rw [f1]
     ·intro z hz
      rcases List.mem_append.1 hz with q | q
      ·exact hg.it z q
      ·rw [List.mem_singleton.1 q]
       refine ⟨putY_good hy.good _, ?_, ?_⟩
       ·show (spanI (putY y (hh hs (org y)))).1.toNat < 4
        rw [f1]; exact hy.org4
       ·rcases hy.was with q | q
        ·left; rw [f2]; exact q
        ·cases hb : y.1 with
         | true => left; rw [f2]; exact hb
         | false => right; rw [f4 hb]; exact q
     ·intro p
      unfold HH
      rw [hh2]
      unfold updH
      split
      ·exact (check_span hy.chk).max
      ·exact hg.low p
    rw [hset]
    obtain ⟨r, e, hr⟩ := ih (hs.set (org y).toNat (spanI y).2.2) (rw_, want + 1, mdel Rc.KU Rc.VI want mp, old) (got ++ [putY y (hh hs (org y))]) (by show (mdel Rc.KU Rc.VI want mp).length < m; omega) (by show (got ++ [_]).length + (mdel Rc.KU Rc.VI want mp).length ≤ B; rw [List.length_append, List.length_singleton]; omega) (hch.mono hle) (hrc' _ hle htop) hgot hup hW2
    exact ⟨r, e, hr.of hle⟩
end Go.Proofs.Ytfmomnniadlbhaa
open Go Go.Sx
namespace Go.Proofs.Ytfmomnniadlbhaa
theorem rnew_eq (n : Nat) (w : Int64) (h1 : ¬ w < 1) (h2 : ¬ (64 : Int64) < w) : F13 n w = some ((some (w, 1, [], 0), 0), ()) := by
 unfold F13
 rw [dec_f h1, oite_f, dec_f h2, oite_f]
theorem win_lt {w : Int64} (h1 : 1 ≤ w.toInt) (h8 : w.toInt ≤ 8) : ¬ w < 1 ∧ ¬ (64 : Int64) < w := by
 have e1 : (1 : Int64).toInt = 1 := rfl
 have e64 : (64 : Int64).toInt = 64 := rfl
 exact ⟨fun q => by have := Int64.lt_iff_toInt_lt.1 q; omega, fun q => by have := Int64.lt_iff_toInt_lt.1 q; omega⟩
theorem win_u64 {w : Int64} (h1 : 1 ≤ w.toInt) (h8 : w.toInt ≤ 8) : (UInt64.ofInt w.toInt).toNat = w.toInt.toNat := by
 have := u64_ofInt ((w.toInt.toNat : Nat) : Int)
 rw [show ((w.toInt.toNat : Nat) : Int) = w.toInt from by omega] at this
 omega
theorem rc_new {G : Gh} {H : HN} (w : Int64) (ep : UInt64) : RcOK G H w ep (w, 1, [], 0) :=
 ⟨rfl, by show 1 ≤ (1 : UInt64).toNat; decide, fun q hq => by have : (1 : UInt64).toNat = 1 := rfl; dsimp only at hq; omega, fun p hp => by simp at hp, ⟨by simp, by simp, by simp⟩⟩
theorem mget_snoc {k : UInt64} {x : ItT} : ∀ {m : Rc.MapI}, mget Rc.KU Rc.VI k m = none → (mget Rc.KU Rc.VI k (m ++ [(k, x)])).isSome = true
 | [], _ => by
  show (mget Rc.KU Rc.VI k [(k, x)]).isSome = true
  unfold mget
  rw [show VT.eqb Rc.KU k k = true from Rc.eqb_dec k k ▸ dec_t rfl]
  rfl
 | q :: r, h => by
  unfold mget at h
  show (mget Rc.KU Rc.VI k (q :: (r ++ [(k, x)]))).isSome = true
  unfold mget
  split at h
  ·cases h
  ·rename_i hb
   exact mget_snoc h
theorem take_ok {G : Gh} {H : HN} {put : List ItT} {w : Int64} (h1 : 1 ≤ w.toInt) (h8 : w.toInt ≤ 8) {ep sq : UInt64} {x : ItT} (hx : IOK put x) (hs : 1 ≤ sq.toNat) (hG : (G ep)[sq.toNat - 1]? = some x) {rc : Rc.RecT} (h : RcOK G H w ep rc) (n : Nat) (hn : 1000 < n) :
  ∃ c rc', F37 n (some rc, sq, x) = some (c, some rc') ∧ RcOK G H w ep rc' ∧ rc'.2.1 = rc.2.1 ∧ (sq = rc.2.1 → (mget Rc.KU Rc.VI rc'.2.1 rc'.2.2.1).isSome = true) ∧ (sq < rc.2.1 → rc'.2.2.1 = rc.2.2.1) := by
 obtain ⟨w', want, m, old⟩ := rc
 have hw : w' = w := h.win
 subst hw
 have e := Rc.take_eq n (by omega) w' want m old sq x 50 (hx.good.fit 50 (by omega)) (by have := hx.good.labs; omega)
 rw [e]
 by_cases g1 : sq < want ∨ (mget Rc.KU Rc.VI sq m).isSome = true
 ·rw [if_pos g1]
  refine ⟨_, _, rfl, ⟨rfl, h.one, h.del, h.held, h.fine⟩, rfl, fun q => ?_, fun _ => rfl⟩
  rcases g1 with g | g
  ·exact absurd g (by rw [q]; exact UInt64.lt_irrefl _)
  ·rw [q] at g; exact g
 ·rw [if_neg g1]
  have g2 : want.toNat ≤ sq.toNat := by
   have : ¬ sq < want := fun q => g1 (.inl q)
   exact UInt64.le_iff_toNat_le.1 (UInt64.not_lt.1 this)
  have g3 : mget Rc.KU Rc.VI sq m = none := by
   cases hm : mget Rc.KU Rc.VI sq m with
   | none => rfl
   | some z => exact absurd (.inr (by rw [hm]; rfl)) g1
  by_cases g4 : UInt64.ofInt w'.toInt ≤ sq - want
  ·rw [if_pos g4]
   refine ⟨_, _, rfl, h, rfl, fun q => ?_, fun _ => rfl⟩
   exfalso
   have q : sq = want := q
   have := UInt64.le_iff_toNat_le.1 g4
   rw [win_u64 h1 h8, q, UInt64.sub_self] at this
   have e0 : (0 : UInt64).toNat = 0 := rfl
   omega
  ·rw [if_neg g4, if_pos hx.chk]
   have g5 : sq.toNat - want.toNat < w'.toInt.toNat := by
    have := UInt64.lt_iff_toNat_lt.1 (UInt64.not_le.1 g4)
    rw [win_u64 h1 h8, UInt64.toNat_sub_of_le _ _ (UInt64.le_iff_toNat_le.2 g2)] at this
    exact this
   refine ⟨_, _, rfl, ⟨rfl, h.one, h.del, fun p hp => ?_, h.fine.put g3 g2 (by show sq.toNat < want.toNat + w'.toInt.toNat; omega) (by have := hx.good.labs; omega)⟩, rfl, fun q => ?_, fun q => absurd (UInt64.lt_iff_toNat_lt.1 (show sq < want from q)) (by omega)⟩
   rotate_left
   ·have q : sq = want := q
    subst q
    show (mget Rc.KU Rc.VI sq (mput Rc.KU Rc.VI sq x m)).isSome = true
    rw [Rc.mput_none g3]
    exact mget_snoc g3
   rcases Rc.mput_mem sq x m p hp with q | q
   ·exact h.held p q
   ·rw [q]; exact ⟨hs, hG⟩
theorem data_eq (n : Nat) (hn : 1000 < n) {G : Gh} {H : HN} {put : List ItT} {w : Int64} (h1 : 1 ≤ w.toInt) (h8 : w.toInt ≤ 8) (life ep e sq : UInt64) {x : ItT} (hx : IOK put x) (he : 0 < e) (hs : 1 ≤ sq.toNat) (hG : (G e)[sq.toNat - 1]? = some x) {rc : Rc.RecT} (h : RcOK G H w ep rc) :
  ∃ c ep' rc', F17 n (some (mkI w life ep rc), dataF e sq x) = some (c, some (mkI w life ep' rc')) ∧ RcOK G H w ep' rc' ∧ ((ep' = ep ∧ e.toNat ≤ ep.toNat ∧ rc'.2.1 = rc.2.1 ∧ (e = ep → sq = rc.2.1 → (mget Rc.KU Rc.VI rc'.2.1 rc'.2.2.1).isSome = true) ∧ (e < ep → rc' = rc)) ∨ (ep' = e ∧ ep < e ∧ rc'.2.1 = 1 ∧ (sq = 1 → (mget Rc.KU Rc.VI rc'.2.1 rc'.2.2.1).isSome = true))) := by
 obtain ⟨w1, w2⟩ := win_lt h1 h8
 unfold F17
 rw [ojoinA_rw, oelim_s]
 dsimp only
 rw [show (!decide ((1 : UInt8) = 1)) = false from rfl, oite_f, oite_f, show (!decide ((0 : UInt8) = 0)) = false from rfl, oite_f]
 by_cases g1 : e < ep
 ·rw [dec_t g1, oite_t]; exact ⟨_, ep, rc, rfl, h, .inl ⟨rfl, Nat.le_of_lt (UInt64.lt_iff_toNat_lt.1 g1), rfl, fun q => absurd g1 (by rw [q]; exact UInt64.lt_irrefl _), fun _ => rfl⟩⟩
 ·rw [dec_f g1, oite_f]
  have fin : ∀ ep' rc0, ep' = e → RcOK G H w ep' rc0 → ∃ r, F17_J3 n 0 1 w life ep' 1 1 0 e sq x.1 x.2.1 x.2.2.1 x.2.2.2.1 x.2.2.2.2.1 x.2.2.2.2.2.1 x.2.2.2.2.2.2.1 x.2.2.2.2.2.2.2.1 x.2.2.2.2.2.2.2.2.1 x.2.2.2.2.2.2.2.2.2.1 x.2.2.2.2.2.2.2.2.2.2.1 x.2.2.2.2.2.2.2.2.2.2.2.1 x.2.2.2.2.2.2.2.2.2.2.2.2 0 0 0 (some rc0) = some r ∧
    ∃ c rc', r = (c, some (mkI w life ep' rc')) ∧ RcOK G H w ep' rc' ∧ rc'.2.1 = rc0.2.1 ∧ (sq = rc0.2.1 → (mget Rc.KU Rc.VI rc'.2.1 rc'.2.2.1).isSome = true) := by
   intro ep' rc0 hep h0
   subst hep
   unfold F17_J3
   have hT := take_ok h1 h8 hx hs hG h0 n hn
   obtain ⟨c, rc', e1, h2, h3, h4, _⟩ := hT
   refine ex1 (obind_of e1 _) ?_
   exact ⟨_, rfl, c, rc', rfl, h2, h3, h4⟩
  by_cases g2 : ep < e
  ·rw [dec_t g2, oite_t]
   obtain ⟨r, e1, c, rc', rfl, h2, h3, h4⟩ := fin e (w, 1, [], 0) rfl (rc_new w e)
   refine ⟨c, e, rc', ?_, h2, .inr ⟨rfl, g2, h3, h4⟩⟩
   refine (obind_of (rnew_eq n w w1 w2) _).trans ?_
   dsimp only
   rw [show (!decide ((0 : Int64) = 0)) = false from rfl, oite_f]
   exact e1
  ·rw [dec_f g2, oite_f]
   have hee : ep = e := by
    apply UInt64.toNat.inj
    have a := UInt64.le_iff_toNat_le.1 (UInt64.not_lt.1 g1)
    have b := UInt64.le_iff_toNat_le.1 (UInt64.not_lt.1 g2)
    omega
   obtain ⟨r, e1, c, rc', rfl, h2, h3, h4⟩ := fin ep rc hee h
   exact ⟨c, ep, rc', e1, h2, .inl ⟨rfl, by rw [hee]; exact Nat.le_refl _, h3, fun _ => h4, fun q => absurd q g1⟩⟩
theorem oack_eq (n : Nat) (hn : 1000 < n) {w : Int64} (h1 : 1 ≤ w.toInt) (h8 : w.toInt ≤ 8) (life ses other : UInt64) (hses : ¬ (1048576 : UInt64) ≤ ses + 1) (sd : SndT) (hf : (flS sd).length ≤ 100) (e cum bits lf : UInt64) :
  (∃ c, F10 n (some (mkO w life ses other sd), ackF e cum bits lf) = some ((0, c), some (mkO w life ses other sd)) ∧ c ≠ 0 ∧ (e ≠ epO life ses ∨ lf < other)) ∨
  (∃ c, F10 n (some (mkO w life ses other sd), ackF e cum bits lf) = some ((0, c), some (mkO w life (ses + 1) lf (newS w))) ∧ c ≠ 0 ∧ e = epO life ses ∧ other < lf) ∨
  (e = epO life ses ∧ ¬ lf < other ∧ (other = 0 ∨ ¬ other < lf) ∧ ∃ i c sd', F10 n (some (mkO w life ses other sd), ackF e cum bits lf) = some ((i, c), some (mkO w life ses lf sd')) ∧ F35 n (some sd, cum, bits) = some ((i, c), some sd')) := by
 obtain ⟨w1, w2⟩ := win_lt h1 h8
 unfold F10
 rw [ojoinA_rw, oelim_s]
 dsimp only
 rw [show (!decide ((2 : UInt8) = 2)) = false from rfl, oite_f, show (!decide ((0 : UInt8) = 0)) = false from rfl, oite_f, show (!decide ((1 : UInt8) = 1)) = false from rfl, oite_f]
 by_cases g1 : e = epO life ses
 ·rw [show decide (e = IK.shl IntKind.u64 life 20 ||| ses) = true from dec_t g1, Bool.not_true, oite_f]
  by_cases g2 : lf < other
  ·rw [dec_t g2, oite_t]; exact .inl ⟨_, rfl, by decide, .inr g2⟩
  ·rw [dec_f g2, oite_f]
   have fin : ∃ i c sd', F10_J3 n 1 0 w 1 4 life ses other 2 0 1 e 0 false 0 0 0 [] [] 0 0 0 0 0 0 0 cum bits lf (some sd) = some ((i, c), some (mkO w life ses lf sd')) ∧ F35 n (some sd, cum, bits) = some ((i, c), some sd') := by
    unfold F10_J3
    rcases ack_eq n sd (by omega) (by omega) cum bits with ⟨_, e1⟩ | ⟨_, i, k, s', e1, _⟩
    ·exact ⟨0, 6, sd, obind_of e1 _, e1⟩
    ·exact ⟨i, 0, s', obind_of e1 _, e1⟩
   by_cases g3 : other = 0
   ·rw [dec_t g3, Bool.not_true, oite_f]
    exact .inr (.inr ⟨g1, g2, .inl g3, fin⟩)
   ·rw [dec_f g3, Bool.not_false, oite_t]
    by_cases g4 : other < lf
    ·rw [dec_t g4, oite_t]
     refine .inr (.inl ⟨18, ?_, by decide, g1, g4⟩)
     refine (obind_of (restart_eq n w life ses lf sd w1 w2 hses) _).trans ?_
     rfl
    ·rw [dec_f g4, oite_f]
     exact .inr (.inr ⟨g1, g2, .inr g4, fin⟩)
 ·rw [show decide (e = IK.shl IntKind.u64 life 20 ||| ses) = false from dec_f g1, Bool.not_false, oite_t]
  exact .inl ⟨_, rfl, by decide, .inl g1⟩
end Go.Proofs.Ytfmomnniadlbhaa
open Go Go.Sx
namespace Go.Proofs.Ytfmomnniadlbhaa
theorem epO_nat (life ses : UInt64) (h1 : life.toNat < 2 ^ 20) (h2 : ses.toNat < 2 ^ 20) : (epO life ses).toNat = life.toNat * 2 ^ 20 + ses.toNat := by
 have h : IK.toInt .u64 (IK.shl .u64 life 20) = IntKind.u64.wrap (IK.toInt .u64 life * 2 ^ (min (20 : Int).toNat IntKind.u64.bits)) := IK.shl_toInt .u64 life 20
 have e1 : IK.toInt .u64 (IK.shl .u64 life 20) = ((IK.shl .u64 life 20 : UInt64).toNat : Int) := rfl
 have e2 : IK.toInt .u64 life = (life.toNat : Int) := rfl
 have e3 : min (20 : Int).toNat IntKind.u64.bits = 20 := rfl
 rw [e1, e2, e3, IntKind.wrap_u64] at h
 have hs : (IK.shl .u64 life 20 : UInt64).toNat = life.toNat * 2 ^ 20 := by omega
 unfold epO
 show (UInt64.toNat ((IK.shl .u64 life 20 : UInt64) ||| ses)) = _
 rw [UInt64.toNat_or, hs]
 have := Nat.shiftLeft_add_eq_or_of_lt h2 life.toNat
 rw [Nat.shiftLeft_eq] at this
 exact this.symm
structure St where
 w : Int64
 sp : SpT
 life : UInt64
 ses : UInt64
 other : UInt64
 sd : SndT
 il : UInt64
 ep : UInt64
 rc : Rc.RecT
 v0 : UInt64
 v1 : UInt64
 now : UInt64
 way : List FrT
 put : List ItT
 got : List ItT
 hs : List UInt64
 ch : Int64
abbrev St.t (s : St) : LkT := mkL s.w (some s.sp) (some (mkO s.w s.life s.ses s.other s.sd)) (some (mkI s.w s.il s.ep s.rc)) s.v0 s.v1 s.now s.way s.put s.got s.hs s.ch
def St.cur (s : St) : Nat := s.life.toNat * 2 ^ 20 + s.ses.toNat
structure Lv (G : Gh) (s : St) : Prop where
 il : s.il = s.v1
 oth : s.other.toNat ≤ s.il.toNat
 acks : ∀ ep cum bits lf, ackF ep cum bits lf ∈ s.way → 1 ≤ lf.toNat ∧ lf.toNat ≤ s.il.toNat ∧ (lf = s.il → ep.toNat ≤ s.ep.toNat ∧ (ep = s.ep → cum.toNat + 1 ≤ s.rc.2.1.toNat))
 base : (flS s.sd).length < (G (epO s.life s.ses)).length → s.other ≠ 0 ∧ (s.other = s.il → s.ep = epO s.life s.ses ∧ (G (epO s.life s.ses)).length - (flS s.sd).length + 1 ≤ s.rc.2.1.toNat)
 head : ∀ h : 0 < (flS s.sd).length, ((flS s.sd)[0]).2.2.2.2.2 = false
 tim : ∀ f ∈ flS s.sd, f.2.2.1.toNat ≤ s.now.toNat + 4 ∧ 1 ≤ f.2.2.2.1.toNat ∧ f.2.2.2.1.toNat ≤ 4
 idle : mget Rc.KU Rc.VI s.rc.2.1 s.rc.2.2.1 = none
 upp : HLe (HH s.hs) (HH s.sp.2.1)
 gup : ∀ e, ∀ x ∈ G e, top x ≤ HH s.sp.2.1 (org x)
 glen : ∀ e, (G e).length ≤ 8 * s.now.toNat
structure StOK (N M : Nat) (G : Gh) (s : St) : Prop where
 w1 : 1 ≤ s.w.toInt
 w8 : s.w.toInt ≤ 8
 sp : SpI M s.put (HH s.hs) s.sp
 snd : SendOK (G (epO s.life s.ses)) s.w s.sd (lsS s.sp)
 g : GOK s.put G (HH s.hs) s.cur
 fr : ∀ f ∈ s.way, FrOK G (HH s.hs) s.cur f
 rc : RcOK G (HH s.hs) s.w s.ep s.rc
 epc : s.ep.toNat ≤ s.cur
 got : GotOK s.put s.got s.hs
 life : s.life = s.v0
 life1 : 1 ≤ s.v0.toNat
 lifeN : s.v0.toNat ≤ N + 1
 ses1 : 1 ≤ s.ses.toNat
 sesN : s.ses.toNat ≤ N + 1
 v1 : 1 ≤ s.v1.toNat
 v1N : s.v1.toNat ≤ N + 1
 wayl : s.way.length ≤ 200 + 9 * N
 gotl : s.got.length ≤ 9 * N
 putl : s.put.length ≤ N
 putg : ∀ x ∈ s.put, Good x
 lv : Lv G s
theorem StOK.up {N N' M : Nat} {G : Gh} {s : St} (h : StOK N M G s) (hm : N ≤ N') : StOK N' M G s := by
 obtain ⟨a1, a2, a3, a4, a5, a6, a7, a8, a9, a10, a11, a12, a13, a14, a15, a16, a17, a18, a19, a20, a21⟩ := h
 exact ⟨a1, a2, a3, a4, a5, a6, a7, a8, a9, a10, a11, by omega, a13, by omega, a15, by omega, by omega, by omega, by omega, a20, a21⟩
theorem StOK.cur_eq {N M : Nat} {G : Gh} {s : St} (h : StOK N M G s) (hN : N ≤ 500000) : (epO s.life s.ses).toNat = s.cur := by
 have h1 := h.lifeN
 have h2 := h.sesN
 exact epO_nat _ _ (by rw [h.life]; omega) (by omega)
theorem StOK.recv {N M : Nat} {G : Gh} {s : St} (h : StOK N M G s) {ep : UInt64} {rc : Rc.RecT} {got : List ItT} {hs : List UInt64} {way : List FrT} (hl : HLe (HH s.hs) (HH hs)) (hr : RcOK G (HH hs) s.w ep rc) (he : ep.toNat ≤ s.cur) (hg : GotOK s.put got hs) (hgl : got.length ≤ 9 * (N + 1))
  (hw : ∀ f ∈ way, FrOK G (HH hs) s.cur f) (hwl : way.length ≤ 200 + 9 * (N + 1)) (hv : Lv G { s with ep := ep, rc := rc, got := got, hs := hs, way := way }) : StOK (N + 1) M G { s with ep := ep, rc := rc, got := got, hs := hs, way := way } := by
 obtain ⟨a1, a2, a3, a4, a5, a6, a7, a8, a9, a10, a11, a12, a13, a14, a15, a16, a17, a18, a19, a20, a21⟩ := h
 exact ⟨a1, a2, a3.mono (by omega) (fun _ q => q) hl, a4, a5.mono (fun _ q => q) hl (Nat.le_refl _), hw, hr, he, hg, a10, a11, Nat.le_succ_of_le a12, a13, Nat.le_succ_of_le a14, a15, Nat.le_succ_of_le a16, hwl, hgl, Nat.le_succ_of_le a19, a20, hv⟩
theorem StOK.renew {N M : Nat} {G : Gh} {s : St} (h : StOK N M G s) (hN : N ≤ 500000) (other : UInt64) (ho : other.toNat ≤ s.il.toNat) : StOK (N + 1) M G { s with ses := s.ses + 1, other := other, sd := newS s.w } ∧ s.cur ≤ ({ s with ses := s.ses + 1, other := other, sd := newS s.w } : St).cur := by
 have hc := h.cur_eq hN
 obtain ⟨a1, a2, a3, a4, a5, a6, a7, a8, a9, a10, a11, a12, a13, a14, a15, a16, a17, a18, a19, a20, a21⟩ := h
 have e1 := u64_add1 (a := s.ses) (by omega)
 have hcur : ({ s with ses := s.ses + 1, other := other, sd := newS s.w } : St).cur = s.cur + 1 := by
  show s.life.toNat * 2 ^ 20 + (s.ses + 1).toNat = s.life.toNat * 2 ^ 20 + s.ses.toNat + 1
  omega
 have hG : G (epO s.life (s.ses + 1)) = [] := a5.none _ (by
  rw [epO_nat _ _ (by rw [a10]; omega) (by omega), e1]
  show s.life.toNat * 2 ^ 20 + s.ses.toNat < _
  omega)
 refine ⟨⟨a1, a2, a3.mono (by omega) (fun _ q => q) (HLe.refl _), ?_, ?_, ?_, a7, ?_, a9, a10, a11, Nat.le_succ_of_le a12, by show 1 ≤ (s.ses + 1).toNat; omega, by show (s.ses + 1).toNat ≤ N + 1 + 1; omega, a15, Nat.le_succ_of_le a16, by show s.way.length ≤ _; omega, by show s.got.length ≤ _; omega, by show s.put.length ≤ _; omega, a20, ⟨a21.il, ho, a21.acks, fun q => ?_, fun q => absurd q (Nat.lt_irrefl 0), (fun f hf => by cases hf), a21.idle, a21.upp, a21.gup, a21.glen⟩⟩, by rw [hcur]; omega⟩
 ·show SendOK (G (epO s.life (s.ses + 1))) _ _ _
  rw [hG]; exact send_new _ _
 ·rw [hcur]; exact a5.mono (fun _ q => q) (HLe.refl _) (by omega)
 ·intro f hf
  rw [hcur]; exact (a6 f hf).mono (GLe.refl G) (HLe.refl _) (by omega)
 ·rw [hcur]; show s.ep.toNat ≤ _; omega
 ·have q : (flS (newS s.w)).length < (G (epO s.life (s.ses + 1))).length := q
  rw [hG] at q
  exact absurd q (Nat.lt_irrefl 0)
theorem data_not_ack {e sq : UInt64} {x : ItT} {ep cum bits lf : UInt64} : ackF ep cum bits lf ≠ dataF e sq x := fun h => absurd (congrArg Prod.fst h) (show (2 : UInt8) ≠ 1 by decide)
theorem ack_inj {ep cum bits lf ep' cum' bits' lf' : UInt64} (h : ackF ep cum bits lf = ackF ep' cum' bits' lf') : ep = ep' ∧ cum = cum' ∧ lf = lf' := by
 have h1 : ep = ep' := congrArg (fun f : FrT => f.2.2.2.1) h
 have h2 : cum = cum' := congrArg (fun f : FrT => f.2.2.2.2.2.2.2.2.2.2.2.2.2.2.2.2.2.2.1) h
 have h3 : lf = lf' := congrArg (fun f : FrT => f.2.2.2.2.2.2.2.2.2.2.2.2.2.2.2.2.2.2.2.2) h
 exact ⟨h1, h2, h3⟩
theorem data_ok (n : Nat) (hn : 2000 < n) {N M : Nat} (hN : N ≤ 400000) {G : Gh} {s : St} (h : StOK N M G s) {e sq : UInt64} {x : ItT} (g1 : 0 < e) (g2 : e.toNat ≤ s.cur) (g3 : 1 ≤ sq.toNat) (g4 : (G e)[sq.toNat - 1]? = some x) :
  ∃ ep rc got hs cum bits, F44 n (some s.t, dataF e sq x) = some (true, some ({ s with ep := ep, rc := rc, got := got, hs := hs, way := s.way ++ [ackF ep cum bits s.il] } : St).t) ∧
   StOK (N + 1) M G { s with ep := ep, rc := rc, got := got, hs := hs, way := s.way ++ [ackF ep cum bits s.il] } ∧ cum.toNat + 1 = rc.2.1.toNat ∧
   ((ep = s.ep ∧ e.toNat ≤ s.ep.toNat ∧ s.rc.2.1.toNat ≤ rc.2.1.toNat ∧ (e = s.ep → sq = s.rc.2.1 → s.rc.2.1.toNat + 1 ≤ rc.2.1.toNat)) ∨ (ep = e ∧ s.ep.toNat < e.toNat ∧ (sq = 1 → 2 ≤ rc.2.1.toNat))) := by
 have hx := h.g.it e x (List.mem_of_getElem? g4)
 have hD := data_eq n (by omega) h.w1 h.w8 s.il s.ep e sq hx g1 g3 g4 h.rc
 obtain ⟨c, ep', rc', e1, h1, h2⟩ := hD
 have hml := h1.fine.len
 have hw8 := h.w8
 have hepc := h.epc
 have hgl := h.gotl
 have hwl := h.wayl
 have hep' : ep'.toNat ≤ s.cur ∧ ep' ≠ 0 ∧ s.ep.toNat ≤ ep'.toNat := by
  have he0 : 0 < e.toNat := UInt64.lt_iff_toNat_lt.1 g1
  rcases h2 with ⟨rfl, q, _, _, _⟩ | ⟨rfl, q, _, _⟩
  ·refine ⟨hepc, fun q' => ?_, Nat.le_refl _⟩
   rw [q'] at q
   have : (0 : UInt64).toNat = 0 := rfl
   omega
  ·exact ⟨g2, fun q' => by rw [q'] at he0; exact absurd he0 (by decide), Nat.le_of_lt (UInt64.lt_iff_toNat_lt.1 q)⟩
 have key : ∃ W, (W ≤ rc'.2.1.toNat ∨ (W ≤ rc'.2.1.toNat + 1 ∧ (mget Rc.KU Rc.VI rc'.2.1 rc'.2.2.1).isSome = true)) ∧ ∀ want2 : Nat, W ≤ want2 →
   ((ep' = s.ep ∧ e.toNat ≤ s.ep.toNat ∧ s.rc.2.1.toNat ≤ want2 ∧ (e = s.ep → sq = s.rc.2.1 → s.rc.2.1.toNat + 1 ≤ want2)) ∨ (ep' = e ∧ s.ep.toNat < e.toNat ∧ (sq = 1 → 2 ≤ want2))) := by
  rcases h2 with ⟨q1, q2, q3, q4, _⟩ | ⟨q1, q2, q3, q4⟩
  ·by_cases hq : e = s.ep ∧ sq = s.rc.2.1
   ·refine ⟨s.rc.2.1.toNat + 1, .inr ⟨by rw [q3]; exact Nat.le_refl _, q4 hq.1 hq.2⟩, fun w2 hw => .inl ⟨q1, q2, by omega, fun _ _ => hw⟩⟩
   ·exact ⟨s.rc.2.1.toNat, .inl (by rw [q3]; exact Nat.le_refl _), fun w2 hw => .inl ⟨q1, q2, hw, fun a b => absurd ⟨a, b⟩ hq⟩⟩
  ·have h1' : (1 : UInt64).toNat = 1 := rfl
   by_cases hq : sq = 1
   ·exact ⟨2, .inr ⟨by rw [q3, h1']; exact Nat.le_refl _, q4 hq⟩, fun w2 hw => .inr ⟨q1, UInt64.lt_iff_toNat_lt.1 q2, fun _ => hw⟩⟩
   ·exact ⟨1, .inl (by rw [q3, h1']; exact Nat.le_refl _), fun w2 hw => .inr ⟨q1, UInt64.lt_iff_toNat_lt.1 q2, fun a => absurd a hq⟩⟩
 obtain ⟨W, hW, hfin⟩ := key
 have hcl := come_loop n (by omega) G s.put s.w (some s.sp) (some (mkO s.w s.life s.ses s.other s.sd)) s.il ep' s.v0 s.v1 s.now s.way (by omega) s.ch (9 * (N + 1)) (by omega) (h.g.it ep') (h.g.len ep') (HH s.sp.2.1) (h.lv.gup ep') W n s.hs rc' s.got (by omega) (by omega) (h.g.ch ep') h1 h.got h.lv.upp hW
 obtain ⟨r, e2, rc2, way2, got2, hs2, rfl, k1, k2, k3, k4, k5, k6, k7, k8⟩ := hcl
 rcases k5 with ⟨_, q⟩ | ⟨cum, bits, rfl, q1, q2, q3⟩
 ·exact absurd q hep'.2.1
 have hcase := hfin _ k7
 refine ⟨ep', rc2, got2, hs2, cum, bits, ?_, ?_, q3, hcase⟩
 ·unfold F44
  dsimp only
  rw [show decide ((1 : UInt8) = 2) = false from rfl, oite_f, obind_s]
  exact (obind_of e1 _).trans e2
 ·refine h.recv k1 k2 hep'.1 k3 k4 (fun f hm => ?_) (by rw [List.length_append, List.length_singleton]; omega) ⟨h.lv.il, h.lv.oth, fun epa cuma bitsa lfa hm => ?_, fun hb => ?_, h.lv.head, h.lv.tim, k6, k8, h.lv.gup, h.lv.glen⟩
  ·rcases List.mem_append.1 hm with q | q
   ·exact (h.fr f q).mono (GLe.refl G) k1 (Nat.le_refl _)
   ·rw [List.mem_singleton.1 q]
    refine .inr ⟨ep', cum, bits, s.il, rfl, ?_, hep'.1, q2⟩
    rw [UInt64.lt_iff_toNat_lt]
    have : ep'.toNat ≠ 0 := fun q => q1 (UInt64.toNat.inj q)
    show 0 < ep'.toNat
    omega
  ·rcases List.mem_append.1 hm with q | q
   ·obtain ⟨b0, b1, b2⟩ := h.lv.acks _ _ _ _ q
    refine ⟨b0, b1, fun hl => ?_⟩
    obtain ⟨b3, b4⟩ := b2 hl
    refine ⟨by have := hep'.2.2; show epa.toNat ≤ ep'.toNat; omega, fun he => ?_⟩
    rcases hcase with ⟨c1, _, c3, _⟩ | ⟨c1, c2, _⟩
    ·have := b4 (he.trans c1)
     show cuma.toNat + 1 ≤ rc2.2.1.toNat
     omega
    ·exfalso
     have he : epa = ep' := he
     rw [he, c1] at b3
     omega
   ·obtain ⟨b1, b2, b3⟩ := ack_inj (List.mem_singleton.1 q)
    subst b1; subst b2; subst b3
    exact ⟨by rw [h.lv.il]; exact h.v1, Nat.le_refl _, fun _ => ⟨Nat.le_refl _, fun _ => by show cuma.toNat + 1 ≤ rc2.2.1.toNat; omega⟩⟩
  ·obtain ⟨b1, b2⟩ := h.lv.base hb
   refine ⟨b1, fun ho => ?_⟩
   obtain ⟨b3, b4⟩ := b2 ho
   rcases hcase with ⟨c1, _, c3, _⟩ | ⟨c1, c2, _⟩
   ·exact ⟨by show ep' = _; rw [c1]; exact b3, by show _ ≤ rc2.2.1.toNat; exact Nat.le_trans b4 c3⟩
   ·exfalso
    have := congrArg UInt64.toNat b3
    rw [h.cur_eq (by omega)] at this
    omega
def AckP (s s' : St) (e cum lf : UInt64) : Prop :=
 (s' = s ∧ (e ≠ epO s.life s.ses ∨ lf < s.other)) ∨
 (e = epO s.life s.ses ∧ s.other < lf ∧ s' = { s with ses := s.ses + 1, other := lf, sd := newS s.w }) ∨
 (e = epO s.life s.ses ∧ ¬ lf < s.other ∧ (s.other = 0 ∨ ¬ s.other < lf) ∧ ∃ k sd' sp', s' = { s with other := lf, sd := sd', sp := sp' } ∧ lsS sp' = (lsS s.sp).drop k ∧ sp'.2.1 = s.sp.2.1 ∧ k ≤ (flS s.sd).length ∧ pqs (flS sd') = (pqs (flS s.sd)).drop k ∧ (∀ h : 0 < (flS s.sd).length, ((flS s.sd)[0]).1 ≤ cum → 1 ≤ k))
theorem ack_ok (n : Nat) (hn : 2000 < n) {N M : Nat} (hN : N ≤ 400000) (hM : M ≤ 900) {G : Gh} {s : St} (h : StOK N M G s) {e cum bits lf : UInt64} (g3 : Del G (HH s.hs) e cum.toNat) (hl0 : 1 ≤ lf.toNat) (hl : lf.toNat ≤ s.il.toNat)
  (hA : lf = s.il → e.toNat ≤ s.ep.toNat ∧ (e = s.ep → cum.toNat + 1 ≤ s.rc.2.1.toNat)) :
  ∃ s', F44 n (some s.t, ackF e cum bits lf) = some (true, some s'.t) ∧ StOK (N + 1) M G s' ∧ s.cur ≤ s'.cur ∧ AckP s s' e cum lf := by
 have hfew := h.snd.few
 have hw8 := h.w8
 have hses := h.sesN
 have hss : ¬ (1048576 : UInt64) ≤ s.ses + 1 := fun q => by
  have := UInt64.le_iff_toNat_le.1 q
  rw [u64_add1 (by omega)] at this
  have e : (1048576 : UInt64).toNat = 1048576 := rfl
  omega
 have hO := oack_eq n (by omega) h.w1 h.w8 s.life s.ses s.other hss s.sd (by omega) e cum bits lf
 rcases hO with ⟨c, e1, c0, c1⟩ | ⟨c, e1, c0, c1, c2⟩ | ⟨he, c1, c2, i, c, sd', e1, e2⟩
 ·refine ⟨s, ?_, h.up (by omega), Nat.le_refl _, .inl ⟨rfl, c1⟩⟩
  unfold F44
  dsimp only
  rw [show decide ((2 : UInt8) = 2) = true from rfl, oite_t, obind_s]
  refine (obind_of e1 _).trans ?_
  dsimp only
  rw [dec_f c0, oite_f]
 ·obtain ⟨r1, r2⟩ := h.renew (by omega) lf hl
  refine ⟨_, ?_, r1, r2, .inr (.inl ⟨c1, c2, rfl⟩)⟩
  unfold F44
  dsimp only
  rw [show decide ((2 : UInt8) = 2) = true from rfl, oite_t, obind_s]
  refine (obind_of e1 _).trans ?_
  dsimp only
  rw [dec_f c0, oite_f]
 ·have hA2 := ack_eq n s.sd (by omega) (by omega) cum bits
  rcases hA2 with ⟨hbig, e3⟩ | ⟨hcn, i', k, s', e3, p1, p2, p3, p4, p5, p6, p7, p8, p9, p10, p11, p12⟩
  ·exfalso
   have h1 := UInt64.le_iff_toNat_le.1 hbig
   rw [h.snd.next] at h1
   obtain ⟨x, x1, _⟩ := g3 (cum.toNat - 1) (by omega)
   rw [he] at x1
   rcases Nat.lt_or_ge (cum.toNat - 1) (G (epO s.life s.ses)).length with g | g
   ·omega
   ·rw [List.getElem?_eq_none g] at x1; cases x1
  ·rw [e3] at e2
   cases e2
   obtain ⟨A, hcov, _⟩ := h.sp.cov
   have hll := h.snd.len
   have hsd := send_drop h.snd k p5 p6 p1 p2 p3 p4
   have hidx : ∀ j (hj : j < (flS s.sd).length), ((flS s.sd)[j]).2.1 = ((lsS s.sp)[j]'(by omega)).1 := fun j hj => by
    have e := congrArg (fun l => l[j]?) h.snd.idx
    simp only [prs, List.map_map, List.getElem?_map, List.getElem?_eq_getElem hj] at e
    rw [List.getElem?_take_of_lt hj, List.getElem?_eq_getElem (by omega)] at e
    exact Option.some.inj e
   obtain ⟨pre, q1, q2⟩ := h.snd.pre
   have hGl : (G (epO s.life s.ses)).length = pre.length + (flS s.sd).length := by
    rw [q1, List.length_append]
    unfold items
    rw [List.length_map, List.length_take, Nat.min_eq_left hll]
   have hseq : ∀ j (hj : j < (flS s.sd).length), ((flS s.sd)[j]).1.toNat = pre.length + 1 + j := fun j hj => by
    have e := congrArg (fun l => l[j]?) q2
    simp only [prs, List.map_map, List.getElem?_map, List.getElem?_eq_getElem hj, List.getElem?_range' hj] at e
    have := Option.some.inj e
    simp only [Function.comp] at this
    omega
   have hdel : ∀ e ∈ (lsS s.sp).take k, top e.2 ≤ HH s.hs (org e.2) := fun e' he' => by
    obtain ⟨j, hj, rfl⟩ := List.getElem_of_mem he'
    have hjk : j < k := by rw [List.length_take] at hj; omega
    have hjf : j < (flS s.sd).length := by omega
    have hcu := p7 j hjf hjk
    have hs1 := hseq j hjf
    have hcu := UInt64.le_iff_toNat_le.1 hcu
    obtain ⟨x, x1, x2⟩ := g3 (pre.length + j) (by omega)
    rw [he, q1, List.getElem?_append_right (by omega), show pre.length + j - pre.length = j from by omega] at x1
    unfold items at x1
    rw [List.getElem?_map, List.getElem?_take_of_lt hjf, List.getElem?_eq_getElem (by omega)] at x1
    have x3 : ((lsS s.sp)[j]'(by omega)).2 = x := Option.some.inj x1
    have e2 : ((lsS s.sp).take k)[j] = (lsS s.sp)[j]'(by omega) := by simp
    rw [e2, x3]
    exact x2
   have hfl' : (flS sd').length = (flS s.sd).length - k := by rw [← prs_len, p6, List.length_drop, prs_len]
   -- what an answer leaves of the sending end's own rules
   have hlv : ∀ sp' : SpT, sp'.2.1 = s.sp.2.1 → Lv G { s with other := lf, sd := sd', sp := sp' } := fun sp' hsp => by
    refine ⟨h.lv.il, hl, h.lv.acks, fun hb => ⟨fun q => ?_, fun q => ?_⟩, p12, fun f hf => ?_, h.lv.idle, by rw [show ({ s with other := lf, sd := sd', sp := sp' } : St).sp.2.1 = s.sp.2.1 from hsp]; exact h.lv.upp, by rw [show ({ s with other := lf, sd := sd', sp := sp' } : St).sp.2.1 = s.sp.2.1 from hsp]; exact h.lv.gup, h.lv.glen⟩
    ·have q : lf = 0 := q
     rw [q] at hl0; exact absurd hl0 (by decide)
    ·have q : lf = s.il := q
     obtain ⟨a1, a2⟩ := hA q
     have hepc := h.epc
     have hcur := h.cur_eq (by omega)
     have hee : s.ep = epO s.life s.ses := by
      apply UInt64.toNat.inj
      rw [he] at a1
      omega
     refine ⟨hee, ?_⟩
     show (G (epO s.life s.ses)).length - (flS sd').length + 1 ≤ s.rc.2.1.toNat
     by_cases hk0 : k = 0
     ·have hb : (flS sd').length < (G (epO s.life s.ses)).length := hb
      obtain ⟨b1, b2⟩ := h.lv.base (by omega)
      have ho : s.other = s.il := by
       rcases c2 with z | z
       ·exact absurd z b1
       ·rw [← q]
        apply UInt64.toNat.inj
        have z1 := UInt64.le_iff_toNat_le.1 (UInt64.not_lt.1 z)
        have z2 := UInt64.le_iff_toNat_le.1 (UInt64.not_lt.1 c1)
        omega
      have := (b2 ho).2
      omega
     ·have hs2 := hseq (k - 1) (by omega)
      have hc := UInt64.le_iff_toNat_le.1 (p7 (k - 1) (by omega) (by omega))
      have := a2 (he.trans hee.symm)
      omega
    ·have hm : pq f ∈ pqs (flS s.sd) := by
      have : pq f ∈ pqs (flS sd') := List.mem_map_of_mem hf
      rw [p11] at this
      exact List.mem_of_mem_drop this
     obtain ⟨f0, hf0, hq⟩ := List.mem_map.1 hm
     have ht := h.lv.tim f0 hf0
     have z1 : f0.2.2.1 = f.2.2.1 := congrArg (fun q : UInt64 × UInt64 × UInt64 × UInt64 => q.2.2.1) hq
     have z2 : f0.2.2.2.1 = f.2.2.2.1 := congrArg (fun q : UInt64 × UInt64 × UInt64 × UInt64 => q.2.2.2) hq
     rw [z1, z2] at ht
     exact ht
   have hk1 : ∀ h0 : 0 < (flS s.sd).length, ((flS s.sd)[0]).1 ≤ cum → 1 ≤ k := fun h0 hle => by
    rcases Nat.eq_zero_or_pos k with z | z
    ·subst z; exact absurd hle (p8 h0)
    ·exact z
   by_cases hk0 : k = 0
   ·subst hk0
    have hi0 := p9 rfl
    subst hi0
    refine ⟨{ s with other := lf, sd := sd' }, ?_, ?_, Nat.le_refl _, .inr (.inr ⟨he, c1, c2, 0, sd', s.sp, rfl, by simp, rfl, by omega, p11, hk1⟩)⟩
    ·unfold F44
     dsimp only
     rw [show decide ((2 : UInt8) = 2) = true from rfl, oite_t, obind_s]
     refine (obind_of e1 _).trans ?_
     dsimp only
     rw [show decide ((0 : Int64) = 0) = true from rfl, oite_t, show decide ((0 : UInt64) < 0) = false from rfl, oite_f]
    ·have hl2 := hlv s.sp rfl
     obtain ⟨a1, a2, a3, a4, a5, a6, a7, a8, a9, a10, a11, a12, a13, a14, a15, a16, a17, a18, a19, a20, a21⟩ := h.up (show N ≤ N + 1 by omega)
     exact ⟨a1, a2, a3, by simpa using hsd, a5, a6, a7, a8, a9, a10, a11, a12, a13, a14, a15, a16, a17, a18, a19, a20, hl2⟩
   ·have hk1' : k - 1 < (flS s.sd).length := by omega
    have hi := p10 hk1' (by omega)
    rw [hidx _ hk1'] at hi
    have hmem : (lsS s.sp)[k - 1]'(by omega) ∈ lsS s.sp := List.getElem_mem _
    have hsorted : (lsS s.sp).Pairwise fun a b => a.1 < b.1 := sorted_pair hcov.sorted
    have h1 : ∀ j (hj : j < (lsS s.sp).length), j < k → (lsS s.sp)[j].1 ≤ i := fun j hj hjk => by
     rw [hi]
     by_cases e : j = k - 1
     ·subst e; exact UInt64.le_refl _
     ·exact UInt64.le_of_lt (List.pairwise_iff_getElem.1 hsorted j (k - 1) hj (by omega) (by omega))
    have h2 : ∀ (hj : k < (lsS s.sp).length), ¬ (lsS s.sp)[k].1 ≤ i := fun hj => by
     rw [hi, UInt64.not_le]
     exact List.pairwise_iff_getElem.1 hsorted (k - 1) k (by omega) hj (by omega)
    have hnx : i < s.sp.1.2.2.1 := by rw [hi]; exact hcov.upp _ hmem
    have hac : s.sp.1.2.2.2.1 < i := by rw [hi]; exact hcov.low _ hmem
    have hlen := hcov.ok.len
    have hS := ack_spec n (by omega) s.sp (by omega) (by omega) hcov.ok.good i hnx hac k (by have := hll; unfold lsS at this; omega) h1 h2
    obtain ⟨c, u, e4⟩ := hS
    have hlow : ∀ e ∈ (lsS s.sp).drop k, i < e.1 := fun e' he' => by
     obtain ⟨j, hj, rfl⟩ := List.getElem_of_mem he'
     rw [List.length_drop] at hj
     rw [List.getElem_drop, hi]
     exact List.pairwise_iff_getElem.1 hsorted (k - 1) (k + j) (by omega) (by omega) (by omega)
    have hspi := ack_spi h.sp k (by omega) i u hlow hnx hdel
    refine ⟨{ s with other := lf, sd := sd', sp := ((s.sp.1.1, u, s.sp.1.2.2.1, i, (lsS s.sp).drop k), s.sp.2) }, ?_, ?_, Nat.le_refl _, .inr (.inr ⟨he, c1, c2, k, sd', _, rfl, rfl, rfl, p5, p11, hk1⟩)⟩
    ·unfold F44
     dsimp only
     rw [show decide ((2 : UInt8) = 2) = true from rfl, oite_t, obind_s]
     refine (obind_of e1 _).trans ?_
     dsimp only
     have hpos : 0 < i := UInt64.lt_of_le_of_lt (UInt64.le_iff_toNat_le.2 (Nat.zero_le _)) hac
     rw [show decide ((0 : Int64) = 0) = true from rfl, oite_t, dec_t hpos, oite_t]
     exact obind_of e4 _
    ·have hl2 := hlv ((s.sp.1.1, u, s.sp.1.2.2.1, i, (lsS s.sp).drop k), s.sp.2) rfl
     obtain ⟨a1, a2, a3, a4, a5, a6, a7, a8, a9, a10, a11, a12, a13, a14, a15, a16, a17, a18, a19, a20, a21⟩ := h.up (show N ≤ N + 1 by omega)
     exact ⟨a1, a2, hspi, hsd, a5, a6, a7, a8, a9, a10, a11, a12, a13, a14, a15, a16, a17, a18, a19, a20, hl2⟩
theorem come_ok (n : Nat) (hn : 2000 < n) {N M : Nat} (hN : N ≤ 400000) (hM : M ≤ 900) {G : Gh} {s : St} (h : StOK N M G s) {f : FrT} (hf : FrOK G (HH s.hs) s.cur f)
  (ha : ∀ ep cum bits lf, f = ackF ep cum bits lf → 1 ≤ lf.toNat ∧ lf.toNat ≤ s.il.toNat ∧ (lf = s.il → ep.toNat ≤ s.ep.toNat ∧ (ep = s.ep → cum.toNat + 1 ≤ s.rc.2.1.toNat))) :
  ∃ s', F44 n (some s.t, f) = some (true, some s'.t) ∧ StOK (N + 1) M G s' ∧ s.cur ≤ s'.cur ∧ s'.now = s.now := by
 rcases hf with ⟨e, sq, x, rfl, g1, g2, g3, g4⟩ | ⟨e, cum, bits, lf, rfl, g1, g2, g3⟩
 ·obtain ⟨ep, rc, got, hs, cum, bits, e1, h1, _⟩ := data_ok n hn hN h g1 g2 g3 g4
  exact ⟨_, e1, h1, Nat.le_refl _, rfl⟩
 ·obtain ⟨b0, b1, b2⟩ := ha _ _ _ _ rfl
  obtain ⟨s', e1, h1, h2, h3⟩ := ack_ok n hn hN hM h g3 b0 b1 b2
  refine ⟨s', e1, h1, h2, ?_⟩
  rcases h3 with ⟨q, _⟩ | ⟨_, _, q⟩ | ⟨_, _, _, k, sd', sp', q, _⟩ <;> rw [q]
end Go.Proofs.Ytfmomnniadlbhaa
open Go Go.Sx
namespace Go.Proofs.Ytfmomnniadlbhaa
theorem i64_mod {a b : Nat} (ha : a < 2 ^ 63) (hb : b < 2 ^ 63) : I64 a % I64 b = I64 (a % b) := by
 apply Int64.toInt_inj.1
 rw [Int64.toInt_mod, i64_toInt ha, i64_toInt hb, i64_toInt (Nat.lt_of_le_of_lt (Nat.mod_le _ _) ha)]
 exact (Int.ofNat_tmod a b).symm
theorem send_idx {Gc : List ItT} {w : Int64} {sd : SndT} {l : List EnT} (h : SendOK Gc w sd l) : ∀ j (hj : j < (flS sd).length), ((flS sd)[j]).2.1 = (l[j]'(by have := h.len; omega)).1 := fun j hj => by
 have e := congrArg (fun l => l[j]?) h.idx
 simp only [prs, List.map_map, List.getElem?_map, List.getElem?_eq_getElem hj] at e
 rw [List.getElem?_take_of_lt hj, List.getElem?_eq_getElem (by have := h.len; omega)] at e
 exact Option.some.inj e
theorem send_last {Gc : List ItT} {w : Int64} {sd : SndT} {l : List EnT} (h : SendOK Gc w sd l) (h0 : 0 < (flS sd).length) : lastI (flS sd) = (l[(flS sd).length - 1]'(by have := h.len; omega)).1 := by
 rw [last_at h0]; exact send_idx h _ _
theorem max_nat (a b : UInt64) : (IK.maxI .u64 a b : UInt64).toNat = max a.toNat b.toNat := by
 have h := maxI_toInt .u64 a b
 have e1 : IK.toInt .u64 (IK.maxI .u64 a b) = ((IK.maxI .u64 a b : UInt64).toNat : Int) := rfl
 have e2 : IK.toInt .u64 a = (a.toNat : Int) := rfl
 have e3 : IK.toInt .u64 b = (b.toNat : Int) := rfl
 rw [e1, e2, e3] at h
 split at h <;> omega
theorem le_max_r (a b : UInt64) : b ≤ IK.maxI .u64 a b := by
 rw [UInt64.le_iff_toNat_le, max_nat]; omega
theorem max_lt {a b c : UInt64} (h1 : a < c) (h2 : b < c) : IK.maxI .u64 a b < c := by
 rw [UInt64.lt_iff_toNat_lt] at h1 h2 ⊢
 rw [max_nat]; omega
def setG (G : Gh) (e : UInt64) (L : List ItT) : Gh := fun p => if p = e then L else G p
theorem fill_ok (n : Nat) (hn : 2000 < n) {N M : Nat} (hN : N ≤ 400000) (hM : M ≤ 900) {G : Gh} {s : St} (h : StOK N M G s) (now : UInt64) (hnow : s.now.toNat + 1 ≤ now.toNat) :
  ∃ c sd' G', F20 n (some (mkO s.w s.life s.ses s.other s.sd), some s.sp, now) = some (c, some (mkO s.w s.life s.ses s.other sd'), some s.sp) ∧ StOK N M G' { s with sd := sd', now := now } ∧
   Offs now s.sd (listGo (IK.maxI .u64 s.sp.1.2.2.2.1 (lastI (flS s.sd))) (s.sd.1 - I64 (flS s.sd).length) (lsS s.sp) []) sd' := by
 obtain ⟨A, hcov, _⟩ := h.sp.cov
 have hlen := hcov.ok.len
 have hsl := h.snd.len
 have hlen2 : (lsS s.sp).length ≤ M := hlen
 have hF := fill_eq n (by omega) s.w s.life s.ses s.other s.sd s.sp (by omega) hcov.ok.good (by omega) now
 obtain ⟨c, sd', e1, ho⟩ := hF
 have hsorted : (lsS s.sp).Pairwise fun a b => a.1 < b.1 := sorted_pair hcov.sorted
 have hD := listGo_drop (b := IK.maxI .u64 s.sp.1.2.2.2.1 (lastI (flS s.sd))) (many := s.sd.1 - I64 (flS s.sd).length) (lsS s.sp) [] (flS s.sd).length (fun j hj hjk => by
   refine UInt64.le_trans ?_ (le_max_r _ _)
   rw [send_last h.snd (by omega)]
   by_cases e : j = (flS s.sd).length - 1
   ·subst e; exact UInt64.le_refl _
   ·exact UInt64.le_of_lt (List.pairwise_iff_getElem.1 hsorted j _ hj (by omega) (by omega))) (fun j hj hjk => by
   refine max_lt (hcov.low _ (List.getElem_mem hj)) ?_
   by_cases h0 : 0 < (flS s.sd).length
   ·rw [send_last h.snd h0]
    exact List.pairwise_iff_getElem.1 hsorted _ j (by omega) hj (by omega)
   ·have : flS s.sd = [] := List.length_eq_zero_iff.1 (by omega)
    rw [this]
    exact hcov.ok.pos _ (List.getElem_mem hj))
 obtain ⟨m, hm⟩ := hD
 rw [List.nil_append] at hm
 have hw1 := h.w1
 have hw8 := h.w8
 have hO := offs_ok h.sp.next ⟨by omega, by omega⟩ ho (m := m) (Gc := G (epO s.life s.ses)) hm (h.g.ch _) (h.g.it _) (h.g.len _) h.snd
 obtain ⟨Gc', g1, g2, g3, g4, ⟨t, g5, g6⟩, g7⟩ := hO
 have hN2 := offs_fl ho
 obtain ⟨news, n1, n2⟩ := hN2
 have hcur := h.cur_eq (by omega)
 have hle : GLe G (setG G (epO s.life s.ses) Gc') := fun e q x hx => by
  unfold setG
  split
  ·rename_i he
   subst he
   rw [g5, List.getElem?_append_left (by rcases Nat.lt_or_ge q (G (epO s.life s.ses)).length with g | g; exact g; rw [List.getElem?_eq_none g] at hx; cases hx)]
   exact hx
  ·exact hx
 refine ⟨c, sd', setG G (epO s.life s.ses) Gc', e1, ?_, ho⟩
 obtain ⟨a1, a2, a3, a4, a5, a6, a7, a8, a9, a10, a11, a12, a13, a14, a15, a16, a17, a18, a19, a20, a21⟩ := h
 refine ⟨a1, a2, a3, ?_, ⟨fun e => ?_, fun e he => ?_, fun e => ?_, fun e => ?_⟩, fun f hf => (a6 f hf).mono hle (HLe.refl _) (Nat.le_refl _), a7.mono hle (HLe.refl _), a8, a9, a10, a11, a12, a13, a14, a15, a16, a17, a18, a19, a20, ⟨a21.il, a21.oth, a21.acks, fun hb => ?_, fun h0 => ?_, fun f hf => ?_, a21.idle, a21.upp, fun e x hx => ?_, fun e => ?_⟩⟩
 ·show SendOK (setG G (epO s.life s.ses) Gc' (epO s.life s.ses)) _ _ _
  unfold setG; rw [if_pos rfl]; exact g1
 ·unfold setG; split
  ·exact g2
  ·exact a5.ch e
 ·have he : s.cur < e.toNat := he
  unfold setG; rw [if_neg (fun q => by rw [q] at he; omega)]; exact a5.none e he
 ·unfold setG; split
  ·exact g3
  ·exact a5.it e
 ·unfold setG; split
  ·exact g4
  ·exact a5.len e
 ·have e0 : setG G (epO s.life s.ses) Gc' (epO s.life s.ses) = Gc' := by unfold setG; rw [if_pos rfl]
  have hb : (flS sd').length < (setG G (epO s.life s.ses) Gc' (epO s.life s.ses)).length := hb
  rw [e0] at hb
  obtain ⟨b1, b2⟩ := a21.base (by omega)
  refine ⟨b1, fun ho => ⟨(b2 ho).1, ?_⟩⟩
  show (setG G (epO s.life s.ses) Gc' (epO s.life s.ses)).length - (flS sd').length + 1 ≤ s.rc.2.1.toNat
  rw [e0]
  have := (b2 ho).2
  omega
 ·show ((flS sd')[0]).2.2.2.2.2 = false
  have h0 : 0 < (flS sd').length := h0
  by_cases z : 0 < (flS s.sd).length
  ·have e1 : (flS sd')[0] = (flS s.sd)[0] := by simp only [n1]; exact List.getElem_append_left z
   rw [e1]; exact a21.head z
  ·have e1 : flS s.sd = [] := List.length_eq_zero_iff.1 (by omega)
   rw [e1, List.nil_append] at n1
   exact (n2 _ (by rw [← n1]; exact List.getElem_mem h0)).2.2
 ·have hf : f ∈ flS sd' := hf
  rw [n1] at hf
  rcases List.mem_append.1 hf with q | q
  ·obtain ⟨t1, t2, t3⟩ := a21.tim f q
   exact ⟨by show f.2.2.1.toNat ≤ now.toNat + 4; omega, t2, t3⟩
  ·obtain ⟨t1, t2, _⟩ := n2 f q
   have e1 : (1 : UInt64).toNat = 1 := rfl
   exact ⟨by rw [t1]; show now.toNat ≤ now.toNat + 4; omega, by rw [t2, a4.tms.1, e1]; exact Nat.le_refl _, by rw [t2, a4.tms.1, e1]; omega⟩
 ·unfold setG at hx
  split at hx
  ·rw [g5] at hx
   rcases List.mem_append.1 hx with q | q
   ·exact a21.gup _ x q
   ·obtain ⟨e', he', rfl⟩ := g6 x q
    exact UInt64.le_iff_toNat_le.1 (hcov.top e' he')
  ·exact a21.gup e x hx
 ·show (setG G (epO s.life s.ses) Gc' e).length ≤ 8 * now.toNat
  have q0 := a21.glen e
  unfold setG
  split
  ·rename_i q
   have q1 := g1.few
   rw [q] at q0
   omega
  ·omega
theorem sentOf_mem {ep : UInt64} {l : List EnT} : ∀ (ps : List (UInt64 × UInt64)) (f : FrT), f ∈ sentOf ep l ps → ∃ p ∈ ps, ∃ e ∈ l, e.1 = p.2 ∧ f = dataF ep p.1 e.2
 | [], f, h => by cases h
 | p :: r, f, h => by
  unfold sentOf at h
  split at h
  ·rename_i e he
   rcases List.mem_cons.1 h with q | q
   ·exact ⟨p, by simp, e, List.mem_of_find?_eq_some he, by simpa using List.find?_some he, q⟩
   ·obtain ⟨p', h1, h2⟩ := sentOf_mem r f q
    exact ⟨p', by simp [h1], h2⟩
  ·obtain ⟨p', h1, h2⟩ := sentOf_mem r f h
   exact ⟨p', by simp [h1], h2⟩
theorem sentOf_len {ep : UInt64} {l : List EnT} : ∀ (ps : List (UInt64 × UInt64)), (sentOf ep l ps).length ≤ ps.length
 | [] => Nat.le_refl _
 | p :: r => by
  have := sentOf_len (ep := ep) (l := l) r
  unfold sentOf
  split
  ·simp; exact this
  ·simp; omega
theorem send_seq {Gc : List ItT} {w : Int64} {sd : SndT} {l : List EnT} (h : SendOK Gc w sd l) : ∀ p ∈ prs (flS sd), ∃ j, j < (flS sd).length ∧ ∃ hj : j < l.length, p.2 = l[j].1 ∧ 1 ≤ p.1.toNat ∧ Gc[p.1.toNat - 1]? = some l[j].2 := fun p hp => by
 obtain ⟨j, hj, rfl⟩ := List.getElem_of_mem hp
 rw [prs_len] at hj
 have hl := h.len
 obtain ⟨pre, q1, q2⟩ := h.pre
 have e := congrArg (fun l => l[j]?) q2
 simp only [prs, List.map_map, List.getElem?_map, List.getElem?_eq_getElem hj, List.getElem?_range' hj] at e
 have e := Option.some.inj e
 simp only [Function.comp] at e
 have hp : (prs (flS sd))[j]'(by rw [prs_len]; exact hj) = pr (flS sd)[j] := by simp [prs]
 rw [hp]
 refine ⟨j, hj, by omega, send_idx h j hj, by show 1 ≤ ((flS sd)[j]).1.toNat; omega, ?_⟩
 rw [q1, List.getElem?_append_right (by show pre.length ≤ ((flS sd)[j]).1.toNat - 1; omega), show (pr (flS sd)[j]).1.toNat - 1 - pre.length = j from by show ((flS sd)[j]).1.toNat - 1 - pre.length = j; omega]
 unfold items
 rw [List.getElem?_map, List.getElem?_take_of_lt hj, List.getElem?_eq_getElem (by omega)]
 rfl
theorem send_same {Gc : List ItT} {w : Int64} {sd sd' : SndT} {l : List EnT} (h : SendOK Gc w sd l) (hp : prs (flS sd') = prs (flS sd)) (h1 : sd'.1 = sd.1) (h2 : sd'.2.1 = sd.2.1) (h3 : sd'.2.2.1 = sd.2.2.1) (h4 : sd'.2.2.2.2.1 = sd.2.2.2.2.1) : SendOK Gc w sd' l := by
 have := send_drop h 0 (Nat.zero_le _) (by rw [hp]; rfl) h1 h2 h3 h4
 simpa using this
theorem dueF_came (now most : UInt64) (f : FlT) : (dueF now most f).2.2.2.2.2 = f.2.2.2.2.2 := by unfold dueF; split <;> rfl
theorem min4 (a : UInt64) (h1 : 1 ≤ a.toNat) (h4 : a.toNat ≤ 4) : 1 ≤ (IK.minI .u64 (2 * a) 4 : UInt64).toNat ∧ (IK.minI .u64 (2 * a) 4 : UInt64).toNat ≤ 4 := by
 have h := minI_toInt .u64 (2 * a) (4 : UInt64)
 have e1 : IK.toInt .u64 (IK.minI .u64 (2 * a) 4) = ((IK.minI .u64 (2 * a) 4 : UInt64).toNat : Int) := rfl
 have e2 : IK.toInt .u64 (2 * a) = ((2 * a : UInt64).toNat : Int) := rfl
 have e3 : IK.toInt .u64 (4 : UInt64) = 4 := rfl
 have e4 : (2 * a : UInt64).toNat = 2 * a.toNat := by
  rw [UInt64.toNat_mul]
  have : (2 : UInt64).toNat = 2 := rfl
  rw [this]; omega
 rw [e1, e2, e3, e4] at h
 split at h <;> omega
theorem dueF_tim {now : UInt64} {f : FlT} (hnow : now.toNat ≤ 1000000) (h : f.2.2.1.toNat ≤ now.toNat + 4 ∧ 1 ≤ f.2.2.2.1.toNat ∧ f.2.2.2.1.toNat ≤ 4) : (dueF now 4 f).2.2.1.toNat ≤ now.toNat + 4 ∧ 1 ≤ (dueF now 4 f).2.2.2.1.toNat ∧ (dueF now 4 f).2.2.2.1.toNat ≤ 4 := by
 unfold dueF
 split
 ·have e : (now + f.2.2.2.1).toNat = now.toNat + f.2.2.2.1.toNat := by rw [UInt64.toNat_add]; omega
  obtain ⟨m1, m2⟩ := min4 f.2.2.2.1 h.2.1 h.2.2
  exact ⟨by show (now + f.2.2.2.1).toNat ≤ _; omega, m1, m2⟩
 ·exact h
theorem frames_ok (n : Nat) (hn : 2000 < n) {N M : Nat} (hN : N ≤ 400000) (hM : M ≤ 900) {G : Gh} {s : St} (h : StOK N M G s) (hnow : s.now.toNat ≤ 1000000) :
  ∃ ds sd', F21 n (some (mkO s.w s.life s.ses s.other s.sd), some s.sp, s.now) = some (sentOf (epO s.life s.ses) (lsS s.sp) (prs ds), some (mkO s.w s.life s.ses s.other sd'), some s.sp) ∧ StOK N M G { s with sd := sd' } ∧
   F41 n (some s.sd, s.now) = some (ds, some sd') ∧ (prs ds).Sublist (prs (flS s.sd)) ∧ (∀ f ∈ sentOf (epO s.life s.ses) (lsS s.sp) (prs ds), FrOK G (HH s.hs) s.cur f) ∧ (sentOf (epO s.life s.ses) (lsS s.sp) (prs ds)).length ≤ 8 ∧ flS sd' = (flS s.sd).map (dueF s.now 4) ∧ prs ds = prs ((flS s.sd).filter (isDue s.now)) := by
 obtain ⟨A, hcov, _⟩ := h.sp.cov
 have hlen := hcov.ok.len
 have hsl := h.snd.len
 have hlen2 : (lsS s.sp).length ≤ M := hlen
 have hsorted : (lsS s.sp).Pairwise fun a b => a.1 < b.1 := sorted_pair hcov.sorted
 have hF := frames_eq n (by omega) s.w s.life s.ses s.other s.sd s.sp (by omega) hcov.ok.good hsorted (by omega) s.now
 obtain ⟨ds, sd', e1, e2, g1, g2, g3, g4, g5, g6, g7⟩ := hF
 have e40 : (1099511627776 : UInt64).toNat = 1099511627776 := rfl
 have g7 := g7 (fun q => by have := UInt64.lt_iff_toNat_lt.1 q; omega)
 rw [h.snd.tms.2] at g7
 have hcur := h.cur_eq (by omega)
 have hw8 := h.w8
 have hfew := h.snd.few
 refine ⟨ds, sd', e1, ?_, e2, g2, fun f hf => ?_, ?_, g7⟩
 ·obtain ⟨a1, a2, a3, a4, a5, a6, a7, a8, a9, a10, a11, a12, a13, a14, a15, a16, a17, a18, a19, a20, a21⟩ := h
  have hfl : (flS sd').length = (flS s.sd).length := by rw [g7.1, List.length_map]
  refine ⟨a1, a2, a3, send_same a4 g1 g3 g4 g5 g6, a5, a6, a7, a8, a9, a10, a11, a12, a13, a14, a15, a16, a17, a18, a19, a20, ⟨a21.il, a21.oth, a21.acks, fun hb => ?_, fun h0 => ?_, fun f hf => ?_, a21.idle, a21.upp, a21.gup, a21.glen⟩⟩
  ·have hb : (flS sd').length < _ := hb
   rw [hfl] at hb
   obtain ⟨b1, b2⟩ := a21.base hb
   refine ⟨b1, fun ho => ⟨(b2 ho).1, ?_⟩⟩
   show _ - (flS sd').length + 1 ≤ _
   rw [hfl]; exact (b2 ho).2
  ·show ((flS sd')[0]).2.2.2.2.2 = false
   have h0' : 0 < (flS s.sd).length := by rw [← hfl]; exact h0
   have := a21.head h0'
   have e3 : (flS sd')[0]'h0 = dueF s.now 4 ((flS s.sd)[0]) := by simp only [g7.1, List.getElem_map]
   rw [e3, dueF_came]; exact this
  ·have hf : f ∈ flS sd' := hf
   rw [g7.1] at hf
   obtain ⟨f0, hf0, rfl⟩ := List.mem_map.1 hf
   exact dueF_tim hnow (a21.tim f0 hf0)
 ·obtain ⟨p, hp, e, he, hi, rfl⟩ := sentOf_mem _ f hf
  obtain ⟨j, hj, hjl, q1, q2, q3⟩ := send_seq h.snd p (g2.subset hp)
  obtain ⟨i, hil, rfl⟩ := List.getElem_of_mem he
  have hij : i = j := by
   rw [q1] at hi
   rcases Nat.lt_trichotomy i j with g | g | g
   ·have := List.pairwise_iff_getElem.1 hsorted i j hil hjl g
    rw [hi] at this; exact absurd this (UInt64.lt_irrefl _)
   ·exact g
   ·have := List.pairwise_iff_getElem.1 hsorted j i hjl hil g
    rw [hi] at this; exact absurd this (UInt64.lt_irrefl _)
  subst hij
  refine .inl ⟨epO s.life s.ses, p.1, _, rfl, ?_, by omega, q2, q3⟩
  rw [UInt64.lt_iff_toNat_lt, hcur]
  have := h.ses1
  show 0 < s.cur
  unfold St.cur
  omega
 ·have h1 := sentOf_len (ep := epO s.life s.ses) (l := lsS s.sp) (prs ds)
  have h2 := g2.length_le
  rw [prs_len (flS s.sd)] at h2
  omega
end Go.Proofs.Ytfmomnniadlbhaa
open Go Go.Sx
namespace Go.Proofs.Ytfmomnniadlbhaa
theorem item_org (n : Nat) (hn : 20 < n) (z : SmT) : ∃ x, F57 n z = some (x, ()) ∧ org x = z.2.1 % 32 := by
 obtain ⟨s0, s1, s2, s3, s4, s5, s6, s7, s8, s9, s10⟩ := z
 cases s0 with
 | true => exact ⟨_, rfl, rfl⟩
 | false =>
  obtain ⟨f1, rule, f2, f3⟩ := const_idx [[(104 : UInt8), (111 : UInt8), (116 : UInt8)], [(99 : UInt8), (111 : UInt8), (108 : UInt8), (100 : UInt8)],
    [(100 : UInt8), (105 : UInt8), (115 : UInt8), (107 : UInt8), (46 : UInt8), (102 : UInt8), (117 : UInt8), (108 : UInt8), (108 : UInt8)], [(120 : UInt8)]] s7 4 (by decide) rfl
  have key : ∀ state : UInt8, ∃ x, F57_J63 n false s1 s2 s3 s4 s5 s6 s7 s8 s9 s10 false 0 0 0 [] 0 0 0 0 0 0 0 (s1 % 32) (1 + UInt64.ofInt ↑(UInt16.toNat s4)) (UInt64.ofInt ↑(UInt16.toNat s6)) rule state (s2 % 8)
    (Int64.ofInt ↑(UInt8.toNat s9) - 100) 0 = some (x, ()) ∧ org x = s1 % 32 := by
   intro state
   unfold F57_J63
   rw [ojoinA_rw]
   by_cases h7 : s3 % 8 = 7
   ·rw [dec_t h7, oite_t]
    obtain ⟨d, hd⟩ := j127 n (by omega) false s1 s2 s3 s4 s5 s6 s7 s8 s9 s10 false 0 0 0 [] 0 0 0 0 0 0 0 (s1 % 32) (1 + UInt64.ofInt ↑(UInt16.toNat s4)) (UInt64.ofInt ↑(UInt16.toNat s6)) [111, 119, 110, 46, 120] state (s2 % 8)
     (Int64.ofInt ↑(UInt8.toNat s9) - 100) (1 + s3 / 8 % 2)
    exact ⟨_, hd, rfl⟩
   ·rw [dec_f h7, oite_f]
    obtain ⟨d, hd⟩ := j127 n (by omega) false s1 s2 s3 s4 s5 s6 s7 s8 s9 s10 false 0 0 0 [] 0 0 0 0 0 0 0 (s1 % 32) (1 + UInt64.ofInt ↑(UInt16.toNat s4)) (UInt64.ofInt ↑(UInt16.toNat s6)) rule state (s2 % 8)
     (Int64.ofInt ↑(UInt8.toNat s9) - 100) 0
    exact ⟨_, hd, rfl⟩
  unfold F57
  dsimp only
  rw [oite_f, f1, f3, oite_t, obind_s, ojoinA_rw]
  cases s10 with
  | true => rw [oite_t]; exact key 2
  | false => rw [oite_f]; exact key 0
theorem next_org {x : ItT} {a k : UInt64} : org (nextY x a k) = org x := by
 unfold nextY
 split
 ·rename_i h; unfold org spanI; rw [if_pos h, if_pos h]
 ·rename_i h; unfold org spanI; rw [if_neg h, if_neg h]
theorem mod4_32 (o : UInt8) : ((o % 4) % 32).toNat < 4 := by
 rw [UInt8.toNat_mod, UInt8.toNat_mod]
 have e1 : (4 : UInt8).toNat = 4 := rfl
 have e2 : (32 : UInt8).toNat = 32 := rfl
 rw [e1, e2]
 omega
theorem changed_eq (n : Nat) {w : Int64} (h1 : 1 ≤ w.toInt) (h8 : w.toInt ≤ 8) (life ses other : UInt64) (hses : ¬ (1048576 : UInt64) ≤ ses + 1) (sd : SndT) (hf : (flS sd).length < 1000) (f : UInt64) :
  ((f = 0 ∨ lastI (flS sd) < f) ∧ F22 n (some (mkO w life ses other sd), f) = some (false, some (mkO w life ses other sd))) ∨
  F22 n (some (mkO w life ses other sd), f) = some (true, some (mkO w life (ses + 1) other (newS w))) := by
 obtain ⟨w1, w2⟩ := win_lt h1 h8
 unfold F22
 rw [oelim_s]
 dsimp only
 by_cases h0 : f = 0
 ·rw [dec_t h0, oite_t]; exact .inl ⟨.inl h0, rfl⟩
 ·rw [dec_f h0, oite_f]
  by_cases hl : lastI (flS sd) < f
  ·refine .inl ⟨.inr hl, (obind_of (last_eq n sd (by omega)) _).trans ?_⟩
   dsimp only
   rw [dec_t hl, oite_t]
  ·refine .inr ((obind_of (last_eq n sd (by omega)) _).trans ?_)
   dsimp only
   rw [dec_f hl, oite_f]
   exact obind_of (restart_eq n w life ses other sd w1 w2 hses) _
theorem newIn_eq (n : Nat) (w : Int64) (life : UInt64) (h1 : ¬ w < 1) (h2 : ¬ (64 : Int64) < w) (hl : ¬ life < 1) (hl2 : ¬ (1048576 : UInt64) ≤ life) :
  F14 n (0, 1, life, w) = some ((some (mkI w life 0 (w, 1, [], 0)), 0), ()) := by
 unfold F14
 dsimp only
 rw [show decide ((32 : UInt8) ≤ 0) = false from rfl, show decide ((32 : UInt8) ≤ 1) = false from rfl, show decide ((0 : UInt8) = 1) = false from rfl, dec_f hl, dec_f hl2]
 simp only [oite_f]
 exact obind_of (rnew_eq n w h1 h2) _
theorem lim20 {a : UInt64} (h : a.toNat ≤ 1000000) : ¬ (1048576 : UInt64) ≤ a + 1 ∧ ¬ a + 1 < 1 ∧ (a + 1).toNat = a.toNat + 1 := by
 have e := u64_add1 (a := a) (by omega)
 have e1 : (1048576 : UInt64).toNat = 1048576 := rfl
 have e2 : (1 : UInt64).toNat = 1 := rfl
 refine ⟨fun q => by have := UInt64.le_iff_toNat_le.1 q; omega, fun q => by have := UInt64.lt_iff_toNat_lt.1 q; omega, e⟩
theorem StOK.out {N M : Nat} {G : Gh} {s : St} (h : StOK N M G s) (hN : N ≤ 400000) : StOK (N + 1) M G { s with life := s.v0 + 1, v0 := s.v0 + 1, ses := 1, other := 0, sd := newS s.w } ∧ s.cur ≤ ({ s with life := s.v0 + 1, v0 := s.v0 + 1, ses := 1, other := 0, sd := newS s.w } : St).cur := by
 obtain ⟨a1, a2, a3, a4, a5, a6, a7, a8, a9, a10, a11, a12, a13, a14, a15, a16, a17, a18, a19, a20, a21⟩ := h
 obtain ⟨_, _, e1⟩ := lim20 (a := s.v0) (by omega)
 have e2 : (1 : UInt64).toNat = 1 := rfl
 have hc0 : s.cur = s.v0.toNat * 2 ^ 20 + s.ses.toNat := by unfold St.cur; rw [a10]
 have hcur : ({ s with life := s.v0 + 1, v0 := s.v0 + 1, ses := 1, other := 0, sd := newS s.w } : St).cur = (s.v0.toNat + 1) * 2 ^ 20 + 1 := by
  show (s.v0 + 1).toNat * 2 ^ 20 + (1 : UInt64).toNat = _
  rw [e1, e2]
 have hG : G (epO (s.v0 + 1) 1) = [] := a5.none _ (by rw [epO_nat _ _ (by omega) (by omega), hc0]; omega)
 refine ⟨⟨a1, a2, a3.mono (by omega) (fun _ q => q) (HLe.refl _), ?_, ?_, ?_, a7, ?_, a9, rfl, by show 1 ≤ (s.v0 + 1).toNat; omega, by show (s.v0 + 1).toNat ≤ N + 1 + 1; omega, by show 1 ≤ (1 : UInt64).toNat; omega, by show (1 : UInt64).toNat ≤ N + 1 + 1; omega, a15, Nat.le_succ_of_le a16, by show s.way.length ≤ _; omega, by show s.got.length ≤ _; omega, by show s.put.length ≤ _; omega, a20, ⟨a21.il, Nat.zero_le _, a21.acks, fun q => ?_, fun q => absurd q (Nat.lt_irrefl 0), (fun f hf => by cases hf), a21.idle, a21.upp, a21.gup, a21.glen⟩⟩, by rw [hcur, hc0]; omega⟩
 ·show SendOK (G (epO (s.v0 + 1) 1)) _ _ _
  rw [hG]; exact send_new _ _
 ·rw [hcur]; exact a5.mono (fun _ q => q) (HLe.refl _) (by omega)
 ·intro f hf
  rw [hcur]; exact (a6 f hf).mono (GLe.refl G) (HLe.refl _) (by omega)
 ·rw [hcur]; show s.ep.toNat ≤ _; omega
 ·have q : (flS (newS s.w)).length < (G (epO (s.v0 + 1) 1)).length := q
  rw [hG] at q
  exact absurd q (Nat.lt_irrefl 0)
theorem StOK.inn {N M : Nat} {G : Gh} {s : St} (h : StOK N M G s) (hN : N ≤ 400000) : StOK (N + 1) M G { s with il := s.v1 + 1, v1 := s.v1 + 1, ep := 0, rc := (s.w, 1, [], 0) } := by
 obtain ⟨a1, a2, a3, a4, a5, a6, a7, a8, a9, a10, a11, a12, a13, a14, a15, a16, a17, a18, a19, a20, a21⟩ := h
 obtain ⟨_, _, e1⟩ := lim20 (a := s.v1) (by omega)
 refine ⟨a1, a2, a3.mono (by omega) (fun _ q => q) (HLe.refl _), a4, a5, a6, rc_new _ _, Nat.zero_le _, a9, a10, a11, Nat.le_succ_of_le a12, a13, Nat.le_succ_of_le a14, by show 1 ≤ (s.v1 + 1).toNat; omega, by show (s.v1 + 1).toNat ≤ N + 1 + 1; omega, by show s.way.length ≤ _; omega, by show s.got.length ≤ _; omega, by show s.put.length ≤ _; omega, a20, ⟨rfl, by show s.other.toNat ≤ (s.v1 + 1).toNat; have := a21.oth; rw [a21.il] at this; omega, fun epa cuma bitsa lfa hm => ?_, fun hb => ⟨(a21.base hb).1, fun q => ?_⟩, a21.head, a21.tim, rfl, a21.upp, a21.gup, a21.glen⟩⟩
 ·obtain ⟨b0, b1, _⟩ := a21.acks epa cuma bitsa lfa hm
  rw [a21.il] at b1
  refine ⟨b0, by show lfa.toNat ≤ (s.v1 + 1).toNat; omega, fun q => ?_⟩
  have q : lfa = s.v1 + 1 := q
  rw [q] at b1; omega
 ·exfalso
  have q : s.other = s.v1 + 1 := q
  have := a21.oth
  rw [a21.il, q] at this
  omega
theorem StOK.wayd {N M : Nat} {G : Gh} {s : St} (h : StOK N M G s) {way : List FrT} (hw : ∀ f ∈ way, FrOK G (HH s.hs) s.cur f) (hl : way.length ≤ 200 + 9 * (N + 1)) (hk : ∀ f ∈ way, f ∈ s.way ∨ ∃ ep sq x, f = dataF ep sq x) : StOK (N + 1) M G { s with way := way } := by
 obtain ⟨a1, a2, a3, a4, a5, a6, a7, a8, a9, a10, a11, a12, a13, a14, a15, a16, a17, a18, a19, a20, a21⟩ := h.up (show N ≤ N + 1 by omega)
 refine ⟨a1, a2, a3, a4, a5, hw, a7, a8, a9, a10, a11, a12, a13, a14, a15, a16, hl, a18, a19, a20, ⟨a21.il, a21.oth, fun epa cuma bitsa lfa hm => ?_, a21.base, a21.head, a21.tim, a21.idle, a21.upp, a21.gup, a21.glen⟩⟩
 rcases hk _ hm with q | ⟨ep, sq, x, q⟩
 ·exact a21.acks _ _ _ _ q
 ·exact absurd q data_not_ack
theorem StOK.puts {N M : Nat} {G : Gh} {s : St} (h : StOK N M G s) {x : ItT} (hx : Good x) {sp' : SpT} {f : UInt64} (h1 : SpI (M + 1) (s.put ++ [x]) (HH s.hs) sp') (h2 : Kept (lsS s.sp) (lsS sp') f) (hf : f = 0 ∨ lastI (flS s.sd) < f) (hup : HLe (HH s.sp.2.1) (HH sp'.2.1)) (ch : Int64) :
  StOK (N + 1) (M + 1) G { s with sp := sp', put := s.put ++ [x], ch := ch } := by
 obtain ⟨A, hcov, _⟩ := h.sp.cov
 have hsorted : (lsS s.sp).Pairwise fun a b => a.1 < b.1 := sorted_pair hcov.sorted
 obtain ⟨p, p1, p2, p3, p4⟩ := h2 hsorted hcov.ok.pos
 have hsl := h.snd.len
 have hkp : (flS s.sd).length ≤ p := by
  rcases hf with h0 | h0
  ·rw [p3 h0]; exact hsl
  ·rcases Nat.lt_or_ge p (flS s.sd).length with g | g
   ·exfalso
    rw [send_last h.snd (by omega)] at h0
    have hm : (lsS s.sp)[(flS s.sd).length - 1]'(by omega) ∈ (lsS s.sp).drop p := by
     refine List.mem_iff_getElem.2 ⟨(flS s.sd).length - 1 - p, by rw [List.length_drop]; omega, ?_⟩
     rw [List.getElem_drop]
     congr 1
     omega
    exact absurd h0 (UInt64.not_lt.2 (p4 _ hm))
   ·exact g
 have ht : (lsS sp').take (flS s.sd).length = (lsS s.sp).take (flS s.sd).length := by
  have e : ((lsS sp').take p).take (flS s.sd).length = ((lsS s.sp).take p).take (flS s.sd).length := by rw [p2]
  rwa [List.take_take, List.take_take, Nat.min_eq_left hkp] at e
 have hsub : ∀ y ∈ s.put, y ∈ s.put ++ [x] := fun y hy => List.mem_append_left _ hy
 obtain ⟨a1, a2, a3, a4, a5, a6, a7, a8, a9, a10, a11, a12, a13, a14, a15, a16, a17, a18, a19, a20, a21⟩ := h
 refine ⟨a1, a2, h1, send_kept a4 ht, a5.mono hsub (HLe.refl _) (Nat.le_refl _), a6, a7, a8, a9.mono hsub, a10, a11, Nat.le_succ_of_le a12, a13, Nat.le_succ_of_le a14, a15, Nat.le_succ_of_le a16, by show s.way.length ≤ _; omega, by show s.got.length ≤ _; omega, by show (s.put ++ [x]).length ≤ _; rw [List.length_append, List.length_singleton]; omega, fun y hy => ?_, ⟨a21.il, a21.oth, a21.acks, a21.base, a21.head, a21.tim, a21.idle, a21.upp.trans hup, fun e x hx => Nat.le_trans (a21.gup e x hx) (hup _), a21.glen⟩⟩
 rcases List.mem_append.1 hy with q | q
 ·exact a20 y q
 ·rw [List.mem_singleton.1 q]; exact hx
theorem StOK.putsNew {N M : Nat} {G : Gh} {s : St} (h : StOK N M G s) (hN : N ≤ 400000) {x : ItT} (hx : Good x) {sp' : SpT} (h1 : SpI (M + 1) (s.put ++ [x]) (HH s.hs) sp') (hup : HLe (HH s.sp.2.1) (HH sp'.2.1)) (ch : Int64) :
  StOK (N + 1) (M + 1) G { s with sp := sp', put := s.put ++ [x], ch := ch, ses := s.ses + 1, sd := newS s.w } ∧ s.cur ≤ ({ s with sp := sp', put := s.put ++ [x], ch := ch, ses := s.ses + 1, sd := newS s.w } : St).cur := by
 obtain ⟨h2, h3⟩ := h.renew (by omega) s.other h.lv.oth
 have hsub : ∀ y ∈ s.put, y ∈ s.put ++ [x] := fun y hy => List.mem_append_left _ hy
 obtain ⟨a1, a2, a3, a4, a5, a6, a7, a8, a9, a10, a11, a12, a13, a14, a15, a16, a17, a18, a19, a20, a21⟩ := h2
 have hpl := h.putl
 have e : G (epO s.life (s.ses + 1)) = [] := by
  have := a5.none (epO s.life (s.ses + 1))
  have h4 := h.sesN
  have h5 := h.lifeN
  have e1 := u64_add1 (a := s.ses) (by omega)
  refine h.g.none _ ?_
  rw [epO_nat _ _ (by rw [h.life]; omega) (by omega), e1]
  show s.life.toNat * 2 ^ 20 + s.ses.toNat < _
  omega
 refine ⟨⟨a1, a2, h1, ?_, a5.mono hsub (HLe.refl _) (Nat.le_refl _), a6, a7, a8, a9.mono hsub, a10, a11, a12, a13, a14, a15, a16, a17, a18, by show (s.put ++ [x]).length ≤ _; rw [List.length_append, List.length_singleton]; omega, fun y hy => ?_, ⟨a21.il, a21.oth, a21.acks, a21.base, a21.head, a21.tim, a21.idle, h.lv.upp.trans hup, fun e x hx => Nat.le_trans (h.lv.gup e x hx) (hup _), h.lv.glen⟩⟩, h3⟩
 ·show SendOK (G (epO s.life (s.ses + 1))) _ _ _
  rw [e]; exact send_new _ _
 ·rcases List.mem_append.1 hy with q | q
  ·exact h.putg y q
  ·rw [List.mem_singleton.1 q]; exact hx
end Go.Proofs.Ytfmomnniadlbhaa
open Go Go.Sx
namespace Go.Proofs.Ytfmomnniadlbhaa
abbrev ActT := UInt8 × Bool × UInt8 × UInt8 × UInt8 × UInt16 × UInt16 × UInt16 × UInt8 × UInt8 × UInt8 × Bool × UInt8
def DoP (N M : Nat) (s : St) (r : Bool × Option LkT) : Prop := ∃ M' G' s', M' ≤ M + 1 ∧ r = (true, some s'.t) ∧ StOK (N + 1) M' G' s' ∧ s.cur ≤ s'.cur ∧ s'.now.toNat ≤ s.now.toNat + 1
theorem DoP.same {N M : Nat} {G : Gh} {s : St} (h : StOK N M G s) : DoP N M s (true, some s.t) := ⟨M, G, s, by omega, rfl, h.up (by omega), Nat.le_refl _, Nat.le_succ _⟩
theorem j247_ok (n : Nat) (hn : 2000 < n) {N M : Nat} (hN : N ≤ 400000) (hM : M ≤ 900) {G : Gh} {s : St} (h : StOK N M G s) (k : Int64) (hk : 0 < s.way.length → ∃ j, k = I64 j ∧ j < s.way.length) (a : ActT) (b : Bool) :
  ∃ r, F26_J247 n F26_J15 k (a.1 % 11) b s.hs s.w 1 4 s.v0 s.v1 s.now s.ch a.1 a.2.1 a.2.2.1 a.2.2.2.1 a.2.2.2.2.1 a.2.2.2.2.2.1 a.2.2.2.2.2.2.1 a.2.2.2.2.2.2.2.1 a.2.2.2.2.2.2.2.2.1 a.2.2.2.2.2.2.2.2.2.1 a.2.2.2.2.2.2.2.2.2.2.1 a.2.2.2.2.2.2.2.2.2.2.2.1 a.2.2.2.2.2.2.2.2.2.2.2.2
   (some s.sp) (some (mkO s.w s.life s.ses s.other s.sd)) (some (mkI s.w s.il s.ep s.rc)) s.way s.put s.got = some r ∧ DoP N M s r := by
 have hwl := h.wayl
 have hpl := h.putl
 unfold F26_J247
 cases b with
 | true =>
  rw [oite_t]
  by_cases h0 : s.way.length = 0
  ·rw [show decide (Int64.ofInt ↑s.way.length = 0) = true from dec_t ((i64_eq (a := s.way.length) (b := 0) (by omega) (by omega)).2 h0), oite_t]
   exact ⟨_, rfl, .same h⟩
  ·obtain ⟨j, rfl, hj⟩ := hk (by omega)
   rw [show decide (Int64.ofInt ↑s.way.length = 0) = false from dec_f (fun q => h0 ((i64_eq (a := s.way.length) (b := 0) (by omega) (by omega)).1 q)), oite_f]
   obtain ⟨q1, q2⟩ := idx_i64 (l := s.way) (k := j) hj (by omega)
   have ej := i64_toInt (k := j) (by omega)
   have ej1 := i64_toInt (k := j + 1) (by omega)
   rw [q1, oite_t, q2]
   simp only [obind_s, i64_succ]
   rw [ej, ej1]
   simp only [Int.toNat_natCast, Nat.sub_zero, List.drop_zero]
   rw [dec_t (show (0 : Int) ≤ (j : Int) by omega), dec_t (show (0 : Int) ≤ ((j + 1 : Nat) : Int) by omega), ble_t (show j ≤ s.way.length by omega), ble_t (show j + 1 ≤ s.way.length by omega)]
   simp only [Bool.and_self, oite_t, List.nil_append]
   rw [ble_t (show 0 + (List.take j s.way).length ≤ 4294967296 by rw [List.length_take]; omega), oite_t, ble_t (by rw [List.length_take, List.length_take, List.length_drop]; omega), oite_t]
   have hway : ∀ f ∈ List.take j s.way ++ List.take (s.way.length - (j + 1)) (List.drop (j + 1) s.way), FrOK G (HH s.hs) s.cur f := fun f hf => by
    rcases List.mem_append.1 hf with q | q
    ·exact h.fr f (List.mem_of_mem_take q)
    ·exact h.fr f (List.mem_of_mem_drop (List.mem_of_mem_take q))
   have hl2 : (List.take j s.way ++ List.take (s.way.length - (j + 1)) (List.drop (j + 1) s.way)).length ≤ 200 + 9 * N := by
    rw [List.length_append, List.length_take, List.length_take, List.length_drop]; omega
   have h2 : StOK N M G { s with way := List.take j s.way ++ List.take (s.way.length - (j + 1)) (List.drop (j + 1) s.way) } := by
    obtain ⟨a1, a2, a3, a4, a5, a6, a7, a8, a9, a10, a11, a12, a13, a14, a15, a16, a17, a18, a19, a20, a21⟩ := h
    refine ⟨a1, a2, a3, a4, a5, hway, a7, a8, a9, a10, a11, a12, a13, a14, a15, a16, hl2, a18, a19, a20, ⟨a21.il, a21.oth, fun epa cuma bitsa lfa hm => ?_, a21.base, a21.head, a21.tim, a21.idle, a21.upp, a21.gup, a21.glen⟩⟩
    rcases List.mem_append.1 hm with q | q
    ·exact a21.acks _ _ _ _ (List.mem_of_mem_take q)
    ·exact a21.acks _ _ _ _ (List.mem_of_mem_drop (List.mem_of_mem_take q))
   cases hlt : decide (a.1 % 11 < 7) with
   | true =>
    rw [oite_t]
    have hC := come_ok n hn hN hM h2 (f := s.way[j]) (h.fr _ (List.getElem_mem _)) (fun ep cum bits lf q => h.lv.acks ep cum bits lf (q ▸ List.getElem_mem _))
    obtain ⟨s', e1, e2, e3, e4⟩ := hC
    refine ex1 (obind_of e1 _) ?_
    exact ⟨_, rfl, M, G, s', by omega, rfl, e2, e3, by rw [e4]; exact Nat.le_succ _⟩
   | false =>
    rw [oite_f]
    exact ⟨_, rfl, M, G, _, by omega, rfl, h2.up (by omega), Nat.le_refl _, Nat.le_succ _⟩
 | false =>
  rw [oite_f]
  by_cases h8 : a.1 % 11 = 8
  ·rw [dec_t h8, oite_t]
   by_cases h0 : 0 < s.way.length
   ·obtain ⟨j, rfl, hj⟩ := hk h0
    obtain ⟨q1, q2⟩ := idx_i64 (l := s.way) (k := j) hj (by omega)
    rw [show decide ((0 : Int64) < Int64.ofInt ↑s.way.length) = true from dec_t ((i64_lt (a := 0) (by omega) (by omega)).2 h0), oite_t, q1, oite_t, q2, obind_s, ble_t (by simp; omega), oite_t]
    refine ⟨_, rfl, M, G, { s with way := s.way ++ [s.way[j]] }, by omega, rfl, h.wayd (fun f hf => ?_) (by rw [List.length_append, List.length_singleton]; omega) (fun f hf => ?_), Nat.le_refl _, Nat.le_succ _⟩
    rotate_left
    ·rcases List.mem_append.1 hf with q | q
     ·exact .inl q
     ·rw [List.mem_singleton.1 q]; exact .inl (List.getElem_mem _)
    rcases List.mem_append.1 hf with q | q
    ·exact h.fr f q
    ·rw [List.mem_singleton.1 q]; exact h.fr _ (List.getElem_mem _)
   ·rw [show decide ((0 : Int64) < Int64.ofInt ↑s.way.length) = false from dec_f (fun q => h0 ((i64_lt (a := 0) (by omega) (by omega)).1 q)), oite_f]
    exact ⟨_, rfl, .same h⟩
  ·rw [dec_f h8, oite_f]
   obtain ⟨w1, w2⟩ := win_lt h.w1 h.w8
   by_cases h9 : a.1 % 11 = 9
   ·rw [dec_t h9, oite_t]
    have hl := h.lifeN
    obtain ⟨l1, l2, l3⟩ := lim20 (a := s.v0) (by omega)
    refine ex1 (obind_of (newOut_eq n s.w (s.v0 + 1) w1 w2 l2 l1) _) ?_
    obtain ⟨r1, r2⟩ := h.out hN
    exact ⟨_, rfl, M, G, _, by omega, rfl, r1, r2, Nat.le_succ _⟩
   ·rw [dec_f h9, oite_f]
    by_cases h10 : a.1 % 11 = 10
    ·rw [dec_t h10, oite_t]
     have hl := h.v1N
     obtain ⟨l1, l2, l3⟩ := lim20 (a := s.v1) (by omega)
     refine ex1 (obind_of (newIn_eq n s.w (s.v1 + 1) w1 w2 l2 l1) _) ?_
     exact ⟨_, rfl, M, G, _, by omega, rfl, h.inn hN, Nat.le_refl _, Nat.le_succ _⟩
    ·rw [dec_f h10, oite_f]
     obtain ⟨A, hcov, _⟩ := h.sp.cov
     have hS := step_spec n (by omega) s.sp M hcov.ok hM (a.2.1, a.2.2.1, a.2.2.2.1, a.2.2.2.2.1, a.2.2.2.2.2.1, a.2.2.2.2.2.2.1, a.2.2.2.2.2.2.2.1, a.2.2.2.2.2.2.2.2.1, a.2.2.2.2.2.2.2.2.2.1, a.2.2.2.2.2.2.2.2.2.2.1, a.2.2.2.2.2.2.2.2.2.2.2.1)
     obtain ⟨x, y, high, hx, e1, e2, e3, e4⟩ := hS
     have hI := item_org n (by omega) (smN (a.2.1, a.2.2.1, a.2.2.2.1, a.2.2.2.2.1, a.2.2.2.2.2.1, a.2.2.2.2.2.2.1, a.2.2.2.2.2.2.2.1, a.2.2.2.2.2.2.2.2.1, a.2.2.2.2.2.2.2.2.2.1, a.2.2.2.2.2.2.2.2.2.2.1, a.2.2.2.2.2.2.2.2.2.2.2.1))
     obtain ⟨x', e5, e6⟩ := hI
     rw [e1] at e5
     have hxx : x = x' := congrArg Prod.fst (Option.some.inj e5)
     subst hxx
     refine ex1 (obind_of e2 _) ?_
     dsimp only
     have hgood : Good (nextY x (s.sp.2.1[(a.2.2.1 % 4).toNat]'(by have := mod4_lt a.2.2.1; have := hcov.ok.highs; omega)) (UInt64.ofInt ↑(UInt16.toNat (a.2.2.2.2.2.2.1 % 3)))) := nextY_good hx.good _ _
     have horg : (org (nextY x (s.sp.2.1[(a.2.2.1 % 4).toNat]'(by have := mod4_lt a.2.2.1; have := hcov.ok.highs; omega)) (UInt64.ofInt ↑(UInt16.toNat (a.2.2.2.2.2.2.1 % 3))))).toNat < 4 := by
      rw [next_org, e6]; exact mod4_32 a.2.2.1
     have hP := putR_spi h.sp hgood horg e4
     obtain ⟨i, f, e, sp', rfl, hP⟩ := hP
     refine ex1 (obind_of e3 _) ?_
     dsimp only
     rcases hP with ⟨g0, rfl⟩ | ⟨rfl, g1, g2, g3⟩
     ·rw [dec_f g0, oite_f]
      exact ⟨_, rfl, .same h⟩
     ·rw [show decide ((0 : Int64) = 0) = true from rfl, oite_t, ble_t (by simp; omega), oite_t]
      have hs := h.sesN
      obtain ⟨l1, l2, l3⟩ := lim20 (a := s.ses) (by omega)
      have hfew := h.snd.few
      have hw8 := h.w8
      have hC := changed_eq n h.w1 h.w8 s.life s.ses s.other l1 s.sd (by omega) f
      rcases hC with ⟨c1, c2⟩ | c2
      ·refine ex1 (obind_of c2 _) ?_
       dsimp only
       rw [oite_f]
       exact ⟨_, rfl, M + 1, G, _, by omega, rfl, h.puts hgood g1 g2 c1 g3 s.ch, Nat.le_refl _, Nat.le_succ _⟩
      ·refine ex1 (obind_of c2 _) ?_
       dsimp only
       rw [oite_t]
       obtain ⟨r1, r2⟩ := h.putsNew hN hgood g1 g3 (s.ch + 1)
       exact ⟨_, rfl, M + 1, G, _, by omega, rfl, r1, r2, Nat.le_succ _⟩
theorem do_ok (n : Nat) (hn : 2000 < n) {N M : Nat} (hN : N ≤ 400000) (hM : M ≤ 900) {G : Gh} {s : St} (h : StOK N M G s) (ht : s.now.toNat ≤ 900000) (a : ActT) : ∃ r, F26 n (some s.t, a) = some r ∧ DoP N M s r := by
 have hwl := h.wayl
 have hj7 : ∀ k : Int64, (0 < s.way.length → ∃ j, k = I64 j ∧ j < s.way.length) → ∃ r, F26_J7 n k s.hs s.w 1 4 s.v0 s.v1 s.now s.ch a.1 a.2.1 a.2.2.1 a.2.2.2.1 a.2.2.2.2.1 a.2.2.2.2.2.1 a.2.2.2.2.2.2.1 a.2.2.2.2.2.2.2.1 a.2.2.2.2.2.2.2.2.1 a.2.2.2.2.2.2.2.2.2.1 a.2.2.2.2.2.2.2.2.2.2.1 a.2.2.2.2.2.2.2.2.2.2.2.1 a.2.2.2.2.2.2.2.2.2.2.2.2
   (some s.sp) (some (mkO s.w s.life s.ses s.other s.sd)) (some (mkI s.w s.il s.ep s.rc)) s.way s.put s.got = some r ∧ DoP N M s r := by
  intro k hk
  unfold F26_J7
  rw [ojoinA_rw, ojoinA_rw]
  have hj61 : ∀ b : Bool, ∃ r, F26_J61 n F26_J15 k (a.1 % 11) b s.hs s.w 1 4 s.v0 s.v1 s.now s.ch a.1 a.2.1 a.2.2.1 a.2.2.2.1 a.2.2.2.2.1 a.2.2.2.2.2.1 a.2.2.2.2.2.2.1 a.2.2.2.2.2.2.2.1 a.2.2.2.2.2.2.2.2.1 a.2.2.2.2.2.2.2.2.2.1 a.2.2.2.2.2.2.2.2.2.2.1 a.2.2.2.2.2.2.2.2.2.2.2.1 a.2.2.2.2.2.2.2.2.2.2.2.2
    (some s.sp) (some (mkO s.w s.life s.ses s.other s.sd)) (some (mkI s.w s.il s.ep s.rc)) s.way s.put s.got = some r ∧ DoP N M s r := by
   intro b
   unfold F26_J61
   cases b with
   | true =>
    rw [oite_t]
    have hn1 := u64_add1 (a := s.now) (by omega)
    have hF := fill_ok n hn hN hM h (s.now + 1) (by omega)
    obtain ⟨c, sd1, G1, e1, h1, _⟩ := hF
    refine ex1 (obind_of e1 _) ?_
    dsimp only
    have hR := frames_ok n hn hN hM h1 (by show (s.now + 1).toNat ≤ _; omega)
    obtain ⟨ds, sd2, e2, h2, _, _, h3, h4, _, _⟩ := hR
    refine ex1 (obind_of e2 _) ?_
    dsimp only
    dsimp only at h3 h4
    have hall : ∀ f ∈ s.way ++ sentOf (epO s.life s.ses) (lsS s.sp) (prs ds), FrOK G1 (HH s.hs) s.cur f := fun f hf => by
     rcases List.mem_append.1 hf with q | q
     ·exact h1.fr f q
     ·exact h3 f q
    have hkk : ∀ f ∈ s.way ++ sentOf (epO s.life s.ses) (lsS s.sp) (prs ds), f ∈ s.way ∨ ∃ ep sq x, f = dataF ep sq x := fun f hf => by
     rcases List.mem_append.1 hf with q | q
     ·exact .inl q
     ·obtain ⟨p, _, e, _, _, q2⟩ := sentOf_mem _ f q
      exact .inr ⟨_, _, _, q2⟩
    rw [ble_t (by omega), oite_t]
    have hlen : (s.way ++ sentOf (epO s.life s.ses) (lsS s.sp) (prs ds)).length ≤ 200 + 9 * (N + 1) := by rw [List.length_append]; omega
    by_cases hb : (200 : Int64) < Int64.ofInt ↑(s.way ++ sentOf (epO s.life s.ses) (lsS s.sp) (prs ds)).length
    ·have hb' := (i64_lt (a := 200) (b := (s.way ++ sentOf (epO s.life s.ses) (lsS s.sp) (prs ds)).length) (by omega) (by omega)).1 hb
     rw [dec_t hb, oite_t, show Int.toNat (Int64.toInt 200) = 200 from rfl, ble_t (by omega), Bool.and_true, oite_t, List.drop_zero, Nat.sub_zero]
     have := h2.wayd (way := List.take 200 (s.way ++ sentOf (epO s.life s.ses) (lsS s.sp) (prs ds))) (fun f hf => hall f (List.mem_of_mem_take hf)) (by rw [List.length_take]; omega) (fun f hf => hkk f (List.mem_of_mem_take hf))
     exact ⟨_, rfl, M, G1, _, by omega, rfl, this, Nat.le_refl _, by show (s.now + 1).toNat ≤ _; omega⟩
    ·rw [dec_f hb, oite_f]
     have := h2.wayd (way := s.way ++ sentOf (epO s.life s.ses) (lsS s.sp) (prs ds)) hall hlen hkk
     exact ⟨_, rfl, M, G1, _, by omega, rfl, this, Nat.le_refl _, by show (s.now + 1).toNat ≤ _; omega⟩
   | false =>
    rw [oite_f, ojoinA_rw]
    cases decide (a.1 % 11 = 5) with
    | true => rw [oite_t]; exact j247_ok n hn hN hM h k hk a true
    | false =>
     rw [oite_f]
     cases decide (a.1 % 11 = 6) with
     | true => rw [oite_t]; exact j247_ok n hn hN hM h k hk a true
     | false => rw [oite_f]; exact j247_ok n hn hN hM h k hk a _
  cases decide (a.1 % 11 = 3) with
  | true => rw [oite_t]; exact hj61 true
  | false => rw [oite_f]; exact hj61 _
 unfold F26
 rw [ojoinA_rw, obind_s]
 dsimp only
 by_cases h0 : 0 < s.way.length
 ·rw [show decide ((0 : Int64) < Int64.ofInt ↑s.way.length) = true from dec_t ((i64_lt (a := 0) (by omega) (by omega)).2 h0), oite_t,
   show decide (Int64.ofInt ↑s.way.length = 0) = false from dec_f (fun q => by have := (i64_eq (a := s.way.length) (b := 0) (by omega) (by omega)).1 q; omega), oite_f]
  refine hj7 _ fun _ => ⟨a.2.2.2.2.2.2.2.2.2.2.2.2.toNat % s.way.length, ?_, Nat.mod_lt _ h0⟩
  have := UInt8.toNat_lt a.2.2.2.2.2.2.2.2.2.2.2.2
  exact i64_mod (a := a.2.2.2.2.2.2.2.2.2.2.2.2.toNat) (by omega) (by omega)
 ·rw [show decide ((0 : Int64) < Int64.ofInt ↑s.way.length) = false from dec_f (fun q => h0 ((i64_lt (a := 0) (by omega) (by omega)).1 q)), oite_f]
  exact hj7 0 fun q => absurd q h0
end Go.Proofs.Ytfmomnniadlbhaa
