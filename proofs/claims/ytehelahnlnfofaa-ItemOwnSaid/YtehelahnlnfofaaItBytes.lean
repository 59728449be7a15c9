/- The law ItemBytes: any item as bytes; one that may be back; any bytes as an item. -/
import Derived.Test.YtehelahnlnfofaaItFns2
import Derived.Test.YtehelahnlnfofaaItStreams
import Derived.Test.YtehelahnlnfofaaSxLaw3
open Go Go.Sx
namespace Go.Proofs.Ytehelahnlnfofaa

/-! ### By definition -/
theorem long_ref (n : Nat) (hn : 10 < n) (s : List UInt8) (hs : s.length ≤ 2000000000) : F56 n s = some (encT s, ()) := by
  have := enc_len (UInt64.ofNat s.length)
  unfold F56
  rw [show Int64.ofInt ↑s.length = I64 s.length from rfl, lenU (by omega), ref_spec n hn, obind_s]
  dsimp only
  rw [ble_t (by omega), oite_t]; rfl
theorem int_ref (n : Nat) (hn : 10 < n) (x : Int64) : F57 n x = some (enc (zig x), ()) := by
  unfold F57
  have z0 : (0 : Int64).toInt = 0 := by decide
  by_cases h : x < 0
  · have h' := Int64.lt_iff_toInt_lt.1 h
    rw [dec_t h, oite_t, zig_neg x (by omega), ref_spec n hn]; rfl
  · have h' := mt Int64.lt_iff_toInt_lt.2 h
    rw [dec_f h, oite_f, zig_pos x (by omega), ref_spec n hn]; rfl
theorem labs_ref (n : Nat) (hn : 10 < n) (v0 : UInt8) (v1 v2 : UInt64) (v3 : List UInt8) (t : List Pair) (ht : t.length < 2 ^ 63) (v5 v6 : UInt8) (v7 : Int64) (v8 : UInt8) :
    ∀ (m k : Nat) (w : List UInt8), k ≤ t.length → t.length - k < m → w.length + (labsB (t.drop k)).length ≤ 2000000000 →
      F31_R509 n m (I64 k) v0 v1 v2 v3 t v5 v6 v7 v8 w = some (w ++ (labsB (t.drop k) ++ tailB v5 v6 v7 v8), ()) := by
  intro m
  induction m with
  | zero => intro k w _ h; omega
  | succ m ih =>
    intro k w hk hm hw
    rw [F31_R509_s]
    unfold F31_L509
    by_cases hlt : k < t.length
    · rw [List.drop_eq_getElem_cons hlt] at hw ⊢
      have e1 : (encT t[k].1).length = (enc (UInt64.ofNat t[k].1.length)).length + t[k].1.length := by unfold encT; simp
      have e2 : (encT t[k].2).length = (enc (UInt64.ofNat t[k].2.length)).length + t[k].2.length := by unfold encT; simp
      simp only [labsB, List.length_append] at hw
      rw [dec_t ((i64_lt (by omega) ht).2 hlt), oite_t, at_i64_lt (by omega) hlt]
      simp only [obind_s]
      rw [long_ref n hn _ (by omega)]
      simp only [obind_s]
      rw [ble_t (by omega), oite_t, long_ref n hn _ (by omega)]
      simp only [obind_s]
      rw [ble_t (by simp; omega), oite_t, i64_succ, ih (k + 1) _ (by omega) (by omega) (by simp; omega)]
      simp only [labsB, List.append_assoc]
    · have : k = t.length := by omega
      subst this
      have hz := enc_len (zig v7)
      rw [dec_f (fun q => hlt ((i64_lt (by omega) ht).1 q)), oite_f, List.drop_length, ble_t (by simp; omega), oite_t, int_ref n hn]
      simp only [obind_s]
      rw [ble_t (by simp; omega), oite_t, ble_t (by simp; omega), oite_t]
      simp [labsB, tailB]
theorem it_ref (n : Nat) (x : ItT) (hl : x.2.2.2.2.2.1.length < 2 ^ 63) (hn : x.2.2.2.2.2.1.length + 10 < n) (hw : x.2.2.2.2.1.length + (labsB x.2.2.2.2.2.1).length ≤ 1900000000) : F31 n x = some (itB x, ()) := by
  obtain ⟨g, o, seq, time, rule, labels, state, prio, v, own, go, ga, gb⟩ := x
  unfold F31
  dsimp only at hl hn hw ⊢
  cases g with
  | true =>
    have q1 := enc_len ga
    have q2 := enc_len gb
    rw [oite_t, ref_spec n (by omega) ga]
    simp only [obind_s]
    rw [ble_t (by simp; omega), oite_t, ref_spec n (by omega) gb]
    simp only [obind_s]
    rw [ble_t (by simp; omega), oite_t]
    simp [itB, gapB, gapOf]
  | false =>
    have q1 := enc_len seq
    have q2 := enc_len time
    have q3 := encT_len rule
    have q4 := enc_len (UInt64.ofNat labels.length)
    rw [oite_f, ref_spec n (by omega) seq]
    simp only [obind_s]
    rw [ble_t (by simp; omega), oite_t, ref_spec n (by omega) time]
    simp only [obind_s]
    rw [ble_t (by simp; omega), oite_t, long_ref n (by omega) rule (by omega)]
    simp only [obind_s]
    rw [ble_t (by simp; omega), oite_t, show Int64.ofInt ↑labels.length = I64 labels.length from rfl, lenU hl, ref_spec n (by omega) _]
    simp only [obind_s]
    rw [ble_t (by simp; omega), oite_t]
    have := labs_ref n (by omega) o seq time rule labels hl state prio v own n 0 ([0, o] ++ enc seq ++ enc time ++ encT rule ++ enc (UInt64.ofNat labels.length)) (by omega) (by omega) (by simp; omega)
    rw [show (0 : Int64) = I64 0 from rfl, this]
    simp [itB, evB, evOf, List.drop_zero]

/-! ### Bytes are of one item alone -/
theorem enc_inj {v v' : UInt64} {w w' : List UInt8} (h : enc v ++ w = enc v' ++ w') : v = v' ∧ w = w' := by
  have h1 := dec_enc64 v w
  rw [h, dec_enc64] at h1
  simp only [Prod.mk.injEq, true_and] at h1
  exact ⟨UInt64.toNat.inj h1.1.symm, h1.2.symm⟩
theorem encT_inj {s s' : List UInt8} {w w' : List UInt8} (hs : s.length < 2 ^ 63) (hs' : s'.length < 2 ^ 63) (h : encT s ++ w = encT s' ++ w') : s = s' ∧ w = w' := by
  unfold encT at h
  rw [List.append_assoc, List.append_assoc] at h
  obtain ⟨h1, h2⟩ := enc_inj h
  have h3 := congrArg UInt64.toNat h1
  rw [u64_ofNat (by omega), u64_ofNat (by omega)] at h3
  exact List.append_inj h2 h3
theorem labsB_inj : ∀ (l l' : List Pair) (w w' : List UInt8), (∀ p ∈ l, p.1.length < 2 ^ 63 ∧ p.2.length < 2 ^ 63) → (∀ p ∈ l', p.1.length < 2 ^ 63 ∧ p.2.length < 2 ^ 63) → l.length = l'.length → labsB l ++ w = labsB l' ++ w' → l = l' ∧ w = w'
  | [], [], _, _, _, _, _, h => ⟨rfl, h⟩
  | [], _ :: _, _, _, _, _, h, _ => by simp at h
  | _ :: _, [], _, _, _, _, h, _ => by simp at h
  | (a, b) :: r, (a', b') :: r', w, w', hl, hl', hlen, h => by
    have q := hl (a, b) (by simp)
    have q' := hl' (a', b') (by simp)
    simp only [labsB, List.append_assoc] at h
    obtain ⟨h1, k1⟩ := encT_inj q.1 q'.1 h
    obtain ⟨h2, k2⟩ := encT_inj q.2 q'.2 k1
    obtain ⟨h3, k3⟩ := labsB_inj r r' w w' (fun p hp => hl p (by simp [hp])) (fun p hp => hl' p (by simp [hp])) (by simpa using hlen) k2
    exact ⟨by dsimp only at h1 h2; rw [h1, h2, h3], k3⟩
def Fit63 (x : ItT) : Prop := x.2.2.2.2.1.length < 2 ^ 63 ∧ x.2.2.2.2.2.1.length < 2 ^ 63 ∧ ∀ p ∈ x.2.2.2.2.2.1, p.1.length < 2 ^ 63 ∧ p.2.length < 2 ^ 63
theorem itB_inj {x y : ItT} (hx : Fit63 x) (hy : Fit63 y) (h : itB x = itB y) : normI x = normI y := by
  obtain ⟨g, o, seq, time, rule, labels, state, prio, v, own, go, ga, gb⟩ := x
  obtain ⟨g', o', seq', time', rule', labels', state', prio', v', own', go', ga', gb'⟩ := y
  obtain ⟨a1, a2, a3⟩ := hx
  obtain ⟨b1, b2, b3⟩ := hy
  dsimp only at a1 a2 a3 b1 b2 b3
  unfold itB at h
  cases g <;> cases g'
  · simp only [evB, evOf, tailB, List.cons_append, List.nil_append, List.cons.injEq, true_and, Bool.false_eq_true, if_false] at h
    obtain ⟨e0, k0⟩ := h
    obtain ⟨e1, k1⟩ := enc_inj k0
    obtain ⟨e2, k2⟩ := enc_inj k1
    obtain ⟨e3, k3⟩ := encT_inj a1 b1 k2
    obtain ⟨e4, k4⟩ := enc_inj k3
    have e5 := congrArg UInt64.toNat e4
    rw [u64_ofNat (by omega), u64_ofNat (by omega)] at e5
    obtain ⟨e6, k6⟩ := labsB_inj labels labels' _ _ a3 b3 e5 k4
    simp only [List.cons.injEq] at k6
    obtain ⟨e7, e8, k8⟩ := k6
    obtain ⟨e9, k9⟩ := enc_inj k8
    simp only [List.cons.injEq, and_true] at k9
    have e10 : v = v' := by
      have h1 := zag v
      rw [e9, zag] at h1
      exact h1.symm
    rw [e0, e1, e2, e3, e6, e7, e8, e10, k9]
    rfl
  · simp at h
  · simp at h
  · simp only [gapB, gapOf, List.cons_append, List.nil_append, List.cons.injEq, true_and, if_true] at h
    obtain ⟨e0, h⟩ := h
    obtain ⟨e1, h⟩ := enc_inj h
    have h' : enc gb ++ [] = enc gb' ++ [] := by rw [h]
    obtain ⟨e2, _⟩ := enc_inj h'
    subst e0 e1 e2
    rfl

/-! ### What was taken was put -/
theorem labs_back : ∀ (k : Nat) (vl : List Pair) (b : List UInt8) (l : List Pair) (rest : List UInt8), rLabs k vl (b, 0) = (l, (rest, 0)) → ∃ l', l = vl ++ l' ∧ l'.length = k ∧ b = labsB l' ++ rest ∧ Tiny l'
  | 0, vl, b, l, rest, h => by
    have h : (vl, (b, (0 : Int64))) = (l, (rest, 0)) := h
    simp only [Prod.mk.injEq] at h
    obtain ⟨rfl, rfl, _⟩ := h
    exact ⟨[], by simp, rfl, rfl, by intro p hp; cases hp⟩
  | k + 1, vl, b, l, rest, h => by
    have h : rbind (rText 8) (fun a => rbind (rText 16) fun c => rLabs k (vl ++ [(a, c)])) (b, 0) = (l, (rest, 0)) := h
    obtain ⟨a, r1, h1, h⟩ := bind_ok (fun _ => stick_bind (stick_text _) fun _ => stick_labs _ _) h
    obtain ⟨c, r2, h2, h⟩ := bind_ok (fun _ => stick_labs _ _) h
    obtain ⟨l', e1, e2, e3, e4⟩ := labs_back k _ r2 l rest h
    obtain ⟨g1, g2⟩ := back_text h1
    obtain ⟨g3, g4⟩ := back_text h2
    refine ⟨(a, c) :: l', by rw [e1]; simp, by simp [e2], ?_, fun p hp => ?_⟩
    · rw [g1, g3, e3]; simp [labsB]
    · rcases List.mem_cons.1 hp with rfl | hp
      · exact ⟨g2, g4⟩
      · exact e4 p hp
theorem event_back {b : List UInt8} {e : EvT} {rest : List UInt8} (h : rEvent (b, 0) = (e, (rest, 0))) : b = evB e ++ rest := by
  unfold rEvent at h
  obtain ⟨o, r1, h1, h⟩ := bind_ok (fun _ => stick_bind stick_uint fun _ => stick_bind stick_uint fun _ => stick_bind (stick_text _) fun _ => stick_bind (stick_count _) fun _ => stick_bind (stick_labs _ _) fun _ => stick_end _ _ _ _ _) h
  obtain ⟨seq, r2, h2, h⟩ := bind_ok (fun _ => stick_bind stick_uint fun _ => stick_bind (stick_text _) fun _ => stick_bind (stick_count _) fun _ => stick_bind (stick_labs _ _) fun _ => stick_end _ _ _ _ _) h
  obtain ⟨t, r3, h3, h⟩ := bind_ok (fun _ => stick_bind (stick_text _) fun _ => stick_bind (stick_count _) fun _ => stick_bind (stick_labs _ _) fun _ => stick_end _ _ _ _ _) h
  obtain ⟨rule, r4, h4, h⟩ := bind_ok (fun _ => stick_bind (stick_count _) fun _ => stick_bind (stick_labs _ _) fun _ => stick_end _ _ _ _ _) h
  obtain ⟨c, r5, h5, h⟩ := bind_ok (fun _ => stick_bind (stick_labs _ _) fun _ => stick_end _ _ _ _ _) h
  obtain ⟨vl, r6, h6, h⟩ := bind_ok (fun _ => stick_end _ _ _ _ _) h
  unfold rEnd at h
  obtain ⟨st, r7, h7, h⟩ := bind_ok (fun _ => stick_bind stick_byte fun _ => stick_bind stick_int fun _ => stick_bind stick_byte fun _ => stick_ret _) h
  obtain ⟨p, r8, h8, h⟩ := bind_ok (fun _ => stick_bind stick_int fun _ => stick_bind stick_byte fun _ => stick_ret _) h
  obtain ⟨v, r9, h9, h⟩ := bind_ok (fun _ => stick_bind stick_byte fun _ => stick_ret _) h
  obtain ⟨w, r10, h10, h⟩ := bind_ok (fun _ => stick_ret _) h
  have h : ((o, seq, t, rule, vl, st, p, v, w), (r10, (0 : Int64))) = (e, (rest, 0)) := h
  simp only [Prod.mk.injEq] at h
  obtain ⟨rfl, rfl, _⟩ := h
  obtain ⟨l', e1, e2, e3, _⟩ := labs_back _ _ _ _ _ h6
  rw [List.nil_append] at e1
  subst e1
  have e4 : UInt64.ofNat vl.length = c := by rw [e2, UInt64.ofNat_toNat]
  rw [back_byte h1, back_uint h2, back_uint h3, (back_text h4).1, (back_count h5).1, e3, back_byte h7, back_byte h8, back_int h9, back_byte h10]
  simp [evB, tailB, e4]
theorem gap_back {b : List UInt8} {g : UInt8 × UInt64 × UInt64} {rest : List UInt8} (h : rGap (b, 0) = (g, (rest, 0))) : b = gapB g ++ rest := by
  unfold rGap at h
  obtain ⟨o, r1, h1, h⟩ := bind_ok (fun _ => stick_bind stick_uint fun _ => stick_bind stick_uint fun _ => stick_ret _) h
  obtain ⟨a, r2, h2, h⟩ := bind_ok (fun _ => stick_bind stick_uint fun _ => stick_ret _) h
  obtain ⟨c, r3, h3, h⟩ := bind_ok (fun _ => stick_ret _) h
  have h : ((o, a, c), (r3, (0 : Int64))) = (g, (rest, 0)) := h
  simp only [Prod.mk.injEq] at h
  obtain ⟨rfl, rfl, _⟩ := h
  rw [back_byte h1, back_uint h2, back_uint h3]
  simp [gapB]
theorem item_back {b : List UInt8} {z : ItT} {rest : List UInt8} (h : rItem (b, 0) = (z, (rest, 0))) :
    b = itB z ++ rest ∧ itCheck z = 0 ∧ (z.2.2.2.2.1.length ≤ 12 ∧ z.2.2.2.2.2.1.length ≤ 8 ∧ Tiny z.2.2.2.2.2.1) := by
  have hv := vals_item0 (b, 0)
  unfold rItem at h
  obtain ⟨x, r1, h1, h⟩ := bind_ok stick_check h
  rw [h1] at hv
  have hx : z = x ∧ r1 = rest ∧ itCheck x = 0 := by
    unfold rCheck at h
    rw [if_pos rfl] at h
    by_cases hc : itCheck x = 0
    · rw [if_pos hc] at h
      simp only [Prod.mk.injEq] at h
      exact ⟨h.1.symm, h.2.1, hc⟩
    · rw [if_neg hc] at h
      simp only [Prod.mk.injEq] at h
      exact absurd h.2.2 hc
  obtain ⟨rfl, rfl, hc⟩ := hx
  refine ⟨?_, hc, hv⟩
  unfold rItem0 at h1
  obtain ⟨g, r2, h2, h1⟩ := bind_ok (fun _ => stick_if (stick_bind stick_gap fun _ => stick_ret _) (stick_bind stick_event fun _ => stick_ret _)) h1
  have hb := back_bool h2
  cases g with
  | true =>
    rw [if_pos rfl] at h1
    obtain ⟨g, r3, h3, h1⟩ := bind_ok (fun _ => stick_ret _) h1
    have h1 : (gapI g, (r3, (0 : Int64))) = (z, (r1, 0)) := h1
    simp only [Prod.mk.injEq] at h1
    obtain ⟨rfl, rfl, _⟩ := h1
    rw [hb, gap_back h3]
    simp [itB, gapI, gapOf]
  | false =>
    rw [if_neg (by decide)] at h1
    obtain ⟨e, r3, h3, h1⟩ := bind_ok (fun _ => stick_ret _) h1
    have h1 : (evI e, (r3, (0 : Int64))) = (z, (r1, 0)) := h1
    simp only [Prod.mk.injEq] at h1
    obtain ⟨rfl, rfl, _⟩ := h1
    rw [hb, event_back h3]
    simp [itB, evI, evOf]
theorem done_zero {s : RS} (h : (rDone s).1 = 0) : s = ([], 0) := by
  obtain ⟨b, e⟩ := s
  unfold rDone at h
  by_cases he : e = 0
  · subst he
    rw [if_pos rfl] at h
    by_cases hb : 0 < b.length
    · rw [if_pos hb] at h; exact absurd h (by show ¬ (25 : Int64) = 0; decide)
    · cases b with
      | nil => rfl
      | cons c r => simp at hb
  · rw [if_neg he] at h; exact absurd h he

/-! ### Right ones are short -/
theorem labGo_tiny : ∀ (l : List Pair) (prev : Option (List UInt8)), labGo prev l = 0 → Tiny l
  | [], _, _ => by intro p hp; cases hp
  | p :: r, prev, h => by
    simp only [labGo, labStep] at h
    cases h1 : wordOK 8 false p.1 with
    | false => rw [h1] at h; exact absurd h (by show ¬ (8 : Int64) = 0; decide)
    | true =>
    cases h2 : wordOK 16 true p.2 with
    | false => rw [h1, h2] at h; exact absurd h (by show ¬ (8 : Int64) = 0; decide)
    | true =>
    rw [h1, h2] at h
    simp only [cond_true] at h
    have hr : labGo (some p.1) r = 0 := by
      cases prev with
      | none => exact h
      | some q =>
        dsimp only at h
        cases hq : (q == p.1) with
        | true => rw [hq] at h; exact absurd h (by show ¬ (7 : Int64) = 0; decide)
        | false =>
          rw [hq] at h
          cases hb : bytesLt q p.1 with
          | true => rw [hb] at h; exact h
          | false => rw [hb] at h; exact absurd h (by show ¬ (9 : Int64) = 0; decide)
    intro q hq
    rcases List.mem_cons.1 hq with rfl | hq
    · exact ⟨(word_ne h1).2, (word_ne h2).2⟩
    · exact labGo_tiny r _ hr q hq
theorem right_fair (x : ItT) (h : itCheck x = 0) : Fair x := by
  obtain ⟨g, o, seq, time, rule, labels, state, prio, v, own, go, ga, gb⟩ := x
  cases g with
  | true => exact .inl rfl
  | false =>
    refine .inr ?_
    have h : evCheck o seq time rule labels state prio own = 0 := h
    unfold evCheck at h
    have hn : nameOK rule = true ∧ labCheck labels = 0 := by
      revert h
      generalize decide ((32 : UInt8) ≤ o) = c1
      generalize decide (seq < 1) = c2
      generalize decide (seq ≤ 1099511627776) = c3
      generalize decide (time ≤ 1099511627776) = c4
      generalize decide ((7 : UInt8) < prio) = c5
      generalize nameOK rule = c6
      generalize ((decide (state = 0) || decide (state = 2)) && !decide (2 < own)) = c7
      generalize ((!decide (own = 0)) == ownOK rule) = c8
      intro h
      cases c1 <;> cases c2 <;> cases c3 <;> cases c4 <;> cases c5 <;> cases c6 <;> cases c7 <;> cases c8 <;> first | exact ⟨rfl, h⟩ | exact absurd h (by show ¬ (6 : Int64) = 0; decide) | exact absurd h (by show ¬ (8 : Int64) = 0; decide) | exact absurd h (by show ¬ (12 : Int64) = 0; decide) | exact absurd h (by show ¬ (27 : Int64) = 0; decide)
    obtain ⟨h1, h2⟩ := hn
    unfold nameOK at h1
    rw [Bool.and_eq_true] at h1
    unfold labCheck at h2
    cases h8 : decide (8 < labels.length) with
    | true => rw [h8] at h2; exact absurd h2 (by show ¬ (5 : Int64) = 0; decide)
    | false =>
      rw [h8] at h2
      have h8 := of_decide_eq_false h8
      exact ⟨(word_ne h1.1).2, by dsimp only; omega, labGo_tiny labels none h2⟩

/-! ### Taking what was put -/
def Mid (x : ItT) (n : Nat) : Prop := FitI x n ∧ x.2.2.2.2.2.1.length ≤ 20 ∧ x.2.2.2.2.1.length + (labsB x.2.2.2.2.2.1).length ≤ 1000000000
theorem Mid.fit63 {x : ItT} {n : Nat} (h : Mid x n) : Fit63 x := ⟨h.1.1.1, h.1.2.1, fun p hp => (h.1.2.2 p hp).1⟩
theorem itB_len (x : ItT) (h : x.2.2.2.2.1.length + (labsB x.2.2.2.2.2.1).length ≤ 1000000000) : (itB x).length ≤ 1000000200 := by
  obtain ⟨g, o, seq, time, rule, labels, state, prio, v, own, go, ga, gb⟩ := x
  dsimp only at h
  have a1 := enc_len seq
  have a2 := enc_len time
  have a3 := encT_len rule
  have a4 := enc_len (UInt64.ofNat labels.length)
  have a5 := enc_len (zig v)
  have a6 := enc_len ga
  have a7 := enc_len gb
  unfold itB
  cases g with
  | true => simp [gapB, gapOf]; omega
  | false => simp [evB, evOf, tailB]; omega
theorem dec_right (n : Nat) (hn : 30 < n) (x : ItT) (hm : Mid x n) (hc : itCheck x = 0) : F30 n (itB x) = some ((normI x, 0), ()) := by
  have hg := (item_good x (right_fair x hc) hc).full []
  rw [List.append_nil] at hg
  have hb := itB_len x hm.2.2
  rw [f30 n hn _ (by omega), hg]
  rfl
theorem dec_wrong (n : Nat) (hn : 30 < n) (x : ItT) (hm : Mid x n) (hc : itCheck x ≠ 0) : ∃ e, e ≠ 0 ∧ F30 n (itB x) = some ((zeroI, e), ()) := by
  have hb := itB_len x hm.2.2
  rw [f30 n hn _ (by omega)]
  by_cases h : (rDone (rItem (itB x, 0)).2).1 = 0
  · have h1 := done_zero h
    obtain ⟨g1, g2, g3⟩ := item_back (b := itB x) (z := (rItem (itB x, 0)).1) (rest := []) (by rw [← h1])
    rw [List.append_nil] at g1
    have hz : Fit63 (rItem (itB x, 0)).1 := ⟨by omega, by omega, fun p hp => by have := g3.2.2 p hp; omega⟩
    have := itB_inj hm.fit63 hz g1
    have h2 := congrArg itCheck this
    rw [check_norm, check_norm, g2] at h2
    exact absurd h2 hc
  · exact ⟨_, h, by rw [if_neg h]⟩
theorem same_norm' (n : Nat) (x : ItT) (hl : x.2.2.2.2.2.1.length < 2 ^ 63) (hn : x.2.2.2.2.2.1.length < n) : F16 n (x, normI x) = some (true, ()) := by
  obtain ⟨g, o, seq, time, rule, labels, state, prio, v, own, go, ga, gb⟩ := x
  dsimp only at hl hn
  cases g with
  | true =>
    unfold F16 normI gapI gapOf
    simp
    rfl
  | false =>
    have := same_list n labels hl hn
    unfold F16 normI evI evOf
    simp [this, oite_t, oite_f, obind_s]
theorem zero_same (n : Nat) (hn : 0 < n) : F16 n (zeroI, zeroI) = some (true, ()) := same_norm n zeroI (by simp [zeroI]) (by simp [zeroI]; exact hn)

/-! ### The law -/
theorem each_loop (n : Nat) (hn : 330 < n) (b : List UInt8) (hb : b.length ≤ 300) (l : List ItT) (hl : l.length ≤ 2) (hm : ∀ x ∈ l, Mid x n) : ∀ (m k : Nat), k ≤ l.length → l.length - k < m →
    F7_R125 n m b (I64 l.length) (I64 k) l = some (true, ()) := by
  intro m
  induction m with
  | zero => intro k _ h; omega
  | succ m ih =>
    intro k hk hm'
    rw [F7_R125_s]
    unfold F7_L125
    by_cases hlt : k < l.length
    · have hx := hm l[k] (List.getElem_mem hlt)
      obtain ⟨h1, h2⟩ := idx_i64 (l := l) (k := k) hlt (by omega)
      have hE := it_enc n l[k] hx.1.2.1 (by have := hx.2.1; omega) (by have := hx.2.2; omega) (by have := itB_len l[k] hx.2.2; omega)
      have hR := rit_eq n (by omega) l[k] hx.1
      have hnext := ih (k + 1) (by omega) (by omega)
      rw [dec_t ((i64_lt (by omega) (by omega)).2 hlt), oite_t, h1, oite_t, h2]
      simp only [obind_s]
      rw [show ∀ x : ItT, (x.1, x.2.1, x.2.2.1, x.2.2.2.1, x.2.2.2.2.1, x.2.2.2.2.2.1, x.2.2.2.2.2.2.1, x.2.2.2.2.2.2.2.1, x.2.2.2.2.2.2.2.2.1, x.2.2.2.2.2.2.2.2.2.1, x.2.2.2.2.2.2.2.2.2.2.1, x.2.2.2.2.2.2.2.2.2.2.2.1, x.2.2.2.2.2.2.2.2.2.2.2.2) = x from fun x => rfl, hE]
      simp only [obind_s]
      by_cases hc : itCheck l[k] = 0
      · rw [dec_right n (by omega) _ hx hc]
        simp only [obind_s, hR]
        rw [dec_t hc]
        simp only [decide_true, beq_self_eq_true, Bool.not_true, oite_f, oite_t]
        have hs := same_norm' n l[k] hx.1.2.1 (by have := hx.2.1; omega)
        have e : (l[k], (normI l[k]).1, (normI l[k]).2.1, (normI l[k]).2.2.1, (normI l[k]).2.2.2.1, (normI l[k]).2.2.2.2.1, (normI l[k]).2.2.2.2.2.1, (normI l[k]).2.2.2.2.2.2.1, (normI l[k]).2.2.2.2.2.2.2.1, (normI l[k]).2.2.2.2.2.2.2.2.1,
          (normI l[k]).2.2.2.2.2.2.2.2.2.1, (normI l[k]).2.2.2.2.2.2.2.2.2.2.1, (normI l[k]).2.2.2.2.2.2.2.2.2.2.2.1, (normI l[k]).2.2.2.2.2.2.2.2.2.2.2.2) = (l[k], normI l[k]) := rfl
        rw [e, hs]
        simp only [obind_s, Bool.not_true, oite_f]
        rw [i64_succ]; exact hnext
      · obtain ⟨er, e1, e2⟩ := dec_wrong n (by omega) _ hx hc
        rw [e2]
        simp only [obind_s, hR]
        rw [dec_f hc, dec_f e1]
        simp only [beq_self_eq_true, Bool.not_true, oite_f]
        rw [i64_succ]; exact hnext
    · rw [dec_f (fun q => hlt ((i64_lt (by omega) (by omega)).1 q)), oite_f, f30 n (by omega) b (by omega)]
      simp only [obind_s]
      by_cases h : (rDone (rItem (b, 0)).2).1 = 0
      · rw [if_pos h]
        have h1 := done_zero h
        rcases e : rItem (b, 0) with ⟨z, s⟩
        rw [e] at h1
        have h1 : s = ([], 0) := h1
        subst h1
        obtain ⟨g1, g2, g3⟩ := item_back e
        rw [List.append_nil] at g1
        simp only [decide_true, Bool.not_true, oite_f]
        have hlb : (labsB z.2.2.2.2.2.1).length ≤ 300 := by
          have hz : (labsB z.2.2.2.2.2.1).length ≤ 320 + 1000 := by
            have : ∀ l : List Pair, Tiny l → (labsB l).length ≤ 44 * l.length := by
              intro l
              induction l with
              | nil => intro _; simp [labsB]
              | cons p r ih =>
                intro ht
                have h1 := ht p (by simp)
                have h2 := ih (fun q hq => ht q (by simp [hq]))
                have h3 := encT_len p.1
                have h4 := encT_len p.2
                simp only [labsB, List.length_append, List.length_cons]
                omega
            have := this _ g3.2.2
            omega
          by_cases hg : z.1 = true
          · have : (rItem0 (b, 0)).1 = z := by
              have h1 : rItem (b, 0) = rCheck (rItem0 (b, 0)).1 (rItem0 (b, 0)).2 := rfl
              rw [e] at h1
              unfold rCheck at h1
              by_cases h2 : (rItem0 (b, 0)).2.2 = 0
              · rw [if_pos h2] at h1
                by_cases h3 : itCheck (rItem0 (b, 0)).1 = 0
                · rw [if_pos h3] at h1; exact (congrArg Prod.fst h1).symm
                · rw [if_neg h3] at h1; exact absurd (congrArg (fun q => q.2.2) h1).symm h3
              · rw [if_neg h2] at h1; exact absurd (congrArg (fun q => q.2.2) h1).symm h2
            have hvl : ∀ s, (rItem0 s).1.1 = true → (rItem0 s).1.2.2.2.2.2.1 = [] := by
              intro s hs
              have h0 : rItem0 s = (if (rBool s).1 = true then rbind rGap (fun g => rret (gapI g)) else rbind rEvent fun e => rret (evI e)) (rBool s).2 := rfl
              rw [h0] at hs ⊢
              by_cases hb : (rBool s).1 = true
              · rw [if_pos hb]; rfl
              · rw [if_neg hb] at hs; exact absurd hs (by simp [rbind, rret, evI])
            have := hvl (b, 0) (by rw [this]; exact hg)
            rw [‹(rItem0 (b, 0)).1 = z›] at this
            rw [this]; simp [labsB]
          · have hl2 : (itB z).length ≤ 300 := by rw [← g1]; exact hb
            obtain ⟨zg, o, seq, time, rule, labels, state, prio, v, own, go, ga, gb⟩ := z
            cases zg with
            | true => exact absurd rfl hg
            | false =>
              unfold itB at hl2
              simp [evB, evOf, tailB] at hl2
              dsimp only
              omega
        have hR := it_ref n z (by omega) (by omega) (by omega)
        have hC := rit_eq n (by omega) z ⟨⟨by omega, by omega⟩, by omega, fun p hp => by have := g3.2.2 p hp; omega⟩
        have e3 : (z.1, z.2.1, z.2.2.1, z.2.2.2.1, z.2.2.2.2.1, z.2.2.2.2.2.1, z.2.2.2.2.2.2.1, z.2.2.2.2.2.2.2.1, z.2.2.2.2.2.2.2.2.1, z.2.2.2.2.2.2.2.2.2.1, z.2.2.2.2.2.2.2.2.2.2.1, z.2.2.2.2.2.2.2.2.2.2.2.1, z.2.2.2.2.2.2.2.2.2.2.2.2) = z := rfl
        rw [e3, hR]
        simp only [obind_s]
        rw [hC, ← g1, g2]
        simp only [obind_s, beq_self_eq_true, oite_t, decide_true]
      · rw [if_neg h, dec_f h]
        simp only [Bool.not_false, oite_t]
        have e3 : F16 n (zeroI, zeroI) = some (true, ()) := zero_same n (by omega)
        show obind (F16 n (zeroI, zeroI)) _ = _
        rw [e3]; rfl
theorem bytes_law (n : Nat) (hn : 360 < n) (x : ItT) (z : SmT) (b : List UInt8) (hb : b.length < 2 ^ 63) (hx : FitI x n) (hlab : x.2.2.2.2.2.1.length ≤ 20 → x.2.2.2.2.1.length + (labsB x.2.2.2.2.2.1).length ≤ 1000000000) : F7 n (x, z, b) = some (true, ()) := by
  obtain ⟨k, rfl⟩ : ∃ k, n = k + 30 := ⟨n - 30, by omega⟩
  have ha := awakeI k
  generalize hN : k + 30 = N at *
  unfold F7
  dsimp only
  rw [ha]
  simp only [obind_s, Bool.not_true, oite_f]
  have e20 : decide ((20 : Int64) < Int64.ofInt ↑x.2.2.2.2.2.1.length) = decide (20 < x.2.2.2.2.2.1.length) := decide_eq_decide.2 (i64_lt (a := 20) (by omega) hx.2.1)
  have e300 : decide ((300 : Int64) < Int64.ofInt ↑b.length) = decide (300 < b.length) := decide_eq_decide.2 (i64_lt (a := 300) (by omega) hb)
  rw [e20, e300]
  by_cases h1 : 20 < x.2.2.2.2.2.1.length
  · rw [dec_t h1, oite_t]
  · by_cases h2 : 300 < b.length
    · rw [dec_f h1, oite_f, dec_t h2, oite_t]
    · rw [dec_f h1, oite_f, dec_f h2, oite_f]
      have hm : Mid x N := ⟨hx, by omega, hlab (by omega)⟩
      have hE := it_enc N x hx.2.1 (by omega) (by have := hm.2.2; omega) (by have := itB_len x hm.2.2; omega)
      have hR := it_ref N x hx.2.1 (by omega) (by have := hm.2.2; omega)
      have hS : F32 N x = some (I64 (itB x).length, ()) := by
        unfold F32
        rw [show (x.1, x.2.1, x.2.2.1, x.2.2.2.1, x.2.2.2.2.1, x.2.2.2.2.2.1, x.2.2.2.2.2.2.1, x.2.2.2.2.2.2.2.1, x.2.2.2.2.2.2.2.2.1, x.2.2.2.2.2.2.2.2.2.1, x.2.2.2.2.2.2.2.2.2.2.1, x.2.2.2.2.2.2.2.2.2.2.2.1, x.2.2.2.2.2.2.2.2.2.2.2.2) = x from rfl, hE]; rfl
      obtain ⟨h9, hsm⟩ := itI_eq N (by omega) z
      rw [show (x.1, x.2.1, x.2.2.1, x.2.2.2.1, x.2.2.2.2.1, x.2.2.2.2.2.1, x.2.2.2.2.2.2.1, x.2.2.2.2.2.2.2.1, x.2.2.2.2.2.2.2.2.1, x.2.2.2.2.2.2.2.2.2.1, x.2.2.2.2.2.2.2.2.2.2.1, x.2.2.2.2.2.2.2.2.2.2.2.1, x.2.2.2.2.2.2.2.2.2.2.2.2) = x from rfl, hE]
      simp only [obind_s]
      rw [hR]
      simp only [obind_s, beq_self_eq_true, Bool.not_true, oite_f]
      rw [hS]
      simp only [obind_s]
      simp only [decide_true, Bool.not_true, oite_f]
      rw [show (z.1, z.2.1, z.2.2.1, z.2.2.2.1, z.2.2.2.2.1, z.2.2.2.2.2.1, z.2.2.2.2.2.2.1, z.2.2.2.2.2.2.2.1, z.2.2.2.2.2.2.2.2.1, z.2.2.2.2.2.2.2.2.2.1, z.2.2.2.2.2.2.2.2.2.2) = z from rfl, h9]
      simp only [obind_s]
      have hlen := hsm.len
      have hlb := hsm.labs
      have hrl := hsm.rule
      exact each_loop N (by omega) b (by omega) [itI N z, x] (by simp) (by
        intro y hy
        simp at hy
        rcases hy with rfl | rfl
        · exact ⟨hsm.fit N (by omega), by omega, by omega⟩
        · exact hm) N 0 (by omega) (by simp; omega)
theorem bulk_mem : ∀ (l : List Pair), (labsB l).length ≤ ((l.map fun x => CTs.bulk (.cons .str (.cons .str .nil)) x + 1).sum) + 20 * l.length ∧ ∀ p ∈ l, p.1.length + p.2.length ≤ (l.map fun x => CTs.bulk (.cons .str (.cons .str .nil)) x + 1).sum
  | [] => ⟨by simp [labsB], fun p hp => by cases hp⟩
  | p :: r => by
    obtain ⟨h1, h2⟩ := bulk_mem r
    have e : CTs.bulk (.cons .str (.cons .str .nil)) p = p.1.length + (p.2.length + 0) := by simp only [CTs.bulk, CT.bulk]; rfl
    have h3 := encT_len p.1
    have h4 := encT_len p.2
    simp only [List.map_cons, List.sum_cons, labsB, List.length_append, List.length_cons, e]
    refine ⟨by omega, fun q hq => ?_⟩
    rcases List.mem_cons.1 hq with rfl | hq
    · omega
    · have := h2 q hq; omega
theorem bytes_true : ∀ x : sig7.In, PTys.fits sig7.ps x → PTys.bulk sig7.ps x ≤ 1048576 → ∃ n y, F7 n x = some y ∧ PTys.hd (.one (.c .bool)) .nil y.1 = true := by
  rintro ⟨x, z, b⟩ hfit hb
  have hbl : b.length < 2 ^ 63 := by have := hfit.2.2.1; simp only [PTy.fits, CT.fits] at this; exact this.1
  have hx := fit_in x 340 hfit.1
  have h1 : PTy.bulk (.agg (.cons .bool (.cons (.int .u8) (.cons (.int .u64) (.cons (.int .u64) (.cons .str (.cons (.ro (.cons .str (.cons .str .nil))) (.cons (.int .u8) (.cons (.int .u8) (.cons (.int .i64) (.cons (.int .u8) (.cons (.int .u8) (.cons (.int .u64) (.cons (.int .u64) .nil)))))))))))))) x ≤ 1048576 :=
    Nat.le_trans (Nat.le_add_right _ _) hb
  obtain ⟨g, o, seq, time, rule, labels, state, prio, v, own, go, ga, gb⟩ := x
  have h2 : rule.length + (labels.map fun x => CTs.bulk (.cons .str (.cons .str .nil)) x + 1).sum ≤ 1048576 := by
    have e : PTy.bulk (.agg (.cons .bool (.cons (.int .u8) (.cons (.int .u64) (.cons (.int .u64) (.cons .str (.cons (.ro (.cons .str (.cons .str .nil))) (.cons (.int .u8) (.cons (.int .u8) (.cons (.int .i64) (.cons (.int .u8) (.cons (.int .u8) (.cons (.int .u64) (.cons (.int .u64) .nil))))))))))))))
        ((g, o, seq, time, rule, labels, state, prio, v, own, go, ga, gb) : ItT) = 0 + (0 + (0 + (0 + (rule.length + ((labels.map fun x => CTs.bulk (.cons .str (.cons .str .nil)) x + 1).sum + (0 + (0 + (0 + (0 + (0 + (0 + (0 + 0)))))))))))) := by
      simp only [PTy.bulk, CTs.bulk, CT.bulk]; rfl
    rw [e] at h1
    omega
  obtain ⟨h3, _⟩ := bulk_mem labels
  refine ⟨_, _, bytes_law _ (by omega) _ z b hbl hx (fun h20 => ?_), rfl⟩
  dsimp only at h20 ⊢
  omega
end Go.Proofs.Ytehelahnlnfofaa
