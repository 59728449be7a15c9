/- Decode: any bytes as a frame. -/
import Derived.Test.YtgknjddbbehboaaGreatLaw
open Go Go.Sx Go.Sx.Crc
namespace Go.Proofs.YtgknjddbbehboaaGreat
set_option maxRecDepth 100000
/-! ### No reader's error is that of a sum. -/
def No10 {α : Type} (r : Rd α) : Prop := ∀ s, s.2 ≠ 10 → (r s).2.2 ≠ 10
theorem no10_ret {α : Type} (x : α) : No10 (rret x) := fun _ h => h
theorem no10_bind {α β : Type} {r : Rd α} {f : α → Rd β} (h : No10 r) (hf : ∀ x, No10 (f x)) : No10 (rbind r f) := fun s hs => hf _ _ (h s hs)
theorem no10_if {α : Type} {c : Prop} [Decidable c] {r q : Rd α} (h : No10 r) (h' : No10 q) : No10 (if c then r else q) := by
  by_cases hc : c
  · rw [if_pos hc]; exact h
  · rw [if_neg hc]; exact h'
theorem dec_no10 : ∀ (b : List UInt8) (i : Nat), (dec i b).1 ≠ 10
  | [], i => by simp [dec]
  | c :: r, i => by
    have h := dec_no10 r (i + 1)
    unfold dec
    split
    · simp
    · split
      · split <;> simp
      · split
        · simp
        · exact h
theorem no10_byte : No10 rByte := fun s hs => by
  unfold rByte
  by_cases h : s.2 = 0
  · rw [if_pos h]; split <;> simp
  · rw [if_neg h]; exact hs
theorem no10_uint : No10 rUint := fun s hs => by
  have hd := dec_no10 s.1 0
  unfold rUint
  by_cases h : s.2 = 0
  · rw [if_pos h]; split
    · simp
    · exact hd
  · rw [if_neg h]; exact hs
theorem no10_text (m : Nat) : No10 (rText m) := fun s hs => by
  have hd := dec_no10 s.1 0
  unfold rText
  by_cases h : s.2 = 0
  · rw [if_pos h]; split
    · split
      · simp
      · split <;> simp
    · exact hd
  · rw [if_neg h]; exact hs
theorem no10_fail (e : Int64) (he : e ≠ 10) : No10 (rFail e) := fun s hs => by
  unfold rFail
  by_cases h : s.2 = 0
  · rw [if_pos h]; exact he
  · rw [if_neg h]; exact hs
theorem no10_count (m : UInt64) : No10 (rCount m) := no10_bind no10_uint fun _ => no10_if (no10_bind (no10_fail 6 (by decide)) fun _ => no10_ret _) (no10_ret _)
theorem no10_int : No10 rInt := no10_bind no10_uint fun _ => no10_ret _
theorem no10_bool : No10 rBool := no10_bind no10_byte fun _ => no10_if (no10_bind (no10_fail 2 (by decide)) fun _ => no10_ret _) (no10_ret _)
theorem no10_labs : ∀ k vl, No10 (rLabs k vl)
  | 0, _ => no10_ret _
  | k + 1, _ => no10_bind (no10_text 8) fun _ => no10_bind (no10_text 16) fun _ => no10_labs k _
theorem no10_event : No10 rEvent := no10_bind no10_byte fun _ => no10_bind no10_uint fun _ => no10_bind no10_uint fun _ => no10_bind (no10_text _) fun _ => no10_bind (no10_count _) fun _ => no10_bind (no10_labs _ _) fun _ =>
  no10_bind no10_byte fun _ => no10_bind no10_byte fun _ => no10_bind no10_int fun _ => no10_bind no10_byte fun _ => no10_ret _
theorem no10_gap : No10 rGap := no10_bind no10_byte fun _ => no10_bind no10_uint fun _ => no10_bind no10_uint fun _ => no10_ret _
theorem no10_item0 : No10 rItem0 := no10_bind no10_bool fun _ => no10_if (no10_bind no10_gap fun _ => no10_ret _) (no10_bind no10_event fun _ => no10_ret _)
theorem bif_no10 {c : Bool} {a b : Int64} (ha : a ≠ 10) (hb : b ≠ 10) : (bif c then a else b) ≠ 10 := by cases c <;> assumption
theorem labStep_no10 (prev : Option (List UInt8)) (p : Pair) (next : Int64) (h : next ≠ 10) : labStep prev p next ≠ 10 := by
  unfold labStep
  refine bif_no10 (bif_no10 ?_ (by decide)) (by decide)
  split
  · exact h
  · exact bif_no10 (by decide) (bif_no10 h (by decide))
theorem labGo_no10 : ∀ (l : List Pair) (prev : Option (List UInt8)), labGo prev l ≠ 10
  | [], _ => by simp [labGo]
  | p :: r, prev => labStep_no10 _ _ _ (labGo_no10 r _)
theorem labCheck_no10 (l : List Pair) : labCheck l ≠ 10 := bif_no10 (by decide) (labGo_no10 _ _)
theorem itCheck_no10 (x : ItT) : itCheck x ≠ 10 := by
  obtain ⟨g, o, seq, time, rule, labels, state, prio, v, own, go, ga, gb⟩ := x
  unfold itCheck evCheck gapCheck
  dsimp only
  have h := labCheck_no10 labels
  repeat' first | exact h | exact (by decide) | apply bif_no10
theorem no10_item : No10 rItem := no10_bind no10_item0 fun x => fun s hs => by
  have h := itCheck_no10 x
  unfold rCheck
  by_cases h0 : s.2 = 0
  · rw [if_pos h0]; split
    · exact hs
    · exact h
  · rw [if_neg h0]; exact hs
theorem rDone_no10 (s : RS) (hs : s.2 ≠ 10) : (rDone s).1 ≠ 10 := by
  unfold rDone
  by_cases h0 : s.2 = 0
  · rw [if_pos h0]; split <;> simp
  · rw [if_neg h0]; exact hs

/-! ### Check, of what is read -/
theorem oite_code {b : Bool} {e : Int64} (he : e ≠ 10) (he0 : e ≠ 0) {rest : Option (Int64 × Unit)} {Q : Prop} (h : b = false → ∃ c, rest = some (c, ()) ∧ c ≠ 10 ∧ (c = 0 → Q)) :
    ∃ c, oite b (some (e, ())) rest = some (c, ()) ∧ c ≠ 10 ∧ (c = 0 → Q) := by
  cases b with
  | false => exact h rfl
  | true => exact ⟨e, rfl, he, fun h => absurd h he0⟩
theorem not_dec {p : Prop} [Decidable p] (h : (!decide p) = false) : p := by simpa using h
structure Right (k f t : UInt8) (ep sq : UInt64) (x : ItT) (cu bi li : UInt64) : Prop where
  node : Node f t
  nep : Num ep
  nsq : Num sq
  ncu : Num cu
  nli : Num li
  data : k = 1 → Pos sq ∧ Pos ep ∧ cu = 0 ∧ bi = 0 ∧ li = 0 ∧ itCheck x = 0
  ack : k = 2 → sq = 0 ∧ Pos ep ∧ Pos li
  alive : k = 3 → sq = 0 ∧ ep = 0 ∧ cu = 0 ∧ bi = 0 ∧ li = 0
  kinds : k = 1 ∨ k = 2 ∨ k = 3
theorem kind_of {k : UInt8} (h1 : decide (k < 1) = false) (h3 : decide (3 < k) = false) (n1 : ¬ k = 1) (n2 : ¬ k = 2) : k = 3 := by
  have := byte_all (fun k => decide (k < 1) || (decide (3 < k) || (decide (k = 1) || (decide (k = 2) || decide (k = 3))))) (by decide +kernel) k
  rw [h1, h3, dec_f n1, dec_f n2] at this
  simpa using this
theorem check_any (n : Nat) (hn : 30 < n) (k f t : UInt8) (ep sq : UInt64) (x : ItT) (cu bi li : UInt64) (hx : FitI x 30) (hz : ¬ k = 1 → x = zeroI) :
    ∃ c, F26 n (frI k f t ep sq x cu bi li) = some (c, ()) ∧ c ≠ 10 ∧ (c = 0 → Right k f t ep sq x cu bi li) := by
  have hb := bare0 n (by omega)
  unfold F26 frI
  dsimp only
  refine oite_code (by decide) (by decide) fun k1 => oite_code (by decide) (by decide) fun k3 => oite_code (by decide) (by decide) fun hf => oite_code (by decide) (by decide) fun ht => oite_code (by decide) (by decide) fun hft =>
    oite_code (by decide) (by decide) fun h1 => oite_code (by decide) (by decide) fun h2 => oite_code (by decide) (by decide) fun h3 => oite_code (by decide) (by decide) fun h4 => ?_
  by_cases e1 : k = 1
  · rw [dec_t e1, oite_t]
    refine oite_code (by decide) (by decide) fun g1 => oite_code (by decide) (by decide) fun g2 => oite_code (by decide) (by decide) fun g3 => oite_code (by decide) (by decide) fun g4 => oite_code (by decide) (by decide) fun g5 => ?_
    have h0 := it_eq n 30 (by omega) x hx
    rw [h0]
    exact ⟨_, rfl, itCheck_no10 x, fun hc => ⟨⟨hf, ht, hft⟩, h1, h2, h3, h4, fun _ => ⟨g1, g2, not_dec g3, not_dec g4, not_dec g5, hc⟩, fun h => absurd (e1.symm.trans h) (by decide), fun h => absurd (e1.symm.trans h) (by decide), .inl e1⟩⟩
  · have hx0 := hz e1
    subst hx0
    rw [dec_f e1, oite_f]
    by_cases e2 : k = 2
    · rw [dec_t e2, oite_t]
      refine oite_code (by decide) (by decide) fun g1 => oite_code (by decide) (by decide) fun g2 => oite_code (by decide) (by decide) fun g3 => ?_
      unfold zeroI at hb ⊢
      dsimp only
      rw [hb]
      exact ⟨0, rfl, by decide, fun _ => ⟨⟨hf, ht, hft⟩, h1, h2, h3, h4, fun h => absurd h e1, fun _ => ⟨not_dec g1, g2, g3⟩, fun h => absurd (e2.symm.trans h) (by decide), .inr (.inl e2)⟩⟩
    · have e3 := kind_of k1 k3 e1 e2
      rw [dec_f e2, oite_f, dec_t e3, oite_t]
      refine oite_code (by decide) (by decide) fun g1 => oite_code (by decide) (by decide) fun g2 => oite_code (by decide) (by decide) fun g3 => oite_code (by decide) (by decide) fun g4 => oite_code (by decide) (by decide) fun g5 => ?_
      unfold zeroI at hb ⊢
      dsimp only
      rw [hb]
      exact ⟨0, rfl, by decide, fun _ => ⟨⟨hf, ht, hft⟩, h1, h2, h3, h4, fun h => absurd h e1, fun h => absurd h e2, fun _ => ⟨not_dec g1, not_dec g2, not_dec g3, not_dec g4, not_dec g5⟩, .inr (.inr e3)⟩⟩

/-! ### What is read -/
def rFrame : Rd FrT := rbind rByte fun k => rbind rByte fun f => rbind rByte fun t =>
  if k = 1 then rbind rUint fun ep => rbind rUint fun sq => rbind rItem fun x => rret (frI k f t ep sq x 0 0 0)
  else if k = 2 then rbind rUint fun ep => rbind rUint fun cu => rbind rUint fun bi => rbind rUint fun li => rret (frI k f t ep 0 zeroI cu bi li)
  else rret (frI k f t 0 0 zeroI 0 0 0)
theorem no10_frame : No10 rFrame := no10_bind no10_byte fun _ => no10_bind no10_byte fun _ => no10_bind no10_byte fun _ =>
  no10_if (no10_bind no10_uint fun _ => no10_bind no10_uint fun _ => no10_bind no10_item fun _ => no10_ret _)
    (no10_if (no10_bind no10_uint fun _ => no10_bind no10_uint fun _ => no10_bind no10_uint fun _ => no10_bind no10_uint fun _ => no10_ret _) (no10_ret _))
theorem vals_item : Vals rItem fun x => x.2.2.2.2.1.length ≤ 12 ∧ x.2.2.2.2.2.1.length ≤ 8 ∧ Tiny x.2.2.2.2.2.1 :=
  vals_bind vals_item0 fun x hx => fun s => by
    have hz : zeroI.2.2.2.2.1.length ≤ 12 ∧ zeroI.2.2.2.2.2.1.length ≤ 8 ∧ Tiny zeroI.2.2.2.2.2.1 := ⟨by simp [zeroI], by simp [zeroI], by intro p hp; simp [zeroI] at hp⟩
    unfold rCheck
    split
    · split
      · exact hx
      · exact hz
    · exact hz
/-- What is read has an item only if it is data; the item's texts are short. -/
theorem vals_frame : Vals rFrame fun y => ∃ k f t ep sq x cu bi li, y = frI k f t ep sq x cu bi li ∧ FitI x 30 ∧ (¬ k = 1 → x = zeroI) := by
  have z0 : FitI zeroI 30 := ⟨by simp [zeroI], by simp [zeroI], by intro p hp; simp [zeroI] at hp⟩
  refine vals_bind (vals_any _) fun k _ => vals_bind (vals_any _) fun f _ => vals_bind (vals_any _) fun t _ => ?_
  by_cases h1 : k = 1
  · rw [if_pos h1]
    exact vals_bind (vals_any _) fun ep _ => vals_bind (vals_any _) fun sq _ => vals_bind vals_item fun x hx => vals_ret ⟨k, f, t, ep, sq, x, 0, 0, 0, rfl, tiny_fit hx, fun h => absurd h1 h⟩
  · rw [if_neg h1]
    by_cases h2 : k = 2
    · rw [if_pos h2]
      exact vals_bind (vals_any _) fun ep _ => vals_bind (vals_any _) fun cu _ => vals_bind (vals_any _) fun bi _ => vals_bind (vals_any _) fun li _ => vals_ret ⟨k, f, t, ep, 0, zeroI, cu, bi, li, rfl, z0, fun _ => rfl⟩
    · rw [if_neg h2]
      exact vals_ret ⟨k, f, t, 0, 0, zeroI, 0, 0, 0, rfl, z0, fun _ => rfl⟩
/-- What was read to its end, and is right, is as these bytes are. -/
theorem frame_back {b : List UInt8} {k f t : UInt8} {ep sq : UInt64} {x : ItT} {cu bi li : UInt64} (h : rFrame (b, 0) = (frI k f t ep sq x cu bi li, ([], 0))) (hr : Right k f t ep sq x cu bi li) : Fine (frI k f t ep sq x cu bi li) (183 :: b) := by
  have s1 : ∀ k f t, Stick (if k = (1 : UInt8) then rbind rUint fun ep => rbind rUint fun sq => rbind rItem fun x => rret (frI k f t ep sq x 0 0 0)
      else if k = 2 then rbind rUint fun ep => rbind rUint fun cu => rbind rUint fun bi => rbind rUint fun li => rret (frI k f t ep 0 zeroI cu bi li)
      else rret (frI k f t 0 0 zeroI 0 0 0)) := fun k f t =>
    stick_if (stick_bind stick_uint fun _ => stick_bind stick_uint fun _ => stick_bind stick_item fun _ => stick_ret _)
      (stick_if (stick_bind stick_uint fun _ => stick_bind stick_uint fun _ => stick_bind stick_uint fun _ => stick_bind stick_uint fun _ => stick_ret _) (stick_ret _))
  obtain ⟨k', r1, h1, h⟩ := bind_ok (fun _ => stick_bind stick_byte fun _ => stick_bind stick_byte fun _ => s1 _ _ _) h
  obtain ⟨f', r2, h2, h⟩ := bind_ok (fun _ => stick_bind stick_byte fun _ => s1 _ _ _) h
  obtain ⟨t', r3, h3, h⟩ := bind_ok (fun _ => s1 _ _ _) h
  rw [back_byte h1, back_byte h2, back_byte h3]
  clear h1 h2 h3 s1
  by_cases e1 : k' = 1
  · rw [if_pos e1] at h
    obtain ⟨ep', r4, h4, h⟩ := bind_ok (fun _ => stick_bind stick_uint fun _ => stick_bind stick_item fun _ => stick_ret _) h
    obtain ⟨sq', r5, h5, h⟩ := bind_ok (fun _ => stick_bind stick_item fun _ => stick_ret _) h
    obtain ⟨x', r6, h6, h⟩ := bind_ok (fun _ => stick_ret _) h
    have h : (frI k' f' t' ep' sq' x' 0 0 0, (r6, (0 : Int64))) = (frI k f t ep sq x cu bi li, ([], 0)) := h
    rw [Prod.mk.injEq] at h
    obtain ⟨hy, h⟩ := h
    rw [Prod.mk.injEq] at h
    obtain ⟨h, _⟩ := h
    subst h
    obtain ⟨b1, b2, b3⟩ := item_back h6
    rw [back_uint h4, back_uint h5, b1, e1, List.append_nil, ← hy]
    have hk : k' = k := congrArg (fun y => y.1) hy
    have hf : f' = f := congrArg (fun y => y.2.1) hy
    have ht : t' = t := congrArg (fun y => y.2.2.1) hy
    have hep : ep' = ep := congrArg (fun y => y.2.2.2.1) hy
    have hsq : sq' = sq := congrArg (fun y => y.2.2.2.2.1) hy
    subst hk hf ht hep hsq
    obtain ⟨g1, g2, _⟩ := hr.data e1
    rw [e1]
    exact .data f' t' ep' sq' x' hr.node hr.nep g2 hr.nsq g1 ⟨b2, b3.1, b3.2.1, b3.2.2⟩
  · rw [if_neg e1] at h
    by_cases e2 : k' = 2
    · rw [if_pos e2] at h
      obtain ⟨ep', r4, h4, h⟩ := bind_ok (fun _ => stick_bind stick_uint fun _ => stick_bind stick_uint fun _ => stick_bind stick_uint fun _ => stick_ret _) h
      obtain ⟨cu', r5, h5, h⟩ := bind_ok (fun _ => stick_bind stick_uint fun _ => stick_bind stick_uint fun _ => stick_ret _) h
      obtain ⟨bi', r6, h6, h⟩ := bind_ok (fun _ => stick_bind stick_uint fun _ => stick_ret _) h
      obtain ⟨li', r7, h7, h⟩ := bind_ok (fun _ => stick_ret _) h
      have h : (frI k' f' t' ep' 0 zeroI cu' bi' li', (r7, (0 : Int64))) = (frI k f t ep sq x cu bi li, ([], 0)) := h
      rw [Prod.mk.injEq] at h
      obtain ⟨hy, h⟩ := h
      rw [Prod.mk.injEq] at h
      obtain ⟨h, _⟩ := h
      subst h
      rw [back_uint h4, back_uint h5, back_uint h6, back_uint h7, e2, List.append_nil, ← hy]
      have hk : k' = k := congrArg (fun y => y.1) hy
      have hf : f' = f := congrArg (fun y => y.2.1) hy
      have ht : t' = t := congrArg (fun y => y.2.2.1) hy
      have hep : ep' = ep := congrArg (fun y => y.2.2.2.1) hy
      have hcu : cu' = cu := congrArg (fun y => y.2.2.2.2.2.2.2.2.2.2.2.2.2.2.2.2.2.2.1) hy
      have hbi : bi' = bi := congrArg (fun y => y.2.2.2.2.2.2.2.2.2.2.2.2.2.2.2.2.2.2.2.1) hy
      have hli : li' = li := congrArg (fun y => y.2.2.2.2.2.2.2.2.2.2.2.2.2.2.2.2.2.2.2.2) hy
      subst hk hf ht hep hcu hbi hli
      obtain ⟨_, g2, g3⟩ := hr.ack e2
      rw [e2]
      exact .ack f' t' ep' cu' bi' li' hr.node hr.nep g2 hr.ncu hr.nli g3
    · rw [if_neg e2] at h
      have h : (frI k' f' t' 0 0 zeroI 0 0 0, (r3, (0 : Int64))) = (frI k f t ep sq x cu bi li, ([], 0)) := h
      rw [Prod.mk.injEq] at h
      obtain ⟨hy, h⟩ := h
      rw [Prod.mk.injEq] at h
      obtain ⟨h, _⟩ := h
      subst h
      rw [← hy]
      have hk : k' = k := congrArg (fun y => y.1) hy
      have hf : f' = f := congrArg (fun y => y.2.1) hy
      have ht : t' = t := congrArg (fun y => y.2.2.1) hy
      subst hk hf ht
      have e3 : k' = 3 := hr.kinds.resolve_left e1 |>.resolve_left e2
      rw [e3]
      exact .alive f' t' hr.node

/-! ### Decode -/
theorem fin (n : Nat) (hn : 30 < n) (z : Option TabT) (s : RS) (hs : s.1.length < 2 ^ 62) (k f t : UInt8) (ep sq : UInt64) (x : ItT) (cu bi li : UInt64) (hx : FitI x 30) (hz : ¬ k = 1 → x = zeroI) :
    ∃ y e, F9_J1023 n z 0 0 0 0 0 false 0 0 0 [] 0 0 0 0 0 0 0 0 0 0 (some s) k f t ep sq x.1 x.2.1 x.2.2.1 x.2.2.2.1 x.2.2.2.2.1 x.2.2.2.2.2.1 x.2.2.2.2.2.2.1 x.2.2.2.2.2.2.2.1 x.2.2.2.2.2.2.2.2.1 x.2.2.2.2.2.2.2.2.2.1 x.2.2.2.2.2.2.2.2.2.2.1 x.2.2.2.2.2.2.2.2.2.2.2.1 x.2.2.2.2.2.2.2.2.2.2.2.2 cu bi li = some ((y, e), z) ∧
      (e = 0 → y = frI k f t ep sq x cu bi li ∧ s = ([], 0) ∧ Right k f t ep sq x cu bi li) ∧ (e ≠ 0 → y = zeroF) ∧ (s.2 ≠ 10 → e ≠ 10) := by
  obtain ⟨c, h1, h2, h3⟩ := check_any n hn k f t ep sq x cu bi li hx hz
  unfold F9_J1023
  rw [f29 n s hs, obind_s]
  dsimp only
  by_cases hd : (rDone s).1 = 0
  · have e1 : (!decide ((rDone s).1 = 0)) = false := by rw [dec_t hd]; rfl
    have h1' : F26 n (k, f, t, ep, sq, x.1, x.2.1, x.2.2.1, x.2.2.2.1, x.2.2.2.2.1, x.2.2.2.2.2.1, x.2.2.2.2.2.2.1, x.2.2.2.2.2.2.2.1, x.2.2.2.2.2.2.2.2.1, x.2.2.2.2.2.2.2.2.2.1, x.2.2.2.2.2.2.2.2.2.2.1, x.2.2.2.2.2.2.2.2.2.2.2.1, x.2.2.2.2.2.2.2.2.2.2.2.2, cu, bi, li) = some (c, ()) := h1
    rw [e1, oite_f, h1', obind_s]
    dsimp only
    by_cases hc : c = 0
    · have e2 : (!decide (c = 0)) = false := by rw [dec_t hc]; rfl
      rw [e2, oite_f]
      exact ⟨_, 0, rfl, fun _ => ⟨rfl, done_zero hd, h3 hc⟩, fun h => absurd rfl h, fun _ => by decide⟩
    · have e2 : (!decide (c = 0)) = true := by rw [dec_f hc]; rfl
      rw [e2, oite_t]
      exact ⟨_, c, rfl, fun h => absurd h hc, fun _ => rfl, fun _ => h2⟩
  · have e1 : (!decide ((rDone s).1 = 0)) = true := by rw [dec_f hd]; rfl
    rw [e1, oite_t]
    exact ⟨_, _, rfl, fun h => absurd h hd, fun _ => rfl, fun h => rDone_no10 s h⟩
theorem opens_eq {b : List UInt8} (h : opens b = true) : b = b.take (b.length - 4) ++ l4 (b4 (Crc.sum (b.take (b.length - 4)))) := by
  unfold opens at h
  rw [Bool.and_eq_true, beq_iff_eq] at h
  rw [h.2, List.take_append_drop]
/-- Any bytes as a frame. -/
theorem dec_any (n : Nat) (hn : 1200 ≤ n) (b : List UInt8) (hb : b.length ≤ 800) (x : Option TabT) (s c : UInt64) (hx : IsTab x s c) :
    ∃ y e z s' c', F9 n (x, b) = some ((y, e), z) ∧ IsTab z s' c' ∧ (e = 0 → ∃ w, Fine y w ∧ b = w ++ l4 (b4 (Crc.sum w))) ∧ (e ≠ 0 → y = zeroF) ∧ (b.length < 8 → e = 3) ∧ (opens b = true → e ≠ 10) := by
  by_cases h8 : b.length < 8
  · have ho : x = x := rfl
    refine ⟨zeroF, 3, x, s, c, dec_short n b h8 x s c hx, hx, fun h => absurd h (by decide), fun _ => rfl, fun _ => rfl, fun _ => by decide⟩
  · obtain ⟨z, c', h1, hz⟩ := f14 n x s c hx b (by omega) (by omega)
    cases ho : opens b with
    | false =>
      obtain ⟨z', h2⟩ := dec_sum n b (by omega) (by omega) (by omega) ho x s c hx
      have hz' : ∃ s' c', IsTab z' s' c' := by
        obtain ⟨⟨t0, t1, t2⟩, ta, rfl⟩ := hx.some
        rw [ho] at h1
        unfold F9 at h2
        dsimp only at h2
        have e : decide (I64 (List.length b) < 8) = false := dec_f (fun h' => by have := (i64_lt (a := b.length) (b := 8) (by omega) (by omega)).1 h'; omega)
        rw [oelim_s, e, oite_f, h1, obind_s] at h2
        have h2 : (some ((zeroF, (10 : Int64)), z) : Option ((FrT × Int64) × Option TabT)) = some ((zeroF, 10), z') := h2
        rw [Option.some.injEq, Prod.mk.injEq] at h2
        exact ⟨_, c', h2.2 ▸ hz⟩
      obtain ⟨s', c'', hz'⟩ := hz'
      exact ⟨zeroF, 10, z', s', c'', h2, hz', fun h => absurd h (by decide), fun _ => rfl, fun h => absurd h h8, fun h => absurd h (by decide)⟩
    | true =>
      obtain ⟨⟨t0, t1, t2⟩, ta, rfl⟩ := hx.some
      rw [ho, if_pos rfl] at h1
      have hoe := opens_eq ho
      have hwl : (b.take (b.length - 4)).length ≤ 800 := by simp; omega
      unfold F9
      dsimp only
      have e : decide (I64 (List.length b) < 8) = false := dec_f (fun h' => by have := (i64_lt (a := b.length) (b := 8) (by omega) (by omega)).1 h'; omega)
      rw [oelim_s, e, oite_f, h1, obind_s]
      dsimp only
      generalize b.take (b.length - 4) = w at hoe hwl
      have e0 : (!true) = false := rfl
      have e21 : F21 n w = some (some (w, 0), ()) := rfl
      rw [e0, oite_f, e21, obind_s, f49 n (w, 0) (by dsimp only; omega), obind_s]
      dsimp only
      cases w with
      | nil => exact ⟨zeroF, 11, z, _, c', rfl, hz, fun h => absurd h (by decide), fun _ => rfl, fun h => absurd h h8, fun _ => by decide⟩
      | cons m r =>
        have er : rByte (m :: r, 0) = (m, (r, 0)) := rfl
        rw [er]
        dsimp only
        by_cases hm : m = 183
        · have e1 : (!decide (m = 183)) = false := by rw [dec_t hm]; rfl
          subst hm
          rw [e1, oite_f]
          have hr : r.length < 800 := by simp only [List.length_cons] at hwl; omega
          have l1 := short_byte (r, 0)
          have l2 := short_byte (rByte (r, 0)).2
          have l3 := short_byte (rByte (rByte (r, 0)).2).2
          dsimp only at l1
          rw [f49 n (r, 0) (by dsimp only; omega), obind_s]
          dsimp only
          rw [f49 n _ (by omega), obind_s]
          dsimp only
          rw [f49 n _ (by omega), obind_s]
          dsimp only
          rw [ojoinA_eq]
          have hv := vals_frame (r, 0)
          have h10 := no10_frame (r, 0) (show (0 : Int64) ≠ 10 by decide)
          have key : ∀ k f t ep sq x cu bi li q, rFrame (r, 0) = (frI k f t ep sq x cu bi li, q) → FitI x 30 → (¬ k = 1 → x = zeroI) → q.1.length < 2 ^ 62 →
              ∃ y e z' s' c', F9_J1023 n z 0 0 0 0 0 false 0 0 0 [] 0 0 0 0 0 0 0 0 0 0 (some q) k f t ep sq x.1 x.2.1 x.2.2.1 x.2.2.2.1 x.2.2.2.2.1 x.2.2.2.2.2.1 x.2.2.2.2.2.2.1 x.2.2.2.2.2.2.2.1 x.2.2.2.2.2.2.2.2.1 x.2.2.2.2.2.2.2.2.2.1 x.2.2.2.2.2.2.2.2.2.2.1 x.2.2.2.2.2.2.2.2.2.2.2.1 x.2.2.2.2.2.2.2.2.2.2.2.2 cu bi li = some ((y, e), z') ∧ IsTab z' s' c' ∧ (e = 0 → ∃ w, Fine y w ∧ b = w ++ l4 (b4 (Crc.sum w))) ∧ (e ≠ 0 → y = zeroF) ∧ (b.length < 8 → e = 3) ∧ (true = true → e ≠ 10) := by
            intro k f t ep sq x cu bi li q hq hx hz' hl
            obtain ⟨y, e, g1, g2, g3, g4⟩ := fin n (by omega) z q hl k f t ep sq x cu bi li hx hz'
            rw [hq] at h10
            refine ⟨y, e, z, _, c', g1, hz, fun he => ?_, g3, fun h => absurd h h8, fun _ => g4 h10⟩
            obtain ⟨p1, p2, p3⟩ := g2 he
            subst p1 p2
            exact ⟨183 :: r, frame_back hq p3, hoe⟩
          have z0 : FitI zeroI 30 := ⟨by simp [zeroI], by simp [zeroI], by intro p hp; simp [zeroI] at hp⟩
          have hF : rFrame (r, 0) = (if (rByte (r, 0)).1 = 1 then rbind rUint fun ep => rbind rUint fun sq => rbind rItem fun x => rret (frI (rByte (r, 0)).1 (rByte (rByte (r, 0)).2).1 (rByte (rByte (rByte (r, 0)).2).2).1 ep sq x 0 0 0)
            else if (rByte (r, 0)).1 = 2 then rbind rUint fun ep => rbind rUint fun cu => rbind rUint fun bi => rbind rUint fun li => rret (frI (rByte (r, 0)).1 (rByte (rByte (r, 0)).2).1 (rByte (rByte (rByte (r, 0)).2).2).1 ep 0 zeroI cu bi li)
            else rret (frI (rByte (r, 0)).1 (rByte (rByte (r, 0)).2).1 (rByte (rByte (rByte (r, 0)).2).2).1 0 0 zeroI 0 0 0)) (rByte (rByte (rByte (r, 0)).2).2).2 := rfl
          generalize (rByte (rByte (rByte (r, 0)).2).2).2 = s4 at l3 hF
          generalize (rByte (rByte (rByte (r, 0)).2).2).1 = t at hF
          generalize (rByte (rByte (r, 0)).2).2 = s3 at l2 l3
          generalize (rByte (rByte (r, 0)).2).1 = f at hF
          generalize (rByte (r, 0)).2 = s2 at l1 l2
          generalize (rByte (r, 0)).1 = k at hF
          by_cases k1 : k = 1
          · have l4' := short_uint s4
            have l5 := short_uint (rUint s4).2
            have l6 := short_item (rUint (rUint s4).2).2
            rw [dec_t k1, oite_t, f50 n (by omega) _ (by omega), obind_s]
            dsimp only
            rw [f50 n (by omega) _ (by omega), obind_s]
            dsimp only
            rw [f28 n (by omega) _ (by omega), obind_s]
            rw [if_pos k1] at hF
            dsimp only
            have hx := tiny_fit (vals_item (rUint (rUint s4).2).2)
            have hF : rFrame (r, 0) = (frI k f t (rUint s4).1 (rUint (rUint s4).2).1 (rItem (rUint (rUint s4).2).2).1 0 0 0, (rItem (rUint (rUint s4).2).2).2) := hF
            generalize rItem (rUint (rUint s4).2).2 = q at hF l6 hx ⊢
            generalize (rUint (rUint s4).2).1 = sq at hF ⊢
            generalize (rUint s4).1 = ep at hF ⊢
            exact key k f t ep sq q.1 0 0 0 q.2 hF hx (fun h => absurd k1 h) (by omega)
          · rw [if_neg k1] at hF
            rw [dec_f k1, oite_f]
            by_cases k2 : k = 2
            · have l4' := short_uint s4
              have l5 := short_uint (rUint s4).2
              have l6 := short_uint (rUint (rUint s4).2).2
              have l7 := short_uint (rUint (rUint (rUint s4).2).2).2
              rw [if_pos k2] at hF
              rw [dec_t k2, oite_t, f50 n (by omega) _ (by omega), obind_s]
              dsimp only
              rw [f50 n (by omega) _ (by omega), obind_s]
              dsimp only
              rw [f50 n (by omega) _ (by omega), obind_s]
              dsimp only
              rw [f50 n (by omega) _ (by omega), obind_s]
              dsimp only
              exact key k f t (rUint s4).1 0 zeroI (rUint (rUint s4).2).1 (rUint (rUint (rUint s4).2).2).1 (rUint (rUint (rUint (rUint s4).2).2).2).1 (rUint (rUint (rUint (rUint s4).2).2).2).2 hF z0 (fun _ => rfl) (by omega)
            · rw [if_neg k2] at hF
              rw [dec_f k2, oite_f]
              exact key k f t 0 0 zeroI 0 0 0 s4 hF z0 (fun _ => rfl) (by omega)
        · have e1 : (!decide (m = 183)) = true := by rw [dec_f hm]; rfl
          rw [e1, oite_t]
          exact ⟨zeroF, 11, z, _, c', rfl, hz, fun h => absurd h (by decide), fun _ => rfl, fun h => absurd h h8, fun _ => by decide⟩
end Go.Proofs.YtgknjddbbehboaaGreat
