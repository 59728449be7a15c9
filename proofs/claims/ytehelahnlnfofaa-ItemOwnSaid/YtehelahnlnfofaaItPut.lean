/- Items as bytes: what is put, and what comes back. -/
import Derived.Test.YtehelahnlnfofaaItRead
open Go Go.Sx
namespace Go.Proofs.Ytehelahnlnfofaa

/-! ### What is put -/
def labsB : List Pair → List UInt8
  | [] => []
  | p :: r => encT p.1 ++ (encT p.2 ++ labsB r)
def tailB (st p : UInt8) (v : Int64) (w : UInt8) : List UInt8 := [st] ++ ([p] ++ (enc (zig v) ++ [w]))
def evB (e : EvT) : List UInt8 :=
  [e.1] ++ (enc e.2.1 ++ (enc e.2.2.1 ++ (encT e.2.2.2.1 ++ (enc (UInt64.ofNat e.2.2.2.2.1.length) ++ (labsB e.2.2.2.2.1 ++ tailB e.2.2.2.2.2.1 e.2.2.2.2.2.2.1 e.2.2.2.2.2.2.2.1 e.2.2.2.2.2.2.2.2)))))
def gapB (g : UInt8 × UInt64 × UInt64) : List UInt8 := [g.1] ++ (enc g.2.1 ++ enc g.2.2)
def evOf (x : ItT) : EvT := (x.2.1, x.2.2.1, x.2.2.2.1, x.2.2.2.2.1, x.2.2.2.2.2.1, x.2.2.2.2.2.2.1, x.2.2.2.2.2.2.2.1, x.2.2.2.2.2.2.2.2.1, x.2.2.2.2.2.2.2.2.2.1)
def gapOf (x : ItT) : UInt8 × UInt64 × UInt64 := x.2.2.2.2.2.2.2.2.2.2
def itB (x : ItT) : List UInt8 := [if x.1 then 1 else 0] ++ (if x.1 then gapB (gapOf x) else evB (evOf x))
def normI (x : ItT) : ItT := if x.1 then gapI (gapOf x) else evI (evOf x)
theorem encT_len (s : List UInt8) : (encT s).length ≤ s.length + 10 := by
  have := enc_len (UInt64.ofNat s.length)
  unfold encT; simp; omega

theorem byte_put (n : Nat) (w : List UInt8) (c : UInt8) (hw : w.length + 10 ≤ 4294967296) : F44 n (some w, c) = some ((), some (w ++ [c])) := by
  unfold F44
  rw [oelim_s, ble_t (by simp; omega), oite_t]
theorem int_put (n : Nat) (hn : 10 < n) (w : List UInt8) (x : Int64) (hw : w.length + 10 ≤ 4294967296) : F47 n (some w, x) = some ((), some (w ++ enc (zig x))) := by
  unfold F47
  dsimp only
  rw [zig_prog x, uint_spec n hn w _ hw]; rfl
theorem txt_put (n : Nat) (hn : 10 < n) (w s : List UInt8) (h : w.length + s.length ≤ 4000000000) : F46 n (some w, s) = some ((), some (w ++ encT s)) := text_put n hn w s h
theorem bool_put (n : Nat) (w : List UInt8) (b : Bool) (hw : w.length + 10 ≤ 4294967296) : F43 n (some w, b) = some ((), some (w ++ [if b then 1 else 0])) := by
  unfold F43
  cases b with
  | true => dsimp only; rw [oite_t, byte_put n w 1 hw]; rfl
  | false => dsimp only; rw [oite_f, byte_put n w 0 hw]; rfl
theorem labs_put (n : Nat) (hn : 10 < n) (t : List Pair) (ht : t.length < 2 ^ 63) (v0 : UInt8) (v1 v2 : UInt64) (v3 : List UInt8) (v4 : List Pair) (v5 v6 : UInt8) (v7 : Int64) (v8 : UInt8) :
    ∀ (m k : Nat) (w : List UInt8), k ≤ t.length → t.length - k < m → w.length + (labsB (t.drop k)).length ≤ 3000000000 →
      F25_R4093 n m t (I64 t.length) (I64 k) (some w) v0 v1 v2 v3 v4 v5 v6 v7 v8 = some ((), some (w ++ (labsB (t.drop k) ++ tailB v5 v6 v7 v8))) := by
  intro m
  induction m with
  | zero => intro k w _ h; omega
  | succ m ih =>
    intro k w hk hm hw
    rw [F25_R4093_s]
    unfold F25_L4093
    by_cases hlt : k < t.length
    · rw [List.drop_eq_getElem_cons hlt] at hw ⊢
      have e1 : (encT t[k].1).length = (enc (UInt64.ofNat t[k].1.length)).length + t[k].1.length := by unfold encT; simp
      have e2 : (encT t[k].2).length = (enc (UInt64.ofNat t[k].2.length)).length + t[k].2.length := by unfold encT; simp
      simp only [labsB, List.length_append] at hw
      rw [dec_t ((i64_lt (by omega) ht).2 hlt), oite_t, at_i64_lt (by omega) hlt]
      simp only [obind_s]
      rw [txt_put n hn w _ (by omega)]
      simp only [obind_s]
      rw [txt_put n hn _ _ (by simp; omega)]
      simp only [obind_s]
      rw [i64_succ, ih (k + 1) _ (by omega) (by omega) (by simp; omega)]
      simp only [labsB, List.append_assoc]
    · have : k = t.length := by omega
      subst this
      rw [dec_f (fun q => hlt ((i64_lt (by omega) ht).1 q)), oite_f, List.drop_length]
      have hz := enc_len (zig v7)
      rw [byte_put n w v5 (by omega)]
      simp only [obind_s]
      rw [byte_put n _ v6 (by simp; omega)]
      simp only [obind_s]
      rw [int_put n hn _ v7 (by simp; omega)]
      simp only [obind_s]
      rw [byte_put n _ v8 (by simp; omega)]
      simp only [obind_s, labsB, tailB, List.append_assoc, List.nil_append]
theorem it_put (n : Nat) (x : ItT) (hl : x.2.2.2.2.2.1.length < 2 ^ 63) (hn : x.2.2.2.2.2.1.length + 10 < n) (w : List UInt8) (hw : w.length + x.2.2.2.2.1.length + (labsB x.2.2.2.2.2.1).length ≤ 2000000000) :
    F25 n (some w, x) = some ((), some (w ++ itB x)) := by
  obtain ⟨g, o, seq, time, rule, labels, state, prio, v, own, go, ga, gb⟩ := x
  unfold F25
  dsimp only at hl hn hw ⊢
  rw [bool_put n w g (by omega)]
  simp only [obind_s]
  cases g with
  | true =>
    have q1 := enc_len ga
    rw [oite_t, byte_put n _ go (by simp; omega)]
    simp only [obind_s]
    rw [uint_spec n (by omega) _ ga (by simp; omega)]
    simp only [obind_s]
    rw [uint_spec n (by omega) _ gb (by simp; omega)]
    simp only [obind_s, itB, gapB, gapOf, if_true, List.append_assoc]
  | false =>
    have q1 := enc_len seq
    have q2 := enc_len time
    have q3 := encT_len rule
    have q4 := enc_len (UInt64.ofNat labels.length)
    rw [oite_f, byte_put n _ o (by simp; omega)]
    simp only [obind_s]
    rw [uint_spec n (by omega) _ seq (by simp; omega)]
    simp only [obind_s]
    rw [uint_spec n (by omega) _ time (by simp; omega)]
    simp only [obind_s]
    rw [txt_put n (by omega) _ rule (by simp; omega)]
    simp only [obind_s]
    rw [show Int64.ofInt ↑labels.length = I64 labels.length from rfl, lenU hl, uint_spec n (by omega) _ _ (by simp; omega)]
    simp only [obind_s]
    have := labs_put n (by omega) labels hl o seq time rule labels state prio v own n 0 (w ++ [if false = true then 1 else 0] ++ [o] ++ enc seq ++ enc time ++ encT rule ++ enc (UInt64.ofNat labels.length)) (by omega) (by omega) (by simp; omega)
    rw [show (0 : Int64) = I64 0 from rfl, this]
    simp only [itB, evB, evOf, List.drop_zero, List.append_assoc]
    rfl
theorem it_enc (n : Nat) (x : ItT) (hl : x.2.2.2.2.2.1.length < 2 ^ 63) (hn : x.2.2.2.2.2.1.length + 10 < n) (hw : x.2.2.2.2.1.length + (labsB x.2.2.2.2.2.1).length ≤ 2000000000) (hb : (itB x).length ≤ 4294967296) :
    F13 n x = some (itB x, ()) := by
  unfold F13
  have := it_put n x hl hn [] (by simpa using hw)
  rw [show (x.1, x.2.1, x.2.2.1, x.2.2.2.1, x.2.2.2.2.1, x.2.2.2.2.2.1, x.2.2.2.2.2.2.1, x.2.2.2.2.2.2.2.1, x.2.2.2.2.2.2.2.2.1, x.2.2.2.2.2.2.2.2.2.1, x.2.2.2.2.2.2.2.2.2.2.1, x.2.2.2.2.2.2.2.2.2.2.2.1, x.2.2.2.2.2.2.2.2.2.2.2.2) = x from rfl, this]
  simp only [obind_s, List.nil_append]
  rw [bytes_spec n _ hb]; rfl

/-! ### What is put comes back -/
theorem labs_good : ∀ (l vl : List Pair), Tiny l → RdOf (rLabs l.length vl) (labsB l) (vl ++ l)
  | [], vl, _ => by rw [List.append_nil]; exact good_ret vl
  | (a, b) :: r, vl, h => by
    obtain ⟨ha, hb⟩ := h (a, b) (by simp)
    have ih := labs_good r (vl ++ [(a, b)]) (fun p hp => h p (by simp [hp]))
    rw [List.append_assoc] at ih
    show RdOf (rbind (rText 8) fun a => rbind (rText 16) fun b => rLabs r.length (vl ++ [(a, b)])) (encT a ++ (encT b ++ labsB r)) _
    refine good_bind (good_text 8 a ha (by decide)) ?_ (fun _ => stick_bind (stick_text _) fun _ => stick_labs _ _)
    exact good_bind (good_text 16 b hb (by decide)) ih (fun _ => stick_labs _ _)
theorem end_good (o : UInt8) (seq t : UInt64) (rule : List UInt8) (vl : List Pair) (st p : UInt8) (v : Int64) (w : UInt8) : RdOf (rEnd o seq t rule vl) (tailB st p v w) (o, seq, t, rule, vl, st, p, v, w) := by
  have h := good_bind (f := fun w => rret (o, seq, t, rule, vl, st, p, v, w)) (good_byte w) (good_ret (o, seq, t, rule, vl, st, p, v, w)) (fun _ => stick_ret _)
  rw [List.append_nil] at h
  unfold rEnd tailB
  refine good_bind (good_byte st) ?_ (fun _ => stick_bind stick_byte fun _ => stick_bind stick_int fun _ => stick_bind stick_byte fun _ => stick_ret _)
  refine good_bind (good_byte p) ?_ (fun _ => stick_bind stick_int fun _ => stick_bind stick_byte fun _ => stick_ret _)
  exact good_bind (good_int v) h (fun _ => stick_bind stick_byte fun _ => stick_ret _)
theorem event_good (e : EvT) (h1 : e.2.2.2.1.length ≤ 12) (h2 : e.2.2.2.2.1.length ≤ 8) (h3 : Tiny e.2.2.2.2.1) : RdOf rEvent (evB e) e := by
  obtain ⟨o, seq, t, rule, vl, st, p, v, w⟩ := e
  dsimp only at h1 h2 h3
  have hc : ¬ (8 : UInt64) < UInt64.ofNat vl.length := fun q => by
    have := (u64_lt (a := 8) (by omega) (by omega)).1 q; omega
  have hl := labs_good vl [] h3
  have hl2 : (UInt64.ofNat vl.length).toNat = vl.length := u64_ofNat (by omega)
  rw [List.nil_append] at hl
  unfold rEvent evB
  refine good_bind (good_byte o) ?_ (fun _ => stick_bind stick_uint fun _ => stick_bind stick_uint fun _ => stick_bind (stick_text _) fun _ => stick_bind (stick_count _) fun _ => stick_bind (stick_labs _ _) fun _ => stick_end _ _ _ _ _)
  refine good_bind (good_uint seq) ?_ (fun _ => stick_bind stick_uint fun _ => stick_bind (stick_text _) fun _ => stick_bind (stick_count _) fun _ => stick_bind (stick_labs _ _) fun _ => stick_end _ _ _ _ _)
  refine good_bind (good_uint t) ?_ (fun _ => stick_bind (stick_text _) fun _ => stick_bind (stick_count _) fun _ => stick_bind (stick_labs _ _) fun _ => stick_end _ _ _ _ _)
  refine good_bind (good_text 12 rule h1 (by decide)) ?_ (fun _ => stick_bind (stick_count _) fun _ => stick_bind (stick_labs _ _) fun _ => stick_end _ _ _ _ _)
  refine good_bind (good_count 8 _ hc) ?_ (fun _ => stick_bind (stick_labs _ _) fun _ => stick_end _ _ _ _ _)
  rw [hl2]
  exact good_bind hl (end_good o seq t rule vl st p v w) (fun _ => stick_end _ _ _ _ _)
theorem gap_good (g : UInt8 × UInt64 × UInt64) : RdOf rGap (gapB g) g := by
  obtain ⟨o, a, b⟩ := g
  have h := good_bind (f := fun b => rret (o, a, b)) (good_uint b) (good_ret (o, a, b)) (fun _ => stick_ret _)
  rw [List.append_nil] at h
  unfold rGap gapB
  refine good_bind (good_byte o) ?_ (fun _ => stick_bind stick_uint fun _ => stick_bind stick_uint fun _ => stick_ret _)
  exact good_bind (good_uint a) h (fun _ => stick_bind stick_uint fun _ => stick_ret _)
def Fair (x : ItT) : Prop := x.1 = true ∨ (x.2.2.2.2.1.length ≤ 12 ∧ x.2.2.2.2.2.1.length ≤ 8 ∧ Tiny x.2.2.2.2.2.1)
theorem item0_good (x : ItT) (h : Fair x) : RdOf rItem0 (itB x) (normI x) := by
  unfold rItem0 itB normI
  refine good_bind (good_bool x.1) ?_ (fun _ => stick_if (stick_bind stick_gap fun _ => stick_ret _) (stick_bind stick_event fun _ => stick_ret _))
  cases hx : x.1 with
  | true =>
    have := good_bind (f := fun g => rret (gapI g)) (gap_good (gapOf x)) (good_ret (gapI (gapOf x))) (fun _ => stick_ret _)
    rw [List.append_nil] at this
    simpa using this
  | false =>
    rcases h with h | ⟨h1, h2, h3⟩
    · rw [hx] at h; cases h
    · have := good_bind (f := fun e => rret (evI e)) (event_good (evOf x) h1 h2 h3) (good_ret (evI (evOf x))) (fun _ => stick_ret _)
      rw [List.append_nil] at this
      simpa using this
theorem check_norm (x : ItT) : itCheck (normI x) = itCheck x := by
  obtain ⟨g, o, seq, time, rule, labels, state, prio, v, own, go, ga, gb⟩ := x
  cases g <;> rfl
theorem item_good (x : ItT) (h : Fair x) (hc : itCheck x = 0) : RdOf rItem (itB x) (normI x) := by
  have := good_bind (f := rCheck) (item0_good x h) (w' := []) (v' := normI x) ⟨fun rest => by unfold rCheck; rw [if_pos rfl, if_pos (by rw [check_norm]; exact hc)]; rfl, fun k hk => absurd hk (by simp)⟩ stick_check
  rwa [List.append_nil] at this

/-! ### The same -/
theorem same_loop (l : List Pair) (hl : l.length < 2 ^ 63) : ∀ (m k : Nat), k ≤ l.length → l.length - k < m → F36_R29 m l l (I64 k) = some (true, ()) := by
  intro m
  induction m with
  | zero => intro k _ h; omega
  | succ m ih =>
    intro k hk hm
    rw [F36_R29_s]
    unfold F36_L29
    by_cases hlt : k < l.length
    · rw [dec_t ((i64_lt (by omega) hl).2 hlt), oite_t, at_i64_lt (by omega) hlt]
      simp only [obind_s, beq_self_eq_true, Bool.and_true, Bool.not_true, oite_f]
      rw [i64_succ]; exact ih (k + 1) (by omega) (by omega)
    · rw [dec_f (fun q => hlt ((i64_lt (by omega) hl).1 q)), oite_f]
theorem same_list (n : Nat) (l : List Pair) (hl : l.length < 2 ^ 63) (hn : l.length < n) : F36 n (l, l) = some (true, ()) := by
  unfold F36
  simp only [decide_true, Bool.not_true, oite_f]
  exact same_loop l hl n 0 (by omega) (by omega)
theorem same_norm (n : Nat) (x : ItT) (hl : x.2.2.2.2.2.1.length < 2 ^ 63) (hn : x.2.2.2.2.2.1.length < n) : F16 n (normI x, x) = some (true, ()) := by
  obtain ⟨g, o, seq, time, rule, labels, state, prio, v, own, go, ga, gb⟩ := x
  dsimp only at hl hn
  cases g with
  | true =>
    unfold F16 normI gapI gapOf
    simp
    rfl
  | false =>
    have := same_list n labels hl hn
    unfold F16 normI evI evOf
    simp [this, oite_t, oite_f, obind_s]
end Go.Proofs.Ytehelahnlnfofaa
