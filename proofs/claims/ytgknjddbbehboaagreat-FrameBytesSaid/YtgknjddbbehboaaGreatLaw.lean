/- Lemmas moved here from another seat of this repo (tools/port.py). -/
import Derived.Test.YtgknjddbbehboaaGreatCrc
open Go Go.Sx Go.Sx.Crc
namespace Go.Proofs.YtgknjddbbehboaaGreat
set_option maxRecDepth 100000
abbrev FrT := UInt8 × UInt8 × UInt8 × UInt64 × UInt64 × Bool × UInt8 × UInt64 × UInt64 × List UInt8 × List Pair × UInt8 × UInt8 × Int64 × UInt8 × UInt8 × UInt64 × UInt64 × UInt64 × UInt64 × UInt64
def frI (k f t : UInt8) (ep sq : UInt64) (x : ItT) (cu bi li : UInt64) : FrT :=
  (k, f, t, ep, sq, x.1, x.2.1, x.2.2.1, x.2.2.2.1, x.2.2.2.2.1, x.2.2.2.2.2.1, x.2.2.2.2.2.2.1, x.2.2.2.2.2.2.2.1, x.2.2.2.2.2.2.2.2.1, x.2.2.2.2.2.2.2.2.2.1, x.2.2.2.2.2.2.2.2.2.2.1, x.2.2.2.2.2.2.2.2.2.2.2.1, x.2.2.2.2.2.2.2.2.2.2.2.2, cu, bi, li)
/-- An item that may be, of texts that are as short as they may be. -/
structure Okay (x : ItT) : Prop where
  ok : itCheck x = 0
  rule : x.2.2.2.2.1.length ≤ 12
  labs : x.2.2.2.2.2.1.length ≤ 8
  each : Tiny x.2.2.2.2.2.1
theorem Okay.fit {x : ItT} (h : Okay x) (n : Nat) (hn : 30 < n) : FitI x n := by
  refine ⟨⟨by have := h.rule; omega, by have := h.rule; omega⟩, by have := h.labs; omega, fun p hp => ?_⟩
  have := h.each p hp
  omega
theorem Small.okay {x : ItT} (h : Small x) : Okay x := ⟨h.ok, h.rule, by have := h.labs; omega, fun p hp => by have := h.each p hp; omega⟩
theorem labsB_tiny : ∀ l : List Pair, Tiny l → (labsB l).length ≤ 44 * l.length
  | [], _ => by simp [labsB]
  | p :: l, h => by
    have h1 := labsB_tiny l (fun q hq => h q (List.mem_cons_of_mem _ hq))
    have h2 := h p (List.mem_cons_self ..)
    have h3 := encT_len p.1
    have h4 := encT_len p.2
    simp only [labsB, List.length_append, List.length_cons]; omega
theorem Okay.len {x : ItT} (h : Okay x) : (labsB x.2.2.2.2.2.1).length ≤ 352 ∧ (itB x).length ≤ 500 := by
  have h1 := labsB_tiny _ h.each
  have h2 := h.labs
  have h3 := h.rule
  refine ⟨by omega, ?_⟩
  obtain ⟨g, o, seq, time, rule, labels, state, prio, v, own, go, ga, gb⟩ := x
  dsimp only at h1 h2 h3
  unfold itB evB gapB tailB evOf gapOf
  cases g with
  | true =>
    have q1 := enc_len ga
    have q2 := enc_len gb
    simp; omega
  | false =>
    have q1 := enc_len seq
    have q2 := enc_len time
    have q3 := encT_len rule
    have q4 := enc_len (UInt64.ofNat labels.length)
    have q5 := enc_len (zig v)
    simp; omega
def Num (a : UInt64) : Prop := decide ((1099511627776 : UInt64) < a) = false
def Pos (a : UInt64) : Prop := decide (a < 1) = false
def Node (f t : UInt8) : Prop := decide ((32 : UInt8) ≤ f) = false ∧ decide ((32 : UInt8) ≤ t) = false ∧ decide (f = t) = false
/-- A frame that may be, and what it is as bytes, without their sum. -/
inductive Fine : FrT → List UInt8 → Prop
  | data (f t : UInt8) (ep sq : UInt64) (x : ItT) (hn : Node f t) (he : Num ep) (he1 : Pos ep) (hs : Num sq) (hs1 : Pos sq) (hx : Okay x) : Fine (frI 1 f t ep sq x 0 0 0) ([183, 1, f, t] ++ (enc ep ++ (enc sq ++ itB x)))
  | ack (f t : UInt8) (ep cu bi li : UInt64) (hn : Node f t) (he : Num ep) (he1 : Pos ep) (hc : Num cu) (hl : Num li) (hl1 : Pos li) : Fine (frI 2 f t ep 0 zeroI cu bi li) ([183, 2, f, t] ++ (enc ep ++ (enc cu ++ (enc bi ++ enc li))))
  | alive (f t : UInt8) (hn : Node f t) : Fine (frI 3 f t 0 0 zeroI 0 0 0) [183, 3, f, t]
theorem Fine.len {y : FrT} {b : List UInt8} (h : Fine y b) : 4 ≤ b.length ∧ b.length ≤ 700 := by
  cases h with
  | data f t ep sq x _ _ _ _ _ hx =>
    have h1 := enc_len ep
    have h2 := enc_len sq
    have h3 := hx.len.2
    simp only [List.length_append, List.length_cons, List.length_nil]; omega
  | ack f t ep cu bi li =>
    have h1 := enc_len ep
    have h2 := enc_len cu
    have h3 := enc_len bi
    have h4 := enc_len li
    simp only [List.length_append, List.length_cons, List.length_nil]; omega
  | alive => simp
theorem bare0 (n : Nat) (hn : 0 < n) : F48 n zeroI = some (true, ()) := by
  obtain ⟨r, h1, h2⟩ := same12 n zeroI zeroI (by decide) (by decide) hn
  rw [h2.2 rfl] at h1
  unfold F48
  unfold zeroI at h1 ⊢
  rw [h1, obind_s]
theorem check_fine (n : Nat) (hn : 30 < n) {y : FrT} {b : List UInt8} (h : Fine y b) : F26 n y = some (0, ()) := by
  cases h with
  | data f t ep sq x hN he he1 hs hs1 hx =>
    obtain ⟨n1, n2, n3⟩ := hN
    unfold Num Pos at *
    unfold F26 frI
    dsimp only
    have h0 := it_eq n n (by omega) x (hx.fit n hn)
    rw [hx.ok] at h0
    rw [n1, n2, n3, he, he1, hs, hs1, h0]
    rfl
  | ack f t ep cu bi li hN he he1 hc hl hl1 =>
    obtain ⟨n1, n2, n3⟩ := hN
    unfold Num Pos at *
    unfold F26 frI
    dsimp only
    have h0 := bare0 n (by omega)
    unfold zeroI at h0 ⊢
    dsimp only
    rw [n1, n2, n3, he, he1, hc, hl, hl1, h0]
    rfl
  | alive f t hN =>
    obtain ⟨n1, n2, n3⟩ := hN
    unfold F26 frI
    dsimp only
    have h0 := bare0 n (by omega)
    unfold zeroI at h0 ⊢
    dsimp only
    rw [n1, n2, n3, h0]
    rfl
theorem enc_fine (n : Nat) (hn : 1200 ≤ n) {y : FrT} {b : List UInt8} (h : Fine y b) (x : Option TabT) (s c : UInt64) (hx : IsTab x s c) (t0 : UInt32) (t1 : Int32) (t2 : UInt32) (ta : List UInt32) (t3 t4 : UInt64) (ht : x = some ((t0, t1, t2), ta, t3, t4)) :
    F12 n (x, y) = some ((b ++ l4 (b4 (Crc.sum b)), 0), used (s + 1) (cnt c b)) := by
  have hl := h.len
  have hc := check_fine n (by omega) h
  have fin : F12_J511 n ta t0 t1 t2 t3 t4 (some b) = some ((b ++ l4 (b4 (Crc.sum b)), 0), used (s + 1) (cnt c b)) := by
    unfold F12_J511
    rw [bytes_spec n b (by omega), obind_s, ← ht, f12 n x s c hx b (by omega) (by omega), obind_s]
  subst ht
  unfold F12
  dsimp only
  rw [oelim_s]
  cases h with
  | data f t ep sq x hN he he1 hs hs1 hx =>
    unfold frI at hc ⊢
    dsimp only at hc ⊢
    have h1 := enc_len ep
    have h2 := enc_len sq
    have h3 := hx.len.1
    have h4 := hx.rule
    have h5 := hx.labs
    rw [hc, obind_s, byte_put n _ _ (by simp), obind_s, byte_put n _ _ (by simp), obind_s, byte_put n _ _ (by simp), obind_s, byte_put n _ _ (by simp), obind_s]
    dsimp only
    rw [ojoinA_eq]
    rw [uint_spec n (by omega) _ _ (by simp), obind_s, uint_spec n (by omega) _ _ (by simp; omega), obind_s, it_put n x (by omega) (by omega) _ (by simp; omega), obind_s]
    have : (([] ++ [183] ++ [1] ++ [f] ++ [t] ++ enc ep ++ enc sq ++ itB x : List UInt8)) = [183, 1, f, t] ++ (enc ep ++ (enc sq ++ itB x)) := by simp
    rw [this]
    exact fin
  | ack f t ep cu bi li hN he he1 hc' hl' hl1 =>
    unfold frI at hc ⊢
    dsimp only at hc ⊢
    have h1 := enc_len ep
    have h2 := enc_len cu
    have h3 := enc_len bi
    have h4 := enc_len li
    rw [hc, obind_s, byte_put n _ _ (by simp), obind_s, byte_put n _ _ (by simp), obind_s, byte_put n _ _ (by simp), obind_s, byte_put n _ _ (by simp), obind_s]
    dsimp only
    have e0 : (!decide ((0 : Int64) = 0)) = false := rfl
    have e : decide ((2 : UInt8) = 1) = false := rfl
    have e2 : decide ((2 : UInt8) = 2) = true := rfl
    rw [ojoinA_eq, e0, oite_f, e, oite_f, e2, oite_t]
    rw [uint_spec n (by omega) _ _ (by simp), obind_s, uint_spec n (by omega) _ _ (by simp; omega), obind_s, uint_spec n (by omega) _ _ (by simp; omega), obind_s, uint_spec n (by omega) _ _ (by simp; omega), obind_s]
    have : (([] ++ [183] ++ [2] ++ [f] ++ [t] ++ enc ep ++ enc cu ++ enc bi ++ enc li : List UInt8)) = [183, 2, f, t] ++ (enc ep ++ (enc cu ++ (enc bi ++ enc li))) := by simp
    rw [this]
    exact fin
  | alive f t hN =>
    unfold frI at hc ⊢
    dsimp only at hc ⊢
    rw [hc, obind_s, byte_put n _ _ (by simp), obind_s, byte_put n _ _ (by simp), obind_s, byte_put n _ _ (by simp), obind_s, byte_put n _ _ (by simp), obind_s]
    dsimp only
    rw [ojoinA_eq]
    exact fin
theorem encode_nil (n : Nat) (y : FrT) : F12 n (none, y) = some (([], 1), none) := rfl
theorem nums_loop (n : Nat) (hn : 10 < n) (J : List UInt8 → Option (List UInt8 × Unit)) (l : List UInt64) (hl : l.length ≤ 4) : ∀ (m k : Nat) (b : List UInt8), k ≤ l.length → l.length - k < m → b.length ≤ 300 + 10 * k → F6_R957 n J m (I64 l.length) (I64 k) b l = J (b ++ (l.drop k).flatMap enc) := by
  intro m
  induction m with
  | zero => intro k b _ h; omega
  | succ m ih =>
    intro k b hk hm hb
    have hs : F6_R957 n J (m + 1) = F6_L957 n J (F6_R957 n J m) := rfl
    rw [hs]
    unfold F6_L957
    by_cases h : k < l.length
    · have e1 : decide (I64 k < I64 l.length) = true := dec_t ((i64_lt (by omega) (by omega)).2 h)
      obtain ⟨k1, k2⟩ := idx_i64 (l := l) (k := k) h (by omega)
      have h1 := enc_len l[k]
      rw [e1, oite_t, k1, oite_t, k2, obind_s, ref_spec n hn, obind_s]
      dsimp only
      have hd : l.drop k = l[k] :: l.drop (k + 1) := List.drop_eq_getElem_cons h
      rw [ble_t (by omega), oite_t, i64_succ, ih (k + 1) _ (by omega) (by omega) (by rw [List.length_append]; omega), hd, List.flatMap_cons, List.append_assoc]
    · have hk : k = l.length := by omega
      subst hk
      have e1 : decide (I64 l.length < I64 l.length) = false := dec_f (fun h => by have := (i64_lt (by omega) (by omega)).1 h; omega)
      rw [e1, oite_f, List.drop_eq_nil_of_le (Nat.le_refl _)]
      simp
theorem ref_fine (n : Nat) (hn : 1200 ≤ n) {y : FrT} {b : List UInt8} (h : Fine y b) : F6 n y = some (b ++ l4 (b4 (Crc.sum b)), ()) := by
  have hl := h.len
  have fin : F6_J7 n b = some (b ++ l4 (b4 (Crc.sum b)), ()) := by
    unfold F6_J7
    rw [sum_ref n b (by omega) (by omega), obind_s, f9, obind_s]
    dsimp only
    rw [ble_t (by simp [l4]; omega), oite_t]
  unfold F6
  rw [ojoinA_eq]
  cases h with
  | data f t ep sq x hN he he1 hs hs1 hx =>
    unfold frI
    dsimp only
    have h1 := enc_len ep
    have h2 := enc_len sq
    have h3 := hx.len.1
    have h3b := hx.len.2
    have h4 := hx.rule
    have h5 := hx.labs
    have e : decide ((1 : UInt8) = 1) = true := rfl
    rw [e, oite_t, ref_spec n (by omega), obind_s]
    dsimp only
    rw [ble_t (by simp; omega), oite_t, ref_spec n (by omega), obind_s]
    dsimp only
    rw [ble_t (by simp; omega), oite_t, it_ref n x (by omega) (by omega) (by omega), obind_s]
    dsimp only
    rw [ble_t (by simp; omega), oite_t]
    have : ([183, 1, f, t] ++ enc ep ++ enc sq ++ itB x : List UInt8) = [183, 1, f, t] ++ (enc ep ++ (enc sq ++ itB x)) := by simp
    rw [this]
    exact fin
  | ack f t ep cu bi li hN he he1 hc' hl' hl1 =>
    unfold frI
    dsimp only
    have e : decide ((2 : UInt8) = 1) = false := rfl
    have e2 : decide ((2 : UInt8) = 2) = true := rfl
    rw [e, oite_f, e2, oite_t]
    have := nums_loop n (by omega) (F6_J7 n) [ep, cu, bi, li] (by simp) n 0 [183, 2, f, t] (by simp) (by simp; omega) (by simp)
    have h0 : (0 : Int64) = I64 0 := rfl
    rw [h0, this]
    have : ([183, 2, f, t] ++ ([ep, cu, bi, li].drop 0).flatMap enc : List UInt8) = [183, 2, f, t] ++ (enc ep ++ (enc cu ++ (enc bi ++ enc li))) := by simp
    rw [this]
    exact fin
  | alive f t hN =>
    unfold frI
    exact fin
theorem one16 (x : UInt16) : Num (1 + UInt64.ofInt (x.toNat : Int)) ∧ Pos (1 + UInt64.ofInt (x.toNat : Int)) := by
  have h := u64of16 x
  have hx := x.toNat_lt
  have h1 : (1 + UInt64.ofInt (x.toNat : Int)).toNat = 1 + x.toNat := by
    rw [UInt64.toNat_add, h]
    have : (1 : UInt64).toNat = 1 := rfl
    omega
  constructor
  · apply dec_f; rw [UInt64.lt_iff_toNat_lt, h1]
    have : (1099511627776 : UInt64).toNat = 1099511627776 := rfl
    omega
  · apply dec_f; rw [UInt64.lt_iff_toNat_lt, h1]
    have : (1 : UInt64).toNat = 1 := rfl
    omega
theorem num16 (x : UInt16) : Num (UInt64.ofInt (x.toNat : Int)) := by
  have h := u64of16 x
  have hx := x.toNat_lt
  apply dec_f; rw [UInt64.lt_iff_toNat_lt, h]
  have : (1099511627776 : UInt64).toNat = 1099511627776 := rfl
  omega
theorem node32 (x : UInt8) : decide ((32 : UInt8) ≤ x % 32) = false := by
  have := byte_all (fun x => !decide ((32 : UInt8) ≤ x % 32)) (by decide +kernel) x
  simpa using this
theorem node_next (x : UInt8) : decide (x % 32 = (x % 32 + 1) % 32) = false := by
  have := byte_all (fun x => !decide (x % 32 = (x % 32 + 1) % 32)) (by decide +kernel) x
  simpa using this
theorem kind3 (x : UInt8) : 1 + x % 3 = 1 ∨ 1 + x % 3 = 2 ∨ 1 + x % 3 = 3 := by
  have := byte_all (fun x => decide (1 + x % 3 = 1 ∨ 1 + x % 3 = 2 ∨ 1 + x % 3 = 3)) (by decide +kernel) x
  simpa using this
theorem frame_fine (n : Nat) (hn : 20 < n) (s : sig7.In) : ∃ y b, F7 n s = some (y, ()) ∧ Fine y b := by
  obtain ⟨s0, s1, s2, s3, s4, s5, s6, s7, s8, s9, s10, s11, s12, s13, s14, s15, s16, s17, s18⟩ := s
  have fin : ∀ f t, Node f t → ∃ y b, F7_J7 n s0 s1 s2 s3 s4 s5 s6 s7 s8 s9 s10 s11 s12 s13 s14 s15 s16 s17 s18 0 0 0 0 0 false 0 0 0 [] 0 0 0 0 0 0 0 0 0 0 (1 + s0 % 3) f t 0 0 false 0 0 0 [] 0 0 0 0 0 0 0 0 0 0 = some (y, ()) ∧ Fine y b := fun f t hN => by
    unfold F7_J7
    rcases kind3 s0 with h | h | h
    · rw [h]
      obtain ⟨x, hx, hs⟩ := item_small n hn (s8, s9, s10, s11, s12, s13, s14, s15, s16, s17, s18)
      refine ⟨frI 1 f t (1 + UInt64.ofInt (s3.toNat : Int)) (1 + UInt64.ofInt (s4.toNat : Int)) x 0 0 0, _, ?_, .data f t _ _ x hN (one16 s3).1 (one16 s3).2 (one16 s4).1 (one16 s4).2 hs.okay⟩
      rw [hx]
      rfl
    · rw [h]
      exact ⟨frI 2 f t (1 + UInt64.ofInt (s3.toNat : Int)) 0 zeroI (UInt64.ofInt (s5.toNat : Int)) s7 (1 + UInt64.ofInt (s6.toNat : Int)), _, rfl, .ack f t _ _ _ _ hN (one16 s3).1 (one16 s3).2 (num16 s5) (one16 s6).1 (one16 s6).2⟩
    · rw [h]
      exact ⟨frI 3 f t 0 0 zeroI 0 0 0, _, rfl, .alive f t hN⟩
  unfold F7
  rw [ojoinA_eq]
  dsimp only
  by_cases h : s1 % 32 = s2 % 32
  · rw [dec_t h, oite_t]
    exact fin _ _ ⟨node32 _, node32 _, by rw [h]; exact node_next _⟩
  · rw [dec_f h, oite_f]
    exact fin _ _ ⟨node32 _, node32 _, dec_f h⟩
set_option maxRecDepth 100000
theorem enc_ok (n : Nat) (hn : 1200 ≤ n) {y : FrT} {b : List UInt8} (h : Fine y b) (x : Option TabT) (s c : UInt64) (hx : IsTab x s c) :
    F12 n (x, y) = some ((b ++ l4 (b4 (Crc.sum b)), 0), used (s + 1) (cnt c b)) := by
  obtain ⟨⟨t0, t1, t2⟩, ta, e⟩ := hx.some
  exact enc_fine n hn h x s c hx t0 t1 t2 ta s c e
theorem awake (n : Nat) (hn : 1200 ≤ n) : F4 n () = some (true, ()) := by
  obtain ⟨x, h1, h2⟩ := f11 n
  have h := enc_ok n hn (.alive 2 1 ⟨rfl, rfl, rfl⟩) x 0 0 h2
  unfold frI zeroI at h
  dsimp only at h
  unfold F4
  rw [h1, obind_s]
  dsimp only
  rw [h, obind_s]
  rfl
abbrev zeroF : FrT := (0, 0, 0, 0, 0, false, 0, 0, 0, [], [], 0, 0, 0, 0, 0, 0, 0, 0, 0, 0)
theorem dec_nil (n : Nat) (b : List UInt8) : F9 n (none, b) = some ((zeroF, 1), none) := rfl
theorem dec_short (n : Nat) (b : List UInt8) (h : b.length < 8) (x : Option TabT) (s c : UInt64) (hx : IsTab x s c) : F9 n (x, b) = some ((zeroF, 3), x) := by
  obtain ⟨⟨t0, t1, t2⟩, ta, rfl⟩ := hx.some
  unfold F9
  dsimp only
  have e : decide (I64 (List.length b) < 8) = true := dec_t ((i64_lt (a := b.length) (b := 8) (by omega) (by omega)).2 h)
  rw [oelim_s, e, oite_t]
theorem dec_sum (n : Nat) (b : List UInt8) (h : 8 ≤ b.length) (hb : b.length ≤ 100000) (hn : b.length + 300 ≤ n) (ho : opens b = false) (x : Option TabT) (s c : UInt64) (hx : IsTab x s c) : ∃ z, F9 n (x, b) = some ((zeroF, 10), z) := by
  obtain ⟨z, c', h1, _⟩ := f14 n x s c hx b hb hn
  obtain ⟨⟨t0, t1, t2⟩, ta, rfl⟩ := hx.some
  rw [ho] at h1
  unfold F9
  dsimp only
  have e : decide (I64 (List.length b) < 8) = false := dec_f (fun h' => by have := (i64_lt (a := b.length) (b := 8) (by omega) (by omega)).1 h'; omega)
  rw [oelim_s, e, oite_f, h1, obind_s]
  exact ⟨z, rfl⟩
theorem min7 {c : Nat} (h : ¬ 100 < c) : IK.minI IntKind.i64 (I64 c) 7 = I64 (min c 7) := by
  unfold IK.minI
  have e : IK.ltb .i64 (7 : Int64) (I64 c) = decide (7 < c) := by
    show decide ((7 : Int64) < I64 c) = _
    rw [decide_eq_decide]; exact i64_lt (a := 7) (b := c) (by omega) (by omega)
  rw [e]
  by_cases h7 : 7 < c
  · rw [dec_t h7, Nat.min_eq_right (by omega)]; rfl
  · rw [dec_f h7, Nat.min_eq_left (by omega)]
/-- One bit turned: the bytes don't open. -/
theorem turned_shut (b : List UInt8) (i j : Nat) (hi : i < (b ++ l4 (b4 (Crc.sum b))).length) (d : UInt8) (hd : d.toNat = 2 ^ j) :
    opens ((b ++ l4 (b4 (Crc.sum b))).set i ((b ++ l4 (b4 (Crc.sum b)))[i] ^^^ d)) = false := by
  have hl : 4 ≤ (b ++ l4 (b4 (Crc.sum b))).length := by simp [l4]
  have hop := opens_reg (b ++ l4 (b4 (Crc.sum b))) hl
  rw [(opens_seal b).1] at hop
  have hop := of_decide_eq_true hop.symm
  rw [opens_reg _ (by rw [List.length_set]; exact hl), reg_set _ _ _ hi, hop]
  apply dec_f
  intro he
  have h1 : stpN 32 4294967295 ^^^ (stpN 32 4294967295 ^^^ stpN (8 * ((b ++ l4 (b4 (Crc.sum b))).length - i)) (u32c d)) = stpN 32 4294967295 ^^^ stpN 32 4294967295 := by rw [he]
  rw [← UInt32.xor_assoc, UInt32.xor_self, UInt32.zero_xor] at h1
  have h2 := stpN_ne _ _ h1
  have h3 := congrArg UInt32.toNat h2
  rw [byte32, hd] at h3
  have := Nat.two_pow_pos j
  have h0 : (0 : UInt32).toNat = 0 := rfl
  omega
theorem and_step (p q : Prop) [Decidable p] [Decidable q] : oite (decide p) (some (decide q, ())) (some (false, ())) = (some (decide (p ∧ q), ()) : Option (Bool × Unit)) := by
  by_cases h : p <;> simp [h, oite]
theorem same_fr (n : Nat) (k f t k' f' t' : UInt8) (ep sq ep' sq' : UInt64) (x x' : ItT) (cu bi li cu' bi' li' : UInt64) (hx : x.2.2.2.2.2.1.length < 2 ^ 63) (hx' : x'.2.2.2.2.2.1.length < 2 ^ 63) (hn : x.2.2.2.2.2.1.length < n) :
    ∃ r, F11 n (frI k f t ep sq x cu bi li, frI k' f' t' ep' sq' x' cu' bi' li') = some (r, ()) ∧ (r = true ↔ normI x = normI x' ∧ k = k' ∧ f = f' ∧ t = t' ∧ ep = ep' ∧ sq = sq' ∧ cu = cu' ∧ bi = bi' ∧ li = li') := by
  obtain ⟨r, h1, h2⟩ := same12 n x x' hx hx' hn
  unfold F11 frI
  dsimp only
  rw [h1, obind_s]
  cases r with
  | false => exact ⟨false, rfl, by simp; intro h; exact absurd (h2.2 h) (by simp)⟩
  | true =>
    have hh := h2.1 rfl
    refine ⟨decide (k = k' ∧ f = f' ∧ t = t' ∧ ep = ep' ∧ sq = sq' ∧ cu = cu' ∧ bi = bi' ∧ li = li'), ?_, ?_⟩
    · rw [oite_t, and_step, and_step, and_step, and_step, and_step, and_step, and_step]
    · rw [decide_eq_true_iff]
      exact ⟨fun h => ⟨hh, h⟩, fun h => h.2⟩
theorem Okay.fit63 {x : ItT} (h : Okay x) : Fit63 x := ⟨by have := h.rule; omega, by have := h.labs; omega, fun p hp => by have := h.each p hp; omega⟩
theorem same_fine (n : Nat) (hn : 20 < n) {y z : FrT} {b c : List UInt8} (hy : Fine y b) (hz : Fine z c) : ∃ r, F11 n (y, z) = some (r, ()) ∧ (r = true ↔ b = c) := by
  have l0 : zeroI.2.2.2.2.2.1.length < n := by unfold zeroI; simp; omega
  have l1 : zeroI.2.2.2.2.2.1.length < 2 ^ 63 := by unfold zeroI; simp
  cases hy with
  | data f t ep sq x hN he he1 hs hs1 hx =>
    have lx := hx.labs
    cases hz with
    | data f' t' ep' sq' x' hN' he' he1' hs' hs1' hx' =>
      have lx' := hx'.labs
      obtain ⟨r, h1, h2⟩ := same_fr n 1 f t 1 f' t' ep sq ep' sq' x x' 0 0 0 0 0 0 (by omega) (by omega) (by omega)
      refine ⟨r, h1, h2.trans ⟨fun ⟨h, _, hf, ht, hep, hsq, _⟩ => ?_, fun h => ?_⟩⟩
      · subst hf ht hep hsq
        rw [← itB_norm x, h, itB_norm x']
      · simp only [List.cons_append, List.nil_append, List.cons.injEq, true_and] at h
        obtain ⟨hf, ht, h⟩ := h
        obtain ⟨hep, h⟩ := enc_inj h
        obtain ⟨hsq, h⟩ := enc_inj h
        exact ⟨itB_inj hx.fit63 hx'.fit63 h, rfl, hf, ht, hep, hsq, rfl, rfl, rfl⟩
    | ack f' t' ep' cu' bi' li' =>
      obtain ⟨r, h1, h2⟩ := same_fr n 1 f t 2 f' t' ep sq ep' 0 x zeroI 0 0 0 cu' bi' li' (by omega) l1 (by omega)
      exact ⟨r, h1, h2.trans ⟨fun h => absurd h.2.1 (by decide), fun h => by simp at h⟩⟩
    | alive f' t' =>
      obtain ⟨r, h1, h2⟩ := same_fr n 1 f t 3 f' t' ep sq 0 0 x zeroI 0 0 0 0 0 0 (by omega) l1 (by omega)
      exact ⟨r, h1, h2.trans ⟨fun h => absurd h.2.1 (by decide), fun h => by simp at h⟩⟩
  | ack f t ep cu bi li =>
    cases hz with
    | data f' t' ep' sq' x' hN' he' he1' hs' hs1' hx' =>
      have lx' := hx'.labs
      obtain ⟨r, h1, h2⟩ := same_fr n 2 f t 1 f' t' ep 0 ep' sq' zeroI x' cu bi li 0 0 0 l1 (by omega) l0
      exact ⟨r, h1, h2.trans ⟨fun h => absurd h.2.1 (by decide), fun h => by simp at h⟩⟩
    | ack f' t' ep' cu' bi' li' =>
      obtain ⟨r, h1, h2⟩ := same_fr n 2 f t 2 f' t' ep 0 ep' 0 zeroI zeroI cu bi li cu' bi' li' l1 l1 l0
      refine ⟨r, h1, h2.trans ⟨fun ⟨_, _, hf, ht, hep, _, hc, hb, hl⟩ => ?_, fun h => ?_⟩⟩
      · subst hf ht hep hc hb hl; rfl
      · simp only [List.cons_append, List.nil_append, List.cons.injEq, true_and] at h
        obtain ⟨hf, ht, h⟩ := h
        obtain ⟨hep, h⟩ := enc_inj h
        obtain ⟨hc, h⟩ := enc_inj h
        obtain ⟨hb, h⟩ := enc_inj h
        have h' : enc li ++ [] = enc li' ++ [] := by rw [h]
        obtain ⟨hl, _⟩ := enc_inj h'
        exact ⟨rfl, rfl, hf, ht, hep, rfl, hc, hb, hl⟩
    | alive f' t' =>
      obtain ⟨r, h1, h2⟩ := same_fr n 2 f t 3 f' t' ep 0 0 0 zeroI zeroI cu bi li 0 0 0 l1 l1 l0
      exact ⟨r, h1, h2.trans ⟨fun h => absurd h.2.1 (by decide), fun h => by simp at h⟩⟩
  | alive f t =>
    cases hz with
    | data f' t' ep' sq' x' hN' he' he1' hs' hs1' hx' =>
      have lx' := hx'.labs
      obtain ⟨r, h1, h2⟩ := same_fr n 3 f t 1 f' t' 0 0 ep' sq' zeroI x' 0 0 0 0 0 0 l1 (by omega) l0
      exact ⟨r, h1, h2.trans ⟨fun h => absurd h.2.1 (by decide), fun h => by simp at h⟩⟩
    | ack f' t' ep' cu' bi' li' =>
      obtain ⟨r, h1, h2⟩ := same_fr n 3 f t 2 f' t' 0 0 ep' 0 zeroI zeroI 0 0 0 cu' bi' li' l1 l1 l0
      exact ⟨r, h1, h2.trans ⟨fun h => absurd h.2.1 (by decide), fun h => by simp at h⟩⟩
    | alive f' t' =>
      obtain ⟨r, h1, h2⟩ := same_fr n 3 f t 3 f' t' 0 0 0 0 zeroI zeroI 0 0 0 0 0 0 l1 l1 l0
      refine ⟨r, h1, h2.trans ⟨fun ⟨_, _, hf, ht, _⟩ => by rw [hf, ht], fun h => ?_⟩⟩
      simp only [List.cons.injEq, true_and, and_true] at h
      exact ⟨rfl, rfl, h.1, h.2, rfl, rfl, rfl, rfl, rfl⟩
theorem sealed_inj {b c : List UInt8} (h : b ++ l4 (b4 (Crc.sum b)) = c ++ l4 (b4 (Crc.sum c))) : b = c := by
  have h1 := congrArg List.length h
  rw [List.length_append, List.length_append] at h1
  have : ∀ q, (l4 q).length = 4 := fun q => rfl
  rw [this, this] at h1
  exact (List.append_inj h (by omega)).1
end Go.Proofs.YtgknjddbbehboaaGreat
