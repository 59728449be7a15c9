/- GroupNone: a right list of nodes is a tree. -/
import Derived.Test.YtcfckkmiaeegpaaNodes
open Go Go.Sx
namespace Go.Proofs.Ytcfckkmiaeegpaa
def KeyA : List (List UInt8) := [[97], [98], [114, 117, 108, 101], [111, 114, 105, 103, 105, 110], [110, 111, 100, 101]]
def ValA : List (List UInt8) := [[120], [121], [48], [104, 111, 116], [49]]
theorem mod5 (c : UInt8) : c % 5 = 0 ∨ c % 5 = 1 ∨ c % 5 = 2 ∨ c % 5 = 3 ∨ c % 5 = 4 := by
  have h : (c % 5).toNat < 5 := by rw [UInt8.toNat_mod]; exact Nat.mod_lt _ (by decide)
  have e : c % 5 = UInt8.ofNat (c % 5).toNat := (UInt8.ofNat_toNat).symm
  generalize (c % 5).toNat = j at e h
  match j, h with
  | 0, _ => exact .inl e
  | 1, _ => exact .inr (.inl e)
  | 2, _ => exact .inr (.inr (.inl e))
  | 3, _ => exact .inr (.inr (.inr (.inl e)))
  | 4, _ => exact .inr (.inr (.inr (.inr e)))
structure AskOK (k : Nat) (a : AskP) : Prop where
  chk : F54 (k + 30) a = some (0, ())
  val : a.2.2.length ≤ 6
def askOf (x : UInt8 × UInt8 × UInt8) : AskP := (KeyA[(x.1 % 5).toNat]!, 1 + x.2.1 % 5, if 4 ≤ 1 + x.2.1 % 5 then [] else ValA[(x.2.2 % 5).toNat]!)
theorem ask_eq (n : Nat) (x : UInt8 × UInt8 × UInt8) : F53 n x = some (askOf x, ()) := by
  obtain ⟨x0, x1, x2⟩ := x
  unfold F53 askOf
  simp only
  rcases mod5 x0 with h | h | h | h | h <;> rw [h] <;> rcases mod5 x1 with h | h | h | h | h <;> rw [h] <;> rcases mod5 x2 with h | h | h | h | h <;> rw [h] <;> rfl
theorem ask_ok (k : Nat) (x : UInt8 × UInt8 × UInt8) : AskOK k (askOf x) := by
  obtain ⟨x0, x1, x2⟩ := x
  unfold askOf
  simp only
  rcases mod5 x0 with h | h | h | h | h <;> rw [h] <;> rcases mod5 x1 with h | h | h | h | h <;> rw [h] <;> rcases mod5 x2 with h | h | h | h | h <;> rw [h] <;> exact ⟨by kernel_rfl, by decide⟩
theorem asks_loop (k : Nat) (asks : List AskP) (hn : asks.length ≤ 8) (ha : ∀ a ∈ asks, AskOK k a) (q : Nat) : ∀ j, j ≤ asks.length → asks.length - j < q → F40_R29 (k + 30) q asks (I64 asks.length) (I64 j) = some (0, ()) := by
  induction q with
  | zero => intros; omega
  | succ q ih =>
    intro j hj hq
    rw [F40_R29_s]
    unfold F40_L29
    by_cases hlt : j < asks.length
    · rw [dec_t ((i64_lt (by omega) (by omega)).2 hlt), oite_t, at_i64_lt (by omega) hlt]
      simp only [obind_s]
      rw [show F54 (k + 30) (asks[j].1, asks[j].2.1, asks[j].2.2) = some (0, ()) from (ha _ (List.getElem_mem _)).chk]
      simp only [obind_s]
      rw [show (!decide True) = false from rfl, oite_f, i64_succ]
      exact ih (j + 1) (by omega) (by omega)
    · rw [dec_f (fun q => hlt ((i64_lt (by omega) (by omega)).1 q)), oite_f]
theorem asks_chk (k : Nat) (asks : List AskP) (hn : asks.length ≤ 8) (ha : ∀ a ∈ asks, AskOK k a) : F40 (k + 30) asks = some (0, ()) := by
  unfold F40
  rw [dec_f (show ¬ 8 < Int64.ofInt ↑asks.length from fun q => by have := (i64_lt (a := 8) (by omega) (by omega)).1 q; omega), oite_f]
  exact asks_loop k asks hn ha (k + 30) 0 (by omega) (by omega)
def ToA : List (List UInt8) := [[111, 112, 115], [109, 101], [116, 101, 97, 109, 45, 49]]
def KeyB : List (List UInt8) := [[97], [98], [110, 111, 100, 101], [114, 117, 108, 101]]
def byOf (b0 b1 b2 b3 : Bool) : List (List UInt8) := (if b0 then [[97]] else []) ++ (if b1 then [[98]] else []) ++ (if b2 then [[110, 111, 100, 101]] else []) ++ (if b3 then [[114, 117, 108, 101]] else [])
structure NodeOK (k : Nat) (nd : Node) : Prop where
  asks : nd.1.length ≤ 2
  ask : ∀ a ∈ nd.1, AskOK k a
  to : nd.2.1 ∈ ToA
  bys : ∃ b0 b1 b2 b3, nd.2.2.1 = byOf b0 b1 b2 b3
  t0 : nd.2.2.2.1.toNat ≤ 100
  t1 : 1 ≤ nd.2.2.2.2.1.toNat
  t2 : nd.2.2.2.2.1.toNat ≤ nd.2.2.2.2.2.1.toNat
  t3 : nd.2.2.2.2.2.1.toNat ≤ 100
theorem by_len (b0 b1 b2 b3 : Bool) : (byOf b0 b1 b2 b3).length ≤ 4 := by cases b0 <;> cases b1 <;> cases b2 <;> cases b3 <;> decide
theorem NodeOK.good {k : Nat} {nd : Node} (h : NodeOK k nd) : GoodN nd := by
  obtain ⟨b0, b1, b2, b3, e⟩ := h.bys
  exact ⟨by have := h.asks; omega, fun a ha => (h.ask a ha).val, by rw [e]; have := by_len b0 b1 b2 b3; omega⟩
theorem rest_ok (k : Nat) (b0 b1 b2 b3 : Bool) (to : List UInt8) (ht : to ∈ ToA) (asks : List AskP) (w b rp : UInt64) (more : Bool) (ab : Int64) :
    (obind (F41 (k + 30) to) fun x_2 => oite (!x_2.1) (some (8, ())) (oite (decide (8 < Int64.ofInt ↑(byOf b0 b1 b2 b3).length)) (some (5, ())) (F24_R125 (k + 30) (k + 30) (byOf b0 b1 b2 b3) (Int64.ofInt ↑(byOf b0 b1 b2 b3).length) 0 asks to (byOf b0 b1 b2 b3) w b rp more ab)))
      = obind (F43 (k + 30) (w, b, rp)) fun x_3 => some (x_3.1, ()) := by
  simp only [ToA, List.mem_cons, List.not_mem_nil, or_false] at ht
  rcases ht with rfl | rfl | rfl <;> cases b0 <;> cases b1 <;> cases b2 <;> cases b3 <;> kernel_rfl
theorem node_chk (k : Nat) (nd : Node) (h : NodeOK k nd) : F24 (k + 30) nd = some (0, ()) := by
  obtain ⟨b0, b1, b2, b3, e⟩ := h.bys
  have h24 := asks_chk k nd.1 (by have := h.asks; omega) h.ask
  have hr := rest_ok k b0 b1 b2 b3 nd.2.1 h.to nd.1 nd.2.2.2.1 nd.2.2.2.2.1 nd.2.2.2.2.2.1 nd.2.2.2.2.2.2.1 nd.2.2.2.2.2.2.2
  rw [show F43 (k + 30) (nd.2.2.2.1, nd.2.2.2.2.1, nd.2.2.2.2.2.1) = some (0, ()) from times_ok (k + 20) _ _ _ h.t0 h.t1 h.t2 h.t3] at hr
  unfold F24
  rw [h24]
  simp only [obind_s]
  rw [show (!decide True) = false from rfl, oite_f, e]
  exact hr
structure Right (k : Nat) (out : List Node) (par dep : Nat → Nat) : Prop where
  len : out.length ≤ 12
  node : ∀ nd ∈ out, NodeOK k nd
  first : ∀ (h : 0 < out.length), out[0].2.2.2.2.2.2.2 = -1 ∧ out[0].1 = [] ∧ out[0].2.2.2.2.2.2.1 = false
  dep0 : dep 0 = 1
  down : ∀ x, 0 < x → par x < x
  above : ∀ (i : Nat) (h : i < out.length), 0 < i → out[i].2.2.2.2.2.2.2 = I64 (par i)
  deps : ∀ i, 0 < i → i < out.length → dep i = dep (par i) + 1
  low : ∀ i, i < out.length → dep i ≤ 8
theorem depth_loop {k : Nat} {out : List Node} {par dep : Nat → Nat} (R : Right k out par dep) (tl : List Node) (ht : tl.length ≤ out.length) (hpre : ∀ (i : Nat) (h : i < tl.length), tl[i] = out[i]'(by omega)) (q : Nat) : ∀ (i c : Nat), i < tl.length → i + 1 < q → c + i ≤ 40 → F25_R14 q (I64 i) (I64 c) (some tl) = some (I64 (c + dep i), some tl) := by
  have hlen := R.len
  induction q with
  | zero => intros; omega
  | succ q ih =>
    intro i c hi hq hc
    rw [F25_R14_s]
    unfold F25_L14
    obtain ⟨i1, i2⟩ := idx_i64 (l := tl) (k := i) hi (by omega)
    rw [dec_t (show (0 : Int64) ≤ I64 i from (i64_le (a := 0) (by omega) (by omega)).2 (by omega)), oite_t]
    simp only [obind_s]
    rw [i1, oite_t, i2]
    simp only [obind_s, i64_succ]
    rw [hpre i hi]
    by_cases h0 : i = 0
    · subst h0
      rw [(R.first (by omega)).1, R.dep0]
      obtain ⟨q, rfl⟩ : ∃ p, q = p + 1 := ⟨q - 1, by omega⟩
      rw [F25_R14_s]
      unfold F25_L14
      rw [show decide ((0 : Int64) ≤ -1) = false from rfl, oite_f]
    · rw [R.above i (by omega) (by omega), R.deps i (by omega) (by omega)]
      have hp := R.down i (by omega)
      rw [ih (par i) (c + 1) (by omega) (by omega) (by omega), show c + 1 + dep (par i) = c + (dep (par i) + 1) by omega]
theorem new_loop2 (k : Nat) {out : List Node} {par dep : Nat → Nat} (R : Right (k + 10) out par dep) (q : Nat) : ∀ j, j ≤ out.length → out.length - j < q → F11_R61 (k + 40) q out (I64 out.length) (I64 j) (out.take j) = some ((some out, 0), ()) := by
  have hlen := R.len
  induction q with
  | zero => intros; omega
  | succ q ih =>
    intro j hj hq
    rw [F11_R61_s]
    unfold F11_L61
    by_cases hlt : j < out.length
    · rw [dec_t ((i64_lt (by omega) (by omega)).2 hlt), oite_t, at_i64_lt (by omega) hlt]
      simp only [obind_s, ojoinA_eq]
      have hok := R.node out[j] (List.getElem_mem _)
      have hg := hok.good
      have g1 := hg.asks
      have g2 := hg.bys
      rw [show F24 (k + 40) (out[j].1, out[j].2.1, out[j].2.2.1, out[j].2.2.2.1, out[j].2.2.2.2.1, out[j].2.2.2.2.2.1, out[j].2.2.2.2.2.2.1, out[j].2.2.2.2.2.2.2) = some (0, ()) from node_chk (k + 10) out[j] hok]
      simp only [obind_s]
      rw [show (!decide True) = false from rfl, oite_f]
      have hjz : decide (I64 j = 0) = decide (j = 0) := by rw [decide_eq_decide]; exact i64_eq (b := 0) (by omega) (by omega)
      have hjp : decide ((0 : Int64) < I64 j) = decide (0 < j) := by rw [decide_eq_decide]; exact i64_lt (a := 0) (by omega) (by omega)
      have c26 : F26 (k + 40) out[j].1 = some (out[j].1, ()) := by
        rw [show F26 (k + 40) out[j].1 = oite (Nat.ble out[j].1.length 4294967296) (some (out[j].1, ())) none from rfl, ble_t (by omega)]; rfl
      have c27 : F27 (k + 40) out[j].2.2.1 = some (out[j].2.2.1, ()) := by
        rw [show F27 (k + 40) out[j].2.2.1 = oite (Nat.ble out[j].2.2.1.length 4294967296) (some (out[j].2.2.1, ())) none from rfl, ble_t (by omega)]; rfl
      have tk : out.take (j + 1) = out.take j ++ [out[j]] := by rw [List.take_add_one, List.getElem?_eq_getElem hlt]; rfl
      have fin : ∀ (d : Int64) (_ : F25 (k + 40) (some (out.take j), out[j].2.2.2.2.2.2.2) = some (d, some (out.take j))) (_ : ¬ 8 ≤ d),
          F11_J31451 (k + 40) (F11_R61 (k + 40) q) out (I64 out.length) (I64 j) false out[j].1 out[j].2.1 out[j].2.2.1 out[j].2.2.2.1 out[j].2.2.2.2.1 out[j].2.2.2.2.2.1 out[j].2.2.2.2.2.2.1 out[j].2.2.2.2.2.2.2 (out.take j) = some ((some out, 0), ()) := by
        intro d hd h8
        unfold F11_J31451
        rw [oite_f, hd]
        simp only [obind_s]
        rw [dec_f h8, oite_f, c26]
        simp only [obind_s]
        rw [c27]
        simp only [obind_s]
        rw [ble_t (by simp; omega), oite_t, i64_succ]
        have := ih (j + 1) (by omega) (by omega)
        rw [tk] at this
        exact this
      rw [hjz]
      by_cases h0 : j = 0
      · subst h0
        obtain ⟨f1, f2, f3⟩ := R.first hlt
        rw [show decide (0 = 0) = true from rfl, oite_t, f1, show (!decide ((-1 : Int64) = -1)) = false from rfl, oite_f, f2, show decide ((0 : Int64) < Int64.ofInt ↑([] : List AskP).length) = false from rfl, oite_f, f3]
        unfold F11_J7862
        rw [oite_f]
        simp only [ojoinA_eq]
        rw [hjp, show decide (0 < 0) = false from rfl, oite_f]
        have := fin 0 (by
          rw [f1]
          show F25_R14 (k + 40) (-1) 0 (some (out.take 0)) = _
          rw [F25_R14_s]
          unfold F25_L14
          rw [show decide ((0 : Int64) ≤ -1) = false from rfl, oite_f]) (by decide)
        rw [f1, f2, f3] at this
        exact this
      · rw [dec_f h0, oite_f]
        unfold F11_J7862
        rw [oite_f]
        simp only [ojoinA_eq]
        have hab := R.above j hlt (by omega)
        have hp := R.down j (by omega)
        have hd := R.deps j (by omega) hlt
        have hlow := R.low j hlt
        rw [hjp, dec_t (show 0 < j by omega), oite_t]
        rw [show decide (out[j].2.2.2.2.2.2.2 < 0) = false from by
          rw [hab]; exact dec_f (fun q => by have := (i64_lt (b := 0) (by omega) (by omega)).1 q; omega), oite_f]
        rw [show decide (I64 j ≤ out[j].2.2.2.2.2.2.2) = false from by
          rw [hab]; exact dec_f (fun q => by have := (i64_le (by omega) (by omega)).1 q; omega)]
        refine fin (I64 (dep (par j))) ?_ (fun q => by have := (i64_le (a := 8) (by omega) (by omega)).1 q; omega)
        rw [hab]
        have hl : (out.take j).length = j := by rw [List.length_take]; omega
        have := depth_loop R (out.take j) (by omega) (fun i hi => by rw [List.getElem_take]) (k + 40) (par j) 0 (by omega) (by omega) (by omega)
        rw [Nat.zero_add] at this
        exact this
    · rw [dec_f (fun q => hlt ((i64_lt (by omega) (by omega)).1 q)), oite_f, List.take_of_length_le (by omega)]
theorem new_tree (k : Nat) {out : List Node} {par dep : Nat → Nat} (R : Right (k + 10) out par dep) (hne : 0 < out.length) : F11 (k + 40) out = some ((some out, 0), ()) ∧ Tree out par := by
  have hlen := R.len
  refine ⟨?_, ⟨hne, hlen, fun nd h => (R.node nd h).good, R.down, R.above⟩⟩
  unfold F11
  rw [dec_f (show ¬ Int64.ofInt ↑out.length = 0 from fun q => by have := (i64_eq (b := 0) (by omega) (by omega)).1 q; omega), oite_f]
  rw [dec_f (show ¬ 32 < Int64.ofInt ↑out.length from fun q => by have := (i64_lt (a := 32) (by omega) (by omega)).1 q; omega), oite_f]
  exact new_loop2 k R (k + 40) 0 (by omega) (by omega)
end Go.Proofs.Ytcfckkmiaeegpaa
open Go Go.Sx
namespace Go.Proofs.Ytcfckkmiaeegpaa
theorem Right.push0 {k : Nat} {par dep : Nat → Nat} (R : Right k [] par dep) (nd : Node) (h : NodeOK k nd) (h1 : nd.2.2.2.2.2.2.2 = -1) (h2 : nd.1 = []) (h3 : nd.2.2.2.2.2.2.1 = false) : Right k [nd] par dep where
  len := by simp
  node := fun x hx => by rw [List.mem_singleton] at hx; subst hx; exact h
  first := fun _ => ⟨h1, h2, h3⟩
  dep0 := R.dep0
  down := R.down
  above := fun i hi h0 => by simp at hi; omega
  deps := fun i h0 hi => by simp at hi; omega
  low := fun i hi => by
    have : i = 0 := by simp at hi; omega
    subst this; rw [R.dep0]; omega
theorem Right.push {k : Nat} {out : List Node} {par dep : Nat → Nat} (R : Right k out par dep) (h0 : 0 < out.length) (hl : out.length < 12) (nd : Node) (h : NodeOK k nd) (p : Nat) (hp : p < out.length) (hab : nd.2.2.2.2.2.2.2 = I64 p) (hd : dep p + 1 ≤ 8) :
    Right k (out ++ [nd]) (fun x => if x = out.length then p else par x) (fun x => if x = out.length then dep p + 1 else dep x) where
  len := by simp; omega
  node := fun x hx => by
    rcases List.mem_append.1 hx with hx | hx
    · exact R.node x hx
    · rw [List.mem_singleton] at hx; subst hx; exact h
  first := fun _ => by
    rw [List.getElem_append_left h0]
    exact R.first h0
  dep0 := by
    show (if 0 = out.length then dep p + 1 else dep 0) = 1
    rw [if_neg (by omega)]; exact R.dep0
  down := fun x hx => by
    show (if x = out.length then p else par x) < x
    by_cases hq : x = out.length
    · rw [if_pos hq]; omega
    · rw [if_neg hq]; exact R.down x hx
  above := fun i hi hpos => by
    show _ = I64 (if i = out.length then p else par i)
    by_cases hq : i = out.length
    · subst hq
      rw [if_pos rfl, List.getElem_append_right (by omega)]
      simpa using hab
    · rw [List.length_append, List.length_singleton] at hi
      rw [if_neg hq, List.getElem_append_left (by omega)]
      exact R.above i (by omega) hpos
  deps := fun i hpos hi => by
    rw [List.length_append, List.length_singleton] at hi
    show (if i = out.length then dep p + 1 else dep i) = (if (if i = out.length then p else par i) = out.length then dep p + 1 else dep (if i = out.length then p else par i)) + 1
    by_cases hq : i = out.length
    · rw [if_pos hq, if_pos hq, if_neg (by omega)]
    · have := R.down i hpos
      rw [if_neg hq, if_neg hq, if_neg (by omega)]
      exact R.deps i hpos (by omega)
  low := fun i hi => by
    rw [List.length_append, List.length_singleton] at hi
    show (if i = out.length then dep p + 1 else dep i) ≤ 8
    by_cases hq : i = out.length
    · rw [if_pos hq]; exact hd
    · rw [if_neg hq]; exact R.low i (by omega)
theorem i64_mod {a b : Nat} (ha : a < 2 ^ 62) (hb : b < 2 ^ 62) : I64 a % I64 b = I64 (a % b) := by
  apply Int64.toInt_inj.1
  have hm : a % b ≤ a := Nat.mod_le a b
  rw [Int64.toInt_mod, i64_toInt (by omega), i64_toInt (by omega), i64_toInt (by omega)]
  exact Int.ofNat_tmod a b
theorem asks2 (k n : Nat) (l : List (UInt8 × UInt8 × UInt8)) (hl : l.length < 2 ^ 63) (q : Nat) : ∀ (j : Nat) (out : List AskP), j ≤ l.length → l.length - j < q → out.length ≤ 2 → out.length ≤ j → (∀ a ∈ out, AskOK k a) →
    ∃ res, F34_R29 n q 2 l (I64 l.length) (I64 j) out = some (res, ()) ∧ res.length ≤ 2 ∧ ∀ a ∈ res, AskOK k a := by
  induction q with
  | zero => intros; omega
  | succ q ih =>
    intro j out hj hq h2 hoj ha
    rw [F34_R29_s]
    unfold F34_L29
    by_cases hlt : j < l.length
    · rw [dec_t ((i64_lt (by omega) (by omega)).2 hlt), oite_t, at_i64_lt (by omega) hlt]
      simp only [obind_s]
      have e : decide (I64 j < 2) = decide (j < 2) := by rw [decide_eq_decide]; exact i64_lt (b := 2) (by omega) (by omega)
      rw [e]
      by_cases hj2 : j < 2
      · rw [dec_t hj2, oite_t, show F53 n (l[j].1, l[j].2.1, l[j].2.2) = some (askOf l[j], ()) from ask_eq n l[j]]
        simp only [obind_s]
        rw [ble_t (by simp; omega), oite_t, i64_succ]
        exact ih (j + 1) _ (by omega) (by omega) (by simp; omega) (by simp; omega) (fun a h => by
          rcases List.mem_append.1 h with h | h
          · exact ha a h
          · rw [List.mem_singleton] at h; subst h; exact ask_ok k l[j])
      · rw [dec_f hj2, oite_f, i64_succ]
        exact ih (j + 1) out (by omega) (by omega) h2 (by omega) ha
    · rw [dec_f (fun q => hlt ((i64_lt (by omega) (by omega)).1 q)), oite_f]
      exact ⟨out, rfl, h2, ha⟩
abbrev Sm := List (UInt8 × UInt8 × UInt8) × UInt8 × UInt8 × UInt8 × UInt8 × UInt8 × Bool × UInt8
def bit (s2 : UInt8) (j : Nat) : Bool := decide (IK.shr .u8 s2 (j : Int) &&& 1 = 1)
theorem by_round (rec : List Sm → Int64 → Int64 → List Node → List Int64 → Option (List Node × Unit)) (m j : Nat) (hj : j < 4) (i : Int64) (t t1 t2) (out) (depth) (s0 s1) (s2 : UInt8) (s3 s4 s5 s6 s7 n0 n1 n3 n4 n5 n6 n7) (nl : List (List UInt8)) (hnl : nl.length ≤ 4) :
    F17_R125821 rec (m + 1) i t t1 t2 4 (I64 j) out depth s0 s1 s2 s3 s4 s5 s6 s7 n0 n1 n3 n4 n5 n6 n7 KeyB nl
      = F17_R125821 rec m i t t1 t2 4 (I64 (j + 1)) out depth s0 s1 s2 s3 s4 s5 s6 s7 n0 n1 n3 n4 n5 n6 n7 KeyB (nl ++ if bit s2 j then [KeyB[j]!] else []) := by
  rw [F17_R125821_s]
  unfold F17_L125821
  obtain ⟨i1, i2⟩ := idx_i64 (l := KeyB) (k := j) (by simpa [KeyB] using hj) (by omega)
  rw [dec_t (show I64 j < 4 from (i64_lt (b := 4) (by omega) (by omega)).2 hj), oite_t, i1, oite_t, i2]
  simp only [obind_s]
  rw [i64_toInt (by omega), show decide ((0 : Int) ≤ (j : Int)) = true from by simp, oite_t, i64_succ]
  have hb : decide (IK.shr .u8 s2 (j : Int) &&& 1 = 1) = bit s2 j := rfl
  have hk : KeyB[j]'(by simpa [KeyB] using hj) = KeyB[j]! := by
    match j, hj with
    | 0, _ => rfl
    | 1, _ => rfl
    | 2, _ => rfl
    | 3, _ => rfl
  rw [hb, hk]
  cases bit s2 j with
  | true => rw [oite_t, ble_t (by simp; omega), oite_t, if_pos rfl]
  | false => rw [oite_f, if_neg (by decide), List.append_nil]
structure Dl (out : List Node) (depth : List Int64) (dep : Nat → Nat) : Prop where
  len : depth.length = out.length
  val : ∀ (i : Nat) (h : i < depth.length), depth[i] = I64 (dep i)
theorem node_step (k q : Nat) (x : Sm) (j : Nat) (t : List Sm) (tl : Int64) {out : List Node} {depth : List Int64} {par dep : Nat → Nat} (R : Right k out par dep) (hD : Dl out depth dep) (hj : out.length = j) (hj12 : j < 12)
    (asks : List AskP) (ha2 : asks.length ≤ 2) (hak : ∀ a ∈ asks, AskOK k a) (to : List UInt8) (ht : to ∈ ToA) (w b rp : UInt64) (t0 : w.toNat ≤ 100) (t1 : 1 ≤ b.toNat) (t2 : b.toNat ≤ rp.toNat) (t3 : rp.toNat ≤ 100)
    (rec : List Sm → Int64 → Int64 → List Node → List Int64 → Option (List Node × Unit)) :
    ∃ out' depth' par' dep', F17_R125821 rec (q + 10) (I64 j) t tl (I64 j) 4 0 out depth x.1 x.2.1 x.2.2.1 x.2.2.2.1 x.2.2.2.2.1 x.2.2.2.2.2.1 x.2.2.2.2.2.2.1 x.2.2.2.2.2.2.2 asks to w b rp x.2.2.2.2.2.2.1 (-1) KeyB [] = rec t tl (I64 (j + 1)) out' depth' ∧ Right k out' par' dep' ∧ Dl out' depth' dep' ∧ out'.length = j + 1 := by
  obtain ⟨s0, s1, s2, s3, s4, s5, s6, s7⟩ := x
  simp only
  have l1 : ∀ i, (if bit s2 i then [KeyB[i]!] else []).length ≤ 1 := fun i => by split <;> simp
  have hA : ∀ A B C : List (List UInt8), A.length ≤ 1 → B.length ≤ 1 → C.length ≤ 1 → ([] ++ A).length ≤ 4 ∧ (([] ++ A) ++ B).length ≤ 4 ∧ ((([] ++ A) ++ B) ++ C).length ≤ 4 := by
    intro A B C h1 h2 h3
    simp only [List.length_append, List.length_nil]
    omega
  have b0 := l1 0
  have b1 := l1 1
  have b2 := l1 2
  have r0 := by_round rec (q + 9) 0 (by omega) (I64 j) t tl (I64 j) out depth s0 s1 s2 s3 s4 s5 s6 s7 asks to w b rp s6 (-1) [] (by simp)
  have r1 := by_round rec (q + 8) 1 (by omega) (I64 j) t tl (I64 j) out depth s0 s1 s2 s3 s4 s5 s6 s7 asks to w b rp s6 (-1) ([] ++ if bit s2 0 then [KeyB[0]!] else []) (hA _ _ _ b0 b1 b2).1
  have r2 := by_round rec (q + 7) 2 (by omega) (I64 j) t tl (I64 j) out depth s0 s1 s2 s3 s4 s5 s6 s7 asks to w b rp s6 (-1) (([] ++ if bit s2 0 then [KeyB[0]!] else []) ++ if bit s2 1 then [KeyB[1]!] else []) (hA _ _ _ b0 b1 b2).2.1
  have r3 := by_round rec (q + 6) 3 (by omega) (I64 j) t tl (I64 j) out depth s0 s1 s2 s3 s4 s5 s6 s7 asks to w b rp s6 (-1) ((([] ++ if bit s2 0 then [KeyB[0]!] else []) ++ if bit s2 1 then [KeyB[1]!] else []) ++ if bit s2 2 then [KeyB[2]!] else []) (hA _ _ _ b0 b1 b2).2.2
  have hall := r0.trans (r1.trans (r2.trans r3))
  rw [show F17_R125821 rec (q + 10) (I64 j) t tl (I64 j) 4 0 out depth s0 s1 s2 s3 s4 s5 s6 s7 asks to w b rp s6 (-1) KeyB [] = _ from hall]
  have hnl : (((([] ++ if bit s2 0 then [KeyB[0]!] else []) ++ if bit s2 1 then [KeyB[1]!] else []) ++ if bit s2 2 then [KeyB[2]!] else []) ++ if bit s2 3 then [KeyB[3]!] else []) = byOf (bit s2 0) (bit s2 1) (bit s2 2) (bit s2 3) := by
    rw [List.nil_append]; rfl
  rw [hnl, F17_R125821_s]
  unfold F17_L125821
  rw [show decide (I64 (3 + 1) < 4) = false from rfl, oite_f]
  simp only [ojoinA_eq]
  have hbys := by_len (bit s2 0) (bit s2 1) (bit s2 2) (bit s2 3)
  have hex : ∃ b0 b1 b2 b3, byOf (bit s2 0) (bit s2 1) (bit s2 2) (bit s2 3) = byOf b0 b1 b2 b3 := ⟨_, _, _, _, rfl⟩
  generalize byOf (bit s2 0) (bit s2 1) (bit s2 2) (bit s2 3) = nl at hbys hex
  have hol := R.len
  have fin : ∀ (d : Int64) (aks : List AskP) (mo : Bool) (ab : Int64), F17_J125823 rec d t tl (I64 j) out depth aks to w b rp mo ab nl = rec t tl (I64 (j + 1)) (out ++ [(aks, to, nl, w, b, rp, mo, ab)]) (depth ++ [d]) := by
    intro d aks mo ab
    unfold F17_J125823
    have := hD.len
    rw [ble_t (by simp; omega), oite_t, ble_t (by simp; omega), oite_t, i64_succ]
  have dpush : ∀ (d : Nat) (nd : Node) (dep' : Nat → Nat), (∀ i, i < out.length → dep' i = dep i) → dep' out.length = d → Dl (out ++ [nd]) (depth ++ [I64 d]) dep' := by
    intro d nd dep' h1 h2
    refine ⟨by simp [hD.len], fun i hi => ?_⟩
    by_cases hq : i < depth.length
    · rw [List.getElem_append_left hq, hD.val i hq, h1 i (by rw [← hD.len]; exact hq)]
    · rw [List.length_append, List.length_singleton] at hi
      have : i = depth.length := by omega
      subst this
      rw [List.getElem_append_right (by omega)]
      simp [hD.len, h2]
  by_cases h0 : j = 0
  · subst h0
    have hout : out = [] := List.eq_nil_of_length_eq_zero hj
    subst hout
    rw [show decide (I64 0 = 0) = true from rfl, oite_t, fin]
    refine ⟨_, _, par, dep, rfl, R.push0 _ ⟨by simp, by simp, ht, hex, t0, t1, t2, t3⟩ rfl rfl rfl, ?_, rfl⟩
    exact dpush 1 _ dep (fun i hi => rfl) R.dep0
  · rw [dec_f (show ¬ I64 j = 0 from fun q => h0 ((i64_eq (b := 0) (by omega) (by omega)).1 q)), oite_f, oite_f]
    have h7 := UInt8.toNat_lt s7
    rw [show Int64.ofInt ↑(UInt8.toNat s7) % I64 j = I64 (s7.toNat % j) from i64_mod (by omega) (by omega)]
    have hp : s7.toNat % j < j := Nat.mod_lt _ (by omega)
    generalize s7.toNat % j = p at hp
    obtain ⟨i1, i2⟩ := idx_i64 (l := depth) (k := p) (by rw [hD.len]; omega) (by omega)
    rw [i1, oite_t, i2, hD.val]
    simp only [obind_s]
    rw [oite_t]
    have hlow := R.low p (by omega)
    have hpos : 0 < out.length := by omega
    have e8 : decide (I64 (dep p) = 8) = decide (dep p = 8) := by rw [decide_eq_decide]; exact i64_eq (b := 8) (by omega) (by omega)
    rw [e8]
    by_cases h8 : dep p = 8
    · rw [dec_t h8, oite_t]
      have hd0 : 0 < depth.length := by rw [hD.len]; exact hpos
      rw [show Nat.blt (Int.toNat (Int64.toInt 0)) depth.length = true from by rw [blt_iff]; exact decide_eq_true hd0, oite_t, show depth[Int.toNat (Int64.toInt 0)]? = some depth[0] from List.getElem?_eq_getElem hd0, hD.val]
      simp only [obind_s]
      rw [i64_succ, fin]
      have hlow0 : dep 0 + 1 ≤ 8 := by rw [R.dep0]; omega
      refine ⟨_, _, _, _, rfl, R.push hpos (by omega) _ ⟨ha2, hak, ht, hex, t0, t1, t2, t3⟩ 0 hpos rfl hlow0, ?_, by simp; omega⟩
      exact dpush (dep 0 + 1) _ _ (fun i hi => if_neg (by omega)) (if_pos rfl)
    · rw [dec_f h8, oite_f, i64_succ, fin]
      refine ⟨_, _, _, _, rfl, R.push hpos (by omega) _ ⟨ha2, hak, ht, hex, t0, t1, t2, t3⟩ p (by omega) rfl (by omega), ?_, by simp; omega⟩
      exact dpush (dep p + 1) _ _ (fun i hi => if_neg (by omega)) (if_pos rfl)
end Go.Proofs.Ytcfckkmiaeegpaa
open Go Go.Sx
namespace Go.Proofs.Ytcfckkmiaeegpaa
theorem modLt (x c : UInt8) (hc : 0 < c.toNat) : (x % c).toNat < c.toNat := by rw [UInt8.toNat_mod]; exact Nat.mod_lt _ hc
theorem u864 (x : UInt8) : (UInt64.ofInt ↑(UInt8.toNat x)).toNat = x.toNat := by
  have := u64_ofInt (x.toNat : Int)
  have := UInt8.toNat_lt x
  omega
theorem to_ok (x : UInt8) : ∃ to ∈ ToA, (decide ((0 : Int) ≤ ↑(UInt8.toNat (x % 3))) && Nat.blt (Int.toNat ↑(UInt8.toNat (x % 3))) ([[111, 112, 115], [109, 101], [116, 101, 97, 109, 45, 49]] : List (List UInt8)).length) = true ∧ ([[111, 112, 115], [109, 101], [116, 101, 97, 109, 45, 49]] : List (List UInt8))[Int.toNat ↑(UInt8.toNat (x % 3))]? = some to := by
  rcases mod3 x with h | h | h <;> rw [h]
  · exact ⟨[111, 112, 115], by simp [ToA], rfl, rfl⟩
  · exact ⟨[109, 101], by simp [ToA], rfl, rfl⟩
  · exact ⟨[116, 101, 97, 109, 45, 49], by simp [ToA], rfl, rfl⟩
theorem nodes_loop (k n : Nat) (s : List Sm) (hs : s.length < 2 ^ 63) (ha : ∀ x ∈ s, x.1.length < 2 ^ 63 ∧ x.1.length < n) (hn : 20 ≤ n) (q : Nat) : ∀ (j : Nat) (out : List Node) (depth : List Int64) (par dep : Nat → Nat), j ≤ s.length → j ≤ 12 → 12 - j < q → Right k out par dep → Dl out depth dep → out.length = j →
    ∃ res par' dep', F17_R61 n F17_J15 q s (I64 s.length) (I64 j) out depth = F17_J15 res ∧ Right k res par' dep' := by
  induction q with
  | zero => intros; omega
  | succ q ih =>
    intro j out depth par dep hj h12 hq R hD hl
    rw [F17_R61_s]
    unfold F17_L61
    by_cases hlt : j < s.length
    · rw [dec_t ((i64_lt (by omega) (by omega)).2 hlt), oite_t, at_i64_lt (by omega) hlt]
      simp only [obind_s]
      have hx := ha s[j] (List.getElem_mem _)
      generalize s[j] = x at hx
      have e : decide (12 ≤ I64 j) = decide (12 ≤ j) := by rw [decide_eq_decide]; exact i64_le (a := 12) (by omega) (by omega)
      rw [e]
      by_cases h2 : 12 ≤ j
      · rw [dec_t h2, oite_t]; exact ⟨out, par, dep, rfl, R⟩
      · obtain ⟨to, ht, t1, t2⟩ := to_ok x.2.1
        rw [dec_f h2, oite_f, t1, oite_t, t2]
        simp only [obind_s]
        obtain ⟨aks, ea, h3, h4⟩ := asks2 k n x.1 hx.1 n 0 [] (by omega) (by omega) (by simp) (by simp) (fun a h => by cases h)
        rw [show F34 n (x.1, 2) = some (aks, ()) from ea]
        simp only [obind_s]
        obtain ⟨n', rfl⟩ : ∃ p, n = p + 10 := ⟨n - 10, by omega⟩
        have m0 := modLt x.2.2.2.1 6 (by decide)
        have m1 := modLt x.2.2.2.2.1 6 (by decide)
        have m2 := modLt x.2.2.2.2.2.1 20 (by decide)
        rw [show (6 : UInt8).toNat = 6 from rfl] at m0 m1
        rw [show (20 : UInt8).toNat = 20 from rfl] at m2
        have w0 : (UInt64.ofInt ↑(UInt8.toNat (x.2.2.2.1 % 6))).toNat ≤ 100 := by rw [u864]; omega
        have hb : (1 + UInt64.ofInt ↑(UInt8.toNat (x.2.2.2.2.1 % 6))).toNat = 1 + (x.2.2.2.2.1 % 6).toNat := by rw [UInt64.toNat_add, u864, show (1 : UInt64).toNat = 1 from rfl]; omega
        have hr : (1 + UInt64.ofInt ↑(UInt8.toNat (x.2.2.2.2.1 % 6)) + UInt64.ofInt ↑(UInt8.toNat (x.2.2.2.2.2.1 % 20))).toNat = 1 + (x.2.2.2.2.1 % 6).toNat + (x.2.2.2.2.2.1 % 20).toNat := by rw [UInt64.toNat_add, hb, u864]; omega
        generalize UInt64.ofInt ↑(UInt8.toNat (x.2.2.2.1 % 6)) = w at w0 ⊢
        generalize hB : 1 + UInt64.ofInt ↑(UInt8.toNat (x.2.2.2.2.1 % 6)) = b at hb hr ⊢
        generalize hR : b + UInt64.ofInt ↑(UInt8.toNat (x.2.2.2.2.2.1 % 20)) = rp at hr ⊢
        obtain ⟨out', depth', par', dep', e2, R', D', l'⟩ := node_step k n' x j s (I64 s.length) R hD hl (by omega) aks h3 h4 to ht w b rp w0 (by omega) (by omega) (by omega) (F17_R61 (n' + 10) F17_J15 q)
        obtain ⟨res, p3, d3, e3, R3⟩ := ih (j + 1) out' depth' par' dep' (by omega) (by omega) (by omega) R' D' l'
        refine ⟨res, p3, d3, ?_, R3⟩
        rw [← e3]
        exact e2
    · rw [dec_f (fun q => hlt ((i64_lt (by omega) (by omega)).1 q)), oite_f]
      exact ⟨out, par, dep, rfl, R⟩
theorem nodes_ok (k n : Nat) (s : List Sm) (hs : s.length < 2 ^ 63) (ha : ∀ x ∈ s, x.1.length < 2 ^ 63 ∧ x.1.length < n) (hn : 20 ≤ n) : ∃ res par dep, F17 n s = some (res, ()) ∧ Right k res par dep ∧ 0 < res.length := by
  have R0 : Right k [] (fun _ => 0) (fun _ => 1) := ⟨by simp, (fun nd h => by cases h), (fun h => by simp at h), rfl, (fun x hx => hx), (fun i hi => by simp at hi), (fun i _ hi => by simp at hi), (fun i hi => by simp at hi)⟩
  obtain ⟨res, par, dep, e, R⟩ := nodes_loop k n s hs ha hn n 0 [] [] (fun _ => 0) (fun _ => 1) (by omega) (by omega) (by omega) R0 ⟨rfl, fun i hi => by simp at hi⟩ rfl
  have e0 : F17 n s = F17_J15 res := e
  have hrl := R.len
  unfold F17_J15 at e0
  by_cases hz : res = []
  · subst hz
    refine ⟨[([], [111, 112, 115], [], 1, 2, 5, false, -1)], par, dep, ?_, R.push0 _ ⟨by simp, (fun a h => by cases h), by simp [ToA], ⟨false, false, false, false, rfl⟩, by decide, by decide, by decide, by decide⟩ rfl rfl rfl, by simp⟩
    rw [e0]; rfl
  · have hp : 0 < res.length := List.length_pos_iff.2 hz
    refine ⟨res, par, dep, ?_, R, hp⟩
    rw [e0, dec_f (show ¬ Int64.ofInt ↑res.length = 0 from fun q => by have := (i64_eq (b := 0) (by omega) (by omega)).1 q; omega), oite_f]
theorem sum_le : ∀ (s : List Sm), ∃ m, ∀ x ∈ s, x.1.length < m
  | [] => ⟨0, fun x h => by cases h⟩
  | y :: s => by
    obtain ⟨m, h⟩ := sum_le s
    refine ⟨m + y.1.length + 1, fun x hx => ?_⟩
    rcases List.mem_cons.1 hx with rfl | hx
    · omega
    · have := h x hx; omega
theorem groupNone_true : ∀ x : sig5.In, PTys.fits sig5.ps x → ∃ n y, F5 n x = some y ∧ PTys.hd (.one (.c .bool)) .nil y.1 = true := by
  rintro ⟨s, ⟨a0, a1, a2, a3, a4, a5⟩, now⟩ hfit
  have g1 := hfit.1
  obtain ⟨m, hm⟩ := sum_le s
  obtain ⟨k, hk⟩ : ∃ k, k = m + 100 := ⟨m + 100, rfl⟩
  have hfs : s.length < 2 ^ 63 ∧ ∀ x ∈ s, x.1.length < 2 ^ 63 := by
    simp only [PTy.fits, CTs.fits, CT.fits] at g1
    refine ⟨g1.1, fun x hx => ?_⟩
    obtain ⟨i, hi, rfl⟩ := List.getElem_of_mem hx
    exact (g1.2 i hi).1.1
  obtain ⟨nodes, par, dep, e17, R, hne⟩ := nodes_ok (k + 10) (k + 40) s hfs.1 (fun x hx => ⟨hfs.2 x hx, by have := hm x hx; omega⟩) (by omega)
  obtain ⟨e11, T⟩ := new_tree k R hne
  have hnl := T.len
  obtain ⟨st, p, v, u, ha⟩ := alert_ok (k + 30) a0 a1 a2 a3 a4 a5
  obtain ⟨L, hL, E⟩ := env_tree k T a0 a1 a2 a3 a4
  obtain ⟨out, mm, sent, es, hmm⟩ := step_many E 2 p v u (by decide)
  have hll := E.len
  refine ⟨k + 40, (true, ()), ?_, rfl⟩
  unfold F5
  simp only
  rw [show F6 (k + 40) () = some (true, ()) from awake k]
  simp only [obind_s]
  rw [show (!true) = false from rfl, oite_f, show F12 (k + 40) none = some ((none, 1), ()) from by kernel_rfl]
  simp only [obind_s]
  rw [show F16 (k + 40) none = some ((), none) from by kernel_rfl]
  simp only [obind_s]
  rw [show F15 (k + 40) none = some ((0, 0), none) from by kernel_rfl]
  simp only [obind_s]
  rw [e17]
  simp only [obind_s]
  rw [e11]
  simp only [obind_s, ojoinA_eq, oelim_s]
  rw [show F12 (k + 40) (some nodes) = some ((some (some nodes, [], 0), 0), ()) from by
    unfold F12
    rw [show F28 (k + 40) (some nodes) = some (I64 nodes.length, ()) from rfl]
    simp only [obind_s]
    rw [dec_f (show ¬ I64 nodes.length = 0 from fun q => by have := (i64_eq (b := 0) (by omega) (by omega)).1 q; omega), oite_f]]
  simp only [obind_s]
  unfold F5_J255
  rw [show F7 (k + 40) (a0, a1, a2, a3, a4, a5) = _ from ha]
  simp only [obind_s]
  rw [es]
  simp only [obind_s]
  have c15 : F15 (k + 40) (some (some nodes, mm, sent)) = some ((I64 mm.length, sent), some (some nodes, mm, sent)) := by
    unfold F15
    simp only [oelim_s]
    rw [ble_t (by omega)]; rfl
  rw [c15]
  simp only [obind_s]
  have far : F13 (k + 40) (some (some nodes, mm, sent), 1099511627777 + now % 9, [(a0 % 3, ruleOf a1, labs a2 a3 a4, 2, p, v, u)], [(a0 % 3, ruleOf a1, labs a2 a3 a4, 2, p, v, u)]) = some ([], some (some nodes, mm, sent)) := by
    unfold F13
    simp only [oelim_s]
    rw [dec_t (UInt64.lt_iff_toNat_lt.2 (by
      have h9 : (now % 9).toNat < 9 := by rw [UInt64.toNat_mod]; exact Nat.mod_lt _ (by decide)
      rw [UInt64.toNat_add, show (1099511627777 : UInt64).toNat = 1099511627777 from rfl, show (1099511627776 : UInt64).toNat = 1099511627776 from rfl]
      omega)), oite_t]
  rw [far]
  simp only [obind_s]
  rw [show F16 (k + 40) (some (some nodes, mm, sent)) = some ((), some (some nodes, [], sent)) from rfl]
  simp only [obind_s]
  rw [show F15 (k + 40) (some (some nodes, [], sent)) = some ((0, sent), some (some nodes, [], sent)) from rfl]
  simp only [obind_s]
  rw [show F13 (k + 40) (none, now, [(a0 % 3, ruleOf a1, labs a2 a3 a4, 2, p, v, u)], []) = some ([], none) from rfl]
  simp only [obind_s]
  rw [dec_t (show (0 : Int64) < I64 mm.length from (i64_lt (a := 0) (by omega) (by omega)).2 (by omega))]
  rfl
end Go.Proofs.Ytcfckkmiaeegpaa
