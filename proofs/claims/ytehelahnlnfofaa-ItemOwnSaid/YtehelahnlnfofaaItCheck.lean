/- Labels and items: may they be? Both functions' answers, plain. -/
import Derived.Test.YtehelahnlnfofaaItWords
open Go Go.Sx
namespace Go.Proofs.Ytehelahnlnfofaa
abbrev Pair := List UInt8 × List UInt8

/-! ### Labels -/
def labStep (prev : Option (List UInt8)) (p : Pair) (next : Int64) : Int64 :=
  bif wordOK 8 false p.1 then bif wordOK 16 true p.2 then
      match prev with
      | none => next
      | some q => bif q == p.1 then 7 else bif bytesLt q p.1 then next else 9
    else 8 else 8
def labGo : Option (List UInt8) → List Pair → Int64
  | _, [] => 0
  | prev, p :: r => labStep prev p (labGo (some p.1) r)
def labCheck (l : List Pair) : Int64 := bif decide (8 < l.length) then 5 else labGo none l
def FitL (l : List Pair) (n : Nat) : Prop := l.length < 2 ^ 63 ∧ ∀ p ∈ l, (p.1.length < 2 ^ 63 ∧ p.2.length < 2 ^ 63) ∧ p.1.length < n ∧ p.2.length < n
def prevOf (l : List Pair) (k : Nat) : Option (List UInt8) := match k with | 0 => none | j + 1 => (l[j]?).map (·.1)

theorem own_key (n : Nat) (s : List UInt8) (hs : s.length < 2 ^ 63) (hn : 20 < n) : F71 n s = some (wordOK 8 false s, ()) := by
  unfold F71
  rw [show (8 : Int64) = I64 8 from rfl, word_eq n 8 false s hs (by omega) (by omega)]; rfl
theorem own_val (n : Nat) (s : List UInt8) (hs : s.length < 2 ^ 63) (hn : 20 < n) : F72 n s = some (wordOK 16 true s, ()) := by
  unfold F72
  rw [show (16 : Int64) = I64 16 from rfl, word_eq n 16 true s hs (by omega) (by omega)]; rfl
theorem lab_loop (n N : Nat) (hn : 20 < n) (l : List Pair) (hf : FitL l N) : ∀ (m k : Nat), k ≤ l.length → l.length - k < m →
    F61_R29 n m l l (I64 l.length) (I64 k) = some (labGo (prevOf l k) (l.drop k), ()) := by
  obtain ⟨hl, hf⟩ := hf
  intro m
  induction m with
  | zero => intro k _ h; omega
  | succ m ih =>
    intro k hk hm
    rw [F61_R29_s]
    unfold F61_L29
    by_cases hlt : k < l.length
    · have hp := hf l[k] (List.getElem_mem hlt)
      have hnext := ih (k + 1) (by omega) (by omega)
      rw [dec_t ((i64_lt (by omega) hl).2 hlt), oite_t, at_i64_lt (by omega) hlt]
      simp only [obind_s, own_key n _ hp.1.1 hn, own_val n _ hp.1.2 hn, ojoinA_eq]
      rw [List.drop_eq_getElem_cons hlt, labGo]
      unfold labStep
      cases wordOK 8 false l[k].1 with
      | false => rfl
      | true =>
      cases wordOK 16 true l[k].2 with
      | false => rfl
      | true =>
      simp only [Bool.not_true, oite_f, cond_true]
      unfold F61_J3767
      rw [i64_succ, hnext]
      cases k with
      | zero =>
        rw [dec_f (p := (0 : Int64) < I64 0) (fun q => absurd ((i64_lt (a := 0) (b := 0) (by omega) (by omega)).1 q) (by omega))]
        simp only [oite_f, prevOf]
        have : l[0]?.map (·.1) = some l[0].1 := by rw [List.getElem?_eq_getElem hlt]; rfl
        rw [this]
      | succ j =>
        rw [dec_t (p := (0 : Int64) < I64 (j + 1)) ((i64_lt (a := 0) (b := j + 1) (by omega) (by omega)).2 (by omega))]
        have e1 : I64 (j + 1) - 1 = I64 j := i64_sub (a := j + 1) (b := 1) (by omega)
        rw [e1, at_i64_lt (by omega) (by omega : j < l.length)]
        have e2 : prevOf l (j + 1) = some l[j].1 := by show (l[j]?).map (·.1) = _; rw [List.getElem?_eq_getElem (by omega : j < l.length)]; rfl
        have e3 : prevOf l (j + 1 + 1) = some l[j + 1].1 := by show (l[j + 1]?).map (·.1) = _; rw [List.getElem?_eq_getElem hlt]; rfl
        rw [e2, e3]
        simp only [oite_t, obind_s]
        cases hq : (l[j].1 == l[j + 1].1) with
        | true => rfl
        | false => cases bytesLt l[j].1 l[j + 1].1 <;> rfl
    · rw [dec_f (fun q => hlt ((i64_lt (by omega) hl).1 q)), oite_f]
      have : k = l.length := by omega
      subst this; rw [List.drop_length]; cases prevOf l l.length <;> rfl
theorem lab_eq (n N : Nat) (hn : 20 < n) (l : List Pair) (hf : FitL l N) : F61 n l = some (labCheck l, ()) := by
  have h8 : decide ((8 : Int64) < Int64.ofInt ↑l.length) = decide (8 < l.length) := decide_eq_decide.2 (i64_lt (a := 8) (by omega) hf.1)
  unfold F61 labCheck
  rw [h8]
  by_cases h : 8 < l.length
  · rw [dec_t h]; rfl
  · rw [dec_f h]
    have := lab_loop n N hn l hf n 0 (by omega) (by omega)
    rw [List.drop_zero] at this
    show F61_R29 n n l l (I64 l.length) (I64 0) = _
    rw [this]; rfl
theorem rlab_loop (n : Nat) (l : List Pair) (hf : FitL l n) : ∀ (m k : Nat), k ≤ l.length → l.length - k < m →
    F41_R29 n m l (I64 k) = some (labGo (prevOf l k) (l.drop k), ()) := by
  obtain ⟨hl, hf⟩ := hf
  intro m
  induction m with
  | zero => intro k _ h; omega
  | succ m ih =>
    intro k hk hm
    rw [F41_R29_s]
    unfold F41_L29
    by_cases hlt : k < l.length
    · have hp := hf l[k] (List.getElem_mem hlt)
      have hnext := ih (k + 1) (by omega) (by omega)
      rw [dec_t ((i64_lt (by omega) hl).2 hlt), oite_t, at_i64_lt (by omega) hlt]
      simp only [obind_s, key_eq n _ hp.1.1 hp.2.1, val_eq n _ hp.1.2 hp.2.2, ojoinA_eq]
      rw [List.drop_eq_getElem_cons hlt, labGo]
      unfold labStep
      cases wordOK 8 false l[k].1 with
      | false => rfl
      | true =>
      cases wordOK 16 true l[k].2 with
      | false => rfl
      | true =>
      simp only [Bool.not_true, oite_f, cond_true]
      unfold F41_J469
      rw [i64_succ, hnext]
      cases k with
      | zero =>
        rw [dec_f (p := (0 : Int64) < I64 0) (fun q => absurd ((i64_lt (a := 0) (b := 0) (by omega) (by omega)).1 q) (by omega))]
        simp only [oite_f, prevOf]
        have : l[0]?.map (·.1) = some l[0].1 := by rw [List.getElem?_eq_getElem hlt]; rfl
        rw [this]
      | succ j =>
        rw [dec_t (p := (0 : Int64) < I64 (j + 1)) ((i64_lt (a := 0) (b := j + 1) (by omega) (by omega)).2 (by omega))]
        have e1 : I64 (j + 1) - 1 = I64 j := i64_sub (a := j + 1) (b := 1) (by omega)
        rw [e1, at_i64_lt (by omega) (by omega : j < l.length), at_i64_lt (by omega) hlt]
        have e2 : prevOf l (j + 1) = some l[j].1 := by show (l[j]?).map (·.1) = _; rw [List.getElem?_eq_getElem (by omega : j < l.length)]; rfl
        have e3 : prevOf l (j + 1 + 1) = some l[j + 1].1 := by show (l[j + 1]?).map (·.1) = _; rw [List.getElem?_eq_getElem hlt]; rfl
        rw [e2, e3]
        simp only [oite_t, obind_s]
        cases hq : (l[j].1 == l[j + 1].1) with
        | true => rfl
        | false => cases bytesLt l[j].1 l[j + 1].1 <;> rfl
    · rw [dec_f (fun q => hlt ((i64_lt (by omega) hl).1 q)), oite_f]
      have : k = l.length := by omega
      subst this; rw [List.drop_length]; cases prevOf l l.length <;> rfl
theorem rlab_eq (n : Nat) (hn : 20 < n) (l : List Pair) (hf : FitL l n) : F41 n l = some (labCheck l, ()) := by
  have h8 : decide ((8 : Int64) < Int64.ofInt ↑l.length) = decide (8 < l.length) := decide_eq_decide.2 (i64_lt (a := 8) (by omega) hf.1)
  unfold F41 labCheck
  rw [h8]
  by_cases h : 8 < l.length
  · rw [dec_t h]; rfl
  · rw [dec_f h]
    have := rlab_loop n l hf n 0 (by omega) (by omega)
    rw [List.drop_zero] at this
    show F41_R29 n n l (I64 0) = _
    rw [this]; rfl

/-! ### Own names -/
def ownOK (s : List UInt8) : Bool := decide (4 ≤ s.length) && (s.take 4 == [111, 119, 110, 46])
theorem own_eq (n : Nat) (s : List UInt8) (hs : s.length < 2 ^ 63) : F23 n s = some (ownOK s, ()) := by
  have e1 : decide (Int64.ofInt ↑([(111 : UInt8), 119, 110, 46]).length ≤ Int64.ofInt ↑s.length) = decide (4 ≤ s.length) := decide_eq_decide.2 (i64_le (a := 4) (by omega) hs)
  unfold F23 F42 F65 ownOK
  dsimp only
  rw [e1]
  by_cases h : 4 ≤ s.length
  · rw [dec_t h]
    have e2 : Int.toNat (Int64.toInt (Int64.ofInt ↑([(111 : UInt8), 119, 110, 46]).length)) = 4 := by decide
    have e3 : decide ((0 : Int) ≤ Int64.toInt (Int64.ofInt ↑([(111 : UInt8), 119, 110, 46]).length)) = true := by decide
    rw [e2, e3, ble_t h]; rfl
  · rw [dec_f h]; rfl
theorem rown_eq (n : Nat) (s : List UInt8) (hs : s.length < 2 ^ 63) : F24 n s = some (ownOK s, ()) := by
  have e1 : decide ((4 : Int64) ≤ Int64.ofInt ↑s.length) = decide (4 ≤ s.length) := decide_eq_decide.2 (i64_le (a := 4) (by omega) hs)
  unfold F24 ownOK
  rw [e1]
  by_cases h : 4 ≤ s.length
  · rw [dec_t h]
    have e2 : Int.toNat (Int64.toInt (4 : Int64)) = 4 := by decide
    rw [e2, ble_t h]; rfl
  · rw [dec_f h]; rfl

/-! ### Items -/
abbrev EvT := UInt8 × UInt64 × UInt64 × List UInt8 × List Pair × UInt8 × UInt8 × Int64 × UInt8
abbrev ItT := Bool × UInt8 × UInt64 × UInt64 × List UInt8 × List Pair × UInt8 × UInt8 × Int64 × UInt8 × UInt8 × UInt64 × UInt64
def evCheck (o : UInt8) (seq time : UInt64) (rule : List UInt8) (labels : List Pair) (state prio own : UInt8) : Int64 :=
  bif decide (32 ≤ o) then 6 else bif decide (seq < 1) then 6 else bif decide (seq ≤ 1099511627776) then bif decide (time ≤ 1099511627776) then bif decide (7 < prio) then 6 else
    bif nameOK rule then bif (decide (state = 0) || decide (state = 2)) && !decide (2 < own) then bif (!decide (own = 0)) == ownOK rule then labCheck labels else 27 else 12 else 8 else 6 else 6
def gapCheck (o : UInt8) (a b : UInt64) : Int64 :=
  bif decide (32 ≤ o) then 6 else bif decide (a < 1) then 6 else bif decide (b < a) then 6 else bif decide (b ≤ 1099511627776) then 0 else 6
def itCheck : ItT → Int64
  | (g, o, seq, time, rule, labels, state, prio, _, own, go, ga, gb) => bif g then gapCheck go ga gb else evCheck o seq time rule labels state prio own
def FitI (x : ItT) (n : Nat) : Prop := (x.2.2.2.2.1.length < 2 ^ 63 ∧ x.2.2.2.2.1.length < n) ∧ FitL x.2.2.2.2.2.1 n
theorem ev_eq (n N : Nat) (hn : 20 < n) (o : UInt8) (seq time : UInt64) (rule : List UInt8) (labels : List Pair) (state prio : UInt8) (v : Int64) (own : UInt8) (h1 : rule.length < 2 ^ 63) (h2 : FitL labels N) :
    F38 n (o, seq, time, rule, labels, state, prio, v, own) = some (evCheck o seq time rule labels state prio own, ()) := by
  unfold F38 evCheck F38_J111 F59
  simp only [name_eq n rule h1 hn, own_eq n rule h1, lab_eq n N hn labels h2, obind_s, ojoinA_eq]
  generalize labCheck labels = lc
  generalize ownOK rule = ow
  generalize nameOK rule = nm
  generalize decide (own = 0) = o0
  cases decide ((32 : UInt8) ≤ o) <;> try rfl
  cases decide (seq < 1) <;> try rfl
  cases decide (seq ≤ 1099511627776) <;> try rfl
  cases decide (time ≤ 1099511627776) <;> try rfl
  cases decide ((7 : UInt8) < prio) <;> try rfl
  cases nm <;> try rfl
  cases decide (state = 0) <;> cases decide (state = 2) <;> cases decide ((2 : UInt8) < own) <;> cases o0 <;> cases ow <;> rfl
theorem it_eq (n N : Nat) (hn : 20 < n) (x : ItT) (hf : FitI x N) : F21 n x = some (itCheck x, ()) := by
  obtain ⟨g, o, seq, time, rule, labels, state, prio, v, own, go, ga, gb⟩ := x
  obtain ⟨h1, h2⟩ := hf
  unfold F21 itCheck
  dsimp only
  rw [ev_eq n N hn o seq time rule labels state prio v own h1.1 h2]
  cases g with
  | false => rfl
  | true =>
    unfold F37 F59 gapCheck
    cases decide ((32 : UInt8) ≤ go) <;> try rfl
    cases decide (ga < 1) <;> try rfl
    cases decide (gb < ga) <;> try rfl
    cases decide (gb ≤ 1099511627776) <;> rfl
theorem lt31 (o : UInt8) : decide ((31 : UInt8) < o) = decide ((32 : UInt8) ≤ o) := by
  have h : ∀ k : Fin 256, decide ((31 : UInt8) < UInt8.ofNat k.val) = decide ((32 : UInt8) ≤ UInt8.ofNat k.val) := by decide +kernel
  have := h ⟨o.toNat, UInt8.toNat_lt o⟩
  simpa using this
theorem pos8 (o : UInt8) : decide ((0 : UInt8) < o) = !decide (o = 0) := by
  have h : ∀ k : Fin 256, decide ((0 : UInt8) < UInt8.ofNat k.val) = !decide (UInt8.ofNat k.val = 0) := by decide +kernel
  have := h ⟨o.toNat, UInt8.toNat_lt o⟩
  simpa using this
theorem zero64 (a : UInt64) : decide (a = 0) = decide (a < 1) := by
  refine decide_eq_decide.2 ⟨fun h => by rw [h]; decide, fun h => UInt64.toNat.inj ?_⟩
  have := UInt64.lt_iff_toNat_lt.1 h
  have e : (1 : UInt64).toNat = 1 := rfl
  have e0 : (0 : UInt64).toNat = 0 := rfl
  omega
theorem rit_eq (n : Nat) (hn : 20 < n) (x : ItT) (hf : FitI x n) : F22 n x = some (itCheck x, ()) := by
  obtain ⟨g, o, seq, time, rule, labels, state, prio, v, own, go, ga, gb⟩ := x
  obtain ⟨h1, h2⟩ := hf
  unfold F22 itCheck F22_J127 F39
  simp only [rname_eq n rule h1.1 h1.2, rown_eq n rule h1.1, rlab_eq n hn labels h2, obind_s, ojoinA_eq, lt31, zero64, pos8]
  cases g with
  | false =>
    unfold evCheck
    generalize labCheck labels = lc
    generalize ownOK rule = ow
    generalize nameOK rule = nm
    generalize decide (own = 0) = o0
    simp only [oite_f, cond_false]
    cases decide ((32 : UInt8) ≤ o) <;> try rfl
    cases decide (seq < 1) <;> try rfl
    cases decide (seq ≤ 1099511627776) <;> try rfl
    cases decide (time ≤ 1099511627776) <;> try rfl
    cases decide ((7 : UInt8) < prio) <;> try rfl
    cases nm <;> try rfl
    cases decide (state = 0) <;> cases decide (state = 2) <;> cases decide ((2 : UInt8) < own) <;> cases o0 <;> cases ow <;> rfl
  | true =>
    unfold gapCheck
    simp only [oite_t, cond_true]
    cases decide ((32 : UInt8) ≤ go) <;> try rfl
    cases decide (ga < 1) <;> try rfl
    cases decide (gb < ga) <;> try rfl
    cases decide (gb ≤ 1099511627776) <;> rfl
end Go.Proofs.Ytehelahnlnfofaa
