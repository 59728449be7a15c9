/- Lemmas moved here from another seat of this repo (tools/port.py). -/
import Derived.Test.YtegncnhhofbmiaaBnFns2
import Derived.Test.YtegncnhhofbmiaaSxPlain
open Go Go.Sx
namespace Go.Proofs.Ytegncnhhofbmiaa

theorem ba_get (s : List UInt8) (i : Nat) (h : i < s.length) : ByteArray.get! (⟨s.toArray⟩ : ByteArray) i = s[i] := by
  show (s.toArray)[i]! = s[i]
  simp [h]
theorem rune_small (s : List UInt8) (i : Nat) (h : i < s.length) (hs : s[i].toNat < 128) : runeAt s i = s[i].toNat ∧ runeLen s i = 1 := by
  have e : (ByteArray.get! (⟨s.toArray⟩ : ByteArray) (i + 0)).toNat = s[i].toNat := by rw [Nat.add_zero, ba_get s i h]
  unfold runeAt runeLen Utf8.decode
  dsimp only
  have hs' : (ByteArray.get! (⟨s.toArray⟩ : ByteArray) (i + 0)).toNat < 128 := by rw [e]; exact hs
  rw [if_pos hs']
  exact ⟨e, rfl⟩
theorem pair_ge {c : Prop} [Decidable c] {a b : Nat × Nat} {N : Nat} (ha : c → N ≤ a.1) (hb : ¬ c → N ≤ b.1) : N ≤ (if c then a else b).1 := by
  by_cases h : c
  · rw [if_pos h]; exact ha h
  · rw [if_neg h]; exact hb h
theorem rune_big (s : List UInt8) (i : Nat) (h : i < s.length) (hs : ¬ s[i].toNat < 128) : 128 ≤ runeAt s i := by
  have e : (ByteArray.get! (⟨s.toArray⟩ : ByteArray) (i + 0)).toNat = s[i].toNat := by rw [Nat.add_zero, ba_get s i h]
  have e0 : 128 ≤ Utf8.runeError := by decide
  unfold runeAt Utf8.decode
  dsimp only
  refine pair_ge (fun q => absurd (by rw [← e]; exact q) hs) fun _ => pair_ge (fun _ => pair_ge (fun q => ?_) fun _ => e0) fun _ => pair_ge (fun _ => pair_ge (fun q => ?_) fun _ => e0) fun _ => pair_ge (fun _ => pair_ge (fun q => ?_) fun _ => e0) fun _ => e0
  · exact q
  · simp only [Bool.and_eq_true, decide_eq_true_eq] at q; exact Nat.le_trans (by decide) q.1
  · simp only [Bool.and_eq_true, decide_eq_true_eq] at q; exact Nat.le_trans (by decide) q.1

def letter (c : UInt8) : Bool := decide (97 ≤ c) && decide (c ≤ 122)
def digit (c : UInt8) : Bool := decide (48 ≤ c) && decide (c ≤ 57)
def okb (also : Bool) (c : UInt8) : Bool := letter c || (also && (digit c || decide (c = 46) || decide (c = 95) || decide (c = 45)))
def okI (also : Bool) (c : Int32) : Bool := (decide ((97 : Int32) ≤ c) && decide (c ≤ 122)) || (also && ((decide ((48 : Int32) ≤ c) && decide (c ≤ 57)) || decide (c = 46) || decide (c = 95) || decide (c = 45)))
theorem okI_small (also : Bool) (c : UInt8) : okI also (Int32.ofInt (c.toNat : Int)) = okb also c := by
  have h : ∀ a : Bool, ∀ k : Fin 256, okI a (Int32.ofInt (k.val : Int)) = okb a (UInt8.ofNat k.val) := by decide +kernel
  have := h also ⟨c.toNat, UInt8.toNat_lt c⟩
  rw [this]; simp
theorem i32_toInt {r : Nat} (h : r < 2 ^ 31) : (Int32.ofInt (r : Int)).toInt = r := Int32.toInt_ofInt_of_le (by omega) (by omega)
theorem okI_big (also : Bool) (r : Nat) (h : 128 ≤ r) (h2 : r < 2 ^ 31) : okI also (Int32.ofInt (r : Int)) = false := by
  have e := i32_toInt h2
  have a1 : ¬ Int32.ofInt (r : Int) ≤ 122 := by rw [Int32.le_iff_toInt_le, e]; show ¬ (r : Int) ≤ 122; omega
  have a2 : ¬ Int32.ofInt (r : Int) ≤ 57 := by rw [Int32.le_iff_toInt_le, e]; show ¬ (r : Int) ≤ 57; omega
  have ne : ∀ z : Int32, z.toInt < 128 → ¬ Int32.ofInt (r : Int) = z := fun z hz q => by rw [q] at e; omega
  unfold okI
  rw [dec_f a1, dec_f a2, dec_f (ne 46 (by decide)), dec_f (ne 95 (by decide)), dec_f (ne 45 (by decide))]
  cases also <;> simp
/-- which words: the longest, also digits and signs -/
def wordOK (most : Nat) (also : Bool) (s : List UInt8) : Bool := decide (1 ≤ s.length) && (decide (s.length ≤ most) && s.all (okb also))

theorem word_body (r : Arr [PT.bool, PT.bytes, PT.nat] (Option (Bool × Unit))) (also : Bool) (c : Int32) (s : List UInt8) (k : Nat) :
    oite (decide ((97 : Int32) ≤ c)) (F58_J471 r also c (decide (c ≤ (122 : Int32))) s k) (F58_J471 r also c false s k) = oite (okI also c) (r also s k) (some (false, ())) := by
  unfold F58_J471 okI
  cases decide ((97 : Int32) ≤ c) <;> cases decide (c ≤ (122 : Int32)) <;> cases also <;> cases decide ((48 : Int32) ≤ c) <;> cases decide (c ≤ (57 : Int32)) <;> cases decide (c = (46 : Int32)) <;> cases decide (c = (95 : Int32)) <;> cases decide (c = (45 : Int32)) <;> rfl
theorem word_loop (also : Bool) (s : List UInt8) : ∀ (m k : Nat), k ≤ s.length → s.length - k < m → F58_R29 m also s k = some ((s.drop k).all (okb also), ()) := by
  intro m
  induction m with
  | zero => intro k _ h; omega
  | succ m ih =>
    intro k hk hm
    rw [F58_R29_s]
    unfold F58_L29
    by_cases hlt : k < s.length
    · rw [blt_iff, dec_t hlt, oite_t, ojoinA_rw, word_body, List.drop_eq_getElem_cons hlt, List.all_cons]
      by_cases hs : s[k].toNat < 128
      · obtain ⟨e1, e2⟩ := rune_small s k hlt hs
        rw [e1, e2, okI_small, ih (k + 1) (by omega) (by omega)]
        cases okb also s[k] <;> rfl
      · have hb := rune_big s k hlt hs
        rw [okI_big also _ hb (runeAt_lt s k)]
        have : okb also s[k] = false := by
          rw [← okI_small]; exact okI_big also _ (by omega) (by have := UInt8.toNat_lt s[k]; omega)
        rw [this]; rfl
    · rw [blt_iff, dec_f hlt, oite_f]
      have : k = s.length := by omega
      subst this; simp
theorem word_eq (n most : Nat) (also : Bool) (s : List UInt8) (hs : s.length < 2 ^ 63) (hm : most < n) (hm2 : most < 2 ^ 63) : F58 n (s, I64 most, also) = some (wordOK most also s, ()) := by
  unfold F58 wordOK
  dsimp only
  by_cases h1 : s.length < 1
  · rw [dec_t (p := Int64.ofInt ↑s.length < 1) ((i64_lt (b := 1) hs (by omega)).2 h1), dec_f (by omega : ¬ 1 ≤ s.length)]; rfl
  · rw [dec_f (p := Int64.ofInt ↑s.length < 1) (fun q => h1 ((i64_lt (b := 1) hs (by omega)).1 q)), dec_t (by omega : 1 ≤ s.length), oite_f]
    by_cases h2 : most < s.length
    · rw [dec_t ((i64_lt hm2 hs).2 h2), dec_f (by omega : ¬ s.length ≤ most)]; rfl
    · rw [dec_f (fun q => h2 ((i64_lt hm2 hs).1 q)), dec_t (by omega : s.length ≤ most), oite_f, word_loop also s n 0 (by omega) (by omega)]; rfl

/-- may it be a name? -/
def nameOK (s : List UInt8) : Bool := wordOK 12 true s && letter (s.headD 0)
theorem word_ne {m : Nat} {a : Bool} {s : List UInt8} (h : wordOK m a s = true) : 0 < s.length ∧ s.length ≤ m := by
  unfold wordOK at h
  simp only [Bool.and_eq_true, decide_eq_true_eq] at h
  omega
theorem name_eq (n : Nat) (s : List UInt8) (hs : s.length < 2 ^ 63) (hn : 20 < n) : F41 n s = some (nameOK s, ()) := by
  unfold F41 nameOK
  rw [show (12 : Int64) = I64 12 from rfl, word_eq n 12 true s hs (by omega) (by omega)]
  simp only [obind_s]
  cases h : wordOK 12 true s with
  | false => rfl
  | true =>
    obtain ⟨c, t, rfl⟩ : ∃ c t, s = c :: t := by
      cases s with
      | nil => have := word_ne h; simp at this
      | cons c t => exact ⟨c, t, rfl⟩
    have e : at? (c :: t) (Int64.toInt (0 : Int64)) = some c := rfl
    rw [e]
    simp only [oite_t, obind_s, List.headD_cons, Bool.true_and]
    unfold letter
    cases decide ((97 : UInt8) ≤ c) <;> rfl
def labStep (prev : Option (List UInt8)) (p : Pair) (next : Int64) : Int64 :=
  bif wordOK 8 false p.1 then bif wordOK 16 true p.2 then
      match prev with
      | none => next
      | some q => bif q == p.1 then 7 else bif bytesLt q p.1 then next else 9
    else 8 else 8
def labGo : Option (List UInt8) → List Pair → Int64
  | _, [] => 0
  | prev, p :: r => labStep prev p (labGo (some p.1) r)
def labCheck (l : List Pair) : Int64 := bif decide (8 < l.length) then 5 else labGo none l
def FitL (l : List Pair) (n : Nat) : Prop := l.length < 2 ^ 63 ∧ ∀ p ∈ l, (p.1.length < 2 ^ 63 ∧ p.2.length < 2 ^ 63) ∧ p.1.length < n ∧ p.2.length < n
def prevOf (l : List Pair) (k : Nat) : Option (List UInt8) := match k with | 0 => none | j + 1 => (l[j]?).map (·.1)

theorem own_key (n : Nat) (s : List UInt8) (hs : s.length < 2 ^ 63) (hn : 20 < n) : F59 n s = some (wordOK 8 false s, ()) := by
  unfold F59
  rw [show (8 : Int64) = I64 8 from rfl, word_eq n 8 false s hs (by omega) (by omega)]; rfl
theorem own_val (n : Nat) (s : List UInt8) (hs : s.length < 2 ^ 63) (hn : 20 < n) : F60 n s = some (wordOK 16 true s, ()) := by
  unfold F60
  rw [show (16 : Int64) = I64 16 from rfl, word_eq n 16 true s hs (by omega) (by omega)]; rfl
theorem lab_loop (n N : Nat) (hn : 20 < n) (l : List Pair) (hf : FitL l N) : ∀ (m k : Nat), k ≤ l.length → l.length - k < m →
    F42_R29 n m l l (I64 l.length) (I64 k) = some (labGo (prevOf l k) (l.drop k), ()) := by
  obtain ⟨hl, hf⟩ := hf
  intro m
  induction m with
  | zero => intro k _ h; omega
  | succ m ih =>
    intro k hk hm
    rw [F42_R29_s]
    unfold F42_L29
    by_cases hlt : k < l.length
    · have hp := hf l[k] (List.getElem_mem hlt)
      have hnext := ih (k + 1) (by omega) (by omega)
      rw [dec_t ((i64_lt (by omega) hl).2 hlt), oite_t, at_i64_lt (by omega) hlt]
      simp only [obind_s, own_key n _ hp.1.1 hn, own_val n _ hp.1.2 hn, ojoinA_eq]
      rw [List.drop_eq_getElem_cons hlt, labGo]
      unfold labStep
      cases wordOK 8 false l[k].1 with
      | false => rfl
      | true =>
      cases wordOK 16 true l[k].2 with
      | false => rfl
      | true =>
      simp only [Bool.not_true, oite_f, cond_true]
      unfold F42_J3767
      rw [i64_succ, hnext]
      cases k with
      | zero =>
        rw [dec_f (p := (0 : Int64) < I64 0) (fun q => absurd ((i64_lt (a := 0) (b := 0) (by omega) (by omega)).1 q) (by omega))]
        simp only [oite_f, prevOf]
        have : l[0]?.map (·.1) = some l[0].1 := by rw [List.getElem?_eq_getElem hlt]; rfl
        rw [this]
      | succ j =>
        rw [dec_t (p := (0 : Int64) < I64 (j + 1)) ((i64_lt (a := 0) (b := j + 1) (by omega) (by omega)).2 (by omega))]
        have e1 : I64 (j + 1) - 1 = I64 j := i64_sub (a := j + 1) (b := 1) (by omega)
        rw [e1, at_i64_lt (by omega) (by omega : j < l.length)]
        have e2 : prevOf l (j + 1) = some l[j].1 := by show (l[j]?).map (·.1) = _; rw [List.getElem?_eq_getElem (by omega : j < l.length)]; rfl
        have e3 : prevOf l (j + 1 + 1) = some l[j + 1].1 := by show (l[j + 1]?).map (·.1) = _; rw [List.getElem?_eq_getElem hlt]; rfl
        rw [e2, e3]
        simp only [oite_t, obind_s]
        cases hq : (l[j].1 == l[j + 1].1) with
        | true => rfl
        | false => cases bytesLt l[j].1 l[j + 1].1 <;> rfl
    · rw [dec_f (fun q => hlt ((i64_lt (by omega) hl).1 q)), oite_f]
      have : k = l.length := by omega
      subst this; rw [List.drop_length]; cases prevOf l l.length <;> rfl
theorem lab_eq (n N : Nat) (hn : 20 < n) (l : List Pair) (hf : FitL l N) : F42 n l = some (labCheck l, ()) := by
  have h8 : decide ((8 : Int64) < Int64.ofInt ↑l.length) = decide (8 < l.length) := decide_eq_decide.2 (i64_lt (a := 8) (by omega) hf.1)
  unfold F42 labCheck
  rw [h8]
  by_cases h : 8 < l.length
  · rw [dec_t h]; rfl
  · rw [dec_f h]
    have := lab_loop n N hn l hf n 0 (by omega) (by omega)
    rw [List.drop_zero] at this
    show F42_R29 n n l l (I64 l.length) (I64 0) = _
    rw [this]; rfl
def ownOK (s : List UInt8) : Bool := decide (4 ≤ s.length) && (s.take 4 == [111, 119, 110, 46])
theorem own_eq (n : Nat) (s : List UInt8) (hs : s.length < 2 ^ 63) : F11 n s = some (ownOK s, ()) := by
  have e1 : decide (Int64.ofInt ↑([(111 : UInt8), 119, 110, 46]).length ≤ Int64.ofInt ↑s.length) = decide (4 ≤ s.length) := decide_eq_decide.2 (i64_le (a := 4) (by omega) hs)
  unfold F11 F26 F39 ownOK
  dsimp only
  rw [e1]
  by_cases h : 4 ≤ s.length
  · rw [dec_t h]
    have e2 : Int.toNat (Int64.toInt (Int64.ofInt ↑([(111 : UInt8), 119, 110, 46]).length)) = 4 := by decide
    have e3 : decide ((0 : Int) ≤ Int64.toInt (Int64.ofInt ↑([(111 : UInt8), 119, 110, 46]).length)) = true := by decide
    rw [e2, e3, ble_t h]; rfl
  · rw [dec_f h]; rfl
abbrev ItT := Bool × UInt8 × UInt64 × UInt64 × List UInt8 × List Pair × UInt8 × UInt8 × Int64 × UInt8 × UInt8 × UInt64 × UInt64
def evCheck (o : UInt8) (seq time : UInt64) (rule : List UInt8) (labels : List Pair) (state prio own : UInt8) : Int64 :=
  bif decide (32 ≤ o) then 6 else bif decide (seq < 1) then 6 else bif decide (seq ≤ 1099511627776) then bif decide (time ≤ 1099511627776) then bif decide (7 < prio) then 6 else
    bif nameOK rule then bif (decide (state = 0) || decide (state = 2)) && !decide (2 < own) then bif (!decide (own = 0)) == ownOK rule then labCheck labels else 27 else 12 else 8 else 6 else 6
def gapCheck (o : UInt8) (a b : UInt64) : Int64 :=
  bif decide (32 ≤ o) then 6 else bif decide (a < 1) then 6 else bif decide (b < a) then 6 else bif decide (b ≤ 1099511627776) then 0 else 6
def itCheck : ItT → Int64
  | (g, o, seq, time, rule, labels, state, prio, _, own, go, ga, gb) => bif g then gapCheck go ga gb else evCheck o seq time rule labels state prio own
def FitI (x : ItT) (n : Nat) : Prop := (x.2.2.2.2.1.length < 2 ^ 63 ∧ x.2.2.2.2.1.length < n) ∧ FitL x.2.2.2.2.2.1 n
theorem ev_eq (n N : Nat) (hn : 20 < n) (o : UInt8) (seq time : UInt64) (rule : List UInt8) (labels : List Pair) (state prio : UInt8) (v : Int64) (own : UInt8) (h1 : rule.length < 2 ^ 63) (h2 : FitL labels N) :
    F29 n (o, seq, time, rule, labels, state, prio, v, own) = some (evCheck o seq time rule labels state prio own, ()) := by
  unfold F29 evCheck F29_J111 F40
  simp only [name_eq n rule h1 hn, own_eq n rule h1, lab_eq n N hn labels h2, obind_s, ojoinA_eq]
  generalize labCheck labels = lc
  generalize ownOK rule = ow
  generalize nameOK rule = nm
  generalize decide (own = 0) = o0
  cases decide ((32 : UInt8) ≤ o) <;> try rfl
  cases decide (seq < 1) <;> try rfl
  cases decide (seq ≤ 1099511627776) <;> try rfl
  cases decide (time ≤ 1099511627776) <;> try rfl
  cases decide ((7 : UInt8) < prio) <;> try rfl
  cases nm <;> try rfl
  cases decide (state = 0) <;> cases decide (state = 2) <;> cases decide ((2 : UInt8) < own) <;> cases o0 <;> cases ow <;> rfl
theorem it_eq (n N : Nat) (hn : 20 < n) (x : ItT) (hf : FitI x N) : F19 n x = some (itCheck x, ()) := by
  obtain ⟨g, o, seq, time, rule, labels, state, prio, v, own, go, ga, gb⟩ := x
  obtain ⟨h1, h2⟩ := hf
  unfold F19 itCheck
  dsimp only
  rw [ev_eq n N hn o seq time rule labels state prio v own h1.1 h2]
  cases g with
  | false => rfl
  | true =>
    unfold F28 F40 gapCheck
    cases decide ((32 : UInt8) ≤ go) <;> try rfl
    cases decide (ga < 1) <;> try rfl
    cases decide (gb < ga) <;> try rfl
    cases decide (gb ≤ 1099511627776) <;> rfl
theorem mod_lt8 (x c : UInt8) (hc : 0 < c.toNat) : (x % c).toNat < c.toNat := by rw [UInt8.toNat_mod]; exact Nat.mod_lt _ hc
theorem const_idx {α : Type} (l : List α) (x c : UInt8) (hc : 0 < c.toNat) (hl : l.length = c.toNat) :
    (decide ((0 : Int) ≤ ↑(UInt8.toNat (x % c))) && Nat.blt (Int.toNat ↑(UInt8.toNat (x % c))) (List.length l)) = true ∧ ∃ y ∈ l, l[Int.toNat ↑(UInt8.toNat (x % c))]? = some y := by
  have h := mod_lt8 x c hc
  obtain ⟨h1, h2⟩ := idx_nat (l := l) (k := (x % c).toNat) (by omega)
  exact ⟨h1, _, List.getElem_mem (by omega), h2⟩
def labs3 (c : UInt8) : List Pair := [([97], [c]), ([98], [c]), ([99], [c])]
theorem lab_run (n j : Nat) (s0 : Bool) (s1 s2 s3 : UInt8) (s4 s5 s6 : UInt16) (s7 s8 s9 : UInt8) (s10 t0 : Bool) (t1 : UInt8) (t2 t3 : UInt64) (t4 : List UInt8) (t6 t7 : UInt8) (t8 : Int64)
    (t9 t10 : UInt8) (t11 t12 : UInt64) (v0 : UInt8) (v1 v2 : UInt64) (v3 : List UInt8) (v5 v6 : UInt8) (v7 : Int64) (v8 : UInt8) (d : Fin 4) :
    F8_R1021 n (j + 4) (UInt8.ofNat d.val) 0 s0 s1 s2 s3 s4 s5 s6 s7 s8 s9 s10 t0 t1 t2 t3 t4 t6 t7 t8 t9 t10 t11 t12 v0 v1 v2 v3 v5 v6 v7 v8 [] =
      some ((false, v0, v1, v2, v3, (labs3 (48 + s8 / 4 % 10)).take d.val, v5, v6, v7, v8, 0, 0, 0), ()) := by
  generalize hc : (48 : UInt8) + s8 / 4 % 10 = c
  have hL : ∀ r t1' vl, F8_L1021 n r (UInt8.ofNat d.val) t1' s0 s1 s2 s3 s4 s5 s6 s7 s8 s9 s10 t0 t1 t2 t3 t4 t6 t7 t8 t9 t10 t11 t12 v0 v1 v2 v3 v5 v6 v7 v8 vl =
      oite (decide (t1' < UInt8.ofNat d.val)) (oite (Nat.ble (vl.length + 1) 4294967296) (r (UInt8.ofNat d.val) (t1' + 1) s0 s1 s2 s3 s4 s5 s6 s7 s8 s9 s10 t0 t1 t2 t3 t4 t6 t7 t8 t9 t10 t11 t12 v0 v1 v2 v3 v5 v6 v7 v8 (vl ++ [([97 + t1'], [c])])) none)
        (some ((false, v0, v1, v2, v3, vl, v5, v6, v7, v8, 0, 0, 0), ())) := by
    intro r t1' vl; rw [← hc]; rfl
  have hR : ∀ m, F8_R1021 n (m + 1) = F8_L1021 n (F8_R1021 n m) := F8_R1021_s n
  rw [hR, hL]
  match d with
  | 0 => rfl
  | 1 => rw [show decide ((0 : UInt8) < UInt8.ofNat (1 : Fin 4).val) = true from by decide, oite_t, show Nat.ble (List.length ([] : List Pair) + 1) 4294967296 = true from rfl, oite_t, hR, hL]; rfl
  | 2 =>
    rw [show decide ((0 : UInt8) < UInt8.ofNat (2 : Fin 4).val) = true from by decide, oite_t, show Nat.ble (List.length ([] : List Pair) + 1) 4294967296 = true from rfl, oite_t, hR, hL,
      show decide ((0 : UInt8) + 1 < UInt8.ofNat (2 : Fin 4).val) = true from by decide, oite_t, show Nat.ble (List.length (([] : List Pair) ++ [([97 + 0], [c])]) + 1) 4294967296 = true from rfl, oite_t, hR, hL]; rfl
  | 3 =>
    rw [show decide ((0 : UInt8) < UInt8.ofNat (3 : Fin 4).val) = true from by decide, oite_t, show Nat.ble (List.length ([] : List Pair) + 1) 4294967296 = true from rfl, oite_t, hR, hL,
      show decide ((0 : UInt8) + 1 < UInt8.ofNat (3 : Fin 4).val) = true from by decide, oite_t, show Nat.ble (List.length (([] : List Pair) ++ [([97 + 0], [c])]) + 1) 4294967296 = true from rfl, oite_t, hR, hL,
      show decide ((0 : UInt8) + 1 + 1 < UInt8.ofNat (3 : Fin 4).val) = true from by decide, oite_t, show Nat.ble (List.length (([] : List Pair) ++ [([97 + 0], [c])] ++ [([97 + (0 + 1)], [c])]) + 1) 4294967296 = true from rfl, oite_t, hR, hL]; rfl
theorem mod4 (x : UInt8) : ∃ d : Fin 4, x % 4 = UInt8.ofNat d.val := by
  have h : ∀ k : Fin 256, ∃ d : Fin 4, UInt8.ofNat k.val % 4 = UInt8.ofNat d.val := by decide +kernel
  have := h ⟨x.toNat, UInt8.toNat_lt x⟩
  simpa using this
theorem j127 (n : Nat) (hn : 4 ≤ n) (s0 : Bool) (s1 s2 s3 : UInt8) (s4 s5 s6 : UInt16) (s7 s8 s9 : UInt8) (s10 t0 : Bool) (t1 : UInt8) (t2 t3 : UInt64) (t4 : List UInt8) (t6 t7 : UInt8) (t8 : Int64)
    (t9 t10 : UInt8) (t11 t12 : UInt64) (v0 : UInt8) (v1 v2 : UInt64) (v3 : List UInt8) (v5 v6 : UInt8) (v7 : Int64) (v8 : UInt8) :
    ∃ d : Nat, F8_J127 n s0 s1 s2 s3 s4 s5 s6 s7 s8 s9 s10 t0 t1 t2 t3 t4 t6 t7 t8 t9 t10 t11 t12 v0 v1 v2 v3 v5 v6 v7 v8 =
      some ((false, v0, v1, v2, v3, (labs3 (48 + s8 / 4 % 10)).take d, v5, v6, v7, v8, 0, 0, 0), ()) := by
  obtain ⟨j, rfl⟩ : ∃ j, n = j + 4 := ⟨n - 4, by omega⟩
  obtain ⟨d, hd⟩ := mod4 s8
  refine ⟨d.val, ?_⟩
  unfold F8_J127
  rw [hd]
  exact lab_run (j + 4) j s0 s1 s2 s3 s4 s5 s6 s7 s8 s9 s10 t0 t1 t2 t3 t4 t6 t7 t8 t9 t10 t11 t12 v0 v1 v2 v3 v5 v6 v7 v8 d
theorem byte_all (P : UInt8 → Bool) (h : ∀ k : Fin 256, P (UInt8.ofNat k.val) = true) (x : UInt8) : P x = true := by
  have := h ⟨x.toNat, UInt8.toNat_lt x⟩
  simpa using this
theorem labs_ok (x : UInt8) (d : Nat) : labCheck ((labs3 (48 + x / 4 % 10)).take d) = 0 := by
  have hb := byte_all (fun x => okb true (48 + x / 4 % 10)) (by decide +kernel) x
  have hb : okb true (48 + x / 4 % 10) = true := hb
  generalize (48 : UInt8) + x / 4 % 10 = c at hb
  have hw : wordOK 16 true [c] = true := by unfold wordOK; simp [hb]
  have k1 : wordOK 8 false [97] = true := by decide
  have k2 : wordOK 8 false [98] = true := by decide
  have k3 : wordOK 8 false [99] = true := by decide
  have e1 : ([97] == ([98] : List UInt8)) = false := by decide
  have e2 : ([98] == ([99] : List UInt8)) = false := by decide
  have b1 : bytesLt [97] [98] = true := by decide
  have b2 : bytesLt [98] [99] = true := by decide
  match d with
  | 0 => rfl
  | 1 => simp only [labs3, List.take, labCheck, labGo, labStep, hw, k1, cond_true, List.length]; rfl
  | 2 => simp only [labs3, List.take, labCheck, labGo, labStep, hw, k1, k2, e1, b1, cond_true, cond_false, List.length]; rfl
  | 3 => simp only [labs3, List.take, labCheck, labGo, labStep, hw, k1, k2, k3, e1, e2, b1, b2, cond_true, cond_false, List.length]; rfl
  | d + 4 =>
    have : (labs3 c).take (d + 4) = labs3 c := List.take_of_length_le (by simp [labs3])
    rw [this]
    simp only [labs3, labCheck, labGo, labStep, hw, k1, k2, k3, e1, e2, b1, b2, cond_true, cond_false, List.length]; rfl
theorem labs_len (c : UInt8) (d : Nat) : ((labs3 c).take d).length ≤ 3 ∧ ∀ p ∈ (labs3 c).take d, p.1.length = 1 ∧ p.2.length = 1 := by
  refine ⟨by rw [List.length_take]; exact Nat.le_trans (Nat.min_le_right _ _) (by simp [labs3]), fun p hp => ?_⟩
  have := List.mem_of_mem_take hp
  simp [labs3] at this
  rcases this with rfl | rfl | rfl <;> simp
abbrev SmT := Bool × UInt8 × UInt8 × UInt8 × UInt16 × UInt16 × UInt16 × UInt8 × UInt8 × UInt8 × Bool
theorem u64of16 (x : UInt16) : (UInt64.ofInt ↑(UInt16.toNat x)).toNat = x.toNat := by
  have := u64_ofInt ((x.toNat : Nat) : Int)
  have h := UInt16.toNat_lt x
  omega
theorem seq_ok (x : UInt16) : decide ((1 : UInt64) + UInt64.ofInt ↑(UInt16.toNat x) < 1) = false ∧ decide ((1 : UInt64) + UInt64.ofInt ↑(UInt16.toNat x) ≤ 1099511627776) = true ∧ ((1 : UInt64) + UInt64.ofInt ↑(UInt16.toNat x)).toNat = 1 + x.toNat := by
  have h := UInt16.toNat_lt x
  have e : ((1 : UInt64) + UInt64.ofInt ↑(UInt16.toNat x)).toNat = 1 + x.toNat := by
    rw [UInt64.toNat_add, u64of16]; show (1 + x.toNat) % _ = _; omega
  refine ⟨dec_f fun q => ?_, dec_t ?_, e⟩
  · have := UInt64.lt_iff_toNat_lt.1 q; rw [e] at this; have e1 : (1 : UInt64).toNat = 1 := rfl; omega
  · rw [UInt64.le_iff_toNat_le, e]; show 1 + x.toNat ≤ 1099511627776; omega
/-- what such an item is like -/
structure Small (x : ItT) : Prop where
  ok : itCheck x = 0
  rule : x.2.2.2.2.1.length ≤ 12
  labs : x.2.2.2.2.2.1.length ≤ 3
  each : ∀ p ∈ x.2.2.2.2.2.1, p.1.length = 1 ∧ p.2.length = 1
theorem Small.fit {x : ItT} (h : Small x) (n : Nat) (hn : 20 < n) : FitI x n := by
  refine ⟨⟨by have := h.rule; omega, by have := h.rule; omega⟩, by have := h.labs; omega, fun p hp => ?_⟩
  have := h.each p hp
  omega
theorem ev_ok (o s2 : UInt8) (s4 s6 : UInt16) (rule : List UInt8) (state own : UInt8) (l : List Pair) (hr : nameOK rule = true) (hs : (decide (state = 0) || decide (state = 2)) = true)
    (ho : decide (2 < own) = false) (hw : ((!decide (own = 0)) == ownOK rule) = true) (hl : labCheck l = 0) :
    evCheck (o % 32) (1 + UInt64.ofInt ↑(UInt16.toNat s4)) (UInt64.ofInt ↑(UInt16.toNat s6)) rule l state (s2 % 8) own = 0 := by
  obtain ⟨q1, q2, _⟩ := seq_ok s4
  have q3 : decide (UInt64.ofInt ↑(UInt16.toNat s6) ≤ 1099511627776) = true := by
    refine dec_t ?_
    rw [UInt64.le_iff_toNat_le, u64of16]
    have := UInt16.toNat_lt s6
    show s6.toNat ≤ 1099511627776; omega
  have q4 := byte_all (fun o => !decide ((32 : UInt8) ≤ o % 32)) (by decide +kernel) o
  have q5 := byte_all (fun o => !decide ((7 : UInt8) < o % 8)) (by decide +kernel) s2
  simp only [Bool.not_eq_true'] at q4 q5
  unfold evCheck
  rw [q1, q2, q3, q4, q5, hr, hs, ho, hw, hl]; rfl
theorem item_small (n : Nat) (hn : 20 < n) (z : SmT) : ∃ x, F8 n z = some (x, ()) ∧ Small x ∧ x.1 = z.1 := by
  obtain ⟨s0, s1, s2, s3, s4, s5, s6, s7, s8, s9, s10⟩ := z
  cases s0 with
  | true =>
    refine ⟨_, rfl, ⟨?_, by simp, by simp, by simp⟩, rfl⟩
    obtain ⟨q1, q2, q3⟩ := seq_ok s4
    have q4 := byte_all (fun o => !decide ((32 : UInt8) ≤ o % 32)) (by decide +kernel) s1
    simp only [Bool.not_eq_true'] at q4
    have h4 := UInt16.toNat_lt s4
    have h5 := UInt16.toNat_lt s5
    have e : ((1 : UInt64) + UInt64.ofInt ↑(UInt16.toNat s4) + UInt64.ofInt ↑(UInt16.toNat s5)).toNat = 1 + s4.toNat + s5.toNat := by
      rw [UInt64.toNat_add, q3, u64of16]; omega
    have g1 : decide ((1 : UInt64) + UInt64.ofInt ↑(UInt16.toNat s4) + UInt64.ofInt ↑(UInt16.toNat s5) < (1 : UInt64) + UInt64.ofInt ↑(UInt16.toNat s4)) = false :=
      dec_f fun q => by have := UInt64.lt_iff_toNat_lt.1 q; rw [e, q3] at this; omega
    have g2 : decide ((1 : UInt64) + UInt64.ofInt ↑(UInt16.toNat s4) + UInt64.ofInt ↑(UInt16.toNat s5) ≤ 1099511627776) = true :=
      dec_t (by rw [UInt64.le_iff_toNat_le, e]; show _ ≤ 1099511627776; omega)
    show gapCheck (s1 % 32) _ _ = 0
    unfold gapCheck
    rw [q4, q1, g1, g2]; rfl
  | false =>
    obtain ⟨f1, rule, f2, f3⟩ := const_idx [[(104 : UInt8), (111 : UInt8), (116 : UInt8)], [(99 : UInt8), (111 : UInt8), (108 : UInt8), (100 : UInt8)],
        [(100 : UInt8), (105 : UInt8), (115 : UInt8), (107 : UInt8), (46 : UInt8), (102 : UInt8), (117 : UInt8), (108 : UInt8), (108 : UInt8)], [(120 : UInt8)]] s7 4 (by decide) rfl
    have hr : nameOK rule = true ∧ ownOK rule = false ∧ rule.length ≤ 12 := by
      simp only [List.mem_cons, List.not_mem_nil, or_false] at f2
      rcases f2 with rfl | rfl | rfl | rfl <;> decide
    have key : ∀ state : UInt8, (decide (state = 0) || decide (state = 2)) = true → ∃ x, F8_J63 n false s1 s2 s3 s4 s5 s6 s7 s8 s9 s10 false 0 0 0 [] 0 0 0 0 0 0 0 (s1 % 32) (1 + UInt64.ofInt ↑(UInt16.toNat s4)) (UInt64.ofInt ↑(UInt16.toNat s6)) rule state (s2 % 8)
        (Int64.ofInt ↑(UInt8.toNat s9) - 100) 0 = some (x, ()) ∧ Small x ∧ x.1 = false := by
      intro state hst
      unfold F8_J63
      rw [ojoinA_rw]
      by_cases h7 : s3 % 8 = 7
      · rw [dec_t h7, oite_t]
        obtain ⟨d, hd⟩ := j127 n (by omega) false s1 s2 s3 s4 s5 s6 s7 s8 s9 s10 false 0 0 0 [] 0 0 0 0 0 0 0 (s1 % 32) (1 + UInt64.ofInt ↑(UInt16.toNat s4)) (UInt64.ofInt ↑(UInt16.toNat s6)) [111, 119, 110, 46, 120] state (s2 % 8)
          (Int64.ofInt ↑(UInt8.toNat s9) - 100) (1 + s3 / 8 % 2)
        have o1 := byte_all (fun o => !decide ((2 : UInt8) < 1 + o / 8 % 2)) (by decide +kernel) s3
        have o2 := byte_all (fun o => !decide ((1 : UInt8) + o / 8 % 2 = 0)) (by decide +kernel) s3
        simp only [Bool.not_eq_true'] at o1 o2
        refine ⟨_, hd, ⟨ev_ok s1 s2 s4 s6 _ state _ _ (by decide) hst o1 ?_ (labs_ok s8 d), (by simp), (labs_len _ d).1, (labs_len _ d).2⟩, rfl⟩
        rw [o2]; decide
      · rw [dec_f h7, oite_f]
        obtain ⟨d, hd⟩ := j127 n (by omega) false s1 s2 s3 s4 s5 s6 s7 s8 s9 s10 false 0 0 0 [] 0 0 0 0 0 0 0 (s1 % 32) (1 + UInt64.ofInt ↑(UInt16.toNat s4)) (UInt64.ofInt ↑(UInt16.toNat s6)) rule state (s2 % 8)
          (Int64.ofInt ↑(UInt8.toNat s9) - 100) 0
        refine ⟨_, hd, ⟨ev_ok s1 s2 s4 s6 _ state 0 _ hr.1 hst (by decide) ?_ (labs_ok s8 d), hr.2.2, (labs_len _ d).1, (labs_len _ d).2⟩, rfl⟩
        rw [hr.2.1]; decide
    unfold F8
    dsimp only
    rw [oite_f, f1, f3, oite_t, obind_s, ojoinA_rw]
    cases s10 with
    | true => rw [oite_t]; exact key 2 (by decide)
    | false => rw [oite_f]; exact key 0 (by decide)

end Go.Proofs.Ytegncnhhofbmiaa
