/- The law RecvOwn: what is held stays as it came, whatever is done with what was handed in, or answered. -/
import Derived.Test.YtllfmmonieelpaaRoItem
open Go Go.Sx
namespace Go.Proofs.Ytllfmmonieelpaa
/-! ### The labels that are lent -/
theorem lab_loop' (n N : Nat) (hn : 20 < n) (l : List Pair) (hf : FitL l N) : ∀ (m k : Nat), k ≤ l.length → l.length - k < m →
    F1039_R29 n m (I64 l.length) (I64 k) l = some (labGo (prevOf l k) (l.drop k), l) := by
  obtain ⟨hl, hf⟩ := hf
  intro m
  induction m with
  | zero => intro k _ h; omega
  | succ m ih =>
    intro k hk hm
    rw [F1039_R29_s]
    unfold F1039_L29
    by_cases hlt : k < l.length
    · have hp := hf l[k] (List.getElem_mem hlt)
      have hnext := ih (k + 1) (by omega) (by omega)
      obtain ⟨g1, g2⟩ := idx_i64 hlt (by omega : k < 2 ^ 63)
      rw [dec_t ((i64_lt (by omega) hl).2 hlt), oite_t, g1, oite_t, g2]
      simp only [obind_s, own_key n _ hp.1.1 hn, own_val n _ hp.1.2 hn, ojoinA_eq]
      rw [List.drop_eq_getElem_cons hlt, labGo]
      unfold labStep
      cases wordOK 8 false l[k].1 with
      | false => rfl
      | true =>
      cases wordOK 16 true l[k].2 with
      | false => rfl
      | true =>
      simp only [Bool.not_true, oite_f, cond_true]
      unfold F1039_J3767
      rw [i64_succ, hnext]
      cases k with
      | zero =>
        rw [dec_f (p := (0 : Int64) < I64 0) (fun q => absurd ((i64_lt (a := 0) (b := 0) (by omega) (by omega)).1 q) (by omega))]
        simp only [oite_f, prevOf]
        have : l[0]?.map (·.1) = some l[0].1 := by rw [List.getElem?_eq_getElem hlt]; rfl
        rw [this]
      | succ j =>
        rw [dec_t (p := (0 : Int64) < I64 (j + 1)) ((i64_lt (a := 0) (b := j + 1) (by omega) (by omega)).2 (by omega))]
        have e1 : I64 (j + 1) - 1 = I64 j := i64_sub (a := j + 1) (b := 1) (by omega)
        obtain ⟨g3, g4⟩ := idx_i64 (by omega : j < l.length) (by omega : j < 2 ^ 63)
        rw [e1, g3, g4]
        have e2 : prevOf l (j + 1) = some l[j].1 := by show (l[j]?).map (·.1) = _; rw [List.getElem?_eq_getElem (by omega : j < l.length)]; rfl
        have e3 : prevOf l (j + 1 + 1) = some l[j + 1].1 := by show (l[j + 1]?).map (·.1) = _; rw [List.getElem?_eq_getElem hlt]; rfl
        rw [e2, e3]
        simp only [oite_t, obind_s]
        cases hq : (l[j].1 == l[j + 1].1) with
        | true => rfl
        | false => cases bytesLt l[j].1 l[j + 1].1 <;> rfl
    · rw [dec_f (fun q => hlt ((i64_lt (by omega) hl).1 q)), oite_f]
      have : k = l.length := by omega
      subst this; rw [List.drop_length]; cases prevOf l l.length <;> rfl
theorem lab_eq' (n N : Nat) (hn : 20 < n) (l : List Pair) (hf : FitL l N) : F1039 n l = some (labCheck l, l) := by
  have h8 : decide ((8 : Int64) < Int64.ofInt ↑l.length) = decide (8 < l.length) := decide_eq_decide.2 (i64_lt (a := 8) (by omega) hf.1)
  unfold F1039 labCheck
  rw [h8]
  by_cases h : 8 < l.length
  · rw [dec_t h]; rfl
  · rw [dec_f h]
    have := lab_loop' n N hn l hf n 0 (by omega) (by omega)
    rw [List.drop_zero] at this
    show F1039_R29 n n (I64 l.length) (I64 0) l = _
    rw [this]; rfl
theorem ev_eq' (n N : Nat) (hn : 20 < n) (o : UInt8) (seq time : UInt64) (rule : List UInt8) (labels : List Pair) (state prio : UInt8) (v : Int64) (own : UInt8) (h1 : rule.length < 2 ^ 63) (h2 : FitL labels N) :
    F1032 n (o, seq, time, rule, labels, state, prio, v, own) = some (evCheck o seq time rule labels state prio own, labels) := by
  unfold F1032 evCheck F1032_J111 F36
  simp only [name_eq n rule h1 hn, own_eq n rule h1, lab_eq' n N hn labels h2, obind_s, ojoinA_eq]
  generalize labCheck labels = lc
  generalize ownOK rule = ow
  generalize nameOK rule = nm
  generalize decide (own = 0) = o0
  cases decide ((32 : UInt8) ≤ o) <;> try rfl
  cases decide (seq < 1) <;> try rfl
  cases decide (seq ≤ 1099511627776) <;> try rfl
  cases decide (time ≤ 1099511627776) <;> try rfl
  cases decide ((7 : UInt8) < prio) <;> try rfl
  cases nm <;> try rfl
  cases decide (state = 0) <;> cases decide (state = 2) <;> cases decide ((2 : UInt8) < own) <;> cases o0 <;> cases ow <;> rfl
theorem it_eq' (n N : Nat) (hn : 20 < n) (x : ItT) (hf : FitI x N) : F1024 n x = some (itCheck x, x.2.2.2.2.2.1) := by
  obtain ⟨g, o, seq, time, rule, labels, state, prio, v, own, go, ga, gb⟩ := x
  obtain ⟨h1, h2⟩ := hf
  unfold F1024 itCheck
  dsimp only
  rw [ev_eq' n N hn o seq time rule labels state prio v own h1.1 h2]
  cases g with
  | false => rfl
  | true =>
    unfold F31 F36 gapCheck
    cases decide ((32 : UInt8) ≤ go) <;> try rfl
    cases decide (ga < 1) <;> try rfl
    cases decide (gb < ga) <;> try rfl
    cases decide (gb ≤ 1099511627776) <;> rfl
/-! ### The receiver -/
abbrev KU : VT := VT.one (CT.int IntKind.u64)
abbrev VI : VT := VT.agg (CTs.cons CT.bool (CTs.cons (CT.int IntKind.u8) (CTs.cons (CT.int IntKind.u64) (CTs.cons (CT.int IntKind.u64) (CTs.cons CT.str (CTs.cons (CT.ro (CTs.cons CT.str (CTs.cons CT.str CTs.nil))) (CTs.cons (CT.int IntKind.u8) (CTs.cons (CT.int IntKind.u8) (CTs.cons (CT.int IntKind.i64) (CTs.cons (CT.int IntKind.u8) (CTs.cons (CT.int IntKind.u8) (CTs.cons (CT.int IntKind.u64) (CTs.cons (CT.int IntKind.u64) CTs.nil)))))))))))))
abbrev MapI := List (UInt64 × ItT)
abbrev RecT := Int64 × UInt64 × MapI × UInt64
theorem clone_eq (n : Nat) (x : ItT) (h : x.2.2.2.2.2.1.length ≤ 1000) : F25 n x = some (x, ()) := by
  unfold F25
  rw [ble_t (by omega), oite_t]
  rfl
theorem clone_eq' (n : Nat) (x : ItT) (h : x.2.2.2.2.2.1.length ≤ 1000) : F1025 n x = some (x, x.2.2.2.2.2.1) := by
  unfold F1025
  rw [ble_t (by omega), oite_t]
  rfl
theorem has_eq (n : Nat) (r : RecT) (k : UInt64) : F23 n (some r, k) = some ((mget KU VI k r.2.2.1).isSome, some r) := rfl
theorem peek_some (n : Nat) (w : Int64) (want : UInt64) (m : MapI) (old : UInt64) (y : ItT) (hl : y.2.2.2.2.2.1.length ≤ 1000) (hg : mget KU VI want m = some y) :
    F11 n (some (w, want, m, old)) = some ((y, true), some (w, want, m, old)) := by
  have hc := clone_eq n y hl
  obtain ⟨y0, y1, y2, y3, y4, y5, y6, y7, y8, y9, y10, y11, y12⟩ := y
  unfold F11
  dsimp only [oelim]
  rw [has_eq, obind_s]
  dsimp only
  rw [hg]
  dsimp only [Option.isSome, Option.getD]
  simp only [Bool.not_true, oite_f, obind_s]
  rw [hg]
  dsimp only
  rw [hc, obind_s]
def held (x : ItT) : Option RecT := some (3, 1, [(1, x)], 0)
theorem peek_held (n : Nat) (x : ItT) (hl : x.2.2.2.2.2.1.length ≤ 1000) : F11 n (held x) = some ((x, true), held x) := peek_some n 3 1 [(1, x)] 0 x hl rfl
theorem take_first (n : Nat) (hn : 20 < n) (x : ItT) (hx : Small x) : F1010 n (some (3, 1, [], 0), 1, x) = some (0, held x, x.2.2.2.2.2.1) := by
  have h1 := it_eq' n n hn x (hx.fit n hn)
  rw [hx.ok] at h1
  have h2 := clone_eq' n x (by have := hx.labs; omega)
  obtain ⟨x0, x1, x2, x3, x4, x5, x6, x7, x8, x9, x10, x11, x12⟩ := x
  unfold F1010
  dsimp only [oelim]
  rw [ojoinA_eq, dec_f (show ¬ (1 : UInt64) < 1 by decide), oite_f, has_eq, obind_s]
  show F1010_J27 n 1 false (some (3, 1, [], 0)) x5 x0 x1 x2 x3 x4 x6 x7 x8 x9 x10 x11 x12 = _
  unfold F1010_J27
  rw [oite_f, obind_s]
  dsimp only
  rw [dec_f (show ¬ (UInt64.ofInt (Int64.toInt (3 : Int64)) ≤ (1 : UInt64) - 1) by decide), oite_f, h1, obind_s]
  dsimp only
  rw [dec_t rfl, Bool.not_true, oite_f, h2]
  rfl
theorem same_loop (l : List Pair) (hl : l.length < 2 ^ 63) : ∀ (m k : Nat), k ≤ l.length → l.length - k < m → F26_R29 m l l (I64 k) = some (true, ()) := by
  intro m
  induction m with
  | zero => intro k _ h; omega
  | succ m ih =>
    intro k hk hm
    rw [F26_R29_s]
    unfold F26_L29
    by_cases hlt : k < l.length
    · rw [dec_t ((i64_lt (by omega) hl).2 hlt), oite_t, at_i64_lt (by omega) hlt]
      simp only [obind_s, beq_self_eq_true, Bool.and_true, Bool.not_true, oite_f]
      rw [i64_succ]; exact ih (k + 1) (by omega) (by omega)
    · rw [dec_f (fun q => hlt ((i64_lt (by omega) hl).1 q)), oite_f]
theorem same_list (n : Nat) (l : List Pair) (hl : l.length < 2 ^ 63) (hn : l.length < n) : F26 n (l, l) = some (true, ()) := by
  unfold F26
  simp only [decide_true, Bool.not_true, oite_f]
  exact same_loop l hl n 0 (by omega) (by omega)
theorem same_self (n : Nat) (x : ItT) (hl : x.2.2.2.2.2.1.length < 2 ^ 63) (hn : x.2.2.2.2.2.1.length < n) : F12 n (x, x) = some (true, ()) := by
  obtain ⟨g, o, seq, time, rule, labels, state, prio, v, own, go, ga, gb⟩ := x
  dsimp only at hl hn
  cases g with
  | true =>
    unfold F12
    simp
    rfl
  | false =>
    have := same_list n labels hl hn
    unfold F12
    simp [this, oite_t, oite_f, obind_s]

section
variable (n : Nat) (hn : 20 < n) (x : ItT) (hx : Small x)
variable (s1 s2 s3 : UInt8) (s4 s5 s6 : UInt16) (s7 s8 s9 : UInt8) (s10 : Bool)
variable (hF : F9 n (false, s1, s2, s3, s4, s5, s6, s7, s8, s9, s10) = some (x, ()))
include hx hF hn
theorem own_end : (obind (F11 n (held x)) fun x_6 => oite (decide ((0 : Int64) = 0)) (oite (decide ((0 : Int64) = 0)) (oite x_6.1.2 (obind (F9 n (false, s1, s2, s3, s4, s5, s6, s7, s8, s9, s10)) fun x_7 => obind (F12 n (x_6.1.1, x_7.1)) fun x_8 => some (x_8.1, ())) (some (false, ()))) (some (false, ()))) (some (false, ()))) = some (true, ()) := by
  rw [peek_held n x (by have := hx.labs; omega), obind_s, dec_t rfl, oite_t, oite_t]
  dsimp only
  rw [oite_t, hF, obind_s]
  dsimp only
  rw [same_self n x (by have := hx.labs; omega) (by have := hx.labs; omega)]
  rfl
theorem own_loop2 (y0 : Bool) (y1 : UInt8) (y2 y3 : UInt64) (y4 : List UInt8) (y6 y7 : UInt8) (y8 : Int64) (y9 y10 : UInt8) (y11 y12 : UInt64) : ∀ (m k : Nat) (l : List Pair), l.length ≤ 100 → k ≤ l.length → l.length - k < m →
    F3_R4093 n m 0 0 (I64 l.length) (I64 k) false s1 s2 s3 s4 s5 s6 s7 s8 s9 s10 (held x) y0 y1 y2 y3 y4 y6 y7 y8 y9 y10 y11 y12 l = some (true, ())
  | 0, k, l, _, _, h => by omega
  | m + 1, k, l, hl, hk, h => by
    rw [F3_R4093_s]
    unfold F3_L4093
    by_cases hlt : k < l.length
    · obtain ⟨g1, g2⟩ := idx_i64 hlt (by omega)
      rw [dec_t ((i64_lt (by omega) (by omega)).2 hlt), oite_t, g1, oite_t, g2, obind_s, i64_succ, i64_toInt (by omega)]
      have ih := own_loop2 y0 y1 y2 y3 y4 y6 y7 y8 y9 y10 y11 y12 m (k + 1) (l.set (Int.toNat (k : Int)) (l[k].1, [113])) (by simpa using hl) (by simp; omega) (by simp; omega)
      rw [List.length_set] at ih
      exact ih
    · rw [dec_f (fun h => hlt ((i64_lt (by omega) (by omega)).1 h)), oite_f]
      exact own_end n hn x hx s1 s2 s3 s4 s5 s6 s7 s8 s9 s10 hF
theorem own_loop1 (h100 : 100 < n) (y0 : Bool) (y1 : UInt8) (y2 y3 : UInt64) (y4 : List UInt8) (y6 y7 : UInt8) (y8 : Int64) (y9 y10 : UInt8) (y11 y12 : UInt64) : ∀ (m k : Nat) (l : List Pair), l.length ≤ 100 → k ≤ l.length → l.length - k < m →
    F3_R1021 n m 0 0 (I64 l.length) (I64 k) false s1 s2 s3 s4 s5 s6 s7 s8 s9 s10 (held x) y0 y1 y2 y3 y4 y6 y7 y8 y9 y10 y11 y12 l = some (true, ())
  | 0, k, l, _, _, h => by omega
  | m + 1, k, l, hl, hk, h => by
    rw [F3_R1021_s]
    unfold F3_L1021
    by_cases hlt : k < l.length
    · obtain ⟨g1, g2⟩ := idx_i64 hlt (by omega)
      rw [dec_t ((i64_lt (by omega) (by omega)).2 hlt), oite_t, g1, oite_t, g2, obind_s, i64_succ, i64_toInt (by omega)]
      have ih := own_loop1 h100 y0 y1 y2 y3 y4 y6 y7 y8 y9 y10 y11 y12 m (k + 1) (l.set (Int.toNat (k : Int)) ([122, 122], l[k].2)) (by simpa using hl) (by simp; omega) (by simp; omega)
      rw [List.length_set] at ih
      exact ih
    · rw [dec_f (fun h => hlt ((i64_lt (by omega) (by omega)).1 h)), oite_f, peek_held n x (by have := hx.labs; omega), obind_s]
      have := hx.labs
      exact own_loop2 n hn x hx s1 s2 s3 s4 s5 s6 s7 s8 s9 s10 hF _ _ _ _ _ _ _ _ _ _ _ _ n 0 x.2.2.2.2.2.1 (by omega) (by omega) (by omega)
end
theorem awakeR (m : Nat) : F7 (m + 100) () = some (true, ()) := by kernel_rfl
theorem own_some (n : Nat) (z : SmT) : F3 (n + 200) z = some (true, ()) := by
  obtain ⟨s0, s1, s2, s3, s4, s5, s6, s7, s8, s9, s10⟩ := z
  obtain ⟨x, hF, hx⟩ := item_small (n + 200) (by omega) (false, s1, s2, s3, s4, s5, s6, s7, s8 ||| 3, s9, s10)
  unfold F3
  dsimp only
  rw [show F7 (n + 200) () = some (true, ()) from awakeR (n + 100), obind_s]
  dsimp only
  rw [Bool.not_true, oite_f]
  show obind (F9 (n + 200) (false, s1, s2, s3, s4, s5, s6, s7, s8 ||| 3, s9, s10)) _ = _
  rw [hF, obind_s]
  show obind (F1010 (n + 200) (some (3, 1, [], 0), 1, x)) _ = _
  rw [take_first (n + 200) (by omega) x hx, obind_s]
  have := hx.labs
  exact own_loop1 (n + 200) (by omega) x hx s1 s2 s3 s4 s5 s6 s7 (s8 ||| 3) s9 s10 hF (by omega) _ _ _ _ _ _ _ _ _ _ _ _ (n + 200) 0 x.2.2.2.2.2.1 (by omega) (by omega) (by omega)
theorem own_true : ∀ x : sig3.In, PTys.fits sig3.ps x → ∃ y, F3 300 x = some y ∧ PTys.hd (.one (.c .bool)) .nil y.1 = true := by
  intro z _
  exact ⟨(true, ()), own_some 100 z, rfl⟩
end Go.Proofs.Ytllfmmonieelpaa
