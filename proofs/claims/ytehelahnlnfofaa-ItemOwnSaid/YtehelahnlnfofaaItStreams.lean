/- The law ItStreams: items one behind the other; cut, they are an error. -/
import Derived.Test.YtehelahnlnfofaaItPut
import Derived.Test.YtehelahnlnfofaaItChecks
open Go Go.Sx
namespace Go.Proofs.Ytehelahnlnfofaa
theorem f30 (n : Nat) (hn : 30 < n) (b : List UInt8) (hb : b.length < 2 ^ 62) :
    F30 n b = some ((if (rDone (rItem (b, 0)).2).1 = 0 then ((rItem (b, 0)).1, 0) else (zeroI, (rDone (rItem (b, 0)).2).1)), ()) := by
  rcases e : rItem (b, 0) with ⟨x, s⟩
  have hs := shorter short_item e hb
  unfold F30
  have e27 : F27 n b = some (some (b, 0), ()) := rfl
  rw [e27]
  simp only [obind_s]
  rw [f28 n hn _ hb, e]
  simp only [obind_s]
  rw [f29 n s hs]
  simp only [obind_s]
  by_cases h : (rDone s).1 = 0
  · rw [dec_t h, if_pos h]; rfl
  · rw [dec_f h, if_neg h]; rfl
def itI (n : Nat) (z : SmT) : ItT := match F9 n z with | some (x, _) => x | none => zeroI
theorem itI_eq (n : Nat) (hn : 20 < n) (z : SmT) : F9 n z = some (itI n z, ()) ∧ Small (itI n z) := by
  obtain ⟨x, h1, h2⟩ := item_small n hn z
  have : itI n z = x := by unfold itI; rw [h1]
  rw [this]; exact ⟨h1, h2⟩
theorem Small.fair {x : ItT} (h : Small x) : Fair x := .inr ⟨h.rule, by have := h.labs; omega, fun p hp => by have := h.each p hp; omega⟩
theorem labsB_len : ∀ l : List Pair, (∀ p ∈ l, p.1.length = 1 ∧ p.2.length = 1) → (labsB l).length ≤ 22 * l.length
  | [], _ => by simp [labsB]
  | p :: r, h => by
    have h1 := h p (by simp)
    have h2 := labsB_len r (fun q hq => h q (by simp [hq]))
    have h3 := encT_len p.1
    have h4 := encT_len p.2
    simp only [labsB, List.length_append, List.length_cons]
    omega
theorem Small.len {x : ItT} (h : Small x) : (labsB x.2.2.2.2.2.1).length ≤ 66 ∧ (itB x).length ≤ 200 ∧ 0 < (itB x).length := by
  have h1 := labsB_len _ h.each
  have h2 := h.labs
  have h3 := h.rule
  obtain ⟨g, o, seq, time, rule, labels, state, prio, v, own, go, ga, gb⟩ := x
  dsimp only at h1 h2 h3 ⊢
  have a1 := enc_len seq
  have a2 := enc_len time
  have a3 := encT_len rule
  have a4 := enc_len (UInt64.ofNat labels.length)
  have a5 := enc_len (zig v)
  have a6 := enc_len ga
  have a7 := enc_len gb
  refine ⟨by omega, ?_, ?_⟩
  · unfold itB
    cases g with
    | true => simp [gapB, gapOf]; omega
    | false => simp [evB, evOf, tailB]; omega
  · unfold itB; simp
theorem enc_small (n : Nat) (hn : 20 < n) {x : ItT} (h : Small x) : F13 n x = some (itB x, ()) := by
  have h1 := h.len
  have h2 := h.labs
  have h3 := h.rule
  exact it_enc n x (by omega) (by omega) (by omega) (by omega)
def allI (n : Nat) : List SmT → List UInt8
  | [] => []
  | z :: r => itB (itI n z) ++ allI n r
theorem allI_len (n : Nat) (hn : 20 < n) : ∀ l, (allI n l).length ≤ 200 * l.length
  | [] => by simp [allI]
  | z :: r => by
    have h1 := (itI_eq n hn z).2.len
    have h2 := allI_len n hn r
    simp only [allI, List.length_append, List.length_cons]
    omega
theorem i64_mod {a b : Nat} (ha : a < 2 ^ 63) (hb : b < 2 ^ 63) (h0 : 0 < b) : I64 a % I64 b = I64 (a % b) := by
  apply Int64.toInt_inj.1
  have := Nat.mod_lt a h0
  rw [Int64.toInt_mod, i64_toInt ha, i64_toInt hb, i64_toInt (by omega)]
  rw [Int.tmod_eq_emod_of_nonneg (by omega)]
  rfl
theorem take_loop (n : Nat) (hn : 40 < n) (l : List SmT) (hl : l.length ≤ 20) (cut : UInt16) : ∀ (m k : Nat), k ≤ l.length → l.length - k < m →
    F6_R1021 n m l cut l (I64 l.length) (I64 k) (some (allI n (l.drop k), 0)) = some (true, ()) := by
  intro m
  induction m with
  | zero => intro k _ h; omega
  | succ m ih =>
    intro k hk hm
    rw [F6_R1021_s]
    unfold F6_L1021
    by_cases hlt : k < l.length
    · obtain ⟨h1, h2⟩ := itI_eq n (by omega) l[k]
      have hlen := allI_len n (by omega) (l.drop k)
      have hg := item_good _ h2.fair h2.ok
      have e : allI n (l.drop k) = itB (itI n l[k]) ++ allI n (l.drop (k + 1)) := by rw [List.drop_eq_getElem_cons hlt]; rfl
      have hr : rItem (allI n (l.drop k), 0) = (normI (itI n l[k]), (allI n (l.drop (k + 1)), 0)) := by rw [e]; exact hg.full _
      have hlb := h2.labs
      rw [dec_t ((i64_lt (by omega) (by omega)).2 hlt), oite_t, at_i64_lt (by omega) hlt]
      simp only [obind_s]
      rw [f28 n (by omega) _ (by simp at hlen ⊢; omega), hr]
      simp only [obind_s]
      rw [h1]
      simp only [obind_s]
      rw [same_norm n (itI n l[k]) (by omega) (by omega)]
      simp only [obind_s, Bool.not_true, oite_f]
      rw [i64_succ]; exact ih (k + 1) (by omega) (by omega)
    · have : k = l.length := by omega
      subst this
      have hd : F29 n (some (([] : List UInt8), (0 : Int64))) = some (0, some ([], 0)) := f29 n ([], 0) (by simp)
      rw [dec_f (fun q => hlt ((i64_lt (by omega) (by omega)).1 q)), oite_f, List.drop_length]
      show obind (F29 n (some (([] : List UInt8), (0 : Int64)))) _ = _
      rw [hd]
      simp only [obind_s, decide_true, Bool.not_true, oite_f]
      cases l with
      | nil => rfl
      | cons z r =>
        have e0 : decide (I64 (z :: r).length = 0) = false := dec_f fun q => by have := (i64_eq (a := (z :: r).length) (b := 0) (by omega) (by omega)).1 q; simp at this
        obtain ⟨h1, h2⟩ := itI_eq n (by omega) z
        have hb := h2.len
        have hg := item_good _ h2.fair h2.ok
        rw [show Int64.ofInt ↑(z :: r).length = I64 (z :: r).length from rfl, e0, oite_f, show at? (z :: r) (Int64.toInt 0) = some z from rfl]
        simp only [obind_s]
        rw [h1]
        simp only [obind_s]
        rw [enc_small n (by omega) h2]
        simp only [obind_s]
        have e1 : decide (I64 (itB (itI n z)).length = 0) = false := dec_f fun q => by have := (i64_eq (b := 0) (by omega) (by omega)).1 q; omega
        rw [show Int64.ofInt ↑(itB (itI n z)).length = I64 (itB (itI n z)).length from rfl, e1, oite_f, show Int64.ofInt ↑(UInt16.toNat cut) = I64 cut.toNat from rfl,
          i64_mod (by have := UInt16.toNat_lt cut; omega) (by omega) (by omega)]
        have hk := Nat.mod_lt cut.toNat (show 0 < (itB (itI n z)).length by omega)
        rw [i64_toInt (by omega)]
        have e2 : decide ((0 : Int) ≤ ↑(cut.toNat % (itB (itI n z)).length)) = true := dec_t (by omega)
        rw [e2, show Int.toNat ↑(cut.toNat % (itB (itI n z)).length) = cut.toNat % (itB (itI n z)).length from rfl, ble_t (by omega), Bool.true_and, Bool.true_and, oite_t]
        rw [f30 n (by omega) _ (by simp; omega), List.drop_zero]
        have hcut := hg.cut _ hk
        have hc2 : (rDone (rItem ((itB (itI n z)).take (cut.toNat % (itB (itI n z)).length), 0)).2).1 = 3 := by
          unfold rDone; rw [hcut, if_neg (by decide)]
        rw [hc2, if_neg (by decide)]
        simp only [obind_s]
        rw [ble_t (by omega), oite_t, ble_t (by simp; omega), oite_t, f30 n (by omega) _ (by simp; omega), List.nil_append]
        have hfull := hg.full [0]
        rw [hfull]
        simp only [obind_s, decide_true, oite_t]
        rfl
theorem put_loop (n : Nat) (hn : 40 < n) (l : List SmT) (hl : l.length ≤ 20) (cut : UInt16) : ∀ (m k : Nat) (w : List UInt8), k ≤ l.length → l.length - k < m → w.length ≤ 200 * k → w ++ allI n (l.drop k) = allI n l →
    F6_R125 n m l cut l (I64 l.length) (I64 k) (some w) = some (true, ()) := by
  intro m
  induction m with
  | zero => intro k _ _ h; omega
  | succ m ih =>
    intro k w hk hm hw hall
    rw [F6_R125_s]
    unfold F6_L125
    by_cases hlt : k < l.length
    · obtain ⟨h1, h2⟩ := itI_eq n (by omega) l[k]
      have hb := h2.len
      have hlb := h2.labs
      have hrl := h2.rule
      have e : allI n (l.drop k) = itB (itI n l[k]) ++ allI n (l.drop (k + 1)) := by rw [List.drop_eq_getElem_cons hlt]; rfl
      rw [dec_t ((i64_lt (by omega) (by omega)).2 hlt), oite_t, at_i64_lt (by omega) hlt]
      simp only [obind_s]
      rw [h1]
      simp only [obind_s]
      rw [it_put n (itI n l[k]) (by omega) (by omega) w (by omega)]
      simp only [obind_s]
      rw [i64_succ]
      exact ih (k + 1) _ (by omega) (by omega) (by simp; omega) (by rw [List.append_assoc, ← e]; exact hall)
    · have : k = l.length := by omega
      subst this
      rw [List.drop_length] at hall
      have hw2 : w = allI n l := by simpa [allI] using hall
      rw [dec_f (fun q => hlt ((i64_lt (by omega) (by omega)).1 q)), oite_f, bytes_spec n w (by omega)]
      simp only [obind_s]
      have e27 : F27 n w = some (some (w, 0), ()) := rfl
      rw [e27]
      simp only [obind_s]
      have := take_loop n hn l hl cut n 0 (by omega) (by omega)
      rw [List.drop_zero] at this
      rw [hw2]; exact this
theorem streams (l : List SmT) (cut : UInt16) (hl : l.length < 2 ^ 63) : F6 200 (l, cut) = some (true, ()) := by
  have hF : ∀ n, F6 n (l, cut) = obind (F8 n ()) fun x => oite (!x.1) (some (false, ())) (oite (decide ((20 : Int64) < I64 l.length)) (some (true, ())) (F6_R125 n n l cut l (I64 l.length) 0 (some []))) := fun n => rfl
  have ha := awakeI 170
  rw [hF, show (200 : Nat) = 170 + 30 from rfl, ha]
  generalize hN : 170 + 30 = N
  simp only [obind_s, Bool.not_true, oite_f]
  by_cases h : 20 < l.length
  · rw [dec_t (p := (20 : Int64) < I64 l.length) ((i64_lt (a := 20) (by omega) hl).2 h), oite_t]
  · rw [dec_f (p := (20 : Int64) < I64 l.length) (fun q => h ((i64_lt (a := 20) (by omega) hl).1 q)), oite_f]
    exact put_loop N (by omega) l (by omega) cut N 0 [] (by omega) (by omega) (by simp) (by simp)
theorem streams_true : ∀ x : sig6.In, PTys.fits sig6.ps x → ∃ y, F6 200 x = some y ∧ PTys.hd (.one (.c .bool)) .nil y.1 = true := by
  rintro ⟨l, cut⟩ hfit
  have hl : l.length < 2 ^ 63 := by have := hfit.1; simp only [PTy.fits, CT.fits] at this; exact this.1
  exact ⟨(true, ()), streams l cut hl, rfl⟩
end Go.Proofs.Ytehelahnlnfofaa
