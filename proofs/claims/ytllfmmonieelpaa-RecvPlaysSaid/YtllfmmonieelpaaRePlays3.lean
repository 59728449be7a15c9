/- The law RecvPlays: the rounds. -/
import Derived.Test.YtllfmmonieelpaaRePlays2
open Go Go.Sx
namespace Go.Proofs.Ytllfmmonieelpaa
abbrev SmT2 := Bool × UInt8 × UInt8 × UInt8 × UInt16 × UInt16 × UInt16 × UInt8 × UInt8 × UInt8 × Bool
abbrev ActT := UInt8 × UInt64 × Bool × UInt8 × UInt8 × UInt8 × UInt16 × UInt16 × UInt16 × UInt8 × UInt8 × UInt8 × Bool × Bool × UInt8 × UInt64 × UInt64 × List UInt8 × List Pair × UInt8 × UInt8 × Int64 × UInt8 × UInt8 × UInt64 × UInt64 × Bool
abbrev RecF := Int64 → Int64 → List ActT → Int64 → Int64 → Option RecT → Option ModT → Option (Bool × Unit)
theorem check_ok (n : Nat) (hn : 3000 < n) (rec : RecF) (w : Int64) (hw : 1 ≤ w.toInt) (hw2 : w.toInt ≤ 64) (e f : Int64) (t : List ActT) (t1 t2 : Int64) (want : UInt64) (m : MapI) (old : UInt64) (h : Fine w.toInt.toNat want m) :
    F4_J32439 n rec w e f f t t1 t2 (some (w, want, m, old)) (some (w, want, old, m)) = rec w e t t1 (t2 + 1) (some (w, want, m, old)) (some (w, want, old, m)) := by
  have hlen := h.len
  have hack := ack_eq n (by omega) w want m old
  have hbits := mbits_eq n (by omega) w want old m (by omega)
  have hcnt : F18 n (some (w, want, m, old)) = some ((want, I64 m.length, old), some (w, want, m, old)) := by
    unfold F18
    dsimp only [oelim]
    rw [ble_t (by omega), oite_t]
  have hle : decide (w < Int64.ofInt ↑(List.length m)) = false := dec_f (fun q => by
    rw [Int64.lt_iff_toInt_lt] at q
    have : (Int64.ofInt ↑(List.length m)).toInt = (m.length : Int) := i64_toInt (k := m.length) (by omega)
    omega)
  have hfind := find_eq n want w want old m (by omega) (by omega)
  unfold F4_J32439
  simp only [decide_true, Bool.not_true, oite_f]
  cases hg : mget KU VI want m with
  | none =>
    have hfi : decide ((0 : Int64) ≤ fi want m) = false := by rw [fi_pos want m (by omega), hg]; rfl
    rw [peek_none n w want m old hg, obind_s, obind_s]
    dsimp only
    rw [hfind, obind_s, hack, obind_s]
    dsimp only
    rw [hcnt, obind_s, ojoinA_eq]
    dsimp only
    rw [hfi]
    simp only [beq_self_eq_true, Bool.not_true, oite_f, obind_s, decide_true]
    rw [hbits, obind_s]
    dsimp only
    simp only [decide_true, Bool.not_true, oite_f, obind_s]
    rw [hle, oite_f]
    rfl
  | some y =>
    have hy := h.lab _ (mget_mem want m y hg)
    dsimp only at hy
    have hfi : decide ((0 : Int64) ≤ fi want m) = true := by rw [fi_pos want m (by omega), hg]; rfl
    have hsame := same_self n y (by omega) (by omega)
    rw [peek_some n w want m old y (by omega) hg, obind_s, obind_s]
    dsimp only
    rw [hfind, obind_s, hack, obind_s]
    dsimp only
    rw [hcnt, obind_s, ojoinA_eq]
    dsimp only
    rw [hfi]
    simp only [beq_self_eq_true, Bool.not_true, oite_f, oite_t, obind_s, decide_true]
    cases hm : Go.Sx.mix KU VI want m with
    | none => rw [(mix_none hm).1] at hg; cases hg
    | some j =>
      obtain ⟨p, q1, _, q3, _⟩ := mix_some hm
      have hj : j < m.length := by rcases Nat.lt_or_ge j m.length with h | h; exact h; rw [List.getElem?_eq_none h] at q1; cases q1
      have hpy : p.2 = y := by rw [q3] at hg; exact Option.some.inj hg
      have hfj : fi want m = I64 j := by unfold fi; rw [hm]
      obtain ⟨i1, i2⟩ := idx_i64 (l := m) (k := j) hj (by omega)
      have i3 : m[Int.toNat (Int64.toInt (I64 j))]? = some p := by rw [i2]; rw [List.getElem?_eq_getElem hj] at q1; exact q1
      rw [hfj, i1, oite_t, i3, obind_s]
      subst hpy
      obtain ⟨ps, p0, p1, p2, p3, p4, p5, p6, p7, p8, p9, p10, p11, p12⟩ := p
      dsimp only at hsame ⊢
      rw [hsame, obind_s]
      simp only [Bool.not_true, oite_f]
      rw [hbits, obind_s]
      dsimp only
      simp only [decide_true, Bool.not_true, oite_f, obind_s]
      rw [hle, oite_f]
      rfl
theorem put_both (n : Nat) (hn : 3000 < n) (rec : RecF) (w : Int64) (hw : 1 ≤ w.toInt) (hw2 : w.toInt ≤ 64) (e : Int64) (t : List ActT) (t1 t2 : Int64) (want : UInt64) (hwant : want.toNat ≤ 1000) (m : MapI) (old : UInt64) (h : Fine w.toInt.toNat want m)
    (seq : UInt64) (x : ItT) (hf : FitI x n) (hl : x.2.2.2.2.2.1.length ≤ 12) :
    ∃ m' old', Fine w.toInt.toNat want m' ∧ F4_J1038063 n (F4_J32439 n rec) w e seq t t1 t2 (some (w, want, m, old)) w want old x.1 x.2.1 x.2.2.1 x.2.2.2.1 x.2.2.2.2.1 x.2.2.2.2.2.1 x.2.2.2.2.2.2.1 x.2.2.2.2.2.2.2.1 x.2.2.2.2.2.2.2.2.1 x.2.2.2.2.2.2.2.2.2.1 x.2.2.2.2.2.2.2.2.2.2.1 x.2.2.2.2.2.2.2.2.2.2.2.1 x.2.2.2.2.2.2.2.2.2.2.2.2 m = rec w e t t1 (t2 + 1) (some (w, want, m', old')) (some (w, want, old', m')) := by
  obtain ⟨c, m', old', k1, k2, k3⟩ := take_both n (by omega) w hw hw2 want hwant m old h seq x hf hl
  refine ⟨m', old', k3, ?_⟩
  obtain ⟨x0, x1, x2, x3, x4, x5, x6, x7, x8, x9, x10, x11, x12⟩ := x
  unfold F4_J1038063
  dsimp only
  rw [k1, obind_s, k2, obind_s]
  dsimp only
  exact check_ok n hn rec w hw hw2 e c t t1 t2 want m' old' k3

def anyA (a : ActT) : ItT := match a with
  | (_, _, _, _, _, _, _, _, _, _, _, _, _, a13, a14, a15, a16, a17, a18, a19, a20, a21, a22, a23, a24, a25, _) => (a13, a14, a15, a16, a17, a18, a19, a20, a21, a22, a23, a24, a25)
theorem mid_ok (n : Nat) (hn : 3000 < n) (rec : RecF) (w : Int64) (hw : 1 ≤ w.toInt) (hw2 : w.toInt ≤ 64) (e : Int64) (t : List ActT) (t1 t2 : Int64) (want : UInt64) (hwant : want.toNat ≤ 1000) (m : MapI) (old : UInt64) (h : Fine w.toInt.toNat want m)
    (seq : UInt64) {a0 a1 a2 a3 a4 a5 a6 a7 a8 a9 a10 a11 a12 a13 a14 a15 a16 a17 a18 a19 a20 a21 a22 a23 a24 a25 a26 : _} {x0 x1 x2 x3 x4 x5 x6 x7 x8 x9 x10 x11 x12 : _} (hx : Small (x0, x1, x2, x3, x4, x5, x6, x7, x8, x9, x10, x11, x12)) (hf : FitI (a13, a14, a15, a16, a17, a18, a19, a20, a21, a22, a23, a24, a25) n) (hl : a18.length ≤ 12) :
    ∃ m' old', Fine w.toInt.toNat want m' ∧ F4_J519031 n (F4_J32439 n rec) w e seq t t1 t2 (some (w, want, m, old)) w want old a0 a1 a2 a3 a4 a5 a6 a7 a8 a9 a10 a11 a12 a13 a14 a15 a16 a17 a18 a19 a20 a21 a22 a23 a24 a25 a26 x0 x1 x2 x3 x4 x5 x6 x7 x8 x9 x10 x11 x12 m = rec w e t t1 (t2 + 1) (some (w, want, m', old')) (some (w, want, old', m')) := by
  unfold F4_J519031
  rw [ojoinA_eq]
  cases a26 with
  | true => exact put_both n hn rec w hw hw2 e t t1 t2 want hwant m old h a1 (a13, a14, a15, a16, a17, a18, a19, a20, a21, a22, a23, a24, a25) hf hl
  | false =>
    have := hx.labs
    exact put_both n hn rec w hw hw2 e t t1 t2 want hwant m old h seq (x0, x1, x2, x3, x4, x5, x6, x7, x8, x9, x10, x11, x12) (hx.fit n (by omega)) (by dsimp only at this ⊢; omega)
theorem plays_loop (n : Nat) (hn : 3000 < n) (t : List ActT) (ht : t.length < 2 ^ 63) (hfit : ∀ a ∈ t, FitI (anyA a) n) (w : Int64) (hw : 1 ≤ w.toInt) (hw2 : w.toInt ≤ 64) : ∀ (f k : Nat) (want : UInt64) (m : MapI) (old : UInt64), k ≤ t.length → t.length - k < f → Fine w.toInt.toNat want m → want.toNat ≤ 1 + k → k ≤ 101 →
    F4_R253 n f w 0 t (I64 t.length) (I64 k) (some (w, want, m, old)) (some (w, want, old, m)) = some (true, ()) := by
  intro f
  induction f with
  | zero => intro k want m old _ h; omega
  | succ f ih =>
    intro k want m old hk hf h hwant hk2
    rw [F4_R253_s]
    unfold F4_L253
    by_cases hlt : k < t.length
    · rw [dec_t ((i64_lt (by omega) ht).2 hlt), oite_t, at_i64_lt (by omega) hlt, obind_s]
      have hfa := hfit _ (List.getElem_mem hlt)
      generalize t[k] = a at hfa
      obtain ⟨a0, a1, a2, a3, a4, a5, a6, a7, a8, a9, a10, a11, a12, a13, a14, a15, a16, a17, a18, a19, a20, a21, a22, a23, a24, a25, a26⟩ := a
      dsimp only
      by_cases hbr : 100 < k
      · have c : (100 : Int64) < I64 k := (i64_lt (a := 100) (by omega) (by omega)).2 hbr
        rw [dec_t c, oite_t]
        rfl
      · have c : ¬ (100 : Int64) < I64 k := fun q => hbr ((i64_lt (a := 100) (by omega) (by omega)).1 q)
        rw [dec_f c, oite_f]
        have h18 : a18.length < 2 ^ 63 := hfa.2.1
        by_cases hl : 12 < a18.length
        · have c : (12 : Int64) < Int64.ofInt ↑(List.length a18) := (i64_lt (a := 12) (by omega) h18).2 hl
          rw [dec_t c, oite_t]
          rfl
        · have c : ¬ (12 : Int64) < Int64.ofInt ↑(List.length a18) := fun q => hl ((i64_lt (a := 12) (by omega) h18).1 q)
          rw [dec_f c, oite_f, ojoinA_eq]
          cases hkind : decide ((5 : UInt8) ≤ a0 % 8) with
          | true =>
            rw [oite_t]
            obtain ⟨cc, want', m', k1, k2, k3, k4⟩ := next_both n (by omega) w hw2 want (by omega) m old h
            rw [k1, obind_s, k2, obind_s]
            dsimp only
            rw [check_ok n hn (F4_R253 n f) w hw hw2 0 cc t (I64 t.length) (I64 k) want' m' old k3, i64_succ]
            exact ih (k + 1) want' m' old (by omega) (by omega) k3 (by omega) (by omega)
          | false =>
            rw [oite_f, obind_s]
            have c3 : ¬ (UInt64.ofInt (w + 3).toInt = 0) := by
              have e3 : (w + 3).toInt = w.toInt + 3 := by
                have e := Int64.toInt_add w 3
                rw [e]
                show Int.bmod (w.toInt + 3) (2 ^ 64) = _
                rw [Int.bmod_def]
                have : (w.toInt + 3) % ((2 ^ 64 : Nat) : Int) = w.toInt + 3 := Int.emod_eq_of_lt (by omega) (by omega)
                rw [this, if_pos (by omega)]
              intro h0
              obtain ⟨cN, hc⟩ : ∃ c : Nat, w.toInt + 3 = c := ⟨(w.toInt + 3).toNat, by omega⟩
              rw [e3, hc, u64_ofInt] at h0
              have := congrArg UInt64.toNat h0
              rw [UInt64.toNat_ofNat'] at this
              have z : (0 : UInt64).toNat = 0 := rfl
              omega
            rw [dec_f c3, oite_f]
            obtain ⟨y, q1, hy⟩ := item_small n (by omega) (a2, a3, a4, a5, a6, a7, a8, a9, a10, a11, a12)
            obtain ⟨x0, x1, x2, x3, x4, x5, x6, x7, x8, x9, x10, x11, x12⟩ := y
            dsimp only
            rw [q1, obind_s, ojoinA_eq]
            dsimp only
            have go : ∀ seq, F4_J519031 n (F4_J32439 n (F4_R253 n f)) w 0 seq t (I64 t.length) (I64 k) (some (w, want, m, old)) w want old a0 a1 a2 a3 a4 a5 a6 a7 a8 a9 a10 a11 a12 a13 a14 a15 a16 a17 a18 a19 a20 a21 a22 a23 a24 a25 a26 x0 x1 x2 x3 x4 x5 x6 x7 x8 x9 x10 x11 x12 m = some (true, ()) := by
              intro seq
              obtain ⟨m', old', g1, g2⟩ := mid_ok n hn (F4_R253 n f) w hw hw2 0 t (I64 t.length) (I64 k) want (by omega) m old h seq (a0 := a0) (a1 := a1) (a2 := a2) (a3 := a3) (a4 := a4) (a5 := a5) (a6 := a6) (a7 := a7) (a8 := a8) (a9 := a9) (a10 := a10) (a11 := a11) (a12 := a12) (a26 := a26) hy hfa (by omega)
              rw [g2, i64_succ]
              exact ih (k + 1) want m' old' (by omega) (by omega) g1 (by omega) (by omega)
            cases decide ((1 : UInt64) < want + a1 % UInt64.ofInt (w + 3).toInt) with
            | true => rw [oite_t]; exact go _
            | false => rw [oite_f]; exact go _
    · rw [dec_f (fun q => hlt ((i64_lt (by omega) ht).1 q)), oite_f]
      rfl
end Go.Proofs.Ytllfmmonieelpaa
