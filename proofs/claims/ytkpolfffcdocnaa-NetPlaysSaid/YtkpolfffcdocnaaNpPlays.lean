/- The law NetPlays. -/
import Derived.Test.YtkpolfffcdocnaaNpActs3
open Go Go.Sx
namespace Go.Proofs.Ytkpolfffcdocnaa
theorem awakeN (m : Nat) : F7 (m + 50) () = some (true, ()) := by kernel_rfl
abbrev RecT := List ActT → Int64 → Int64 → Option NetT → List Bool → Int64 → Int64 → Int64 → List PkT → Option (Bool × Unit)
theorem one_act (n : Nat) (hn : 100 < n) (rec : RecT) (x y : UInt8) (k bit : Int64) (t : List ActT) (t1 t2 : Int64) (q : List PkT) (cut : CutT) (ma : List Bool) (s c l : Int64) (N : Nat)
    (hq : QOK q) (hN : q.length ≤ N) (hN9 : N < 90) (hc : CutOK cut ma) (hrec : ∀ q cut ma s c l, QOK q → q.length ≤ N + 1 → CutOK cut ma → rec t t1 (t2 + 1) (some (q, cut, s, c, l)) ma s c l q = some (true, ()))
    (a0 a1 a2 : UInt8) (a3 : List UInt8) (h3 : a3.length ≤ 100) (a4 a5 : Int64) (a6 : Bool) :
    F5_J62911 n rec x y k bit (inQ k q) t t1 t2 (some (q, cut, s, c, l)) ma s c l a0 a1 a2 a3 a4 a5 a6 q = some (true, ()) := by
  have hJ : Goes (F5_J251647 n rec) t t1 t2 N := fun q cut ma s c l h1 h2 h3 => by
    rw [round_end n hn rec t t1 t2 q h1 cut ma s c l]
    exact hrec q cut ma s c l h1 h2 h3
  have main : F5_J125823 n rec x y k bit (inQ k q) (rightB x y) t t1 t2 (some (q, cut, s, c, l)) ma s c l a0 a1 a2 a3 a4 a5 a6 q = some (true, ()) := by
    unfold F5_J125823
    simp only [ojoinA_eq]
    generalize a0 % 11 = kind
    have tl : ∀ b : Bool, F5_J1006589 n (F5_J251647 n rec) x y k bit (inQ k q) (rightB x y) t t1 t2 kind b (some (q, cut, s, c, l)) ma s c l a0 a1 a2 a3 a4 a5 a6 q = some (true, ()) := fun b => by
      cases b with
      | true => exact act_deliver n _ x y k bit _ t t1 t2 kind q cut ma s c l N hq hN hc hJ a0 a1 a2 a3 a4 a5 a6
      | false =>
        by_cases k6 : kind = 6
        · subst k6; exact act_drop n _ x y k bit _ t t1 t2 q cut ma s c l N hq hN hc hJ a0 a1 a2 a3 a4 a5 a6
        · by_cases k7 : kind = 7
          · subst k7; exact act_double n _ x y k bit _ t t1 t2 q cut ma s c l N hq hN hN9 hc hJ a0 a1 a2 a3 a4 a5 a6
          · by_cases k8 : kind = 8
            · subst k8; exact act_spoil n _ x y k bit _ t t1 t2 q cut ma s c l N hq hN hc hJ a0 a1 a2 a3 a4 a5 a6
            · by_cases k9 : kind = 9
              · subst k9; exact act_cut n _ x y k bit _ t t1 t2 q cut ma s c l N hq hN hc hJ a0 a1 a2 a3 a4 a5 a6
              · by_cases k10 : kind = 10
                · subst k10; exact act_heal n _ x y k bit _ _ t t1 t2 q cut ma s c l N hq hN hJ a0 a1 a2 a3 a4 a5 a6
                · exact act_send n _ x y k bit _ t t1 t2 kind q cut ma s c l N k6 k7 k8 k9 k10 hq hN hN9 hc hJ a0 a1 a2 a3 h3 a4 a5 a6
    cases decide (kind = 4) with
    | true => rw [oite_t]; exact tl _
    | false => rw [oite_f]; exact tl _
  unfold F5_J62911
  simp only [ojoinA_eq]
  unfold rightB at main
  by_cases h1 : x < 32
  · rw [dec_t h1, oite_t]
    rw [dec_t h1, Bool.true_and] at main
    by_cases h2 : y < 32
    · rw [dec_t h2, oite_t]
      rw [dec_t h2, Bool.true_and] at main
      exact main
    · rw [dec_f h2, oite_f]
      rw [dec_f h2, Bool.false_and] at main
      exact main
  · rw [dec_f h1, oite_f]
    rw [dec_f h1, Bool.false_and] at main
    exact main
theorem u64_ne {k : Nat} (h0 : 0 < k) (h : k < 2 ^ 62) : decide (UInt64.ofInt (I64 k).toInt = 0) = false := dec_f fun e => by
  rw [i64_toInt (by omega)] at e
  have e := congrArg UInt64.toNat e
  have e1 : (UInt64.ofInt (k : Int)).toNat = k := by
    simp [UInt64.ofInt]
    omega
  rw [e1] at e
  have : (0 : UInt64).toNat = 0 := rfl
  omega
theorem acts_loop (n : Nat) (hn : 100 < n) (t : List ActT) (ht : t.length < 2 ^ 63) (h3 : ∀ a ∈ t, a.2.2.2.1.length < 2 ^ 63) : ∀ m i q cut ma s c l, i ≤ t.length → t.length - i < m → i ≤ 81 → QOK q → q.length ≤ i → CutOK cut ma →
    F5_R61 n m t (I64 t.length) (I64 i) (some (q, cut, s, c, l)) ma s c l q = some (true, ()) := by
  intro m
  induction m with
  | zero => intros; omega
  | succ m ih =>
    intro i q cut ma s c l hi hm h81 hq hqi hc
    have hl := hq.len
    rw [F5_R61_s]
    unfold F5_L61
    by_cases hlt : i < t.length
    · have ha3 := h3 _ (List.getElem_mem hlt)
      rw [dec_t ((i64_lt (by omega) (by omega)).2 hlt), oite_t, at_i64_lt (by omega) hlt]
      simp only [obind_s]
      by_cases h80 : 80 < i
      · rw [show decide (80 < I64 i) = true from dec_t ((i64_lt (a := 80) (by omega) (by omega)).2 h80), oite_t]
      · rw [show decide (80 < I64 i) = false from dec_f fun e => h80 ((i64_lt (a := 80) (by omega) (by omega)).1 e), oite_f]
        generalize t[i] = a at ha3
        obtain ⟨a0, a1, a2, a3, a4, a5, a6⟩ := a
        dsimp only at ha3 ⊢
        by_cases h100 : 100 < a3.length
        · rw [show decide ((100 : Int64) < Int64.ofInt ↑a3.length) = true from dec_t ((i64_lt (a := 100) (by omega) ha3).2 h100), oite_t]
        · rw [show decide ((100 : Int64) < Int64.ofInt ↑a3.length) = false from dec_f fun e => h100 ((i64_lt (a := 100) (by omega) ha3).1 e), oite_f]
          simp only [ojoinA_eq]
          have act : ∀ x y k bit, F5_J62911 n (F5_R61 n m) x y k bit (inQ k q) t (I64 t.length) (I64 i) (some (q, cut, s, c, l)) ma s c l a0 a1 a2 a3 a4 a5 a6 q = some (true, ()) := fun x y k bit =>
            one_act n hn (F5_R61 n m) x y k bit t _ _ q cut ma s c l i hq hqi (by omega) hc (fun q' cut' ma' s' c' l' h1 h2 h3' => by
              rw [i64_succ]
              exact ih (i + 1) q' cut' ma' s' c' l' (by omega) (by omega) (by omega) h1 h2 h3') a0 a1 a2 a3 (by omega) a4 a5 a6
          have j31 : ∀ x y k bit, F5_J31455 n (F5_R61 n m) x y k bit (inQ k q) t (I64 t.length) (I64 i) (some (q, cut, s, c, l)) ma s c l a0 a1 a2 a3 a4 a5 a6 q = some (true, ()) := fun x y k bit => by
            have hact := act x y k
            unfold F5_J31455
            simp only [ojoinA_eq]
            cases hin : inQ k q with
            | false => rw [oite_f, ← hin]; exact hact bit
            | true =>
              rw [hin] at hact
              rw [oite_t]
              cases a6 with
              | true => rw [Bool.not_true, oite_f]; exact hact bit
              | false =>
                rw [Bool.not_false, oite_t]
                obtain ⟨j, hj, rfl⟩ := inQ_true hin (by omega)
                obtain ⟨b1, b2⟩ := idx_i64 (l := q) hj (by omega)
                have hp := (hq.each _ (List.getElem_mem hj)).1
                rw [b1, oite_t, b2]
                simp only [obind_s]
                by_cases hpos : 0 < q[j].2.2.1.length
                · rw [show decide ((0 : Int64) < Int64.ofInt ↑q[j].2.2.1.length) = true from dec_t ((i64_lt (a := 0) (by omega) (by omega)).2 hpos), oite_t, oite_t]
                  rw [show (8 : Int64) * Int64.ofInt ↑q[j].2.2.1.length = I64 (8 * q[j].2.2.1.length) from mul8 _, u64_ne (by omega) (by omega), oite_f]
                  exact hact _
                · rw [show decide ((0 : Int64) < Int64.ofInt ↑q[j].2.2.1.length) = false from dec_f fun e => hpos ((i64_lt (a := 0) (by omega) (by omega)).1 e), oite_f]
                  exact hact bit
          have j15 : ∀ x y k bit, F5_J15727 n (F5_R61 n m) x y k bit t (I64 t.length) (I64 i) (some (q, cut, s, c, l)) ma s c l a0 a1 a2 a3 a4 a5 a6 q = some (true, ()) := fun x y k bit => by
            have h := j31 x y k bit
            unfold F5_J15727
            simp only [ojoinA_eq]
            unfold inQ at h
            by_cases h0 : 0 ≤ k
            · rw [dec_t h0] at h ⊢
              rw [oite_t]; exact h
            · rw [dec_f h0] at h ⊢
              rw [oite_f]; exact h
          have j7 : ∀ x y k bit, F5_J7863 n (F5_R61 n m) x y k bit t (I64 t.length) (I64 i) (some (q, cut, s, c, l)) ma s c l a0 a1 a2 a3 a4 a5 a6 q = some (true, ()) := fun x y k bit => by
            unfold F5_J7863
            simp only [ojoinA_eq]
            cases a6 with
            | true => rw [oite_t]; exact j15 _ _ _ _
            | false => rw [oite_f]; exact j15 _ _ _ _
          by_cases hpos : 0 < q.length
          · rw [show decide ((0 : Int64) < Int64.ofInt ↑q.length) = true from dec_t ((i64_lt (a := 0) (by omega) (by omega)).2 hpos), oite_t, show Int64.ofInt ↑q.length = I64 q.length from rfl, u64_ne hpos (by omega), oite_f]
            exact j7 _ _ _ _
          · rw [show decide ((0 : Int64) < Int64.ofInt ↑q.length) = false from dec_f fun e => hpos ((i64_lt (a := 0) (by omega) (by omega)).1 e), oite_f]
            exact j7 _ _ _ _
    · rw [dec_f (fun q => hlt ((i64_lt (by omega) (by omega)).1 q)), oite_f]
theorem F5_eq (n : Nat) (x : List ActT) : F5 n x = obind (F7 n ()) fun z => oite (!z.1) (some (false, ())) (obind (F8 n ()) fun w => F5_R61 n n x (I64 x.length) 0 w.1 (List.replicate 1024 false) 0 0 0 []) := rfl
theorem plays_true : ∀ x : sig5.In, PTys.fits sig5.ps x → ∃ n y, F5 n x = some y ∧ PTys.hd (.one (.c .bool)) .nil y.1 = true := by
  intro (x : List ActT) hfit
  have hx := hfit.1
  simp only [PTy.fits, CTs.fits, CT.fits] at hx
  obtain ⟨hxl, hxf⟩ := hx
  have hxl : x.length < 2 ^ 63 := hxl
  generalize hn : x.length + 300 + 50 = n
  refine ⟨n, (true, ()), ?_, rfl⟩
  refine (F5_eq _ _).trans ?_
  rw [← hn, awakeN, hn, obind_s]
  simp only [Bool.not_true, oite_f]
  rw [show F8 n () = some (some ([], [], 0, 0, 0), ()) from rfl, obind_s]
  exact acts_loop n (by omega) x hxl (fun a ha => by
    obtain ⟨i, hi, rfl⟩ := List.getElem_of_mem ha
    exact (hxf i hi).2.2.2.1.1) n 0 [] [] _ 0 0 0 (by omega) (by omega) (by omega) ⟨by simp, by simp⟩ (by simp) cut_none
end Go.Proofs.Ytkpolfffcdocnaa
