/- The law PackThings: things of any kind, put and taken; their bytes. -/
import Derived.Test.YtfhclambjgnmpaaPaLimits
import Derived.Test.YtfhclambjgnmpaaSxZig
open Go Go.Sx
namespace Go.Proofs.Ytfhclambjgnmpaa
/-- a thing as bytes -/
def putB (k : UInt8) (v : UInt64) (s : List UInt8) : List UInt8 :=
  if k % 5 = 0 then [UInt8.ofInt ↑(UInt64.toNat v)] else if k % 5 = 1 then enc v else if k % 5 = 2 then enc (zig (Int64.ofInt ↑(UInt64.toNat v)))
  else if k % 5 = 3 then [UInt8.ofInt ↑(UInt64.toNat (v % 2))] else enc (UInt64.ofNat s.length) ++ s
theorem putB_len (k : UInt8) (v : UInt64) (s : List UInt8) : (putB k v s).length ≤ s.length + 10 := by
  unfold putB
  have h1 := enc_len v
  have h2 := enc_len (zig (Int64.ofInt ↑(UInt64.toNat v)))
  have h3 := enc_len (UInt64.ofNat s.length)
  split
  · simp
  · split
    · omega
    · split
      · omega
      · split
        · simp
        · simp; omega
theorem int_ref (n : Nat) (hn : 10 < n) (x : Int64) : F29 n x = some (enc (zig x), ()) := by
  unfold F29
  have z0 : (0 : Int64).toInt = 0 := by decide
  by_cases h : x < 0
  · have h' := Int64.lt_iff_toInt_lt.1 h
    rw [dec_t h, oite_t, zig_neg x (by omega), ref_spec n hn]; rfl
  · have h' := mt Int64.lt_iff_toInt_lt.2 h
    rw [dec_f h, oite_f, zig_pos x (by omega), ref_spec n hn]; rfl
theorem int_put (n : Nat) (hn : 10 < n) (w : List UInt8) (x : Int64) (hw : w.length + 10 ≤ 4294967296) : F26 n (some w, x) = some ((), some (w ++ enc (zig x))) := by
  unfold F26
  simp only
  rw [zig_prog x, uint_spec n hn w _ hw]; rfl
theorem byte_put (n : Nat) (w : List UInt8) (c : UInt8) (hw : w.length + 10 ≤ 4294967296) : F28 n (some w, c) = some ((), some (w ++ [c])) := by
  unfold F28
  rw [oelim_s, ble_t (by simp; omega), oite_t]
theorem put_spec (n : Nat) (hn : 10 < n) (k : UInt8) (v : UInt64) (s w : List UInt8) (hs : s.length ≤ 1000) (hw : w.length ≤ 4000000) : F24 n ((k, v, s), some w) = some (putB k v s, some (w ++ putB k v s)) := by
  unfold F24 putB
  simp only
  by_cases h0 : k % 5 = 0
  · rw [dec_t h0, if_pos h0, byte_put n w _ (by omega)]; rfl
  · rw [dec_f h0, if_neg h0]
    simp only [oite_f]
    by_cases h1 : k % 5 = 1
    · rw [dec_t h1, if_pos h1, uint_spec n hn w v (by omega), ref_spec n hn]; rfl
    · rw [dec_f h1, if_neg h1]
      simp only [oite_f]
      by_cases h2 : k % 5 = 2
      · rw [dec_t h2, if_pos h2, int_put n hn w _ (by omega), int_ref n hn]; rfl
      · rw [dec_f h2, if_neg h2]
        simp only [oite_f]
        by_cases h3 : k % 5 = 3
        · rw [dec_t h3, if_pos h3]
          have hb : F30 n (some w, decide (v % 2 = 1)) = some ((), some (w ++ [UInt8.ofInt ↑(UInt64.toNat (v % 2))])) := by
            unfold F30
            have hm : (v % 2).toNat = v.toNat % 2 := by rw [UInt64.toNat_mod]; rfl
            by_cases q : v % 2 = 1
            · rw [dec_t q, q]
              simp only [oite_t]
              rw [byte_put n w 1 (by omega)]; rfl
            · have : v % 2 = 0 := by
                apply UInt64.toNat.inj
                have : (v % 2).toNat ≠ 1 := fun e => q (UInt64.toNat.inj e)
                show (v % 2).toNat = 0; omega
              rw [dec_f q, this]
              simp only [oite_f]
              rw [byte_put n w 0 (by omega)]; rfl
          rw [hb]; rfl
        · rw [dec_f h3, if_neg h3, text_put n hn w s (by omega), long_spec n hn s (by omega)]; rfl
theorem back_spec (n : Nat) (hn : 10 < n) (k : UInt8) (v : UInt64) (s rest : List UInt8) (hs : s.length ≤ 1000) (hr : rest.length ≤ 40000000) : F25 n ((k, v, s), some (putB k v s ++ rest, 0)) = some (true, some (rest, 0)) := by
  unfold F25 putB
  simp only
  by_cases h0 : k % 5 = 0
  · rw [dec_t h0, if_pos h0, oite_t, List.cons_append, List.nil_append, byte_cons n _ _ (by simp; omega)]
    simp only [obind_s, decide_true]
  · rw [dec_f h0, if_neg h0]
    simp only [oite_f]
    by_cases h1 : k % 5 = 1
    · rw [dec_t h1, if_pos h1, oite_t, read_enc n hn v rest (by omega)]
      simp only [obind_s, decide_true]
    · rw [dec_f h1, if_neg h1]
      simp only [oite_f]
      by_cases h2 : k % 5 = 2
      · rw [dec_t h2, if_pos h2, oite_t]
        unfold F22
        rw [read_enc n hn _ rest (by omega), obind_s]
        simp only
        rw [zag]
        simp only [obind_s, decide_true]
      · rw [dec_f h2, if_neg h2]
        simp only [oite_f]
        by_cases h3 : k % 5 = 3
        · rw [dec_t h3, if_pos h3, oite_t]
          have hm : (v % 2).toNat = v.toNat % 2 := by rw [UInt64.toNat_mod]; rfl
          have hb : F23 n (some (UInt8.ofInt ↑(UInt64.toNat (v % 2)) :: rest, 0)) = some (decide (v % 2 = 1), some (rest, 0)) := by
            unfold F23
            rw [byte_cons n _ _ (by simp; omega), obind_s]
            simp only
            by_cases q : v % 2 = 1
            · rw [q]; rfl
            · have : v % 2 = 0 := by
                apply UInt64.toNat.inj
                have : (v % 2).toNat ≠ 1 := fun e => q (UInt64.toNat.inj e)
                show (v % 2).toNat = 0; omega
              rw [this]; rfl
          rw [List.cons_append, List.nil_append, hb]
          simp [obind]
        · rw [dec_f h3, if_neg h3]
          simp only [oite_f]
          have hm : ¬ maxU (I64 s.length) < UInt64.ofNat s.length := by
            rw [maxU_len (by omega)]
            exact fun q => by have := UInt64.lt_iff_toNat_lt.1 q; omega
          rw [show Int64.ofInt ↑(List.length s) = I64 s.length from rfl, text_back n hn s rest _ (by omega) hm]
          simp [obind]
/-- all of them -/
def allB : List (UInt8 × UInt64 × List UInt8) → List UInt8
  | [] => []
  | x :: r => putB x.1 x.2.1 x.2.2 ++ allB r
theorem allB_len : ∀ (l : List (UInt8 × UInt64 × List UInt8)), (∀ x ∈ l, x.2.2.length ≤ 300) → (allB l).length ≤ 310 * l.length
  | [], _ => by simp [allB]
  | x :: r, h => by
    have h1 := putB_len x.1 x.2.1 x.2.2
    have h2 := allB_len r (fun y hy => h y (List.mem_cons_of_mem _ hy))
    have h3 := h x List.mem_cons_self
    simp only [allB, List.length_append, List.length_cons]; omega
theorem back_loop (n : Nat) (hn : 40 < n) (rest : List UInt8) (hr : rest.length ≤ 100) (l : List (UInt8 × UInt64 × List UInt8)) (hl : l.length ≤ 30) (hs : ∀ x ∈ l, x.2.2.length ≤ 300) (b : List UInt8) (m : Nat) :
    ∀ k, k ≤ l.length → l.length - k < m → F7_R2045 n m rest b l (I64 l.length) (I64 k) b (some (allB (l.drop k) ++ rest, 0)) = some (true, ()) := by
  induction m with
  | zero => intros; omega
  | succ m ih =>
    intro k hk hm
    rw [F7_R2045_s]
    unfold F7_L2045
    by_cases hlt : k < l.length
    · have hd : l.drop k = l[k] :: l.drop (k + 1) := List.drop_eq_getElem_cons hlt
      have hx := hs l[k] (List.getElem_mem hlt)
      have hlen := allB_len (l.drop (k + 1)) (fun x hx => hs x (List.mem_of_mem_drop hx))
      rw [dec_t ((i64_lt (by omega) (by omega)).2 hlt)]
      simp only [oite_t]
      rw [at_i64_lt (by omega) hlt]
      simp only [obind_s]
      rw [hd]
      simp only [allB, List.append_assoc]
      rw [back_spec n (by omega) _ _ _ _ (by omega) (by simp at hlen ⊢; omega)]
      simp only [obind_s, Bool.not_true, oite_f, i64_succ]
      exact ih (k + 1) (by omega) (by omega)
    · have : l.drop k = [] := List.drop_eq_nil_of_le (by omega)
      rw [dec_f (fun q => hlt ((i64_lt (by omega) (by omega)).1 q)), this]
      simp only [oite_f, ojoinA_eq, allB, List.nil_append]
      have fin : ∀ e : Int64, (e = if 0 < rest.length then 25 else 0) → F7_J2047 n rest b e b (some (rest, 0)) = some (true, ()) := by
        intro e he
        unfold F7_J2047
        have hbb : (b == b) = true := by simp
        rw [hbb, left_ok]
        simp only [oite_t, obind_s, decide_true]
        unfold F17
        rw [left_ok]
        simp only [obind_s]
        by_cases h0 : 0 < rest.length
        · have : decide ((0 : Int64) < I64 rest.length) = true := dec_t ((i64_lt (a := 0) (b := rest.length) (by omega) (by omega)).2 h0)
          rw [this, if_pos h0] at *
          subst he
          simp only [oite_t, fail_first, err_spec, obind_s, decide_true]
        · have : decide ((0 : Int64) < I64 rest.length) = false := dec_f fun q => h0 ((i64_lt (a := 0) (b := rest.length) (by omega) (by omega)).1 q)
          rw [this, if_neg h0] at *
          subst he
          simp only [oite_f, oite_t, err_spec, obind_s, decide_true]
      by_cases h0 : 0 < rest.length
      · have : decide ((0 : Int64) < Int64.ofInt ↑(List.length rest)) = true := dec_t ((i64_lt (a := 0) (b := rest.length) (by omega) (by omega)).2 h0)
        rw [this, oite_t]
        exact fin 25 (by rw [if_pos h0])
      · have : decide ((0 : Int64) < Int64.ofInt ↑(List.length rest)) = false := dec_f fun q => h0 ((i64_lt (a := 0) (b := rest.length) (by omega) (by omega)).1 q)
        rw [this, oite_f]
        exact fin 0 (by rw [if_neg h0])
theorem put_loop (n : Nat) (hn : 40 < n) (l : List (UInt8 × UInt64 × List UInt8)) (rest : List UInt8) (hr : rest.length ≤ 100) (hl : l.length ≤ 30) (hfit : ∀ x ∈ l, x.2.2.length < 2 ^ 63) (m : Nat) :
    ∀ k, k ≤ l.length → l.length - k < m → (∀ x ∈ l.take k, x.2.2.length ≤ 300) → F7_R253 n m l rest l (I64 l.length) (I64 k) (some (allB (l.take k))) (allB (l.take k)) = some (true, ()) := by
  induction m with
  | zero => intros; omega
  | succ m ih =>
    intro k hk hm hs
    rw [F7_R253_s]
    unfold F7_L253
    have hlen := allB_len (l.take k) hs
    have hlen : (allB (l.take k)).length ≤ 310 * 30 := by simp at hlen; omega
    by_cases hlt : k < l.length
    · rw [dec_t ((i64_lt (by omega) (by omega)).2 hlt)]
      simp only [oite_t]
      rw [at_i64_lt (by omega) hlt]
      simp only [obind_s]
      have hf := hfit l[k] (List.getElem_mem hlt)
      by_cases h3 : 300 < (l[k].2.2).length
      · have : decide ((300 : Int64) < Int64.ofInt ↑(List.length (Prod.snd (Prod.snd l[k])))) = true := dec_t ((i64_lt (a := 300) (b := (l[k].2.2).length) (by omega) hf).2 h3)
        rw [this, oite_t]
      · have : decide ((300 : Int64) < Int64.ofInt ↑(List.length (Prod.snd (Prod.snd l[k])))) = false := dec_f fun q => h3 ((i64_lt (a := 300) (b := (l[k].2.2).length) (by omega) hf).1 q)
        have hp := putB_len l[k].1 l[k].2.1 l[k].2.2
        rw [this, oite_f, put_spec n (by omega) _ _ _ _ (by omega) (by omega)]
        simp only [obind_s]
        rw [ble_t (by omega), oite_t, i64_succ]
        have ht : l.take (k + 1) = l.take k ++ [l[k]] := by rw [List.take_add_one, List.getElem?_eq_getElem hlt]; rfl
        have hb : ∀ (a b : List (UInt8 × UInt64 × List UInt8)), allB (a ++ b) = allB a ++ allB b := by
          intro a b
          induction a with
          | nil => rfl
          | cons x r ih => simp [allB, ih]
        have hall : allB (l.take (k + 1)) = allB (l.take k) ++ putB l[k].1 l[k].2.1 l[k].2.2 := by
          rw [ht, hb]; simp [allB]
        rw [← hall]
        refine ih (k + 1) (by omega) (by omega) fun x hx => ?_
        rw [ht] at hx
        rcases List.mem_append.1 hx with h | h
        · exact hs x h
        · simp at h; rw [h]; omega
    · have : l.take k = l := List.take_of_length_le (by omega)
      rw [this] at hs hlen ⊢
      rw [dec_f (fun q => hlt ((i64_lt (by omega) (by omega)).1 q)), oite_f, bytes_spec n _ (by omega)]
      simp only [obind_s, List.nil_append]
      rw [ble_t (by omega), ble_t (by omega)]
      have f9 : ∀ c, F9 n c = some (some (c, 0), ()) := fun _ => rfl
      simp only [oite_t, f9, obind_s]
      have := back_loop n hn rest hr l hl hs (allB l) n 0 (by omega) (by omega)
      rw [List.drop_zero] at this
      exact this
theorem F7_eq (n : Nat) (l : List (UInt8 × UInt64 × List UInt8)) (rest : List UInt8) : F7 n (l, rest) = obind (F8 n ()) fun x => oite (!x.1) (some (false, ())) (oite (decide ((30 : Int64) < I64 l.length)) (some (true, ()))
    (oite (decide ((100 : Int64) < I64 rest.length)) (some (true, ())) (F7_R253 n n l rest l (I64 l.length) 0 (some []) []))) := rfl
theorem things_true : ∀ x : sig7.In, PTys.fits sig7.ps x → ∃ y, F7 200 x = some y ∧ PTys.hd (.one (.c .bool)) .nil y.1 = true := by
  rintro ⟨l, rest⟩ hfit
  have hf := hfit.1
  have hg := hfit.2.1
  simp only [PTy.fits, CT.fits] at hf hg
  have hr : rest.length < 2 ^ 63 := hg.1
  have hl : l.length < 2 ^ 63 := hf.1
  have hx : ∀ x ∈ l, x.2.2.length < 2 ^ 63 := fun x hx => by
    obtain ⟨i, hi, e⟩ := List.getElem_of_mem hx
    have := hf.2 i hi
    simp only [CTs.fits, CT.fits] at this
    have := this.2.2.1
    rw [← e]; exact this
  refine ⟨(true, ()), ?_, rfl⟩
  refine (F7_eq _ _ _).trans ?_
  rw [awakeP, obind_s]
  simp only [Bool.not_true, oite_f]
  by_cases h : (30 : Int64) < I64 l.length
  · rw [dec_t h, oite_t]
  · have hl2 : l.length ≤ 30 := by have := mt (i64_lt (a := 30) (b := l.length) (by omega) hl).2 h; omega
    rw [dec_f h, oite_f]
    by_cases h2 : (100 : Int64) < I64 rest.length
    · rw [dec_t h2, oite_t]
    · have hr2 : rest.length ≤ 100 := by have := mt (i64_lt (a := 100) (b := rest.length) (by omega) hr).2 h2; omega
      rw [dec_f h2, oite_f]
      exact put_loop 200 (by omega) l rest hr2 hl2 hx 200 0 (by omega) (by omega) (by simp)
end Go.Proofs.Ytfhclambjgnmpaa
