/- The law QuietPlays: one more silence; one act; all acts. -/
import Derived.Test.YtehpdcdpkdhcgaaQpActs
open Go Go.Sx
namespace Go.Proofs.Ytehpdcdpkdhcgaa
/-! ### Add -/
def codeQ (q : QuP) : Int64 := if q.1.length = 0 then 2 else if q.2.2 ≤ q.2.1 then 6 else if 1099511627776 < q.2.2 then 6 else asksC q.1
theorem code_eq (n : Nat) (hn : 20 < n) (q : QuP) (hq : FitAs n q.1) : F28 n (q.1, q.2.1, q.2.2) = some (codeQ q, ()) := by
  have hl := hq.1
  unfold F28 codeQ
  simp only
  rw [show decide (Int64.ofInt ↑(List.length q.1) = (0 : Int64)) = decide (q.1.length = 0) from len0 (by omega)]
  by_cases h0 : q.1.length = 0
  · rw [dec_t h0, oite_t, if_pos h0]
  · rw [dec_f h0, oite_f, if_neg h0]
    by_cases h1 : q.2.2 ≤ q.2.1
    · rw [dec_t h1, oite_t, if_pos h1]
    · rw [dec_f h1, oite_f, if_neg h1]
      by_cases h2 : 1099511627776 < q.2.2
      · rw [dec_t h2, oite_t, if_pos h2]
      · rw [dec_f h2, oite_f, if_neg h2, asks_eq n hn _ hq]
        rfl
abbrev ActQ := UInt8 × List (UInt8 × UInt8 × UInt8) × UInt8 × UInt8 × Int64 × UInt8 × UInt8 × UInt8 × UInt8 × UInt8 × UInt8 × List AskP × UInt64 × UInt64 × Bool
def Post (n : Nat) (J : Int64 → List ActQ → Int64 → Int64 → Option (List Ent × Int64) → List Ent → Option (Bool × Unit)) (t : List ActQ) (t1 t2 : Int64) (L : Nat) : Prop :=
  ∀ L' nx' last' tm' m', L' ≤ L + 1 → IV n L' tm' nx' last' m' → J last' t t1 t2 (some (tm', nx')) m' = some (true, ())
theorem add_eq (n : Nat) (hn : 200 < n) (tm m : List Ent) (nx last : Int64) (L : Nat) (h : IV n L tm nx last m) (hL : L ≤ 90) (q : QuP) (hq : FitAs n q.1) :
    F15 n (some (tm, nx), q.1, q.2.1, q.2.2) = some (if codeQ q = 0 then if m.length = 32 then ((0, 5), some (tm, nx)) else ((nx + 1, 0), some (tm ++ [(nx + 1, q)], nx + 1)) else ((0, codeQ q), some (tm, nx))) := by
  have hl := h.len
  have htl := h.perm.length_eq
  unfold F15
  simp only [oelim_s]
  rw [code_eq n (by omega) q hq]
  simp only [obind_s]
  by_cases h0 : codeQ q = 0
  · rw [dec_t h0, Bool.not_true, oite_f, ble_t (by omega), oite_t, if_pos h0]
    rw [show decide (Int64.ofInt ↑(List.length tm) = (32 : Int64)) = decide (m.length = 32) from by rw [htl]; exact decide_eq_decide.2 (i64_eq (b := 32) (by omega) (by omega))]
    by_cases h1 : m.length = 32
    · rw [dec_t h1, oite_t, if_pos h1]
    · rw [dec_f h1, oite_f, if_neg h1, clone_eq n q.1 hq.1]
      simp only [obind_s]
      rw [put_new]
      intro p hp e
      have := (h.rng p (h.perm.mem_iff.1 hp)).2
      rw [e, h.nx, i64_succ, i64_toInt (by omega)] at this
      omega
  · rw [dec_f h0, Bool.not_false, oite_t, if_neg h0]
theorem iv_snoc {n L : Nat} {tm m : List Ent} {nx last : Int64} (h : IV n L tm nx last m) (hL : L ≤ 90) (q : QuP) (hq : FitAs n q.1) : IV n (L + 1) (tm ++ [(nx + 1, q)]) (nx + 1) (last + 1) (m ++ [(last + 1, q)]) := by
  have e : last + 1 = I64 (L + 1) := by rw [h.last, i64_succ]
  have e' : nx + 1 = I64 (L + 1) := by rw [h.nx, i64_succ]
  have ti : (I64 (L + 1)).toInt = ((L + 1 : Nat) : Int) := i64_toInt (by omega)
  rw [e, e']
  refine ⟨h.perm.append_right _, keyed_snoc h.keyed _ _ fun p hp => ?_, by simp; exact h.len, rfl, rfl, fun p hp => ?_, fun p hp => ?_⟩
  · have := (h.rng p hp).2
    rw [ti]; omega
  · rcases List.mem_append.1 hp with hp | hp
    · have := h.rng p hp; omega
    · simp only [List.mem_singleton] at hp
      subst hp
      rw [show ((I64 (L + 1), q) : Ent).1.toInt = _ from ti]; omega
  · rcases List.mem_append.1 hp with hp | hp
    · exact h.fit p hp
    · simp only [List.mem_singleton] at hp
      subst hp; exact hq
theorem act_add (n : Nat) (hn : 200 < n) (J : _) (last : Int64) (t : _) (t1 t2 : Int64) (tm m : List Ent) (nx : Int64) (L : Nat) (h : IV n L tm nx last m) (hL : L ≤ 90) (q : QuP) (hq : FitAs n q.1)
    (hJ : Post n J t t1 t2 L) : F5_J66436863 n J last t t1 t2 (some (tm, nx)) m q.1 q.2.1 q.2.2 = some (true, ()) := by
  have hl := h.len
  have hql := hq.1
  have key : ∀ code, code = (if codeQ q = 0 then if m.length = 32 then 5 else 0 else codeQ q) → F5_J265747455 n J last code t t1 t2 (some (tm, nx)) m q.1 q.2.1 q.2.2 = some (true, ()) := by
    intro code hc
    unfold F5_J265747455
    rw [add_eq n hn tm m nx last L h hL q hq]
    simp only [obind_s, ojoinA_eq]
    have fin0 : ∀ c : Int64, c ≠ 0 → F5_J2125979647 J last c 0 t t1 t2 (some (tm, nx)) m = some (true, ()) := fun c c0 => by
      unfold F5_J2125979647
      rw [dec_f c0, oite_f, Bool.not_false, oite_t, show (!decide ((0 : Int64) = 0)) = false from rfl, oite_f]
      exact hJ L _ _ _ _ (by omega) h
    by_cases h0 : codeQ q = 0
    · rw [if_pos h0] at hc ⊢
      by_cases h1 : m.length = 32
      · rw [if_pos h1] at hc ⊢
        subst hc
        rw [dec_t (p := ((5 : Int64) = 5)) rfl, Bool.not_true, oite_f, dec_f (p := ((5 : Int64) = 0)) (by decide), oite_f]
        exact fin0 5 (by decide)
      · rw [if_neg h1] at hc ⊢
        subst hc
        rw [dec_t (p := ((0 : Int64) = 0)) rfl, Bool.not_true, oite_f, oite_t, ble_t (by simp; omega), oite_t]
        unfold F5_J2125979647
        have e : nx + 1 = last + 1 := by rw [h.nx, h.last]
        rw [dec_t (p := ((0 : Int64) = 0)) rfl, oite_t, dec_t (p := (nx + 1 = last + 1)) e, Bool.not_true, oite_f, oite_f]
        exact hJ (L + 1) _ _ _ _ (by omega) (iv_snoc h hL q hq)
    · rw [if_neg h0] at hc ⊢
      subst hc
      rw [dec_t (p := (codeQ q = codeQ q)) rfl, Bool.not_true, oite_f, dec_f h0, oite_f]
      exact fin0 _ h0
  unfold F5_J66436863
  rw [refs_eq n (by omega) _ hql]
  simp only [obind_s]
  rw [rasks_eq n (by omega) _ hq]
  simp only [obind_s, ojoinA_eq]
  rw [show decide (Int64.ofInt ↑(List.length q.1) = (0 : Int64)) = decide (q.1.length = 0) from len0 (by omega)]
  unfold codeQ at key
  by_cases h0 : q.1.length = 0
  · rw [dec_t h0, oite_t]
    exact key 2 (by simp [h0])
  · rw [dec_f h0, oite_f]
    by_cases h1 : q.2.2 ≤ q.2.1
    · rw [dec_t h1, oite_t]
      exact key 6 (by rw [if_neg h0, if_pos h1]; rfl)
    · rw [dec_f h1, oite_f]
      by_cases h2 : 1099511627776 < q.2.2
      · rw [dec_t h2, oite_t]
        exact key 6 (by rw [if_neg h0, if_neg h1, if_pos h2]; rfl)
      · rw [dec_f h2, oite_f]
        rw [if_neg h0, if_neg h1, if_neg h2] at key
        by_cases h3 : asksC q.1 = 0
        · rw [dec_t h3, oite_t]
          rw [if_pos h3] at key
          rw [show decide (Int64.ofInt ↑(List.length m) = (32 : Int64)) = decide (m.length = 32) from decide_eq_decide.2 (i64_eq (b := 32) (by omega) (by omega))]
          by_cases h4 : m.length = 32
          · rw [dec_t h4, oite_t]
            exact key 5 (by rw [if_pos h4])
          · rw [dec_f h4, oite_f]
            exact key _ (by rw [if_neg h4, h3])
        · rw [dec_f h3, oite_f]
          exact key _ (by rw [if_neg h3])
/-! ### One act -/
theorem act_add' (n : Nat) (hn : 200 < n) (J : _) (last : Int64) (now : UInt64) (t : _) (t1 t2 : Int64) (tm m : List Ent) (nx : Int64) (L : Nat) (h : IV n L tm nx last m) (hL : L ≤ 90) (hJ : Post n J t t1 t2 L) (b : Bool)
    (a0 : UInt8) (a1 : List (UInt8 × UInt8 × UInt8)) (a2 a3 : UInt8) (a4 : Int64) (a5 a6 a7 a8 a9 a10 : UInt8) (a11 : List AskP) (a12 a13 : UInt64) (a14 : Bool) (h1 : a1.length ≤ 12) (h11 : FitAs n a11) :
    F5_J8304607 n J last now t t1 t2 b (some (tm, nx)) m a0 a1 a2 a3 a4 a5 a6 a7 a8 a9 a10 a11 a12 a13 a14 = some (true, ()) := by
  have hl := h.len
  unfold F5_J8304607
  cases b with
  | true =>
    obtain ⟨o, rule, l, s, p, v, u, g1, g2, g3, g4⟩ := alert_some n (by omega) (a5, a6, a7, a8, a9, a10)
    rw [oite_t, g1]
    simp only [obind_s]
    have hd := dig_len o.toNat
    have hfit' : Fit (namesOf o rule l) := by
      intro z hz
      unfold namesOf at hz
      rcases List.mem_append.1 hz with h | h
      · rcases List.mem_append.1 h with h | h
        · have := g3 z h; omega
        · split at h
          · cases h
          · simp at h; rw [h]; simp; omega
      · split at h
        · cases h
        · simp at h; rw [h]; simp; omega
    refine (want_loop n hn J last now o rule l (by omega) hfit' s p v u t t1 t2 tm m nx L h hL n 0 0 (by omega) (by omega) ?_).trans (hJ L _ _ _ _ (by omega) h)
    rw [if_pos rfl]; rfl
  | false =>
    obtain ⟨out, e1, e2, e3⟩ := small_asks n 3 (by omega) a1 ⟨by omega, by omega⟩
    have e1' : F9 n (a1, 3) = some (out, ()) := e1
    rw [oite_f, e1']
    simp only [obind_s, ojoinA_eq]
    cases a14 with
    | true => rw [oite_t]; exact act_add n hn J last t t1 t2 tm m nx L h hL (a11, a12, a13) h11 hJ
    | false =>
      rw [oite_f]
      exact act_add n hn J last t t1 t2 tm m nx L h hL (out, _, _) ⟨by simp; omega, fun a ha => (e3 a ha).up (by omega)⟩ hJ
theorem one_act (n : Nat) (hn : 200 < n) (rec : _) (last : Int64) (now : UInt64) (k : Int64) (t : _) (t1 t2 : Int64) (tm m : List Ent) (nx : Int64) (L : Nat) (h : IV n L tm nx last m) (hL : L ≤ 80)
    (hJ : ∀ L' nx' last' tm' m', L' ≤ L + 1 → IV n L' tm' nx' last' m' → rec last' t t1 (t2 + 1) (some (tm', nx')) m' = some (true, ()))
    (a0 : UInt8) (a1 : List (UInt8 × UInt8 × UInt8)) (a2 a3 : UInt8) (a4 : Int64) (a5 a6 a7 a8 a9 a10 : UInt8) (a11 : List AskP) (a12 a13 : UInt64) (a14 : Bool) (h1 : a1.length ≤ 12) (h11 : FitAs n a11) :
    F5_J64879 n rec last now k t t1 t2 (some (tm, nx)) m a0 a1 a2 a3 a4 a5 a6 a7 a8 a9 a10 a11 a12 a13 a14 = some (true, ()) := by
  have hP : Post n (F5_J129759 n rec) t t1 t2 L := fun L' nx' last' tm' m' hL' h' => by
    rw [round_end n hn rec last' t t1 t2 tm' m' nx' L' h' (by omega)]
    exact hJ L' nx' last' tm' m' hL' h'
  unfold F5_J64879
  simp only [ojoinA_eq]
  cases decide (a0 % 7 = 3) with
  | true =>
    rw [oite_t]
    have := act_end n hn (F5_J129759 n rec) last now k t t1 t2 tm m nx L h (by omega) fun tm' m' h' => hP L _ _ _ _ (by omega) h'
    simp only [ojoinA_eq] at this
    exact this
  | false =>
    rw [oite_f]
    cases decide (a0 % 7 = 4) with
    | true =>
      rw [oite_t]
      exact act_trim n hn (F5_J129759 n rec) last now t t1 t2 tm m nx L h (by omega) fun tm' m' h' => hP L _ _ _ _ (by omega) h'
    | false =>
      rw [oite_f]
      cases decide (a0 % 7 = 5) with
      | true => rw [oite_t]; exact act_add' n hn _ last now t t1 t2 tm m nx L h (by omega) hP _ a0 a1 a2 a3 a4 a5 a6 a7 a8 a9 a10 a11 a12 a13 a14 h1 h11
      | false => rw [oite_f]; exact act_add' n hn _ last now t t1 t2 tm m nx L h (by omega) hP _ a0 a1 a2 a3 a4 a5 a6 a7 a8 a9 a10 a11 a12 a13 a14 h1 h11
/-! ### All acts -/
def FitQ (n : Nat) (a : ActQ) : Prop := (a.2.1.length < 2 ^ 63) ∧ a.2.2.2.2.2.2.2.2.2.2.2.1.length < 2 ^ 63 ∧ ∀ x ∈ a.2.2.2.2.2.2.2.2.2.2.2.1, FitA n x
theorem acts_loop (n : Nat) (hn : 200 < n) (t : List ActQ) (ht : t.length < 2 ^ 63) (hf : ∀ a ∈ t, FitQ n a) (f : Nat) : ∀ (i : Nat) (last nx : Int64) (tm m : List Ent) (L : Nat), i ≤ t.length → t.length - i < f → L ≤ i → i ≤ 61 → IV n L tm nx last m →
    F5_R253 n f last t (I64 t.length) (I64 i) (some (tm, nx)) m = some (true, ()) := by
  induction f with
  | zero => intros; omega
  | succ f ih =>
    intro i last nx tm m L hi hm hL hi6 h
    rw [F5_R253_s]
    unfold F5_L253
    by_cases hlt : i < t.length
    · have hfa := hf _ (List.getElem_mem hlt)
      rw [dec_t ((i64_lt (by omega) (by omega)).2 hlt), oite_t, at_i64_lt (by omega) (by simpa using hlt)]
      simp only [obind_s]
      by_cases h60 : 60 < i
      · rw [dec_t (p := ((60 : Int64) < I64 i)) ((i64_lt (a := 60) (by omega) (by omega)).2 h60), oite_t]
      · rw [dec_f (p := ((60 : Int64) < I64 i)) (fun q => h60 ((i64_lt (a := 60) (by omega) (by omega)).1 q)), oite_f]
        generalize ha : t[i] = a at hfa
        obtain ⟨a0, a1, a2, a3, a4, a5, a6, a7, a8, a9, a10, a11, a12, a13, a14⟩ := a
        obtain ⟨g1, g2, g3⟩ := hfa
        simp only at g1 g2 g3 ⊢
        rw [lenC 12 a11.length 12 rfl (by omega) g2, lenC 12 a1.length 12 rfl (by omega) g1]
        by_cases c1 : 12 < a11.length
        · rw [dec_t c1, oite_t]
        · rw [dec_f c1, oite_f]
          by_cases c2 : 12 < a1.length
          · rw [dec_t c2, oite_t]
          · rw [dec_f c2, oite_f]
            simp only [ojoinA_eq]
            have go : ∀ (now : UInt64) (k : Int64), F5_J64879 n (F5_R253 n f) last now k t (I64 t.length) (I64 i) (some (tm, nx)) m a0 a1 a2 a3 a4 a5 a6 a7 a8 a9 a10 a11 a12 a13 a14 = some (true, ()) := fun now k => by
              refine one_act n hn (F5_R253 n f) last now k t (I64 t.length) (I64 i) tm m nx L h (by omega) (fun L' nx' last' tm' m' hL' h' => ?_) a0 a1 a2 a3 a4 a5 a6 a7 a8 a9 a10 a11 a12 a13 a14 (by omega) ⟨by omega, g3⟩
              rw [i64_succ]
              exact ih (i + 1) last' nx' tm' m' L' (by omega) (by omega) (by omega) (by omega) h'
            cases a14 with
            | true => rw [Bool.not_true, oite_f]; exact go _ _
            | false => rw [Bool.not_false, oite_t]; exact go _ _
    · rw [dec_f (fun q => hlt ((i64_lt (by omega) (by omega)).1 q)), oite_f]
def sumQ : List ActQ → Nat
  | [] => 0
  | a :: r => sumA a.2.2.2.2.2.2.2.2.2.2.2.1 + sumQ r
theorem sumQ_mem : ∀ (l : List ActQ) (a : ActQ), a ∈ l → sumA a.2.2.2.2.2.2.2.2.2.2.2.1 ≤ sumQ l
  | a :: r, b, h => by
    rcases List.mem_cons.1 h with rfl | h
    · simp only [sumQ]; omega
    · have := sumQ_mem r b h; simp only [sumQ]; omega
theorem F5_eq (n : Nat) (x : List ActQ) : F5 n x = obind (F7 n ()) fun y => oite (!y.1) (some (false, ())) (obind (F14 n ()) fun z => F5_R253 n n 0 x (I64 x.length) 0 z.1 []) := rfl
theorem plays_true : ∀ x : sig5.In, PTys.fits sig5.ps x → ∃ n y, F5 n x = some y ∧ PTys.hd (.one (.c .bool)) .nil y.1 = true := by
  intro (x : List ActQ) hfit
  have hx := hfit.1
  simp only [PTy.fits, CTs.fits, CT.fits] at hx
  obtain ⟨hxl, hxf⟩ := hx
  have hxl : x.length < 2 ^ 63 := hxl
  generalize hn : x.length + sumQ x + 300 + 30 = n
  refine ⟨n, (true, ()), ?_, rfl⟩
  refine (F5_eq _ _).trans ?_
  rw [← hn, awakeQ, hn, obind_s]
  simp only [Bool.not_true, oite_f]
  rw [show F14 n () = some (some ([], 0), ()) from rfl, obind_s]
  refine acts_loop n (by omega) x hxl (fun a ha => ?_) n 0 0 0 [] [] 0 (by omega) (by omega) (by omega) (by omega) ⟨List.Perm.refl _, by unfold Keyed; simp, by simp, rfl, rfl, by simp, by simp⟩
  have hs := sumQ_mem x a ha
  obtain ⟨i, hi, rfl⟩ := List.getElem_of_mem ha
  have h := hxf i hi
  refine ⟨h.2.1.1, h.2.2.2.2.2.2.2.2.2.2.2.1.1, fun q hq => ?_⟩
  have hm := sumA_mem _ q hq
  obtain ⟨j, hj, rfl⟩ := List.getElem_of_mem hq
  have g := h.2.2.2.2.2.2.2.2.2.2.2.1.2 j hj
  exact ⟨⟨by omega, g.1⟩, by omega, g.2.2.1⟩
end Go.Proofs.Ytehpdcdpkdhcgaa
