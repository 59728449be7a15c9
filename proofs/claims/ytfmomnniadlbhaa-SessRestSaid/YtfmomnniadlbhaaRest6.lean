/- A link: its beginning, and whether what was taken over is right. -/
import Derived.Test.YtfmomnniadlbhaaLk8
import Derived.Test.YtfmomnniadlbhaaRestF
open Go Go.Sx
namespace Go.Proofs.Ytfmomnniadlbhaa
theorem hs_eq {a b : List UInt64} (ha : a.length = 4) (hb : b.length = 4) (h : hh a = hh b) : a = b := by
 apply List.ext_getElem (by omega)
 intro i h1 h2
 have e := congrFun h (UInt8.ofNat i)
 unfold hh at e
 have ei : (UInt8.ofNat i).toNat = i := by rw [UInt8.toNat_ofNat']; omega
 rw [ei, List.getElem?_eq_getElem h1, List.getElem?_eq_getElem h2] at e
 exact e
theorem was_loop (n : Nat) (hn : 1000 < n) (rec : _) (T i : Int64) (la : List UInt64) (w : Int64) (l1 l2 l6 l7 l8 : UInt64) (ch : Int64) (highs : List UInt64) (y : ItT) (hy : Good y) (got put : List ItT) (hp : ∀ x ∈ put, Good x) (hpl : put.length < 2 ^ 30)
  (sp : Option SpT) (o : Option OutT) (ii : Option InT) (way : List FrT) : ∀ (m j : Nat) (was : Bool), j ≤ put.length → put.length - j < m → (was = true ∨ y ∈ put.drop j) →
  F29_R120573 n rec m was T i (I64 put.length) (I64 j) la w l1 l2 l6 l7 l8 ch highs y.1 y.2.1 y.2.2.1 y.2.2.2.1 y.2.2.2.2.1 y.2.2.2.2.2.1 y.2.2.2.2.2.2.1 y.2.2.2.2.2.2.2.1 y.2.2.2.2.2.2.2.2.1 y.2.2.2.2.2.2.2.2.2.1 y.2.2.2.2.2.2.2.2.2.2.1 y.2.2.2.2.2.2.2.2.2.2.2.1 y.2.2.2.2.2.2.2.2.2.2.2.2 got put sp o ii way =
   rec T (i + 1) la w l1 l2 l6 l7 l8 ch highs got sp o ii way put := by
 intro m
 induction m with
 | zero => intros; omega
 | succ m ih =>
  intro j was hj hm hw
  rw [F29_R120573_s]
  unfold F29_L120573
  by_cases hlt : j < put.length
  ·obtain ⟨q1, q2⟩ := idx_i64 (l := put) (k := j) hlt (by omega)
   rw [dec_t ((i64_lt (by omega) (by omega)).2 hlt), oite_t, q1, oite_t, q2]
   simp only [obind_s, i64_succ]
   cases was with
   | true => rw [oite_t]; exact ih (j + 1) true (by omega) (by omega) (.inl rfl)
   | false =>
    rw [oite_f]
    have hg := hp _ (List.getElem_mem hlt)
    by_cases he : put[j] = y
    ·have e1 := same_self n y (by have := hy.labs; omega) (by have := hy.labs; omega)
     refine Eq.trans (obind_of (a := (true, ())) (by rw [he]; exact e1) _) ?_
     exact ih (j + 1) true (by omega) (by omega) (.inl rfl)
    ·have hS := same_spec n hn y put[j] hy hg
     obtain ⟨r, e1, _⟩ := hS
     refine (obind_of e1 _).trans ?_
     refine ih (j + 1) r (by omega) (by omega) ?_
     right
     rcases hw with h | h
     ·cases h
     ·rw [List.drop_eq_getElem_cons hlt] at h
      rcases List.mem_cons.1 h with q | q
      ·exact absurd q.symm he
      ·exact q
  ·rw [dec_f (fun q => hlt ((i64_lt (by omega) (by omega)).1 q)), oite_f]
   have hw : was = true := by
    rcases hw with h | h
    ·exact h
    ·rw [List.drop_eq_nil_of_le (by omega)] at h; cases h
   rw [hw]
   rfl
theorem right_loop (n : Nat) (hn : 1000 < n) (w : Int64) (v0 v1 now : UInt64) (ch : Int64) (hs : List UInt64) (got put : List ItT) (hg : GotOK put got hs) (hp : ∀ x ∈ put, Good x) (hgl : got.length < 2 ^ 30) (hpl : put.length < 2 ^ 30) (hpn : put.length < n)
  (sp : Option SpT) (o : Option OutT) (ii : Option InT) (way : List FrT) : ∀ (m j : Nat) (highs : List UInt64), j ≤ got.length → got.length - j < m → highs.length = 4 → hh highs = finH (fun _ => 0) ((got.take j).map spanI) →
  F29_R29 n m (I64 got.length) (I64 j) hs w 1 4 v0 v1 now ch highs got sp o ii way put = some (true, some (mkL w sp o ii v0 v1 now way put got hs ch)) := by
 intro m
 induction m with
 | zero => intros; omega
 | succ m ih =>
  intro j highs hj hm hl hh1
  rw [F29_R29_s]
  unfold F29_L29
  by_cases hlt : j < got.length
  ·obtain ⟨q1, q2⟩ := idx_i64 (l := got) (k := j) hlt (by omega)
   rw [dec_t ((i64_lt (by omega) (by omega)).2 hlt), oite_t, q1, oite_t, q2]
   simp only [obind_s]
   refine (obind_of (span_eq n got[j]) _).trans ?_
   dsimp only
   obtain ⟨g1, g2, g3⟩ := hg.it _ (List.getElem_mem hlt)
   have hat := hh_at (hs := highs) (o := org got[j]) (by omega)
   have o1 : decide ((0 : Int) ≤ ↑(UInt8.toNat (org got[j]))) = true := dec_t (by omega)
   have o2 : Nat.blt (Int.toNat ↑(UInt8.toNat (org got[j]))) 4 = true := by rw [Int.toNat_natCast]; exact ble_t g2
   have o3 : highs[Int.toNat ↑(UInt8.toNat (org got[j])) * 1]? = some (hh highs (org got[j])) := by rw [Nat.mul_one, Int.toNat_natCast]; exact hat
   have o4 : Nat.blt (Int.toNat ↑(UInt8.toNat (org got[j])) * 1) highs.length = true := by rw [Nat.mul_one, Int.toNat_natCast]; exact ble_t (by omega)
   have hch : (spanI got[j]).2.1 = hh highs (org got[j]) + 1 := by
    have e : got.map spanI = (got.take j).map spanI ++ (spanI got[j] :: (got.drop (j + 1)).map spanI) := by
     rw [← List.map_cons (f := spanI), ← List.map_append, ← List.drop_eq_getElem_cons hlt, List.take_append_drop]
    have hc := hg.ch
    rw [e, okH_append] at hc
    rw [hh1]
    exact hc.2.1
   rw [o1, oite_t, o2, oite_t, o3, obind_s, dec_t hch, Bool.not_true, oite_f, oite_t, oite_t, o4, oite_t]
   have hset : highs.set (Int.toNat ↑(UInt8.toNat (org got[j])) * 1) (spanI got[j]).2.2 = highs.set (org got[j]).toNat (spanI got[j]).2.2 := by rw [Nat.mul_one, Int.toNat_natCast]
   rw [hset]
   have hnext := ih (j + 1) (highs.set (org got[j]).toNat (spanI got[j]).2.2) (by omega) (by omega) (by rw [List.length_set]; exact hl) (by
    rw [hh_set (by omega), hh1]
    have : (got.take (j + 1)).map spanI = (got.take j).map spanI ++ [spanI got[j]] := by
     rw [List.take_add_one, List.getElem?_eq_getElem hlt, List.map_append]; rfl
    rw [this, finH_append]
    rfl)
   rw [← i64_succ] at hnext
   cases hgap : (got[j]).1 with
   | true => rw [oite_t]; exact hnext
   | false =>
    rw [oite_f]
    have hmem : got[j] ∈ put := by
     rcases g3 with q | q
     ·rw [hgap] at q; cases q
     ·exact q
    have hW := was_loop n hn (F29_R29 n m) (I64 got.length) (I64 j) hs w 1 4 v0 v1 now ch (highs.set (org got[j]).toNat (spanI got[j]).2.2) got[j] g1 got put hp hpl sp o ii way n 0 false (by omega) (by omega) (.inr (by simpa using hmem))
    rw [hgap] at hW
    exact hW.trans hnext
  ·rw [dec_f (fun q => hlt ((i64_lt (by omega) (by omega)).1 q)), oite_f]
   have hjl : j = got.length := by omega
   rw [hjl, List.take_length, hg.fin] at hh1
   have heq := hs_eq hl hg.four hh1
   subst heq
   match highs, hl with
   | [a, b, c, d], _ =>
    have e : firstN (CT.int IntKind.u64) (3 + 1) [a, b, c, d] = some (a, b, c, d) := rfl
    refine (obind_of e _).trans ((obind_of e _).trans ?_)
    dsimp only
    rw [dec_t (rfl : a = a), dec_t (rfl : b = b), dec_t (rfl : c = c), dec_t (rfl : d = d)]
    rfl
theorem right_ok (n : Nat) (hn : 1000 < n) {N M : Nat} (hN : N ≤ 900000) (hNn : 9 * N + 1 < n) {G : Gh} {s : St} (h : StOK N M G s) : F29 n (some s.t) = some (true, some s.t) := by
 have hgl := h.gotl
 have hpl := h.putl
 unfold F29
 rw [obind_s]
 dsimp only
 exact right_loop n hn s.w s.v0 s.v1 s.now s.ch s.hs s.got s.put h.got h.putg (by omega) (by omega) (by omega) _ _ _ s.way n 0 (List.replicate 4 0) (by omega) (by omega) rfl (by
  funext o
  unfold hh
  show ((List.replicate 4 (0 : UInt64))[o.toNat]?).getD 0 = 0
  rw [List.getElem?_replicate]
  split <;> rfl)
theorem new_spi (q : Int64) (H : HN) : SpI 0 [] H ((q, 0, 1, 0, []), List.replicate 32 0, 0) := by
 refine ⟨⟨fun _ => 0, ⟨new_ok _, by simp [idxs], by simp, by simp, by show (0 : UInt64) < 1; decide, trivial, ?_, by simp [TopH], by simp⟩, fun p => Nat.zero_le _⟩, fun e he => by simp [lsS] at he⟩
 funext o
 unfold hh
 show (0 : UInt64) = ((List.replicate 32 (0 : UInt64))[o.toNat]?).getD 0
 rw [List.getElem?_replicate]
 split <;> rfl
theorem begin_ok (n : Nat) (window : UInt8) (q : UInt16) (hq : q.toNat ≤ 400) : ∃ s, F25 n (window, q) = some (some s.t, ()) ∧ StOK 0 0 (fun _ => []) s ∧ s.now.toNat = 0 := by
 have e1 : (1 : Int64) + Int64.ofInt ↑(UInt8.toNat (window % 8)) = I64 (1 + (window % 8).toNat) := i64_add 1 _
 have hw : (window % 8).toNat < 8 := by rw [UInt8.toNat_mod]; exact Nat.mod_lt _ (by decide)
 have e2 : (I64 (1 + (window % 8).toNat)).toInt = 1 + (window % 8).toNat := by rw [i64_toInt (by omega)]; omega
 have w1 : 1 ≤ (I64 (1 + (window % 8).toNat)).toInt := by omega
 have w8 : (I64 (1 + (window % 8).toNat)).toInt ≤ 8 := by omega
 obtain ⟨c1, c2⟩ := win_lt w1 w8
 have eq64 : (64 : Int64) + Int64.ofInt ↑(UInt16.toNat q) = I64 (64 + q.toNat) := i64_add 64 _
 have q1 : ¬ I64 (64 + q.toNat) < 64 := fun h' => by have := (i64_lt (b := 64) (by omega) (by omega)).1 h'; omega
 have q2 : ¬ (65536 : Int64) < I64 (64 + q.toNat) := fun h' => by have := (i64_lt (a := 65536) (by omega) (by omega)).1 h'; omega
 refine ⟨⟨I64 (1 + (window % 8).toNat), ((I64 (64 + q.toNat), 0, 1, 0, []), List.replicate 32 0, 0), 1, 1, 0, newS (I64 (1 + (window % 8).toNat)), 1, 0, (I64 (1 + (window % 8).toNat), 1, [], 0), 1, 1, 0, [], [], [], List.replicate 4 0, 0⟩, ?_, ?_⟩
 ·unfold F25
  dsimp only
  rw [e1, eq64]
  refine (obind_of (new_eq n _ q1 q2) _).trans ?_
  refine (obind_of (newOut_eq n _ 1 c1 c2 (by decide) (by decide)) _).trans ?_
  exact obind_of (newIn_eq n _ 1 c1 c2 (by decide) (by decide)) _
 ·have h1 : (1 : UInt64).toNat = 1 := rfl
  refine ⟨⟨w1, w8, new_spi _ _, send_new _ _, ⟨fun _ => trivial, fun _ _ => rfl, (fun _ x hx => by cases hx), fun _ => Nat.zero_le _⟩, (fun f hf => by cases hf), rc_new _ _, Nat.zero_le _, ⟨rfl, trivial, ?_, (fun y hy => by cases hy), fun p => ?_⟩, rfl, by show 1 ≤ (1 : UInt64).toNat; omega, by show (1 : UInt64).toNat ≤ 0 + 1; omega, by show 1 ≤ (1 : UInt64).toNat; omega, by show (1 : UInt64).toNat ≤ 0 + 1; omega, by show 1 ≤ (1 : UInt64).toNat; omega, by show (1 : UInt64).toNat ≤ 0 + 1; omega, Nat.zero_le _, Nat.zero_le _, Nat.zero_le _, (fun x hx => by cases hx), ⟨rfl, Nat.zero_le _, (fun _ _ _ _ hm => by cases hm), (fun hb => absurd hb (Nat.lt_irrefl 0)), (fun hb => absurd hb (Nat.lt_irrefl 0)), (fun f hf => by cases hf), rfl, fun p => ?_, (fun _ x hx => by cases hx), (fun _ => Nat.zero_le _)⟩⟩, rfl⟩
  ·funext o
   unfold hh
   show (0 : UInt64) = ((List.replicate 4 (0 : UInt64))[o.toNat]?).getD 0
   rw [List.getElem?_replicate]
   split <;> rfl
  ·unfold HH hh
   show (((List.replicate 4 (0 : UInt64))[p.toNat]?).getD 0).toNat ≤ _
   rw [List.getElem?_replicate]
   split <;> exact Nat.zero_le _
  ·unfold HH hh
   show (((List.replicate 4 (0 : UInt64))[p.toNat]?).getD 0).toNat ≤ _
   rw [List.getElem?_replicate]
   split <;> exact Nat.zero_le _
end Go.Proofs.Ytfmomnniadlbhaa
open Go Go.Sx
namespace Go.Proofs.Ytfmomnniadlbhaa
abbrev tickA : ActT := (3, false, 0, 0, 0, 0, 0, 0, 0, 0, 0, false, 0)
abbrev comeA : ActT := (5, false, 0, 0, 0, 0, 0, 0, 0, 0, 0, false, 0)
theorem do5 (n : Nat) {N M : Nat} {G : Gh} {s : St} (h : StOK N M G s) (hN : N ≤ 400000) {f : FrT} {rest : List FrT} (hw : s.way = f :: rest) {r : Bool × Option LkT} (hr : F44 n (some ({ s with way := rest } : St).t, f) = some r) : F26 n (some s.t, comeA) = some r := by
 have hwl := h.wayl
 unfold F26
 rw [ojoinA_rw, obind_s]
 dsimp only
 have h0 : 0 < s.way.length := by rw [hw]; simp
 rw [show decide ((0 : Int64) < Int64.ofInt ↑s.way.length) = true from dec_t ((i64_lt (a := 0) (by omega) (by omega)).2 h0), oite_t,
  show decide (Int64.ofInt ↑s.way.length = 0) = false from dec_f (fun q => by have := (i64_eq (a := s.way.length) (b := 0) (by omega) (by omega)).1 q; omega), oite_f]
 have hk : Int64.ofInt ↑(UInt8.toNat 0) % Int64.ofInt ↑s.way.length = I64 0 := by
  have := i64_mod (a := 0) (b := s.way.length) (by omega) (by omega)
  rw [Nat.zero_mod] at this
  exact this
 rw [hk]
 unfold F26_J7
 rw [ojoinA_rw, ojoinA_rw, show decide ((5 : UInt8) % 11 = 3) = false from rfl, oite_f, show decide ((5 : UInt8) % 11 = 4) = false from rfl]
 unfold F26_J61
 rw [oite_f, ojoinA_rw, show decide ((5 : UInt8) % 11 = 5) = true from rfl, oite_t]
 unfold F26_J247
 rw [oite_t, show decide (Int64.ofInt ↑s.way.length = 0) = false from dec_f (fun q => by have := (i64_eq (a := s.way.length) (b := 0) (by omega) (by omega)).1 q; omega), oite_f]
 obtain ⟨q1, q2⟩ := idx_i64 (l := s.way) (k := 0) h0 (by omega)
 have ej := i64_toInt (k := 0) (by omega)
 have ej1 := i64_toInt (k := 0 + 1) (by omega)
 rw [q1, oite_t, q2]
 simp only [obind_s, i64_succ]
 rw [ej, ej1]
 simp only [Int.toNat_natCast, Nat.sub_zero, List.drop_zero]
 rw [dec_t (show (0 : Int) ≤ ((0 : Nat) : Int) by omega), dec_t (show (0 : Int) ≤ ((0 + 1 : Nat) : Int) by omega), ble_t (show 0 ≤ s.way.length by omega), ble_t (show 0 + 1 ≤ s.way.length by omega)]
 simp only [Bool.and_self, oite_t, List.nil_append, List.take_zero]
 rw [ble_t (show 0 + ([] : List FrT).length ≤ 4294967296 by simp), oite_t, ble_t (by rw [List.length_take, List.length_drop]; simp; omega), oite_t, show decide ((5 : UInt8) % 11 < 7) = true from rfl, oite_t]
 have e1 : s.way[0] = f := by simp only [hw, List.getElem_cons_zero]
 have e2 : List.take (s.way.length - (0 + 1)) (List.drop (0 + 1) s.way) = rest := by
  rw [hw]; simp
 rw [e1, e2]
 exact (obind_of hr _).trans rfl
structure TickP (s s' : St) : Prop where
 ex : ∃ sd1 sd2 ds, s' = { s with now := s.now + 1, sd := sd2, way := (s.way ++ sentOf (epO s.life s.ses) (lsS s.sp) (prs ds)).take 200 } ∧
  Offs (s.now + 1) s.sd (listGo (IK.maxI .u64 s.sp.1.2.2.2.1 (lastI (flS s.sd))) (s.sd.1 - I64 (flS s.sd).length) (lsS s.sp) []) sd1 ∧
  flS sd2 = (flS sd1).map (dueF (s.now + 1) 4) ∧ prs ds = prs ((flS sd1).filter (isDue (s.now + 1))) ∧ (sentOf (epO s.life s.ses) (lsS s.sp) (prs ds)).length ≤ 8
theorem do3 (n : Nat) (hn : 2000 < n) {N M : Nat} (hN : N ≤ 400000) (hM : M ≤ 900) {G : Gh} {s : St} (h : StOK N M G s) (ht : s.now.toNat ≤ 900000) :
  ∃ G' s', F26 n (some s.t, tickA) = some (true, some s'.t) ∧ StOK (N + 1) M G' s' ∧ TickP s s' := by
 have hwl := h.wayl
 have hn1 := u64_add1 (a := s.now) (by omega)
 have hF := fill_ok n hn hN hM h (s.now + 1) (by omega)
 obtain ⟨c, sd1, G1, e1, h1, ho⟩ := hF
 have hR := frames_ok n hn hN hM h1 (by show (s.now + 1).toNat ≤ _; omega)
 obtain ⟨ds, sd2, e2, h2, _, _, h3, h4, h5, h6⟩ := hR
 dsimp only at h3 h4 h5 h6
 have hall : ∀ f ∈ s.way ++ sentOf (epO s.life s.ses) (lsS s.sp) (prs ds), FrOK G1 (HH s.hs) s.cur f := fun f hf => by
  rcases List.mem_append.1 hf with q | q
  ·exact h1.fr f q
  ·exact h3 f q
 have hkk : ∀ f ∈ s.way ++ sentOf (epO s.life s.ses) (lsS s.sp) (prs ds), f ∈ s.way ∨ ∃ ep sq x, f = dataF ep sq x := fun f hf => by
  rcases List.mem_append.1 hf with q | q
  ·exact .inl q
  ·obtain ⟨p, _, e, _, _, q2⟩ := sentOf_mem _ f q
   exact .inr ⟨_, _, _, q2⟩
 have hlen : (s.way ++ sentOf (epO s.life s.ses) (lsS s.sp) (prs ds)).length ≤ 200 + 9 * (N + 1) := by rw [List.length_append]; omega
 have h7 := h2.wayd (way := List.take 200 (s.way ++ sentOf (epO s.life s.ses) (lsS s.sp) (prs ds))) (fun f hf => hall f (List.mem_of_mem_take hf)) (by rw [List.length_take]; omega) (fun f hf => hkk f (List.mem_of_mem_take hf))
 refine ⟨G1, _, ?_, h7, ⟨sd1, sd2, ds, rfl, ho, h5, h6, h4⟩⟩
 unfold F26
 rw [ojoinA_rw, obind_s]
 dsimp only
 have fin : ∀ k : Int64, F26_J7 n k s.hs s.w 1 4 s.v0 s.v1 s.now s.ch 3 false 0 0 0 0 0 0 0 0 0 false 0 (some s.sp) (some (mkO s.w s.life s.ses s.other s.sd)) (some (mkI s.w s.il s.ep s.rc)) s.way s.put s.got =
   some (true, some ({ s with now := s.now + 1, sd := sd2, way := (s.way ++ sentOf (epO s.life s.ses) (lsS s.sp) (prs ds)).take 200 } : St).t) := by
  intro k
  unfold F26_J7
  rw [ojoinA_rw, ojoinA_rw, show decide ((3 : UInt8) % 11 = 3) = true from rfl, oite_t]
  unfold F26_J61
  rw [oite_t]
  refine (obind_of e1 _).trans ?_
  dsimp only
  refine (obind_of e2 _).trans ?_
  dsimp only
  rw [ble_t (by omega), oite_t]
  by_cases hb : (200 : Int64) < Int64.ofInt ↑(s.way ++ sentOf (epO s.life s.ses) (lsS s.sp) (prs ds)).length
  ·have hb' := (i64_lt (a := 200) (b := (s.way ++ sentOf (epO s.life s.ses) (lsS s.sp) (prs ds)).length) (by omega) (by omega)).1 hb
   rw [dec_t hb, oite_t, show Int.toNat (Int64.toInt 200) = 200 from rfl, ble_t (by omega), Bool.and_true, oite_t, List.drop_zero, Nat.sub_zero]
   rfl
  ·have hb' : ¬ 200 < (s.way ++ sentOf (epO s.life s.ses) (lsS s.sp) (prs ds)).length := fun q => hb ((i64_lt (a := 200) (by omega) (by omega)).2 q)
   rw [dec_f hb, oite_f, List.take_of_length_le (i := 200) (by omega)]
   rfl
 by_cases h0 : 0 < s.way.length
 ·rw [show decide ((0 : Int64) < Int64.ofInt ↑s.way.length) = true from dec_t ((i64_lt (a := 0) (by omega) (by omega)).2 h0), oite_t,
   show decide (Int64.ofInt ↑s.way.length = 0) = false from dec_f (fun q => by have := (i64_eq (a := s.way.length) (b := 0) (by omega) (by omega)).1 q; omega), oite_f]
  exact fin _
 ·rw [show decide ((0 : Int64) < Int64.ofInt ↑s.way.length) = false from dec_f (fun q => h0 ((i64_lt (a := 0) (by omega) (by omega)).1 q)), oite_f]
  exact fin _
end Go.Proofs.Ytfmomnniadlbhaa
open Go Go.Sx
namespace Go.Proofs.Ytfmomnniadlbhaa
def phi (s : St) : Nat := (lsS s.sp).length + (if s.other = s.il then 0 else 1)
structure Same (c s : St) : Prop where
 ls : lsS c.sp = lsS s.sp
 fl : pqs (flS c.sd) = pqs (flS s.sd)
 oth : c.other = s.other
 life : c.life = s.life
 ses : c.ses = s.ses
theorem Same.refl (s : St) : Same s s := ⟨rfl, rfl, rfl, rfl, rfl⟩
theorem Same.trans {a b c : St} (h : Same a b) (g : Same b c) : Same a c := ⟨h.ls.trans g.ls, h.fl.trans g.fl, h.oth.trans g.oth, h.life.trans g.life, h.ses.trans g.ses⟩
theorem pqs_flen {a b : List FlT} (h : pqs a = pqs b) : a.length = b.length := by rw [← pqs_len a, h, pqs_len]
theorem pqs_at {a b : List FlT} (h : pqs a = pqs b) {j : Nat} (ha : j < a.length) (hb : j < b.length) : pq a[j] = pq b[j] := by
 have e := congrArg (fun l => l[j]?) h
 simp only [pqs, List.getElem?_map, List.getElem?_eq_getElem ha, List.getElem?_eq_getElem hb] at e
 exact Option.some.inj e
def StepP (c c' : St) (f : FrT) (rest : List FrT) : Prop :=
 c'.il = c.il ∧ c'.now = c.now ∧
 ((∃ e sq x ep cum bits, f = dataF e sq x ∧ c'.way = rest ++ [ackF ep cum bits c.il] ∧ c'.sp = c.sp ∧ c'.sd = c.sd ∧ c'.other = c.other ∧ c'.life = c.life ∧ c'.ses = c.ses ∧
   (e = epO c.life c.ses → ∀ h0 : 0 < (flS c.sd).length, ((flS c.sd)[0]).1 = sq → ep = e ∧ (c.other = c.il → sq.toNat ≤ cum.toNat))) ∨
  (∃ e cum bits lf, f = ackF e cum bits lf ∧ c'.way = rest ∧ AckP { c with way := rest } c' e cum lf))
theorem come1 (n : Nat) (hn : 2000 < n) {N M : Nat} (hN : N ≤ 390000) (hM : M ≤ 900) {G : Gh} {c : St} (h : StOK N M G c) {f : FrT} {rest : List FrT} (hw : c.way = f :: rest) :
  ∃ c', F26 n (some c.t, comeA) = some (true, some c'.t) ∧ StOK (N + 1) M G c' ∧ StepP c c' f rest := by
 have hmem : f ∈ c.way := by rw [hw]; simp
 have hsub : ∀ g ∈ rest, g ∈ c.way := fun g hg => by rw [hw]; simp [hg]
 have h2 : StOK N M G { c with way := rest } := by
  have hl : rest.length ≤ 200 + 9 * N := by have := h.wayl; rw [hw] at this; simp at this; omega
  obtain ⟨a1, a2, a3, a4, a5, a6, a7, a8, a9, a10, a11, a12, a13, a14, a15, a16, a17, a18, a19, a20, a21⟩ := h
  exact ⟨a1, a2, a3, a4, a5, fun g hg => a6 g (hsub g hg), a7, a8, a9, a10, a11, a12, a13, a14, a15, a16, hl, a18, a19, a20, ⟨a21.il, a21.oth, fun _ _ _ _ hm => a21.acks _ _ _ _ (hsub _ hm), a21.base, a21.head, a21.tim, a21.idle, a21.upp, a21.gup, a21.glen⟩⟩
 rcases h.fr f hmem with ⟨e, sq, x, rfl, g1, g2, g3, g4⟩ | ⟨e, cum, bits, lf, rfl, g1, g2, g3⟩
 ·obtain ⟨ep, rc, got, hs, cum, bits, e1, k1, k2, k3⟩ := data_ok n hn (by omega) h2 g1 g2 g3 g4
  refine ⟨_, do5 n h (by omega) hw e1, k1, rfl, rfl, .inl ⟨e, sq, x, ep, cum, bits, rfl, rfl, rfl, rfl, rfl, rfl, rfl, fun he h0 hq => ?_⟩⟩
  have hcur := h.cur_eq (by omega)
  have hepc := h.epc
  have hsq : sq.toNat = (G (epO c.life c.ses)).length - (flS c.sd).length + 1 ∧ (flS c.sd).length ≤ (G (epO c.life c.ses)).length := by
   obtain ⟨pre, q1, q2⟩ := h.snd.pre
   have hll := h.snd.len
   have hGl : (G (epO c.life c.ses)).length = pre.length + (flS c.sd).length := by
    rw [q1, List.length_append]
    unfold items
    rw [List.length_map, List.length_take, Nat.min_eq_left hll]
   have e := congrArg (fun l => l[0]?) q2
   simp only [prs, List.map_map, List.getElem?_map, List.getElem?_eq_getElem h0, List.getElem?_range' h0] at e
   have := Option.some.inj e
   simp only [Function.comp] at this
   rw [hq] at this
   omega
  rcases k3 with ⟨c1, c2, c3, c4⟩ | ⟨c1, c2, c3⟩
  ·have c1 : ep = c.ep := c1
   have hee : e = c.ep := by
    apply UInt64.toNat.inj
    rw [he] at c2 ⊢
    have c2 : (epO c.life c.ses).toNat ≤ c.ep.toNat := c2
    omega
   refine ⟨c1.trans hee.symm, fun ho => ?_⟩
   have c3 : c.rc.2.1.toNat ≤ rc.2.1.toNat := c3
   have hle : sq.toNat ≤ c.rc.2.1.toNat := by
    by_cases hb : (flS c.sd).length < (G (epO c.life c.ses)).length
    ·have := ((h.lv.base hb).2 ho).2
     omega
    ·have := h.rc.one
     omega
   by_cases hqw : sq = c.rc.2.1
   ·have : c.rc.2.1.toNat + 1 ≤ rc.2.1.toNat := c4 hee hqw
    omega
   ·have : sq.toNat ≠ c.rc.2.1.toNat := fun q => hqw (UInt64.toNat.inj q)
    omega
  ·refine ⟨c1, fun ho => ?_⟩
   have c2 : c.ep.toNat < e.toNat := c2
   have hb : ¬ (flS c.sd).length < (G (epO c.life c.ses)).length := fun hb => by
    have := ((h.lv.base hb).2 ho).1
    rw [he, ← this] at c2
    omega
   have hs1 : sq = 1 := UInt64.toNat.inj (by show sq.toNat = 1; omega)
   have := c3 hs1
   omega
 ·obtain ⟨b0, b1, b2⟩ := h.lv.acks _ _ _ _ hmem
  obtain ⟨c', e1, k1, _, k3⟩ := ack_ok n hn (by omega) hM h2 (bits := bits) g3 b0 b1 b2
  have e1 := do5 n h (by omega) hw e1
  refine ⟨c', e1, k1, ?_, ?_, .inr ⟨e, cum, bits, lf, rfl, ?_, k3⟩⟩ <;>
   rcases k3 with ⟨q, _⟩ | ⟨_, _, q⟩ | ⟨_, _, _, k, sd', sp', q, _⟩ <;> rw [q]
theorem ack_len {c c' : St} {e cum lf : UInt64} (h : AckP c c' e cum lf) : (lsS c'.sp).length ≤ (lsS c.sp).length := by
 rcases h with ⟨q, _⟩ | ⟨_, _, q⟩ | ⟨_, _, _, k, sd', sp', q, h1, _⟩
 ·rw [q]; exact Nat.le_refl _
 ·rw [q]; exact Nat.le_refl _
 ·rw [q]
  show (lsS sp').length ≤ _
  rw [h1, List.length_drop]; omega
def isData (f : FrT) : Bool := decide (f.1 = 1)
theorem proc0 (n : Nat) (hn : 2000 < n) {M : Nat} (hM : M ≤ 900) {G : Gh} (rec : _) (T : Int64) (i : Int64) : ∀ (P Q : List FrT) (m N : Nat) (c : St), P.length < m → N + P.length ≤ 390000 → StOK N M G c → c.way = P ++ Q → (∀ f ∈ Q, ∃ ep cum bits, f = ackF ep cum bits c.il) →
  ∃ c' Q', F5_R16219 n rec m (I64 P.length) T i (some c.t) = rec T (i + 1) (some c'.t) ∧ StOK (N + P.length) M G c' ∧ c'.way = Q ++ Q' ∧ (∀ f ∈ c'.way, ∃ ep cum bits, f = ackF ep cum bits c'.il) ∧ Q'.length ≤ (P.filter isData).length ∧ c'.now = c.now ∧ (lsS c'.sp).length ≤ (lsS c.sp).length
 | [], Q, m + 1, N, c, hm, hNl, h, hw, hQ => by
  rw [F5_R16219_s]
  unfold F5_L16219
  rw [show decide ((0 : Int64) < I64 ([] : List FrT).length) = false from rfl, oite_f]
  exact ⟨c, [], rfl, h, by rw [hw]; simp, by rw [hw]; exact hQ, by simp, rfl, Nat.le_refl _⟩
 | f :: P, Q, m + 1, N, c, hm, hNl, h, hw, hQ => by
  have hPl : P.length < 400000 := by simp at hNl; omega
  rw [F5_R16219_s]
  unfold F5_L16219
  rw [show decide ((0 : Int64) < I64 (f :: P).length) = true from dec_t ((i64_lt (a := 0) (by omega) (by simp; omega)).2 (by simp)), oite_t]
  obtain ⟨c1, e1, k1, k2, k3, k4⟩ := come1 n hn (by simp at hNl; omega) hM h (f := f) (rest := P ++ Q) (by rw [hw]; rfl)
  have hdec : I64 (f :: P).length - 1 = I64 P.length := by
   rw [List.length_cons]
   exact i64_sub (a := P.length + 1) (b := 1) (by omega)
  have hfin : ∀ Q1 : List FrT, c1.way = P ++ Q1 → (∀ g ∈ Q1, ∃ ep cum bits, g = ackF ep cum bits c1.il) → (∃ t, Q1 = Q ++ t ∧ t.length ≤ ([f].filter isData).length) → (lsS c1.sp).length ≤ (lsS c.sp).length →
    ∃ c' Q', obind (F26 n (some c.t, comeA)) (fun x_7 => oite (!x_7.1) (some (false, ())) (F5_R16219 n rec m (I64 (f :: P).length - 1) T i x_7.2)) = rec T (i + 1) (some c'.t) ∧ StOK (N + (f :: P).length) M G c' ∧ c'.way = Q ++ Q' ∧ (∀ f ∈ c'.way, ∃ ep cum bits, f = ackF ep cum bits c'.il) ∧ Q'.length ≤ ((f :: P).filter isData).length ∧ c'.now = c.now ∧ (lsS c'.sp).length ≤ (lsS c.sp).length := by
   intro Q1 w1 w2 ⟨t, w3, w4⟩ w5
   obtain ⟨c', Q', z1, z2, z3, z4, z5, z6, z7⟩ := proc0 n hn hM rec T i P Q1 m (N + 1) c1 (by simp at hm; omega) (by simp at hNl; omega) k1 w1 w2
   refine ⟨c', t ++ Q', ?_, by rw [List.length_cons, show N + (P.length + 1) = N + 1 + P.length from by omega]; exact z2, by rw [z3, w3, List.append_assoc], z4, ?_, z6.trans k3, Nat.le_trans z7 w5⟩
   ·refine (obind_of e1 _).trans ?_
    dsimp only
    rw [Bool.not_true, oite_f, hdec]
    exact z1
   ·rw [List.length_append, show f :: P = [f] ++ P from rfl, List.filter_append, List.length_append]
    omega
  rcases k4 with ⟨e, sq, x, ep, cum, bits, rfl, w1, w2, w3, _⟩ | ⟨e, cum, bits, lf, rfl, w1, w2⟩
  ·refine hfin (Q ++ [ackF ep cum bits c.il]) (by rw [w1, List.append_assoc]) (fun g hg => ?_) ⟨[ackF ep cum bits c.il], rfl, by simp [isData]⟩ (by rw [w2]; exact Nat.le_refl _)
   rcases List.mem_append.1 hg with q | q
   ·rw [k2]; exact hQ g q
   ·rw [k2]; exact ⟨ep, cum, bits, List.mem_singleton.1 q⟩
  ·exact hfin Q (by rw [w1]) (fun g hg => by rw [k2]; exact hQ g hg) ⟨[], by simp, by simp⟩ (by have := ack_len w2; exact this)
end Go.Proofs.Ytfmomnniadlbhaa
open Go Go.Sx
namespace Go.Proofs.Ytfmomnniadlbhaa
theorem ack_phi {c c' : St} {e cum lf : UInt64} (hl : lf = c.il) (hk : (flS c.sd).length ≤ (lsS c.sp).length) (h : AckP c c' e cum lf) : Same c' c ∧ phi c' = phi c ∨ phi c' < phi c := by
 subst hl
 rcases h with ⟨q, _⟩ | ⟨_, q2, q⟩ | ⟨_, _, _, k, sd', sp', q, h1, _, h3, h4, _⟩
 ·rw [q]; exact .inl ⟨.refl _, rfl⟩
 ·right
  have hne : c.other ≠ c.il := fun z => by rw [z] at q2; exact absurd q2 (UInt64.lt_irrefl _)
  rw [q]
  unfold phi
  dsimp only
  rw [if_pos rfl, if_neg hne]
  omega
 ·by_cases ho : c.other = c.il
  ·by_cases hk0 : k = 0
   ·left
    subst hk0
    rw [q]
    rw [List.drop_zero] at h1 h4
    refine ⟨⟨h1, h4, ho.symm, rfl, rfl⟩, ?_⟩
    unfold phi
    dsimp only
    rw [h1, if_pos rfl, if_pos ho]
   ·right
    rw [q]
    unfold phi
    dsimp only
    rw [h1, List.length_drop, if_pos rfl, if_pos ho]
    omega
  ·right
   rw [q]
   unfold phi
   dsimp only
   rw [h1, List.length_drop, if_pos rfl, if_neg ho]
   omega
theorem ack_good {c c' : St} {cum lf : UInt64} (hl : lf = c.il) (hoth : c.other.toNat ≤ c.il.toNat) (h0 : 0 < (flS c.sd).length) (hk : (flS c.sd).length ≤ (lsS c.sp).length) (hc : c.other = c.il → ((flS c.sd)[0]).1.toNat ≤ cum.toNat) (h : AckP c c' (epO c.life c.ses) cum lf) : phi c' < phi c := by
 subst hl
 rcases h with ⟨_, q | q⟩ | ⟨_, q2, q⟩ | ⟨_, _, _, k, sd', sp', q, h1, _, h3, h4, h5⟩
 ·exact absurd rfl q
 ·have := UInt64.lt_iff_toNat_lt.1 q
  omega
 ·have hne : c.other ≠ c.il := fun z => by rw [z] at q2; exact absurd q2 (UInt64.lt_irrefl _)
  rw [q]
  unfold phi
  dsimp only
  rw [if_pos rfl, if_neg hne]
  omega
 ·by_cases ho : c.other = c.il
  ·have hk1 := h5 h0 (UInt64.le_iff_toNat_le.2 (hc ho))
   rw [q]
   unfold phi
   dsimp only
   rw [h1, List.length_drop, if_pos rfl, if_pos ho]
   omega
  ·rw [q]
   unfold phi
   dsimp only
   rw [h1, List.length_drop, if_pos rfl, if_neg ho]
   omega
def GoodAck (s : St) (way : List FrT) : Prop := ∃ cum bits, ackF (epO s.life s.ses) cum bits s.il ∈ way ∧ ∃ h0 : 0 < (flS s.sd).length, s.other = s.il → ((flS s.sd)[0]).1.toNat ≤ cum.toNat
def HeadOn (s : St) (way : List FrT) : Prop := ∃ h0 : 0 < (flS s.sd).length, ∃ x, dataF (epO s.life s.ses) ((flS s.sd)[0]).1 x ∈ way
theorem GoodAck.same {c s : St} {way : List FrT} (h : GoodAck s way) (hs : Same c s) (hil : c.il = s.il) : GoodAck c way := by
 obtain ⟨cum, bits, h1, h0, h2⟩ := h
 have hl := pqs_flen hs.fl
 refine ⟨cum, bits, by rw [hs.life, hs.ses, hil]; exact h1, by omega, fun ho => ?_⟩
 have := congrArg (fun q : UInt64 × UInt64 × UInt64 × UInt64 => q.1) (pqs_at hs.fl (j := 0) (by omega) h0)
 have e : ((flS c.sd)[0]'(by omega)).1 = ((flS s.sd)[0]).1 := this
 rw [e]
 exact h2 (by rw [← hs.oth, ho, hil])
theorem HeadOn.same {c s : St} {way : List FrT} (h : HeadOn s way) (hs : Same c s) : HeadOn c way := by
 obtain ⟨h0, x, h1⟩ := h
 have hl := pqs_flen hs.fl
 have := congrArg (fun q : UInt64 × UInt64 × UInt64 × UInt64 => q.1) (pqs_at hs.fl (j := 0) (by omega) h0)
 have e : ((flS c.sd)[0]'(by omega)).1 = ((flS s.sd)[0]).1 := this
 exact ⟨by omega, x, by rw [e, hs.life, hs.ses]; exact h1⟩
theorem proc (n : Nat) (hn : 2000 < n) {M : Nat} (hM : M ≤ 900) {G : Gh} (rec : _) (T : Int64) (i : Int64) : ∀ (P Q : List FrT) (m N : Nat) (c : St), P.length < m → N + P.length ≤ 390000 → StOK N M G c → c.way = P ++ Q → (∀ f ∈ Q, ∃ ep cum bits, f = ackF ep cum bits c.il) →
   (∀ ep cum bits lf, ackF ep cum bits lf ∈ P → lf = c.il) →
  ∃ c' Q', F5_R16219 n rec m (I64 P.length) T i (some c.t) = rec T (i + 1) (some c'.t) ∧ StOK (N + P.length) M G c' ∧ c'.way = Q ++ Q' ∧ (∀ f ∈ c'.way, ∃ ep cum bits, f = ackF ep cum bits c'.il) ∧ Q'.length ≤ (P.filter isData).length ∧ c'.now = c.now ∧ c'.il = c.il ∧
   ((Same c' c ∧ phi c' = phi c ∧ ¬ GoodAck c P ∧ (HeadOn c P → GoodAck c' c'.way)) ∨ phi c' < phi c)
 | [], Q, m + 1, N, c, hm, hNl, h, hw, hQ, hP => by
  rw [F5_R16219_s]
  unfold F5_L16219
  rw [show decide ((0 : Int64) < I64 ([] : List FrT).length) = false from rfl, oite_f]
  refine ⟨c, [], rfl, h, by rw [hw]; simp, by rw [hw]; exact hQ, by simp, rfl, rfl, .inl ⟨.refl _, rfl, ?_, ?_⟩⟩
  ·rintro ⟨cum, bits, h1, _⟩; cases h1
  ·rintro ⟨_, x, h1⟩; cases h1
 | f :: P, Q, m + 1, N, c, hm, hNl, h, hw, hQ, hP => by
  have hPl : P.length < 400000 := by simp at hNl; omega
  have hcov : (flS c.sd).length ≤ (lsS c.sp).length := h.snd.len
  rw [F5_R16219_s]
  unfold F5_L16219
  rw [show decide ((0 : Int64) < I64 (f :: P).length) = true from dec_t ((i64_lt (a := 0) (by omega) (by simp; omega)).2 (by simp)), oite_t]
  obtain ⟨c1, e1, k1, k2, k3, k4⟩ := come1 n hn (by simp at hNl; omega) hM h (f := f) (rest := P ++ Q) (by rw [hw]; rfl)
  have hdec : I64 (f :: P).length - 1 = I64 P.length := by
   rw [List.length_cons]
   exact i64_sub (a := P.length + 1) (b := 1) (by omega)
  have hfin : ∀ Q1 : List FrT, c1.way = P ++ Q1 → (∀ g ∈ Q1, ∃ ep cum bits, g = ackF ep cum bits c1.il) → (∃ t, Q1 = Q ++ t ∧ t.length ≤ ([f].filter isData).length) →
    (Same c1 c ∧ phi c1 = phi c ∧ (GoodAck c (f :: P) → GoodAck c P) ∧ (HeadOn c (f :: P) → HeadOn c P ∨ GoodAck c1 Q1) ∨ phi c1 < phi c) →
    ∃ c' Q', obind (F26 n (some c.t, comeA)) (fun x_7 => oite (!x_7.1) (some (false, ())) (F5_R16219 n rec m (I64 (f :: P).length - 1) T i x_7.2)) = rec T (i + 1) (some c'.t) ∧ StOK (N + (f :: P).length) M G c' ∧ c'.way = Q ++ Q' ∧ (∀ f ∈ c'.way, ∃ ep cum bits, f = ackF ep cum bits c'.il) ∧ Q'.length ≤ ((f :: P).filter isData).length ∧ c'.now = c.now ∧ c'.il = c.il ∧
     ((Same c' c ∧ phi c' = phi c ∧ ¬ GoodAck c (f :: P) ∧ (HeadOn c (f :: P) → GoodAck c' c'.way)) ∨ phi c' < phi c) := by
   intro Q1 w1 w2 ⟨t, w3, w4⟩ w5
   obtain ⟨c', Q', z1, z2, z3, z4, z5, z6, z7, z8⟩ := proc n hn hM rec T i P Q1 m (N + 1) c1 (by simp at hm; omega) (by simp at hNl; omega) k1 w1 w2 (fun ep cum bits lf hq => by rw [k2]; exact hP ep cum bits lf (by simp [hq]))
   refine ⟨c', t ++ Q', ?_, by rw [List.length_cons, show N + (P.length + 1) = N + 1 + P.length from by omega]; exact z2, by rw [z3, w3, List.append_assoc], z4, ?_, z6.trans k3, z7.trans k2, ?_⟩
   ·refine (obind_of e1 _).trans ?_
    dsimp only
    rw [Bool.not_true, oite_f, hdec]
    exact z1
   ·rw [List.length_append, show f :: P = [f] ++ P from rfl, List.filter_append, List.length_append]
    omega
   ·rcases w5 with ⟨s1, s2, s3, s4⟩ | s1
    ·rcases z8 with ⟨y1, y2, y3, y4⟩ | y1
     ·left
      refine ⟨y1.trans s1, y2.trans s2, fun hg => y3 ((s3 hg).same s1 k2), fun hh => ?_⟩
      rcases s4 hh with q | ⟨cum, bits, q1, q2⟩
      ·exact y4 (q.same s1)
      ·have : GoodAck c1 c'.way := ⟨cum, bits, by rw [z3]; exact List.mem_append_left _ q1, q2⟩
       exact this.same y1 z7
     ·right; omega
    ·right
     rcases z8 with ⟨_, y2, _, _⟩ | y1 <;> omega
  rcases k4 with ⟨e, sq, x, ep, cum, bits, rfl, w1, w2, w3, w4, w5, w6, w7⟩ | ⟨e, cum, bits, lf, rfl, w1, w2⟩
  ·have hsame : Same c1 c := ⟨by rw [w2], by rw [w3], w4, w5, w6⟩
   refine hfin (Q ++ [ackF ep cum bits c.il]) (by rw [w1, List.append_assoc]) (fun g hg => ?_) ⟨[ackF ep cum bits c.il], rfl, by simp [isData]⟩ (.inl ⟨hsame, ?_, ?_, ?_⟩)
   ·rcases List.mem_append.1 hg with q | q
    ·rw [k2]; exact hQ g q
    ·rw [k2]; exact ⟨ep, cum, bits, List.mem_singleton.1 q⟩
   ·unfold phi; rw [w2, w4, k2]
   ·rintro ⟨cu, bi, q1, q2⟩
    rcases List.mem_cons.1 q1 with q | q
    ·exact absurd q data_not_ack
    ·exact ⟨cu, bi, q, q2⟩
   ·rintro ⟨h0, x', q1⟩
    rcases List.mem_cons.1 q1 with q | q
    ·right
     have qe : epO c.life c.ses = e := congrArg (fun f : FrT => f.2.2.2.1) q
     have qs : ((flS c.sd)[0]).1 = sq := congrArg (fun f : FrT => f.2.2.2.2.1) q
     obtain ⟨y1, y2⟩ := w7 qe.symm h0 qs
     refine GoodAck.same (s := c) ⟨cum, bits, ?_, h0, fun ho => by rw [qs]; exact y2 ho⟩ hsame k2
     rw [qe, ← y1]; simp
    ·exact .inl ⟨h0, x', q⟩
  ·have hlf := hP e cum bits lf (by simp)
   have hphi := ack_phi (c := { c with way := P ++ Q }) hlf hcov w2
   refine hfin Q (by rw [w1]) (fun g hg => by rw [k2]; exact hQ g hg) ⟨[], by simp, by simp⟩ ?_
   rcases hphi with ⟨s1, s2⟩ | s1
   ·have s1' : Same c1 c := ⟨s1.ls, s1.fl, s1.oth, s1.life, s1.ses⟩
    have s2' : phi c1 = phi c := s2
    left
    refine ⟨s1', s2', ?_, ?_⟩
    ·rintro ⟨cu, bi, q1, h0, q2⟩
     rcases List.mem_cons.1 q1 with q | q
     ·exfalso
      obtain ⟨y1, y2, y3⟩ := ack_inj q
      subst y2
      have hg := ack_good (c := { c with way := P ++ Q }) hlf h.lv.oth h0 hcov q2 (by rw [← y1] at w2; exact w2)
      have hg : phi c1 < phi c := hg
      omega
     ·exact ⟨cu, bi, q, h0, q2⟩
    ·rintro ⟨h0, x', q1⟩
     rcases List.mem_cons.1 q1 with q | q
     ·exact absurd q.symm data_not_ack
     ·exact .inl ⟨h0, x', q⟩
   ·exact .inr s1
end Go.Proofs.Ytfmomnniadlbhaa
open Go Go.Sx
namespace Go.Proofs.Ytfmomnniadlbhaa
theorem listGo_out (b : UInt64) (many : Int64) : ∀ (l out : List EnT), ∃ t, listGo b many l out = out ++ t
 | [], out => ⟨[], by simp [listGo]⟩
 | x :: r, out => by
  unfold listGo
  split
  ·exact ⟨[], by simp⟩
  ·split
   ·obtain ⟨t, e⟩ := listGo_out b many r (out ++ [x])
    exact ⟨x :: t, by rw [e]; simp⟩
   ·exact listGo_out b many r out
structure TickF (s s1 : St) : Prop where
 now : s1.now.toNat = s.now.toNat + 1
 il : s1.il = s.il
 oth : s1.other = s.other
 life : s1.life = s.life
 ses : s1.ses = s.ses
 sp : s1.sp = s.sp
 way : ∃ fr, s1.way = (s.way ++ fr).take 200 ∧ fr.length ≤ 8 ∧ (∀ f ∈ fr, ∃ ep sq x, f = dataF ep sq x) ∧
  (lsS s.sp ≠ [] → ∃ h1 : 0 < (flS s1.sd).length,
   (∃ x, dataF (epO s.life s.ses) ((flS s1.sd)[0]).1 x ∈ fr) ∨
   (∃ h0 : 0 < (flS s.sd).length, s.now.toNat + 1 < ((flS s.sd)[0]).2.2.1.toNat ∧ ((flS s1.sd)[0]).2.2.1 = ((flS s.sd)[0]).2.2.1))
 old : ∀ h0 : 0 < (flS s.sd).length, ∃ h1 : 0 < (flS s1.sd).length, ((flS s1.sd)[0]).1 = ((flS s.sd)[0]).1
theorem tick_facts {N M : Nat} {G G' : Gh} {s s1 : St} (h : StOK N M G s) (h' : StOK (N + 1) M G' s1) (ht : s.now.toNat ≤ 900000) (hT : TickP s s1) : TickF s s1 := by
 obtain ⟨sd1, sd2, ds, rfl, ho, h5, h6, h8⟩ := hT.ex
 have hn1 := u64_add1 (a := s.now) (by omega)
 obtain ⟨A, hcov, _⟩ := h.sp.cov
 obtain ⟨news, n1, n2⟩ := offs_fl ho
 have hnews : ∀ f ∈ news, isDue (s.now + 1) f = true := fun f hf => by
  obtain ⟨t1, _, t3⟩ := n2 f hf
  unfold isDue
  rw [t3, t1, dec_f (UInt64.lt_irrefl _)]; rfl
 have hat : ∀ j (hj : j < (flS sd2).length), (flS sd2)[j] = dueF (s.now + 1) 4 ((flS sd1)[j]'(by rw [h5, List.length_map] at hj; exact hj)) := fun j hj => by simp only [h5, List.getElem_map]
 have hfl2 : (flS sd2).length = (flS sd1).length := by rw [h5, List.length_map]
 have hold : ∀ h0 : 0 < (flS s.sd).length, ∃ h1 : 0 < (flS sd1).length, (flS sd1)[0] = (flS s.sd)[0] := fun h0 =>
  ⟨by rw [n1, List.length_append]; omega, by simp only [n1]; exact List.getElem_append_left h0⟩
 refine ⟨hn1, rfl, rfl, rfl, rfl, rfl, ⟨sentOf (epO s.life s.ses) (lsS s.sp) (prs ds), rfl, h8, fun f hf => ?_, fun hne => ?_⟩, fun h0 => ?_⟩
 ·obtain ⟨p, _, e, _, _, q⟩ := sentOf_mem _ f hf
  exact ⟨_, _, _, q⟩
 · -- something is under way
  have hpos : 0 < (flS sd1).length := by
   rcases Nat.eq_zero_or_pos (flS sd1).length with z | z
   ·exfalso
    have hz : flS sd1 = [] := List.length_eq_zero_iff.1 z
    rw [hz] at n1
    have hfl0 : flS s.sd = [] := (List.append_eq_nil_iff.1 n1.symm).1
    obtain ⟨x, r, hxr⟩ : ∃ x r, lsS s.sp = x :: r := by
     cases hl : lsS s.sp with
     | nil => exact absurd hl hne
     | cons x r => exact ⟨x, r, rfl⟩
    have hxm : x ∈ lsS s.sp := by rw [hxr]; simp
    have hb : IK.maxI .u64 s.sp.1.2.2.2.1 (lastI (flS s.sd)) < x.1 := by
     refine max_lt (hcov.low x hxm) ?_
     rw [hfl0]
     exact hcov.ok.pos x hxm
    have hw1 := h.w1
    have hw8 := h.w8
    have hmany : ¬ (s.sd.1 - I64 (flS s.sd).length) ≤ I64 ([] : List EnT).length := by
     rw [hfl0, h.snd.win, i64_of (x := s.w) (by omega)]
     intro q
     have e0 : I64 s.w.toInt.toNat - I64 ([] : List FlT).length = I64 (s.w.toInt.toNat - 0) := i64_sub (Nat.zero_le _)
     rw [e0] at q
     have := (i64_le (a := s.w.toInt.toNat - 0) (b := 0) (by omega) (by omega)).1 q
     omega
    have hgo : ∃ t, listGo (IK.maxI .u64 s.sp.1.2.2.2.1 (lastI (flS s.sd))) (s.sd.1 - I64 (flS s.sd).length) (lsS s.sp) [] = x :: t := by
     rw [hxr]
     unfold listGo
     rw [if_neg hmany, if_pos hb]
     obtain ⟨t, e⟩ := listGo_out (IK.maxI .u64 s.sp.1.2.2.2.1 (lastI (flS s.sd))) (s.sd.1 - I64 (flS s.sd).length) r ([] ++ [x])
     exact ⟨t, by rw [e]; rfl⟩
    obtain ⟨t, hgo⟩ := hgo
    rw [hgo] at ho
    cases ho with
    | stop _ _ herr =>
     have he := herr x t rfl
     have e40 : (1099511627776 : UInt64).toNat = 1099511627776 := rfl
     unfold OffErr at he
     rcases he with q | q | q | q | ⟨q, _⟩
     ·rw [hfl0, h.snd.win, i64_of (x := s.w) (by omega)] at q
      have e0 : I64 s.w.toInt.toNat - I64 ([] : List FlT).length = I64 (s.w.toInt.toNat - 0) := i64_sub (Nat.zero_le _)
      rw [e0] at q
      have := (i64_lt (a := s.w.toInt.toNat - 0) (b := 1) (by omega) (by omega)).1 q
      omega
     ·have := UInt64.lt_iff_toNat_lt.1 q
      have h1 := h.snd.next
      have h2 := h.lv.glen (epO s.life s.ses)
      omega
     ·have := UInt64.lt_iff_toNat_lt.1 q
      have h1 := UInt64.lt_iff_toNat_lt.1 (hcov.upp x hxm)
      have h2 := hcov.ok.next.2
      omega
     ·have := UInt64.lt_iff_toNat_lt.1 q
      omega
     ·rw [hfl0] at q; exact absurd q (Nat.lt_irrefl 0)
    | step _ _ _ hr =>
     obtain ⟨news', m1, _⟩ := offs_fl hr
     rw [hz] at m1
     have := congrArg List.length m1
     rw [List.length_append] at this
     have e1 : (flS (addF s.sd x.1 (s.now + 1))).length = (flS s.sd).length + 1 := by show (flS s.sd ++ [_]).length = _; simp
     rw [e1] at this
     simp only [List.length_nil] at this
     omega
   ·exact z
  refine ⟨by show 0 < (flS sd2).length; omega, ?_⟩
  have hcons : flS sd1 = (flS sd1)[0] :: (flS sd1).drop 1 := by
   have := List.drop_eq_getElem_cons (l := flS sd1) (i := 0) hpos
   rwa [List.drop_zero] at this
  by_cases hdue : isDue (s.now + 1) ((flS sd1)[0]) = true
  ·left
   have hls := h'.snd.len
   have hidx := send_idx h'.snd 0 (by show 0 < (flS sd2).length; omega)
   have hidx : ((flS sd2)[0]'(by omega)).2.1 = ((lsS s.sp)[0]'(by have : (flS sd2).length ≤ (lsS s.sp).length := hls; omega)).1 := hidx
   have hls : (flS sd2).length ≤ (lsS s.sp).length := hls
   have hpr : pr ((flS sd2)[0]'(by omega)) = pr (flS sd1)[0] := by rw [hat 0 (by omega), dueF_pr]
   have hfind : (lsS s.sp).find? (fun e => decide (e.1 = (pr (flS sd1)[0]).2)) = some ((lsS s.sp)[0]'(by omega)) := by
    rw [List.find?_eq_some_iff_getElem]
    refine ⟨?_, 0, by omega, rfl, fun j hj => by omega⟩
    rw [← hpr]
    simp only [decide_eq_true_eq]
    exact hidx.symm
   refine ⟨((lsS s.sp)[0]'(by omega)).2, ?_⟩
   have hs : prs ds = pr (flS sd1)[0] :: prs (((flS sd1).drop 1).filter (isDue (s.now + 1))) := by
    rw [h6]
    conv => lhs; rw [hcons]
    rw [List.filter_cons_of_pos hdue]
    rfl
   have hsent : sentOf (epO s.life s.ses) (lsS s.sp) (prs ds) = dataF (epO s.life s.ses) (pr (flS sd1)[0]).1 ((lsS s.sp)[0]'(by omega)).2 :: sentOf (epO s.life s.ses) (lsS s.sp) (prs (((flS sd1).drop 1).filter (isDue (s.now + 1)))) := by
    rw [hs]
    conv => lhs; unfold sentOf
    rw [hfind]
   have e1 : ((flS sd2)[0]'(by omega)).1 = (pr (flS sd1)[0]).1 := congrArg (fun q : UInt64 × UInt64 => q.1) hpr
   show dataF (epO s.life s.ses) ((flS sd2)[0]'(by omega)).1 ((lsS s.sp)[0]'(by omega)).2 ∈ sentOf (epO s.life s.ses) (lsS s.sp) (prs ds)
   rw [e1, hsent]
   exact List.mem_cons_self
  ·right
   have h0 : 0 < (flS s.sd).length := by
    rcases Nat.eq_zero_or_pos (flS s.sd).length with z | z
    ·exfalso
     rw [List.length_eq_zero_iff.1 z, List.nil_append] at n1
     exact hdue (hnews _ (by rw [← n1]; exact List.getElem_mem hpos))
    ·exact z
   obtain ⟨_, he⟩ := hold h0
   have hcame := h.lv.head h0
   refine ⟨h0, ?_, ?_⟩
   ·rw [he] at hdue
    unfold isDue at hdue
    rw [hcame] at hdue
    by_cases q : (s.now + 1 : UInt64) < (((flS s.sd)[0]'h0).2.2.1 : UInt64)
    ·have := UInt64.lt_iff_toNat_lt.1 q
     rw [hn1] at this
     exact this
    ·exact absurd (by rw [dec_f q]; rfl) hdue
   ·show ((flS sd2)[0]'(by omega)).2.2.1 = _
    rw [hat 0 (by omega), he]
    unfold dueF
    rw [if_neg (by rw [← he]; exact hdue)]
 ·obtain ⟨h1, he⟩ := hold h0
  refine ⟨by show 0 < (flS sd2).length; omega, ?_⟩
  show ((flS sd2)[0]'(by omega)).1 = _
  have : pr ((flS sd2)[0]'(by omega)) = pr (flS sd1)[0] := by rw [hat 0 (by omega), dueF_pr]
  rw [← he]
  exact congrArg (fun q : UInt64 × UInt64 => q.1) this
end Go.Proofs.Ytfmomnniadlbhaa
open Go Go.Sx
namespace Go.Proofs.Ytfmomnniadlbhaa
structure Calm (s : St) : Prop where
 way : ∀ f ∈ s.way, ∃ ep cum bits, f = ackF ep cum bits s.il
 few : s.way.length ≤ 8
open Classical in
noncomputable def rk (s : St) : Nat := if lsS s.sp = [] then 0 else 7 * phi s + (if GoodAck s s.way then 0 else if h : 0 < (flS s.sd).length then ((flS s.sd)[0]).2.2.1.toNat - s.now.toNat + 1 else 1)
theorem rk_le {N M : Nat} {G : Gh} {s : St} (h : StOK N M G s) : rk s ≤ 7 * phi s + 5 := by
 unfold rk
 split
 ·omega
 ·split
  ·omega
  ·split
   ·rename_i h0
    have := (h.lv.tim _ (List.getElem_mem h0)).1
    omega
   ·omega
theorem phi_pos {s : St} (h : lsS s.sp ≠ []) : 1 ≤ phi s := by
 unfold phi
 have : 0 < (lsS s.sp).length := List.length_pos_iff.2 h
 omega
theorem round (n : Nat) (hn : 2000 < n) {N M : Nat} (hN : N ≤ 380000) (hM : M ≤ 900) {G : Gh} {s : St} (h : StOK N M G s) (ht : s.now.toNat ≤ 900000) (rec : _) (T i : Int64) :
  ∃ G' N' s', N' ≤ N + 201 ∧ obind (F26 n (some s.t, tickA)) (fun x_5 => obind x_5.2 fun x_6 => F5_R16219 n rec n (Int64.ofInt ↑x_6.1.2.2.2.2.2.2.2.2.2.1.length) T i (some ((x_6.1.1, x_6.1.2.1, x_6.1.2.2.1, x_6.1.2.2.2.1, x_6.1.2.2.2.2.1, x_6.1.2.2.2.2.2.1, x_6.1.2.2.2.2.2.2.1, x_6.1.2.2.2.2.2.2.2.1, x_6.1.2.2.2.2.2.2.2.2.1, x_6.1.2.2.2.2.2.2.2.2.2.1, x_6.1.2.2.2.2.2.2.2.2.2.2.1, x_6.1.2.2.2.2.2.2.2.2.2.2.2), x_6.2.1, x_6.2.2))) = rec T (i + 1) (some s'.t) ∧
   StOK N' M G' s' ∧ s'.now.toNat = s.now.toNat + 1 ∧ (∀ f ∈ s'.way, ∃ ep cum bits, f = ackF ep cum bits s'.il) ∧ (lsS s'.sp).length ≤ (lsS s.sp).length ∧
   ((∀ f ∈ s.way, ∃ ep cum bits, f = ackF ep cum bits s.il) → s'.way.length ≤ 8) ∧ (Calm s → lsS s.sp ≠ [] → rk s' < rk s) := by
 have hT := do3 n hn (by omega) hM h ht
 obtain ⟨G', s1, e1, h1, hT⟩ := hT
 have hf := tick_facts h h1 ht hT
 obtain ⟨fr, w1, w2, w3, w4⟩ := hf.way
 have hl1 : s1.way.length ≤ 200 := by rw [w1, List.length_take]; omega
 have hdata : ∀ ep cum bits lf, ackF ep cum bits lf ∈ s1.way → ackF ep cum bits lf ∈ s.way := fun ep cum bits lf hm => by
  rw [w1] at hm
  rcases List.mem_append.1 (List.mem_of_mem_take hm) with q | q
  ·exact q
  ·obtain ⟨_, _, _, q2⟩ := w3 _ q
   exact absurd q2 data_not_ack
 have hfew : (∀ f ∈ s.way, ∃ ep cum bits, f = ackF ep cum bits s.il) → (s1.way.filter isData).length ≤ 8 := fun hq => by
  rw [w1]
  refine Nat.le_trans ((List.take_sublist _ _).filter _).length_le ?_
  rw [List.filter_append, List.length_append]
  have : s.way.filter isData = [] := by
   rw [List.filter_eq_nil_iff]
   intro f hfm
   obtain ⟨_, _, _, q⟩ := hq f hfm
   rw [q]; show ¬ (decide ((2 : UInt8) = 1)) = true; decide
  rw [this]
  have := List.length_filter_le isData fr
  simp only [List.length_nil]
  omega
 have hgo : ∀ {X : _}, F5_R16219 n rec n (I64 s1.way.length) T i (some s1.t) = X → obind (F26 n (some s.t, tickA)) (fun x_5 => obind x_5.2 fun x_6 => F5_R16219 n rec n (Int64.ofInt ↑x_6.1.2.2.2.2.2.2.2.2.2.1.length) T i (some ((x_6.1.1, x_6.1.2.1, x_6.1.2.2.1, x_6.1.2.2.2.1, x_6.1.2.2.2.2.1, x_6.1.2.2.2.2.2.1, x_6.1.2.2.2.2.2.2.1, x_6.1.2.2.2.2.2.2.2.1, x_6.1.2.2.2.2.2.2.2.2.1, x_6.1.2.2.2.2.2.2.2.2.2.1, x_6.1.2.2.2.2.2.2.2.2.2.2.1, x_6.1.2.2.2.2.2.2.2.2.2.2.2), x_6.2.1, x_6.2.2))) = X := fun hX => by
  refine (obind_of e1 _).trans ?_
  dsimp only
  rw [obind_s]
  exact hX
 by_cases hc : Calm s
 ·have hP := proc n hn hM rec T i s1.way [] n (N + 1) s1 (by omega) (by omega) h1 (by simp) (fun f hf => by cases hf) (fun ep cum bits lf hm => by
   obtain ⟨a, b, c, q⟩ := hc.way _ (hdata _ _ _ _ hm)
   rw [(ack_inj q).2.2, hf.il])
  obtain ⟨c', Q', z1, z2, z3, z4, z5, z6, z7, z8⟩ := hP
  rw [List.nil_append] at z3
  have hphi : phi s1 = phi s := by unfold phi; rw [hf.sp, hf.oth, hf.il]
  refine ⟨G', N + 1 + s1.way.length, c', by omega, hgo z1, z2, by rw [z6, hf.now], z4, ?_, fun hq => by rw [z3]; exact Nat.le_trans z5 (hfew hq), fun _ hne => ?_⟩
  ·rcases z8 with ⟨y1, _⟩ | y1
   ·rw [y1.ls, hf.sp]; exact Nat.le_refl _
   · -- fewer, or as many: by the plain rule
    obtain ⟨c2, Q2, u1, u2, u3, u4, u5, u6, u7⟩ := proc0 n hn hM rec T i s1.way [] n (N + 1) s1 (by omega) (by omega) h1 (by simp) (fun f hf => by cases hf)
    have : phi c' < phi s := by omega
    unfold phi at this
    rw [z7, hf.il] at this
    split at this <;> split at this <;> omega
  ·have hkl := rk_le z2
   have hpos := phi_pos hne
   have hrs : rk s = 7 * phi s + (open Classical in if GoodAck s s.way then 0 else if h : 0 < (flS s.sd).length then ((flS s.sd)[0]).2.2.1.toNat - s.now.toNat + 1 else 1) := by unfold rk; rw [if_neg hne]
   rcases z8 with ⟨y1, y2, y3, y4⟩ | y1
   ·have hng : ¬ GoodAck s s.way := fun ⟨cum, bits, g1, g0, g2⟩ => y3 (by
     obtain ⟨h1', he⟩ := hf.old g0
     refine ⟨cum, bits, ?_, h1', fun ho => by rw [he]; exact g2 (by rw [← hf.oth, ho, hf.il])⟩
     rw [hf.life, hf.ses, hf.il, w1, List.take_of_length_le (by rw [List.length_append]; have := hc.few; omega)]
     exact List.mem_append_left _ g1)
    rw [if_neg hng] at hrs
    obtain ⟨hp1, hcase⟩ := w4 hne
    have hne' : lsS c'.sp ≠ [] := by rw [y1.ls, hf.sp]; exact hne
    have hrc : rk c' = 7 * phi c' + (open Classical in if GoodAck c' c'.way then 0 else if h : 0 < (flS c'.sd).length then ((flS c'.sd)[0]).2.2.1.toNat - c'.now.toNat + 1 else 1) := by unfold rk; rw [if_neg hne']
    rcases hcase with ⟨x, hx⟩ | ⟨h0, hlt, hsame⟩
    ·have hg := y4 ⟨hp1, x, by
      rw [hf.life, hf.ses, w1, List.take_of_length_le (by rw [List.length_append]; have := hc.few; omega)]
      exact List.mem_append_right _ hx⟩
     rw [if_pos hg] at hrc
     rw [hrc, hrs, y2, hphi]
     split <;> omega
    ·have hl := pqs_flen y1.fl
     have hp2 : 0 < (flS c'.sd).length := by omega
     have hdue : ((flS c'.sd)[0]).2.2.1 = ((flS s.sd)[0]).2.2.1 := by
      have e := congrArg (fun q : UInt64 × UInt64 × UInt64 × UInt64 => q.2.2.1) (pqs_at y1.fl hp2 hp1)
      have e : ((flS c'.sd)[0]).2.2.1 = ((flS s1.sd)[0]).2.2.1 := e
      rw [e, hsame]
     rw [dif_pos h0] at hrs
     rw [dif_pos hp2, hdue, z6, hf.now] at hrc
     rw [hrc, hrs, y2, hphi]
     split <;> omega
   ·rw [hphi] at y1
    have : rk s ≥ 7 * phi s := by rw [hrs]; omega
    omega
 ·obtain ⟨c2, Q2, u1, u2, u3, u4, u5, u6, u7⟩ := proc0 n hn hM rec T i s1.way [] n (N + 1) s1 (by omega) (by omega) h1 (by simp) (fun f hf => by cases hf)
  rw [List.nil_append] at u3
  exact ⟨G', N + 1 + s1.way.length, c2, by omega, hgo u1, u2, by rw [u6, hf.now], u4, by rw [← hf.sp]; exact u7, fun hq => by rw [u3]; exact Nat.le_trans u5 (hfew hq), fun q => absurd q hc⟩
end Go.Proofs.Ytfmomnniadlbhaa
open Go Go.Sx
namespace Go.Proofs.Ytfmomnniadlbhaa
theorem high_eq {N M : Nat} {G : Gh} {s : St} (h : StOK N M G s) (hl : lsS s.sp = []) (o : UInt8) : hh s.hs o = hh s.sp.2.1 o := by
 obtain ⟨A, hcov, hA⟩ := h.sp.cov
 have hf := hcov.fin
 rw [show s.sp.1.2.2.2.2 = lsS s.sp from rfl, hl] at hf
 have hf : A = hh s.sp.2.1 := hf
 have h1 := hA o
 have h2 := h.lv.upp o
 rw [hf] at h1
 unfold HH at h1 h2
 exact UInt64.toNat.inj (by omega)
theorem highs_loop (n : Nat) (hn : 1000 < n) {N M : Nat} (hN : N ≤ 400000) (hNn : 9 * N + 1 < n) {G : Gh} {s : St} (h : StOK N M G s) (hl : lsS s.sp = []) : ∀ (m k : Nat), k ≤ 4 → 4 - k < m →
  F5_R1021 n m 0 (UInt8.ofNat k) s.hs s.w 1 4 s.v0 s.v1 s.now s.ch (some s.sp) (some (mkO s.w s.life s.ses s.other s.sd)) (some (mkI s.w s.il s.ep s.rc)) s.way s.put s.got = some (true, ()) := by
 intro m
 induction m with
 | zero => intros; omega
 | succ m ih =>
  intro k hk hm
  rw [F5_R1021_s]
  unfold F5_L1021
  have ek : (UInt8.ofNat k).toNat = k := by rw [UInt8.toNat_ofNat']; omega
  have e4 : (4 : UInt8).toNat = 4 := rfl
  by_cases hlt : k < 4
  ·rw [dec_t (show UInt8.ofNat k < 4 by rw [UInt8.lt_iff_toNat_lt, ek, e4]; exact hlt), oite_t, ek]
   have h4 := h.got.four
   have hat := hh_at (hs := s.hs) (o := UInt8.ofNat k) (by rw [ek]; omega)
   rw [ek] at hat
   rw [dec_t (show (0 : Int) ≤ ((k : Nat) : Int) by omega), oite_t, Int.toNat_natCast, show Nat.blt k 4 = true from ble_t hlt, oite_t, Nat.mul_one, hat, obind_s]
   obtain ⟨A, hcov, _⟩ := h.sp.cov
   have hh32 := hcov.ok.highs
   have hs := high_spec n s.sp hh32 (UInt8.ofNat k) (by rw [ek]; omega)
   refine (obind_of hs _).trans ?_
   dsimp only
   have heq : hh s.hs (UInt8.ofNat k) = s.sp.2.1[(UInt8.ofNat k).toNat]'(by rw [ek]; omega) := by
    rw [high_eq h hl]
    unfold hh
    rw [List.getElem?_eq_getElem (by rw [ek]; omega)]
    rfl
   rw [dec_t heq, Bool.not_true, oite_f]
   have hnx : UInt8.ofNat k + 1 = UInt8.ofNat (k + 1) := by
    apply UInt8.toNat.inj
    rw [UInt8.toNat_add, ek, UInt8.toNat_ofNat']
    have : (1 : UInt8).toNat = 1 := rfl
    rw [this]
   rw [hnx]
   exact ih (k + 1) (by omega) (by omega)
  ·rw [dec_f (show ¬ UInt8.ofNat k < 4 by rw [UInt8.lt_iff_toNat_lt, ek, e4]; exact hlt), oite_f, show decide ((0 : Int64) = 0) = true from rfl, oite_t]
   exact obind_of (right_ok n hn (by omega) hNn h) _
def Far (s : St) (r : Nat) : Prop := lsS s.sp = [] ∨ (Calm s ∧ rk s ≤ r) ∨ ((∀ f ∈ s.way, ∃ ep cum bits, f = ackF ep cum bits s.il) ∧ 7 * ((lsS s.sp).length + 1) + 6 ≤ r) ∨ 7 * ((lsS s.sp).length + 1) + 7 ≤ r
theorem phi_le (s : St) : phi s ≤ (lsS s.sp).length + 1 := by unfold phi; split <;> omega
theorem rounds (n : Nat) (hn : 2000 < n) {M : Nat} (hM : M ≤ 900) (T : Nat) (hT : T ≤ 1000) (hNn : 9 * 380000 + 1 < n) : ∀ (m i N : Nat) (G : Gh) (s : St), i ≤ T → T - i < m → N + 201 * (T - i) ≤ 380000 → StOK N M G s → s.now.toNat + (T - i) ≤ 900000 → Far s (T - i) →
  F5_R253 n m (I64 T) (I64 i) (some s.t) = some (true, ()) := by
 intro m
 induction m with
 | zero => intros; omega
 | succ m ih =>
  intro i N G s hi hm hNb h ht hfar
  rw [F5_R253_s]
  unfold F5_L253
  by_cases hlt : i < T
  ·rw [dec_t ((i64_lt (by omega) (by omega)).2 hlt), oite_t]
   have hR := round n hn (by omega) hM h (by omega) (F5_R253 n m) (I64 T) (I64 i)
   obtain ⟨G', N', s', b1, b2, b3, b4, b5, b6, b7, b8⟩ := hR
   refine b2.trans ?_
   rw [i64_succ]
   refine ih (i + 1) N' G' s' (by omega) (by omega) (by omega) b3 (by omega) ?_
   have hnil : lsS s.sp = [] → lsS s'.sp = [] := fun q => by
    rw [q] at b6
    exact List.length_eq_zero_iff.1 (Nat.le_zero.1 b6)
   have hrk := rk_le b3
   have hphi := phi_le s'
   rcases hfar with q | ⟨q1, q2⟩ | ⟨q1, q2⟩ | q
   ·exact .inl (hnil q)
   ·by_cases hne : lsS s.sp = []
    ·exact .inl (hnil hne)
    ·have := b8 q1 hne
     exact .inr (.inl ⟨⟨b5, b7 q1.way⟩, by omega⟩)
   ·exact .inr (.inl ⟨⟨b5, b7 q1⟩, by omega⟩)
   ·exact .inr (.inr (.inl ⟨b5, by omega⟩))
  ·rw [dec_f (fun q => hlt ((i64_lt (by omega) (by omega)).1 q)), oite_f, obind_s]
   have hiT : T - i = 0 := by omega
   rw [hiT] at hfar
   have hl : lsS s.sp = [] := by
    rcases hfar with q | ⟨_, q⟩ | ⟨_, q⟩ | q
    ·exact q
    ·by_cases hne : lsS s.sp = []
     ·exact hne
     ·exfalso
      have h1 := phi_pos hne
      unfold rk at q
      rw [if_neg hne] at q
      omega
    ·omega
    ·omega
   have e27 : F27 n (some s.sp) = some ((I64 (lsS s.sp).length, s.sp.1.2.1, s.sp.1.2.2.1, s.sp.1.2.2.2.1, s.sp.2.2), some s.sp) := rfl
   dsimp only
   refine (obind_of e27 _).trans ?_
   dsimp only
   rw [hl]
   exact highs_loop n (by omega) (by omega) (by omega) h hl n 0 (by omega) (by omega)
theorem acts5 (n : Nat) (hn : 9 * 380000 + 10000 < n) (acts : List ActT) (ha : acts.length < 2 ^ 63) : ∀ (m i M : Nat) (G : Gh) (s : St), i ≤ acts.length → acts.length - i < m → i ≤ 81 → M ≤ i → StOK i M G s → s.now.toNat ≤ i →
  F5_R61 n (F5_J15 n) m acts (I64 acts.length) (I64 i) (some s.t) = some (true, ()) := by
 intro m
 induction m with
 | zero => intros; omega
 | succ m ih =>
  intro i M G s hi hm hi2 hMi h hnow
  have hJ : F5_J15 n (some s.t) = some (true, ()) := by
   unfold F5_J15
   rw [obind_s]
   have e27 : F27 n (some s.sp) = some ((I64 (lsS s.sp).length, s.sp.1.2.1, s.sp.1.2.2.1, s.sp.1.2.2.2.1, s.sp.2.2), some s.sp) := rfl
   dsimp only
   refine (obind_of e27 _).trans ?_
   dsimp only
   obtain ⟨A, hcov, _⟩ := h.sp.cov
   have hlen : (lsS s.sp).length ≤ M := hcov.ok.len
   have eT : (20 : Int64) + 10 * (I64 (lsS s.sp).length + 1) = I64 (20 + 10 * ((lsS s.sp).length + 1)) := by
    rw [i64_succ]
    have e1 : (10 : Int64) * I64 ((lsS s.sp).length + 1) = I64 (10 * ((lsS s.sp).length + 1)) := by
     show I64 10 * _ = _
     simp only [I64]
     rw [← Int64.ofInt_mul]
     congr 1
    rw [e1]
    exact i64_add 20 _
   rw [eT]
   exact rounds n (by omega) (show M ≤ 900 by omega) (20 + 10 * ((lsS s.sp).length + 1)) (by omega) (by omega) n 0 i G s (by omega) (by omega) (by omega) h (by omega) (.inr (.inr (.inr (by omega))))
  rw [F5_R61_s]
  unfold F5_L61
  by_cases hlt : i < acts.length
  ·rw [dec_t ((i64_lt (by omega) (by omega)).2 hlt), oite_t, at_i64_lt (by omega) hlt, obind_s]
   by_cases hb : 80 < i
   ·rw [show decide ((80 : Int64) < I64 i) = true from dec_t ((i64_lt (a := 80) (by omega) (by omega)).2 hb), oite_t]
    exact hJ
   ·rw [show decide ((80 : Int64) < I64 i) = false from dec_f (fun q => hb ((i64_lt (a := 80) (by omega) (by omega)).1 q)), oite_f]
    have hD := do_ok n (by omega) (show i ≤ 400000 by omega) (show M ≤ 900 by omega) h (by omega) acts[i]
    obtain ⟨r, e1, M', G', s', hM', rfl, h2, _, h3⟩ := hD
    refine (obind_of e1 _).trans ?_
    dsimp only
    rw [Bool.not_true, oite_f, i64_succ]
    exact ih (i + 1) M' G' s' (by omega) (by omega) (by omega) (by omega) h2 (by omega)
  ·rw [dec_f (fun q => hlt ((i64_lt (by omega) (by omega)).1 q)), oite_f]
   exact hJ
theorem awakeR (n : Nat) : F8 n () = some (true, ()) := by
 unfold F8
 refine (obind_of (newOut_eq n 3 2 (by decide) (by decide) (by decide) (by decide)) _).trans ?_
 dsimp only
 rw [show decide ((0 : Int64) = 0) = true from rfl, oite_t, obind_s]
 congr 2
theorem rest_true : ∀ x : sig5.In, PTys.fits sig5.ps x → ∃ n y, F5 n x = some y ∧ PTys.hd (.one (.c .bool)) .nil y.1 = true := by
 rintro ⟨window, quota, acts⟩ hfit
 have hi := hfit.2.2.1
 simp only [PTy.fits, CTs.fits, CT.fits] at hi
 have hi : acts.length < 2 ^ 63 := hi.1
 generalize hn : acts.length + 4000000 = n
 refine ⟨n, (true, ()), ?_, rfl⟩
 unfold F5
 refine (obind_of (awakeR n) _).trans ?_
 dsimp only
 rw [Bool.not_true, oite_f]
 have hq : (quota % 300).toNat ≤ 400 := by
  rw [UInt16.toNat_mod]
  have : (300 : UInt16).toNat = 300 := rfl
  have := Nat.mod_lt quota.toNat (show 0 < (300 : UInt16).toNat by decide)
  omega
 have hB := begin_ok n window (quota % 300) hq
 obtain ⟨s, e1, h, h0⟩ := hB
 refine (obind_of e1 _).trans ?_
 rw [ojoinA_rw]
 exact acts5 n (by omega) acts hi n 0 0 _ s (by omega) (by omega) (by omega) (Nat.le_refl _) h (by omega)
end Go.Proofs.Ytfmomnniadlbhaa
