/- GroupNone: a first step of many groups. -/
import Derived.Test.YtcfckkmiaeegpaaSort
open Go Go.Sx
namespace Go.Proofs.Ytcfckkmiaeegpaa
theorem keyEqb (a b : Key) : VT.eqb KT a b = decide (a = b) := by
  rw [Bool.eq_iff_iff]
  obtain ⟨a1, a2⟩ := a
  obtain ⟨b1, b2⟩ := b
  simp [VT.eqb, CTs.eqb, CT.eqb, IK.eqb, CTs.hd, CTs.tl]
  intro _
  exact ⟨fun h => of_decide_eq_true h, fun h => decide_eq_true h⟩
theorem kget_put (v : VT) (a b : Key) (x : v.T) : ∀ m : List (Key × v.T), mget KT v a (mput KT v b x m) = if a = b then some x else mget KT v a m
  | [] => by
    simp only [mput, mget, keyEqb]
    by_cases h : a = b <;> simp [h]
  | p :: m => by
    have ih := kget_put v a b x m
    simp only [mput, keyEqb]
    by_cases hb : b = p.1
    · rw [dec_t hb]
      simp only [mget, keyEqb]
      by_cases h : a = b
      · simp [h]
      · rw [dec_f h, dec_f (by rw [← hb]; exact h), if_neg h]
    · rw [dec_f hb]
      simp only [mget, keyEqb]
      by_cases h : a = p.1
      · rw [dec_t h, if_neg (fun q => hb (by rw [← q, h]))]
      · rw [dec_f h]; exact ih
theorem kput_len (v : VT) (a : Key) (x : v.T) : ∀ (m : List (Key × v.T)) (y : v.T), mget KT v a m = some y → (mput KT v a x m).length = m.length
  | [], y, h => by cases h
  | p :: m, y, h => by
    simp only [mget, mput, keyEqb] at h ⊢
    by_cases hp : a = p.1
    · rw [dec_t hp]; rfl
    · rw [dec_f hp] at h ⊢
      simp [kput_len v a x m y h]
theorem kput_new (v : VT) (a : Key) (x : v.T) : ∀ (m : List (Key × v.T)), mget KT v a m = none → mput KT v a x m = m ++ [(a, x)]
  | [], _ => rfl
  | p :: m, h => by
    simp only [mget, mput, keyEqb] at h ⊢
    by_cases hp : a = p.1
    · rw [dec_t hp] at h; cases h
    · rw [dec_f hp] at h ⊢
      simp [kput_new v a x m h]
theorem kput_re (v : VT) (a : Key) (x y : v.T) : ∀ (m : List (Key × v.T)), mget KT v a m = none → mput KT v a y (m ++ [(a, x)]) = m ++ [(a, y)]
  | [], _ => by simp only [List.nil_append, mput, keyEqb, dec_t]
  | p :: m, h => by
    simp only [mget, mput, keyEqb, List.cons_append] at h ⊢
    by_cases hp : a = p.1
    · rw [dec_t hp] at h; cases h
    · rw [dec_f hp] at h ⊢
      simp [kput_re v a x y m h]
theorem kget_none (v : VT) (a : Key) : ∀ (m : List (Key × v.T)), (∀ p ∈ m, p.1 ≠ a) → mget KT v a m = none
  | [], _ => rfl
  | p :: m, h => by
    simp only [mget, keyEqb]
    rw [dec_f (fun q => h p (by simp) q.symm)]
    exact kget_none v a m (fun q hq => h q (by simp [hq]))
theorem kget_map {ι : Type} (v : VT) (key : ι → Key) (val : ι → v.T) (i : ι) : ∀ (L : List ι), (∀ j ∈ L, key j = key i → j = i) → i ∈ L → mget KT v (key i) (L.map fun j => (key j, val j)) = some (val i)
  | [], _, h => by cases h
  | j :: L, hinj, h => by
    simp only [List.map_cons, mget, keyEqb]
    by_cases hj : key i = key j
    · rw [dec_t hj, hinj j (by simp) hj.symm]
    · rw [dec_f hj]
      refine kget_map v key val i L (fun x hx => hinj x (by simp [hx])) ?_
      rcases List.mem_cons.1 h with rfl | h
      · exact absurd rfl hj
      · exact h
/-- what is asked of a tree and an alert -/
structure EnvT (n : Nat) (T : Option (List Node)) (o : UInt8) (r : List UInt8) (l : List Pair) (lt : List UInt8) (L : List Nat) (nd : Nat → Node) (gl : Nat → List Pair) (gt : Nat → List UInt8) : Prop where
  find : ∀ st p v u, F44 n (T, o, r, l, st, p, v, u) = some (L.map I64, ())
  node : ∀ i ∈ L, F30 n (T, I64 i) = some ((nd i, true), ())
  grp : ∀ i ∈ L, ∀ st p v u, F45 n (nd i, o, r, l, st, p, v, u) = some (gl i, ())
  text : ∀ i ∈ L, F46 n (gl i) = some (gt i, ())
  clone : ∀ i ∈ L, F52 n (gl i) = some (gl i, ())
  lab : F46 n l = some (lt, ())
  nodup : L.Nodup
  len : L.length ≤ 12
  small : ∀ i ∈ L, i < 1000
variable {k : Nat} {T : Option (List Node)} {o : UInt8} {r : List UInt8} {l : List Pair} {lt : List UInt8} {L : List Nat} {nd : Nat → Node} {gl : Nat → List Pair} {gt : Nat → List UInt8}
theorem EnvT.at (E : EnvT (k + 40) T o r l lt L nd gl gt) (i : Nat) (hi : i ∈ L) : EnvN (k + 30 + 10) T (I64 i) (nd i) o r l (gl i) lt := ⟨E.node i hi, E.lab, E.clone i hi⟩
abbrev keyOf (gt : Nat → List UInt8) (i : Nat) : Key := (I64 i, gt i)
theorem EnvT.inj (E : EnvT (k + 40) T o r l lt L nd gl gt) (i j : Nat) (hi : i ∈ L) (hj : j ∈ L) (h : keyOf gt i = keyOf gt j) : i = j := by
  have h1 : I64 i = I64 j := congrArg Prod.fst h
  have := E.small i hi
  have := E.small j hj
  exact (i64_eq (by omega) (by omega)).1 h1
abbrev MemT := Int64 × List UInt8 × List Pair × Alert
theorem mem_loop (E : EnvT (k + 40) T o r l lt L nd gl gt) (st p v u) (rec' : List Alert → Int64 → Int64 → Option Gs → List MemT → Option (List MemT × Option Gs)) (t : List Alert) (t1 t2 : Int64) (mm : List (Key × St)) (sent : UInt64) (q : Nat) : ∀ (j : Nat) (out : List MemT), j ≤ L.length → L.length - j < q → out.length ≤ j →
    F29_R3767 (k + 40) rec' q t t1 t2 (I64 L.length) (I64 j) T sent out o r l st p v u (L.map I64) mm
      = rec' t t1 (t2 + 1) (some (T, mm, sent)) (out ++ (L.drop j).map fun i => (I64 i, gt i, gl i, o, r, l, st, p, v, u)) := by
  have hlen := E.len
  induction q with
  | zero => intros; omega
  | succ q ih =>
    intro j out hj hq ho
    rw [F29_R3767_s]
    unfold F29_L3767
    by_cases hlt : j < L.length
    · obtain ⟨i1, i2⟩ := idx_i64 (l := L.map I64) (k := j) (by simpa using hlt) (by omega)
      rw [dec_t ((i64_lt (by omega) (by omega)).2 hlt), oite_t, i1, oite_t, i2]
      simp only [obind_s, List.getElem_map]
      have hi : L[j] ∈ L := List.getElem_mem _
      rw [E.node _ hi]
      simp only [obind_s]
      rw [E.grp _ hi]
      simp only [obind_s]
      rw [E.text _ hi]
      simp only [obind_s]
      rw [ble_t (by simp; omega), oite_t, i64_succ, ih (j + 1) _ (by omega) (by omega) (by simp; omega), show List.drop j L = L[j] :: L.drop (j + 1) from List.drop_eq_getElem_cons hlt, List.map_cons, List.append_assoc]
      rfl
    · rw [dec_f (fun q => hlt ((i64_lt (by omega) (by omega)).1 q)), oite_f, show L.drop j = [] from List.drop_eq_nil_of_le (by omega)]
      simp
theorem mem_many (E : EnvT (k + 40) T o r l lt L nd gl gt) (st p v u) (hst : st ≠ 0) (mm : List (Key × St)) (sent : UInt64) :
    F29 (k + 40) (some (T, mm, sent), [(o, r, l, st, p, v, u)]) = some (L.map fun i => (I64 i, gt i, gl i, o, r, l, st, p, v, u), some (T, mm, sent)) := by
  have hlen := E.len
  unfold F29
  rw [F29_R29_s]
  unfold F29_L29
  rw [lt01, oite_t, at0]
  simp only [obind_s]
  rw [dec_f hst, oite_f, E.find]
  simp only [obind_s]
  rw [show Int64.ofInt ↑(L.map I64).length = I64 L.length from by rw [List.length_map]]
  refine (mem_loop E st p v u _ [(o, r, l, st, p, v, u)] _ 0 mm sent (k + 40) 0 [] (by omega) (by omega) (by simp)).trans ?_
  rw [F29_R29_s]
  unfold F29_L29
  rw [lt11, oite_f]
  rfl
theorem new_loop (E : EnvT (k + 40) T o r l lt L nd gl gt) (st p v u) (now sent : UInt64) (all : List Alert) (q : Nat) : ∀ (j : Nat), j ≤ L.length → L.length - j < q →
    F13_R61 (k + 40) q now all (L.map fun i => (I64 i, gt i, gl i, o, r, l, st, p, v, u)) (I64 L.length) (I64 j) (some (T, (L.take j).map (fun i => (keyOf gt i, ((gl i, now + (nd i).2.2.2.1, false, 0, []) : St))), sent)) ((L.take j).map (fun i => (keyOf gt i, ([(o, r, l, st, p, v, u)] : List Alert))))
      = F13_R253 (k + 40) (k + 40) now all (Int64.ofInt ↑all.length) 0 (some (T, L.map (fun i => (keyOf gt i, ((gl i, now + (nd i).2.2.2.1, false, 0, []) : St))), sent)) (L.map (fun i => (keyOf gt i, ([(o, r, l, st, p, v, u)] : List Alert)))) [] := by
  have hlen := E.len
  induction q with
  | zero => intros; omega
  | succ q ih =>
    intro j hj hq
    rw [F13_R61_s]
    unfold F13_L61
    by_cases hlt : j < L.length
    · have hi : L[j] ∈ L := List.getElem_mem _
      rw [dec_t ((i64_lt (by omega) (by omega)).2 hlt), oite_t, at_i64_lt (by omega) (by simpa using hlt)]
      simp only [obind_s, List.getElem_map, ojoinA_eq]
      have hnot : ∀ i ∈ L.take j, keyOf gt i ≠ keyOf gt L[j] := by
        intro i hi' h
        have h1 := E.inj i L[j] (List.mem_of_mem_take hi') hi h
        obtain ⟨a, ha, ha2⟩ := List.getElem_of_mem hi'
        rw [List.length_take] at ha
        rw [List.getElem_take] at ha2
        exact List.pairwise_iff_getElem.1 E.nodup a j (by omega) hlt (by omega) (ha2.trans h1)
      have n1 : mget KT SV (I64 L[j], gt L[j]) ((L.take j).map (fun i => (keyOf gt i, ((gl i, now + (nd i).2.2.2.1, false, 0, []) : St)))) = none := kget_none SV _ _ (fun x hx => by
        obtain ⟨i, hi', rfl⟩ := List.mem_map.1 hx
        exact hnot i hi')
      have n2 : mget KT LV (I64 L[j], gt L[j]) ((L.take j).map (fun i => (keyOf gt i, ([(o, r, l, st, p, v, u)] : List Alert)))) = none := kget_none LV _ _ (fun x hx => by
        obtain ⟨i, hi', rfl⟩ := List.mem_map.1 hx
        exact hnot i hi')
      rw [n1, show (!(none : Option St).isSome) = true from rfl, oite_t, ble_t (by simp; omega), oite_t]
      rw [show decide (Int64.ofInt ↑((L.take j).map (fun i => (keyOf gt i, ((gl i, now + (nd i).2.2.2.1, false, 0, []) : St)))).length = 256) = false from by
        rw [List.length_map, List.length_take]
        exact dec_f (fun q => by have := (i64_eq (b := 256) (by omega) (by omega)).1 q; omega), oite_f, E.node _ hi]
      simp only [obind_s]
      unfold F13_J3931
      rw [show (decide (I64 L[j] = I64 L[j]) && (gt L[j] == gt L[j] && true)) = true from by simp, oite_t, n2, oelim_n]
      rw [show ∀ x : Alert, Nat.ble (0 + [x].length) 4294967296 = true from fun _ => rfl, oite_t]
      rw [List.nil_append, kput_new SV _ _ _ n1, kput_new LV _ _ _ n2, kput_re LV _ _ _ _ n2, i64_succ]
      have tk : L.take (j + 1) = L.take j ++ [L[j]] := by rw [List.take_add_one, List.getElem?_eq_getElem hlt]; rfl
      have := ih (j + 1) (by omega) (by omega)
      rw [tk, List.map_append, List.map_append] at this
      exact this
    · rw [dec_f (fun q => hlt ((i64_lt (by omega) (by omega)).1 q)), oite_f, List.take_of_length_le (by omega)]
def GoodS (gl : List Pair) (i : Id) (X : Alert) (s : St) : Prop := ∃ due last, s = (gl, due, false, last, []) ∨ s = (gl, due, true, last, [(i, X)])
theorem look_any {ix : Int64} {nd' : Node} {gl' : List Pair} (E : EnvN (k + 30 + 10) T ix nd' o r l gl' lt) (st p v u) (hst : st ≠ 0) (now sent : UInt64) (mm : List (Key × St)) (s : St) (g : List UInt8) (hm : mget KT SV (ix, g) mm = some s) (hs : GoodS gl' (o, r, lt) (o, r, l, st, p, v, u) s) :
    ∃ nt ok mm', F33 (k + 40) (some (T, mm, sent), (ix, g), now, [(o, r, l, st, p, v, u)], [((o, r, lt), (o, r, l, st, p, v, u))]) = some ((nt, ok), some (T, mm', sent)) ∧ (mm' = mm ∨ ∃ s', mm' = mput KT SV (ix, g) s' mm ∧ GoodS gl' (o, r, lt) (o, r, l, st, p, v, u) s') := by
  obtain ⟨due, last, rfl | rfl⟩ := hs
  · by_cases h : now < due
    · exact ⟨_, _, _, look0N (k + 30) _ g sent now _ _ hm h, .inl rfl⟩
    · exact ⟨_, _, _, look_tellN (k + 30) E st p v u hst due last sent now _ hm h, .inr ⟨_, rfl, _, _, .inr rfl⟩⟩
  · by_cases h : now < due
    · exact ⟨_, _, _, look0N (k + 30) _ g sent now _ _ hm h, .inl rfl⟩
    · by_cases hr : now - last < nd'.2.2.2.2.2.1
      · exact ⟨_, _, _, look_stillN (k + 30) E st p v u p v u hst due last sent now hm h hr, .inr ⟨_, rfl, _, _, .inr rfl⟩⟩
      · exact ⟨_, _, _, look_againN (k + 30) E st p v u p v u hst due last sent now hm h hr, .inr ⟨_, rfl, _, _, .inr rfl⟩⟩
theorem look_loop (E : EnvT (k + 40) T o r l lt L nd gl gt) (st p v u) (hst : st ≠ 0) (now : UInt64) (keys : List Key) (hk : keys.length ≤ 100) (hkeys : ∀ x ∈ keys, ∃ i ∈ L, x = keyOf gt i) (in_ : InT) (hin : ∀ i ∈ L, mget KT LV (keyOf gt i) in_ = some [(o, r, l, st, p, v, u)]) (N : Nat) (q : Nat) : ∀ (j : Nat) (mm : List (Key × St)) (sent : UInt64) (out : List NotT), j ≤ keys.length → keys.length - j < q → out.length ≤ j → mm.length = N →
    (∀ i ∈ L, ∃ s, mget KT SV (keyOf gt i) mm = some s ∧ GoodS (gl i) (o, r, lt) (o, r, l, st, p, v, u) s) →
    ∃ out' mm' sent', F13_R1021 (k + 40) q now keys (I64 keys.length) (I64 j) (some (T, mm, sent)) in_ [((o, r, lt), (o, r, l, st, p, v, u))] out = some (out', some (T, mm', sent')) ∧ mm'.length = N := by
  induction q with
  | zero => intros; omega
  | succ q ih =>
    intro j mm sent out hj hq ho hN hG
    rw [F13_R1021_s]
    unfold F13_L1021
    by_cases hlt : j < keys.length
    · rw [dec_t ((i64_lt (by omega) (by omega)).2 hlt), oite_t, at_i64_lt (by omega) hlt]
      simp only [obind_s, ojoinA_eq]
      obtain ⟨i, hi, hx⟩ := hkeys keys[j] (List.getElem_mem _)
      obtain ⟨s, hs, hg⟩ := hG i hi
      rw [hx, hin i hi, oelim_s]
      obtain ⟨nt, ok, mm', e, hmm⟩ := look_any (k := k) (T := T) (ix := I64 i) (nd' := nd i) (gl' := gl i) (E.at i hi) st p v u hst now sent mm s (gt i) hs hg
      rw [e]
      simp only [obind_s]
      have hN' : mm'.length = N := by
        rcases hmm with rfl | ⟨s', rfl, _⟩
        · exact hN
        · rw [kput_len SV _ _ _ s hs]; exact hN
      have hG' : ∀ i ∈ L, ∃ s, mget KT SV (keyOf gt i) mm' = some s ∧ GoodS (gl i) (o, r, lt) (o, r, l, st, p, v, u) s := by
        rcases hmm with rfl | ⟨s', rfl, hs'⟩
        · exact hG
        · intro i' hi'
          rw [kget_put]
          by_cases he : keyOf gt i' = (I64 i, gt i)
          · have := E.inj i' i hi' hi he
            subst this
            exact ⟨s', by rw [if_pos rfl], hs'⟩
          · rw [if_neg he]; exact hG i' hi'
      unfold F13_J32685
      cases ok with
      | true =>
        rw [oite_t, ble_t (by simp; omega), oite_t]
        simp only [obind_s, i64_succ]
        exact ih (j + 1) mm' (sent + 1) _ (by omega) (by omega) (by simp; omega) hN' hG'
      | false =>
        rw [oite_f, i64_succ]
        exact ih (j + 1) mm' sent _ (by omega) (by omega) (by omega) hN' hG'
    · rw [dec_f (fun q => hlt ((i64_lt (by omega) (by omega)).1 q)), oite_f]
      exact ⟨out, mm, sent, rfl, hN⟩
theorem step_many (E : EnvT (k + 40) T o r l lt L nd gl gt) (st p v u) (hst : st ≠ 0) :
    ∃ out mm sent, F13 (k + 40) (some (T, [], 0), 1, [(o, r, l, st, p, v, u)], [(o, r, l, st, p, v, u)]) = some (out, some (T, mm, sent)) ∧ mm.length = L.length := by
  have hlen := E.len
  unfold F13
  simp only [oelim_s]
  rw [show decide ((1099511627776 : UInt64) < 1) = false from rfl, oite_f, mem_many E _ _ _ _ hst]
  simp only [obind_s]
  have e1 := new_loop E st p v u 1 0 [(o, r, l, st, p, v, u)] (k + 40) 0 (by omega) (by omega)
  rw [show Int64.ofInt ↑(L.map fun i => (I64 i, gt i, gl i, o, r, l, st, p, v, u)).length = I64 L.length from by rw [List.length_map]]
  have e1 : F13_R61 (k + 40) (k + 40) 1 [(o, r, l, st, p, v, u)] (L.map fun i => (I64 i, gt i, gl i, o, r, l, st, p, v, u)) (I64 L.length) 0 (some (T, [], 0)) [] = _ := e1
  rw [e1, F13_R253_s]
  unfold F13_L253
  rw [lt01, oite_t, at0]
  simp only [obind_s]
  rw [show F31 (k + 40) (o, r, l, st, p, v, u) = some ((o, r, lt), ()) from by unfold F31; simp only [E.lab, obind_s]]
  simp only [obind_s]
  rw [put0, F13_R253_s]
  unfold F13_L253
  rw [lt11, oite_f]
  have ek : F32 (k + 40) (some (T, L.map (fun i => (keyOf gt i, ((gl i, 1 + (nd i).2.2.2.1, false, 0, []) : St))), 0)) = some (sorted (L.map (keyOf gt)), some (T, L.map (fun i => (keyOf gt i, ((gl i, 1 + (nd i).2.2.2.1, false, 0, []) : St))), 0)) := by
    unfold F32
    simp only [obind_s]
    rw [range_keys k T 0 _ L.length _ [] (k + 40) (by simp) (by omega) (by simp; omega), List.nil_append, List.map_map]
    rfl
  rw [ek]
  simp only [obind_s]
  have hsl : (sorted (L.map (keyOf gt))).length = L.length := by unfold sorted; rw [List.length_reverse, fold_len]; simp
  have h := look_loop E st p v u hst 1 (sorted (L.map (keyOf gt))) (by omega) (fun x hx => by
    unfold sorted at hx
    rw [List.mem_reverse] at hx
    rcases fold_mem x _ _ hx with h | h
    · cases h
    · obtain ⟨i, hi, rfl⟩ := List.mem_map.1 h
      exact ⟨i, hi, rfl⟩) (L.map (fun i => (keyOf gt i, ([(o, r, l, st, p, v, u)] : List Alert)))) (fun i hi => kget_map LV (keyOf gt) (fun _ => [(o, r, l, st, p, v, u)]) i L (fun j hj h => E.inj j i hj hi h) hi)
    L.length (k + 40) 0 (L.map (fun i => (keyOf gt i, ((gl i, 1 + (nd i).2.2.2.1, false, 0, []) : St)))) 0 [] (by omega) (by omega) (by simp) (by simp) (fun i hi => ⟨_, kget_map SV (keyOf gt) (fun i => ((gl i, 1 + (nd i).2.2.2.1, false, 0, []) : St)) i L (fun j hj h => E.inj j i hj hi h) hi, _, _, .inl rfl⟩)
  exact h
end Go.Proofs.Ytcfckkmiaeegpaa
