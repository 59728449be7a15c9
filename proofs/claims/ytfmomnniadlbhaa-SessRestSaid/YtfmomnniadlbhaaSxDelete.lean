/- slices.Delete at a row whose elements may have many cells: its contract, out of what a walk of its code shows. -/
import Derived.Test.YtfmomnniadlbhaaSxClone
import Derived.Laws.IdiomCopy
import Derived.Sort.Grow
namespace Go.Sx
variable {Pg : Program}
abbrev delSig (e : CTs) : Sig := ⟨.cons (.mvr e) (.cons (.one (.c (.int .i64))) (.cons (.one (.c (.int .i64))) .nil)), .cons (.one (.row e)) .nil⟩
def delF (e : CTs) (x : List e.T × Int64 × Int64) : Option (List e.T × Unit) :=
 oite (decide (0 ≤ x.2.1.toInt) && (decide (x.2.1.toInt ≤ x.2.2.toInt) && Nat.ble x.2.2.toInt.toNat x.1.length)) (some (x.1.take x.2.1.toInt.toNat ++ x.1.drop x.2.2.toInt.toNat, ())) none
theorem setCells_heap (b : Nat) : ∀ (vs : List Value) (o : Nat) (w : World) (cs : Array Value) (T : TypeId) (fz : Nat × Nat), w.heap[b]? = some (.cells cs T fz) → o + vs.length ≤ cs.size →
  ∃ cs', (w.setCells b o vs).heap[b]? = some (.cells cs' T fz) ∧ cs'.size = cs.size ∧ (∀ j, j < vs.length → cs'[o + j]? = vs[j]?) ∧ (∀ j, j < o ∨ o + vs.length ≤ j → cs'[j]? = cs[j]?) ∧
   (w.setCells b o vs).heap.size = w.heap.size ∧ (∀ k, k ≠ b → (w.setCells b o vs).heap[k]? = w.heap[k]?) ∧ (w.setCells b o vs).os = w.os ∧ (w.setCells b o vs).output = w.output
 | [], o, w, cs, T, fz, h, _ => ⟨cs, h, rfl, by simp, fun _ _ => rfl, rfl, fun _ _ => rfl, rfl, rfl⟩
 | v :: r, o, w, cs, T, fz, h, hl => by
  simp only [List.length_cons] at hl
  have hb : (w.setCell ⟨b, o, none⟩ v).heap[b]? = some (.cells (cs.setIfInBounds o v) T fz) := by
   unfold World.setCell
   simp only [Array.getElem?_modify, if_true, h]
   rfl
  obtain ⟨cs', h1, h2, h3, h4, h5, h6, h7, h8⟩ := setCells_heap b r (o + 1) (w.setCell ⟨b, o, none⟩ v) (cs.setIfInBounds o v) T fz hb (by simp; omega)
  refine ⟨cs', h1, by simpa using h2, ?_, ?_, ?_, ?_, h7, h8⟩
  ·intro j hj
   cases j with
   | zero =>
    rw [Nat.add_zero, h4 o (by omega)]
    simp only [Array.getElem?_setIfInBounds, if_true, List.getElem?_cons_zero]
    rw [if_pos (by omega)]
   | succ j =>
    have := h3 j (by simp at hj; omega)
    rw [show o + (j + 1) = o + 1 + j from by omega, this, List.getElem?_cons_succ]
  ·intro j hj
   simp only [List.length_cons] at hj
   rw [h4 j (by omega), Array.getElem?_setIfInBounds, if_neg (by omega)]
  ·show ((w.setCell ⟨b, o, none⟩ v).setCells b (o + 1) r).heap.size = _
   rw [h5]; unfold World.setCell; simp
  ·intro k hk
   show ((w.setCell ⟨b, o, none⟩ v).setCells b (o + 1) r).heap[k]? = _
   rw [h6 k hk]
   unfold World.setCell
   simp only [Array.getElem?_modify]
   rw [if_neg (fun e => hk e.symm)]
theorem oneCell_of {P : PHeap} {t : CT} {x : t.T} {v : Value} (h : CT.Rep P t x v) : v.oneCell' = true := by
 cases t with
 | int k => simp only [CT.Rep] at h; subst h; rfl
 | bool => simp only [CT.Rep] at h; subst h; rfl
 | str => simp only [CT.Rep] at h; obtain ⟨rfl, _⟩ := h; rfl
 | ro e => simp only [CT.Rep] at h; obtain ⟨a, cap, rfl, _⟩ := h; rfl
 | rop e => simp only [CT.Rep] at h; rcases h with ⟨_, rfl⟩ | ⟨_, _, _, rfl, _⟩ <;> rfl
 | rom a b => simp only [CT.Rep] at h; rcases h with ⟨_, rfl⟩ | ⟨_, _, _, rfl, _⟩ <;> rfl
 | fn f => simp only [CT.Rep] at h; subst h; rfl
theorem cells_of {P : PHeap} : ∀ (e : CTs) (x : e.T) (f : Nat → Option Value), e.Rep P x f → ∀ t, t < e.size → ∃ v, f t = some v ∧ v.oneCell' = true
 | .nil, _, _, _, t, ht => by simp [CTs.size] at ht
 | .cons c ts, x, f, h, t, ht => by
  simp only [CTs.Rep] at h
  obtain ⟨⟨v, h1, h2⟩, h3⟩ := h
  cases t with
  | zero => exact ⟨v, h1, oneCell_of h2⟩
  | succ t => exact cells_of ts _ _ h3 t (by simp only [CTs.size] at ht; omega)
theorem oite_inv {α : Type} {b : Bool} {y : Option α} {r : α} (h : oite b y none = some r) : b = true ∧ y = some r := by
 cases b with
 | true => exact ⟨rfl, h⟩
 | false => cases h
theorem del_ok {f : Nat} {fn : Func} {e : CTs} (hf : Pg.funcs[f]? = some fn) (hname : (fn.name == "runtime.NumGoroutine") = false) (hb : fn.body.isNone = false) (hsz : 1 ≤ e.size)
  (h0 : ∀ (p : Option Addr) (n cap i : Nat) (w : World), i ≤ n → n ≤ cap → cap < 2 ^ 63 → Calls Pg f #[.slice p n cap, .int .i64 i, .int .i64 i] w fun e w' => e = .returned (.slice p n cap) ∧ w' = w)
  (h1 : ∀ (blk off n cap i j : Nat) (w : World) (news : List Value), i < j → j ≤ n → n ≤ cap → cap < 2 ^ 63 → news.length = (n - j) * e.size →
   (∀ t u, news[t]? = some u → w.cell? ⟨blk, off + j * e.size + t, none⟩ = some u) → (∀ u ∈ news, u.oneCell' = true) →
   (∀ t, t < n * e.size → (w.cell? ⟨blk, off + t, none⟩).isSome = true ∧ w.frozen? ⟨blk, off + t, none⟩ = false) →
   Calls Pg f #[.slice (some ⟨blk, off, none⟩) n cap, .int .i64 i, .int .i64 j] w fun x w' => x = .returned (.slice (some ⟨blk, off, none⟩) (n - (j - i)) cap) ∧
    ∃ q zs, List.length (α := Value) zs = (j - i) * e.size ∧ w' = ((Sort.ahead w q).setCells blk (off + i * e.size) news).setCells blk (off + (n - (j - i)) * e.size) zs) :
  FunOK Pg ⟨f, delSig e, delF e⟩ := by
 refine ⟨CallOK.of (fun P W args x fp hgl hps hrep hnd hfp r hr => ?_) rfl, fn, hf, hname, hb⟩
 obtain ⟨(xs : List e.T), (a : Int64), (b : Int64)⟩ := x
 obtain ⟨v, vs, f1, f2, rfl, rfl, hv, v2, vs2, g1, g2, rfl, rfl, hv2, v3, vs3, k1, k2, rfl, rfl, hv3, rfl, rfl⟩ := hrep
 have hv : RowRep P (World.view W) e xs v f1 := by have : OT.Rep P (World.view W) (.row e) xs v f1 := hv; rwa [OT.Rep] at this
 have hv2 : OT.Rep P (World.view W) (.c (.int .i64)) a v2 g1 := hv2
 have hv3 : OT.Rep P (World.view W) (.c (.int .i64)) b v3 k1 := hv3
 simp only [OT.Rep, CT.Rep] at hv2 hv3
 obtain ⟨rfl, rfl⟩ := hv2
 obtain ⟨rfl, rfl⟩ := hv3
 obtain ⟨hc, hr⟩ := oite_inv (show oite (decide (0 ≤ Int64.toInt a) && (decide (Int64.toInt a ≤ Int64.toInt b) && Nat.ble (Int64.toInt b).toNat xs.length)) (some (xs.take (Int64.toInt a).toNat ++ xs.drop (Int64.toInt b).toNat, ())) none = some r from hr)
 simp only [Bool.and_eq_true, decide_eq_true_eq] at hc
 obtain ⟨c1, c2, c3⟩ := hc
 have c3 := Nat.le_of_ble_eq_true c3
 cases hr
 obtain ⟨i, hi⟩ : ∃ i : Nat, Int64.toInt a = i := ⟨(Int64.toInt a).toNat, by omega⟩
 obtain ⟨j, hj⟩ : ∃ j : Nat, Int64.toInt b = j := ⟨(Int64.toInt b).toNat, by omega⟩
 rw [hi, hj] at c2
 rw [hj] at c3
 simp only [Int.toNat_natCast] at c3
 have hij : i ≤ j := by omega
 have ea : IK.toInt .i64 a = (i : Int) := hi
 have eb : IK.toInt .i64 b = (j : Int) := hj
 have hres : (xs.take (Int64.toInt a).toNat ++ xs.drop (Int64.toInt b).toNat) = xs.take i ++ xs.drop j := by rw [hi, hj]; rfl
 have hnd : f1.Nodup := by simpa using hnd
 have hfp : ∀ k ∈ f1, P k = none ∧ k < W.heap.size := fun k hk => hfp k (by simpa using hk)
 rw [hres]
 show Calls Pg f #[v, Value.int .i64 (IK.toInt .i64 a), Value.int .i64 (IK.toInt .i64 b)] W _
 rw [ea, eb]
 have hlen : (xs.take i ++ xs.drop j).length = xs.length - (j - i) := by simp; omega
 have fin : ∀ (args : List Value) (v' : Value) (W' : World) (fr : List Nat), args.length = 3 → (∀ b' o, P b' = some o → W'.heap[b']? = some o) → RowRep P (World.view W') e (xs.take i ++ xs.drop j) v' fr → fr.Nodup → (∀ b' ∈ fr, P b' = none ∧ b' < W'.heap.size ∧ b' ∈ f1) → Ext f1 W W' →
   ∃ v P' vs fr fo, Ending.returned v' = .returned v ∧ Done W P f1 ⟨f, delSig e, delF e⟩ args (xs.take i ++ xs.drop j, ()) v W' P' vs fr fo := by
  intro args v' W' fr hargs hps' hrow hfr hfr2 hext
  obtain ⟨p, q, r, rfl⟩ : ∃ p q r, args = [p, q, r] := by
   match args, hargs with
   | [p, q, r], _ => exact ⟨p, q, r, rfl⟩
  refine ⟨v', P, [v'], fr, [], rfl, rfl, PHeap.le_refl P, hps', ⟨v', [], fr, [], rfl, by simp, ?_, rfl, rfl⟩, rfl, by simpa using hfr, fun b' hb' => ?_, hext, fun b' hb' => .inl hb'⟩
  ·show OT.Rep P (World.view W') (.row e) (xs.take i ++ xs.drop j) v' fr
   rw [OT.Rep]; exact hrow
  ·obtain ⟨q1, q2, q3⟩ := hfr2 b' (by simpa using hb')
   exact ⟨q1, q2, .inl q3⟩
 have fe : (f1 ++ ([] ++ ([] ++ []))) = f1 := by simp
 rw [fe]
 rcases hv with ⟨hx, ⟨p, rfl, hp⟩, rfl⟩ | ⟨blk, off, cap, cs, T, fz, rfl, rfl, hb1, hth, hc1, hc2, hc3, hcells⟩
 ·have hl0 : xs.length = 0 := by rw [hx]; rfl
  have hi0 : i = 0 := by omega
  have hj0 : j = 0 := by omega
  subst hi0; subst hj0
  refine (h0 p 0 0 0 W (by omega) (by omega) (by omega)).mono fun x W' ⟨hx', hw⟩ => ?_
  subst hw; subst hx'
  refine fin _ _ _ [] rfl hps (.inl ⟨by simp [hx], ⟨p, rfl, hp⟩, rfl⟩) (by simp) (by simp) (Ext.refl _ _)
 ·have hbl : W.heap[blk]? = some (.cells cs T fz) := hb1
  have hbs : blk < W.heap.size := by
   rcases Nat.lt_or_ge blk W.heap.size with h | h
   ·exact h
   ·rw [Array.getElem?_eq_none h] at hbl; cases hbl
  have hbP : P blk = none := (hfp blk (by simp)).1
  by_cases hij' : i = j
  ·subst hij'
   refine (h0 (some ⟨blk, off, none⟩) xs.length cap i W c3 hc1 hc2).mono fun x W' ⟨hx', hw⟩ => ?_
   subst hw; subst hx'
   refine fin _ _ _ [blk] rfl hps ?_ (by simp) (by simp [hbP, hbs]) (Ext.refl _ _)
   rw [List.take_append_drop]
   exact .inr ⟨blk, off, cap, cs, T, fz, rfl, rfl, hb1, hth, hc1, hc2, hc3, hcells⟩
  ·have hlt : i < j := by omega
   have hmul : xs.length * e.size ≤ cap * e.size := Nat.mul_le_mul_right _ hc1
   have hcell : ∀ t, off + t < cs.size → W.cell? ⟨blk, off + t, none⟩ = cs[off + t]? := fun t ht => by
    unfold World.cell?
    simp only [hbl]
    simp
   have hone : ∀ t, t < xs.length * e.size → ∃ u, cs[off + t]? = some u ∧ u.oneCell' = true := fun t ht => by
    have hq : t / e.size < xs.length := Nat.div_lt_of_lt_mul (by rw [Nat.mul_comm]; exact ht)
    obtain ⟨u, h1, h2⟩ := cells_of e _ _ (hcells (t / e.size) hq) (t % e.size) (Nat.mod_lt _ (by omega))
    refine ⟨u, ?_, h2⟩
    rw [← h1]
    have := Nat.div_add_mod t e.size
    rw [Nat.mul_comm] at this
    rw [show off + t / e.size * e.size + t % e.size = off + t from by omega]
   let news := ((cs.toList.drop (off + j * e.size)).take ((xs.length - j) * e.size))
   have hj2 : j * e.size + (xs.length - j) * e.size = xs.length * e.size := by rw [← Nat.add_mul, show j + (xs.length - j) = xs.length from by omega]
   have hnl : news.length = (xs.length - j) * e.size := by
    simp only [news, List.length_take, List.length_drop, Array.length_toList]; omega
   have hng : ∀ t, t < news.length → news[t]? = cs[off + j * e.size + t]? := fun t ht => by
    simp only [news]
    rw [List.getElem?_take_of_lt (by omega), List.getElem?_drop, Array.getElem?_toList]
   have hj3 : j * e.size ≤ xs.length * e.size := Nat.mul_le_mul_right _ c3
   have hi3 : i * e.size + (j - i) * e.size = j * e.size := by rw [← Nat.add_mul, show i + (j - i) = j from by omega]
   have hi4 : (xs.length - (j - i)) * e.size = i * e.size + (xs.length - j) * e.size := by rw [← Nat.add_mul]; congr 1; omega
   refine (h1 blk off xs.length cap i j W news hlt c3 hc1 hc2 hnl (fun t u ht => ?_) (fun u hu => ?_) (fun t ht => ⟨?_, ?_⟩)).mono fun x W' ⟨hx', q, zs, hzs, hw⟩ => ?_
   ·have htl : t < news.length := (List.getElem?_eq_some_iff.1 ht).1
    rw [show off + j * e.size + t = off + (j * e.size + t) from by omega, hcell _ (by omega), ← ht, hng t htl, Nat.add_assoc]
   ·obtain ⟨t, ht, rfl⟩ := List.getElem_of_mem hu
    obtain ⟨u, h1, h2⟩ := hone (j * e.size + t) (by omega)
    have h3 := hng t ht
    rw [List.getElem?_eq_getElem ht, show off + j * e.size + t = off + (j * e.size + t) from by omega, h1] at h3
    rw [Option.some.inj h3]; exact h2
   ·obtain ⟨u, h1, _⟩ := hone t ht
    rw [hcell t (by omega), h1]; rfl
   ·unfold World.frozen?
    simp only [hbl]
    rcases hth with h | h
    ·obtain ⟨lo, hi⟩ := fz
     simp only at h
     subst h
     simp only [Bool.and_eq_false_iff, decide_eq_false_iff_not]; omega
    ·obtain ⟨lo, hi⟩ := fz
     simp only at h
     simp only [Bool.and_eq_false_iff, decide_eq_false_iff_not]; left; omega
   ·subst hx'
    have hbl0 : (Sort.ahead W q).heap[blk]? = some (.cells cs T fz) := hbl
    obtain ⟨cs1, a1, a2, a3, a4, a5, a6, a7, a8⟩ := setCells_heap blk news (off + i * e.size) (Sort.ahead W q) cs T fz hbl0 (by omega)
    obtain ⟨cs2, b1, b2, b3, b4, b5, b6, b7, b8⟩ := setCells_heap blk zs (off + (xs.length - (j - i)) * e.size) _ cs1 T fz a1 (by rw [hzs, a2]; omega)
    rw [← hw] at b1 b5 b6 b7 b8
    have hcs2 : ∀ k, k < (xs.length - (j - i)) * e.size → cs2[off + k]? = if k < i * e.size then cs[off + k]? else cs[off + (k + (j - i) * e.size)]? := fun k hk => by
     rw [b4 (off + k) (by omega)]
     by_cases hki : k < i * e.size
     ·rw [if_pos hki, a4 (off + k) (by omega)]
     ·rw [if_neg hki]
      have := a3 (k - i * e.size) (by omega)
      rw [show off + i * e.size + (k - i * e.size) = off + k from by omega] at this
      rw [this, hng _ (by omega)]
      congr 1; omega
    have hsz' : W'.heap.size = W.heap.size := by rw [b5, a5]; rfl
    have hoth : ∀ k, k ≠ blk → W'.heap[k]? = W.heap[k]? := fun k hk => by rw [b6 k hk, a6 k hk]; rfl
    refine fin _ _ W' [blk] rfl (fun k o hk => ?_) (.inr ⟨blk, off, cap, cs2, T, fz, by rw [hlen], rfl, b1, by rw [b2, a2]; exact hth, by rw [hlen]; omega, hc2, by rw [b2, a2]; exact hc3, fun k hk => ?_⟩) (by simp) (by simp [hbP, hsz', hbs])
     ⟨by omega, fun k _ hk => hoth k (by simpa using hk), by rw [b7, a7]; rfl, by rw [b8, a8]; rfl⟩
    ·rw [hoth k (fun e => by rw [e, hbP] at hk; cases hk)]
     exact hps k o hk
    ·rw [hlen] at hk
     have hkm : (k + 1) * e.size ≤ (xs.length - (j - i)) * e.size := Nat.mul_le_mul_right _ (by omega)
     rw [Nat.succ_mul] at hkm
     by_cases hki : k < i
     ·have hkm2 : (k + 1) * e.size ≤ i * e.size := Nat.mul_le_mul_right _ (by omega)
      rw [Nat.succ_mul] at hkm2
      have e1 : (xs.take i ++ xs.drop j)[k]'(by rw [hlen]; exact hk) = xs[k]'(by omega) := by
       rw [List.getElem_append_left (by simp; omega), List.getElem_take]
      rw [e1]
      refine CTs.Rep.mono' e _ _ _ (fun t u ht hu => ?_) (hcells k (by omega))
      show cs2[off + k * e.size + t]? = some u
      rw [Nat.add_assoc, hcs2 _ (by omega), if_pos (by omega), ← hu, Nat.add_assoc]
     ·have e1 : (xs.take i ++ xs.drop j)[k]'(by rw [hlen]; exact hk) = xs[k + (j - i)]'(by omega) := by
       rw [List.getElem_append_right (by simp; omega), List.getElem_drop]
       congr 1; simp; omega
      have hkm2 : i * e.size ≤ k * e.size := Nat.mul_le_mul_right _ (by omega)
      rw [e1]
      refine CTs.Rep.mono' e _ _ _ (fun t u ht hu => ?_) (hcells (k + (j - i)) (by omega))
      show cs2[off + k * e.size + t]? = some u
      rw [Nat.add_assoc, hcs2 _ (by omega), if_neg (by omega), ← hu]
      congr 1
      rw [Nat.add_mul]; omega
end Go.Sx
