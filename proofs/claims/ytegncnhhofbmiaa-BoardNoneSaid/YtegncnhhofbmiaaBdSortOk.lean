/- slices.SortFunc over the board's keys by List's closure: the kit's contract as a contract of the walk. -/
import Derived.Test.YtegncnhhofbmiaaSxShelf
import Derived.Test.YtegncnhhofbmiaaBdSort
import Derived.Test.YtegncnhhofbmiaaBdTy
import Derived.Test.YtegncnhhofbmiaaBdHand
open Go Go.Sx
namespace Go.Proofs.Ytegncnhhofbmiaa
open Go.Sort Go.Shelf
def encK (a : Key) : List Value := [.int .u8 (IK.toInt .u8 a.1), .string ⟨a.2.1.toArray⟩, .string ⟨a.2.2.1.toArray⟩, .int .u8 (IK.toInt .u8 a.2.2.2)]
theorem key_rep {P : PHeap} {x : Key} {f : Nat → Option Value} (h : CTs.Rep P keyE x f) :
    (∀ j, j < 4 → f j = (encK x)[j]?) ∧ x.2.1.length < 2 ^ 63 ∧ x.2.2.1.length < 2 ^ 63 := by
  obtain ⟨a, b, c, d⟩ := x
  simp only [CTs.Rep, CTs.hd, CTs.tl, CT.Rep] at h
  obtain ⟨⟨v0, h0, rfl⟩, ⟨v1, h1, rfl, l1⟩, ⟨v2, h2, rfl, l2⟩, ⟨v3, h3, rfl⟩, _⟩ := h
  refine ⟨fun j hj => ?_, l1, l2⟩
  match j, hj with
  | 0, _ => exact h0
  | 1, _ => exact h1
  | 2, _ => exact h2
  | 3, _ => exact h3
theorem rep_key {P : PHeap} {x : Key} {f : Nat → Option Value} (h : ∀ j, j < 4 → f j = (encK x)[j]?) (h1 : x.2.1.length < 2 ^ 63) (h2 : x.2.2.1.length < 2 ^ 63) : CTs.Rep P keyE x f := by
  obtain ⟨a, b, c, d⟩ := x
  simp only [CTs.Rep, CTs.hd, CTs.tl, CT.Rep]
  exact ⟨⟨_, h 0 (by omega), rfl⟩, ⟨_, h 1 (by omega), rfl, h1⟩, ⟨_, h 2 (by omega), rfl, h2⟩, ⟨_, h 3 (by omega), rfl⟩, trivial⟩
theorem keyVal_rep {P : PHeap} {H : HView} {x : Key} (h1 : x.2.1.length < 2 ^ 63) (h2 : x.2.2.1.length < 2 ^ 63) : PTy.Rep P H (.agg keyE) x (.agg (encK x).toArray) [] :=
  ⟨_, rfl, rfl, rep_key (fun j _ => by simp) h1 h2, rfl⟩
theorem grow_of {W W' : World} (h : Ext [] W W' true) : ∃ q os', W' = Sort.grow (W.drewN q) os' := by
  obtain ⟨t1, t2⟩ := h.tape rfl
  refine ⟨W'.drawn - W.drawn, W'.heap.extract W.heap.size W'.heap.size, ?_⟩
  have hh : W'.heap = W.heap ++ W'.heap.extract W.heap.size W'.heap.size := by
    apply Array.ext_getElem?
    intro i
    rw [Array.getElem?_append]
    split
    · rename_i hi; exact h.same i hi (by simp)
    · rename_i hi
      rw [Array.getElem?_extract]
      have := h.le
      split
      · rw [show W.heap.size + (i - W.heap.size) = i by omega]
      · rw [Array.getElem?_eq_none (by omega)]
  obtain ⟨hp, tp, dr, os, ou⟩ := W
  obtain ⟨hp', tp', dr', os', ou'⟩ := W'
  simp only [Sort.grow, World.drewN] at *
  have h3 := h.os
  have h4 := h.out
  simp only at h3 h4
  subst t1; subst h3; subst h4
  rw [← hh]
  congr 1
  omega
section
variable {α : Type} [Inhabited α] (enc : α → List Value) (k : Nat)
theorem sortWorld_heap (w : World) (blk off m : Nat) (dk : Array α) (os : Array Obj) : (sortWorldK enc k w blk off m dk os).heap = w.heap.modify blk (onCells (Sort.putCells id off (flatK enc k dk))) ++ os := rfl
theorem sortWorld_at {w : World} {blk : Nat} (off m : Nat) (dk : Array α) (os : Array Obj) {b : Nat} (hb : b < w.heap.size) (hne : blk ≠ b) : (sortWorldK enc k w blk off m dk os).heap[b]? = w.heap[b]? := by
  rw [sortWorld_heap, Array.getElem?_append_left (by simpa using hb), Array.getElem?_modify, if_neg hne]
end
theorem toInt_ik (x : Int64) : IK.toInt .i64 x = x.toInt := rfl
set_option maxHeartbeats 1000000 in
theorem cmp_lays (n : Nat) {P : PHeap} {W : World} {xs : List Key} {ents : List (Key × Alert)} {blk off b bb m : Nat} {bs cs : Array Value} {T0 T : Nat} {es : Array MapEntry} {clock : Nat}
    (hgl : Glob Try.prog P) (hps : ∀ b o, P b = some o → W.heap[b]? = some o) (hPb : P blk = none)
    (h1 : W.heap[b]? = some (.cells bs T0 (0, 0))) (h2 : bs[0]? = some (.pointer (some ⟨bb, 0, none⟩))) (h3 : W.heap[bb]? = some (.cells cs T (0, 0))) (h4 : cs[0]? = some (.map (some m)))
    (h5 : W.heap[m]? = some (.map es clock)) (h6 : EntsRep P (.agg keyE) (.agg alertE) ents es.toList) (h7 : BornOK es clock) (n1 : b ≠ blk) (n2 : bb ≠ blk) (n3 : m ≠ blk) (p1 : P b = none) (p2 : P bb = none) (p3 : P m = none)
    (hS : SortOK n ents xs) (hlen : ∀ a ∈ xs, a.2.1.length < 2 ^ 63 ∧ a.2.2.1.length < 2 ^ 63) (inst : Inhabited {a // a ∈ xs}) (size : Nat) :
    CmpLays Try.prog 24 #[.pointer (some ⟨b, 0, none⟩)] (fun a : {a // a ∈ xs} => encK a.1) 4 (fun a b => cfK n ents a.1 b.1) blk off size W := by
  intro mm os dk hdk x y
  obtain ⟨x, hx⟩ := x
  obtain ⟨y, hy⟩ := y
  generalize hWk : sortWorldK (fun a : {a // a ∈ xs} => encK a.1) 4 W blk off mm dk os = Wk
  have sz : ∀ {z : Nat} {o : Obj}, W.heap[z]? = some o → z < W.heap.size := fun {z o} h => by
    rcases Nat.lt_or_ge z W.heap.size with h' | h'
    · exact h'
    · rw [Array.getElem?_eq_none h'] at h; cases h
  have hat : ∀ z o, W.heap[z]? = some o → z ≠ blk → Wk.heap[z]? = some o := fun z o h hne => by
    rw [← hWk, sortWorld_at _ _ _ _ _ _ (sz h) (Ne.symm hne)]; exact h
  let P2 : PHeap := fun z => if z = b ∨ z = bb ∨ z = m then W.heap[z]? else P z
  have hle : P.le P2 := fun z o hz => by
    have : ¬ (z = b ∨ z = bb ∨ z = m) := by
      rintro (rfl | rfl | rfl)
      · rw [p1] at hz; cases hz
      · rw [p2] at hz; cases hz
      · rw [p3] at hz; cases hz
    show (if _ then _ else _) = _
    rw [if_neg this]; exact hz
  have hb2 : P2 b = some (.cells bs T0 (0, 0)) := by show (if _ then _ else _) = _; rw [if_pos (.inl rfl)]; exact h1
  have hbb2 : P2 bb = some (.cells cs T (0, 0)) := by show (if _ then _ else _) = _; rw [if_pos (.inr (.inl rfl))]; exact h3
  have hm2 : P2 m = some (.map es clock) := by show (if _ then _ else _) = _; rw [if_pos (.inr (.inr rfl))]; exact h5
  have hps2 : ∀ z o, P2 z = some o → Wk.heap[z]? = some o := fun z o hz => by
    have hz : (if z = b ∨ z = bb ∨ z = m then W.heap[z]? else P z) = some o := hz
    by_cases hc : z = b ∨ z = bb ∨ z = m
    · rw [if_pos hc] at hz
      refine hat z o hz ?_
      rcases hc with rfl | rfl | rfl <;> assumption
    · rw [if_neg hc] at hz
      exact hat z o (hps z o hz) (fun e => by rw [e, hPb] at hz; cases hz)
  have hrom : (CT.rom keyE alertE).Rep P2 ents (.map (some m)) :=
    map_sealed (P := P) (P' := P2) (H := World.view W) (fp := [m]) hle (fun z hz => by simp at hz; subst hz; rw [hm2]; exact h5.symm) ⟨m, es, clock, rfl, rfl, h5, h6, h7⟩
  have hcell : ∀ {z o : Nat} {c : Array Value} {t : Nat} {v : Value}, P2 z = some (.cells c t (0, 0)) → c[o]? = some v → P2.cell z o = some v := fun {z o c t v} h hv => by
    unfold PHeap.cell; rw [h]; exact hv
  have hrop : (CT.rop (.cons (.rop (.cons (.rom keyE alertE) .nil)) .nil)).Rep P2 (some (some ents)) (.pointer (some ⟨b, 0, none⟩)) := by
    simp only [CT.Rep, CTs.Rep, CTs.hd]
    refine .inr ⟨some ents, _, rfl, rfl, rfl, ⟨_, hcell hb2 h2, ?_⟩, trivial⟩
    refine .inr ⟨ents, _, rfl, rfl, rfl, ⟨_, hcell hbb2 h4, ?_⟩, trivial⟩
    have := hrom
    simp only [CT.Rep] at this
    exact this
  have htot := hS.tot x hx y hy
  cases hF : F24 n (x, y, some (some ents)) with
  | none => rw [hF] at htot; cases htot
  | some r =>
  have hc := (ok24 n).con rfl P2 Wk [.agg (encK x).toArray, .agg (encK y).toArray, .pointer (some ⟨b, 0, none⟩)] (x, y, some (some ents)) [] (hgl.mono hle) hps2
    ⟨_, _, [], [], rfl, rfl, keyVal_rep (hlen x hx).1 (hlen x hx).2, _, _, [], [], rfl, rfl, keyVal_rep (hlen y hy).1 (hlen y hy).2, _, _, [], [], rfl, rfl, one_rep.2 ⟨hrop, rfl⟩, rfl, rfl⟩
    List.nodup_nil (fun z hz => by cases hz) r hF
  refine hc.mono fun e w' ⟨v, P', vs, fr, fo, he, D⟩ => ?_
  refine ⟨?_, grow_of D.ext⟩
  subst he
  obtain ⟨v1, vs1, f1, f2, rfl, _, q1, rfl, _⟩ := D.res
  obtain ⟨q1, _⟩ := one_rep.1 q1
  simp only [CT.Rep] at q1
  subst q1
  rw [D.val]
  show Ending.returned (.int .i64 (IK.toInt .i64 r.1)) = Ending.returned (.int .i64 (cfK n ents x y))
  unfold cfK
  rw [hF]
  rfl
theorem eg24 : ∀ args w, (callFunc 24 args).run Try.prog w = .ok (.enter 24 args) w := enters_of Try.func24 (by kernel_rfl) (c := Try.f24.body.getD .skip) (by kernel_rfl)
theorem putCells_at {off : Nat} {F cs : Array Value} {i : Nat} (h1 : off ≤ i) (h2 : i < off + F.size) (h3 : i < cs.size) : (Sort.putCells id off F cs)[i]? = some F[i - off]! := by
  unfold Sort.putCells
  rw [Array.getElem?_mapIdx, Array.getElem?_eq_getElem h3, Option.map_some, if_pos ⟨h1, h2⟩]
  rfl
set_option maxHeartbeats 1000000 in
theorem ok23 (n : Nat) : FunOK Try.prog ⟨23, sig23, F23 n⟩ := by
  refine ⟨?_, Try.f23, Try.func23, by kernel_rfl, by kernel_rfl⟩
  show SrtOK Try.prog 23 ⟨24, keyE, .agg keyE, .agg alertE, fun xs m => obind (F23 n ([], (), xs, m)) fun y => some y.2⟩ false
  intro P W xs ys ents v0 fp b bb m bs cs T0 T es clock hgl hps hrow hnd hfp h1 h2 h3 h4 h5 h6 h7 n1 n2 n3 p1 p2 p3 _ _ _ hF
  have hrow : RowRep P (World.view W) keyE (xs : List Key) v0 fp := hrow
  revert xs ys ents
  intro xs ys ents hrow h6 hF hrow
  have hF : (obind (F23 n ([], (), (xs : List Key), (ents : List (Key × Alert)))) fun y => some y.2) = some ys := hF
  change List Key at xs ys
  change List (Key × Alert) at ents
  by_cases hS : SortOK n ents xs
  case neg =>
    rw [show F23 n ([], (), xs, ents) = none from if_neg hS] at hF
    cases hF
  rw [show F23 n ([], (), xs, ents) = some ((), sortK n ents xs) from if_pos hS] at hF
  have hF : sortK n ents xs = ys := Option.some.inj hF
  subst hF
  have hnone : ∀ (a : Option Addr) (cap : Nat), v0 = .slice a 0 cap → xs = [] → Calls Try.prog 23 #[v0, .func (.func 24) #[] #[.pointer (some ⟨b, 0, none⟩)]] W fun e W' => e = .returned (.tuple #[]) ∧ RowRep P (World.view W') keyE (sortK n ents xs) v0 fp ∧ Ext fp W W' false := fun a cap hv hx => by
    have h := AnyF.slices_SortFunc_none Try.laysS a cap (.func (.func 24) #[] #[.pointer (some ⟨b, 0, none⟩)]) W
    rw [hv]
    refine Calls.mono (show Calls Try.prog 23 _ W _ from h) fun e W' ⟨he, hw⟩ => ?_
    subst hw
    refine ⟨he, ?_, Ext.refl _ _⟩
    rw [← hv]
    have : sortK n ents xs = xs := by rw [hx]; unfold sortK; rw [List.mergeSort_nil]
    rw [this]; exact hrow
  rcases hrow with ⟨hx, ⟨a, rfl, hbare⟩, rfl⟩ | ⟨blk, off, cap, cc, TT, fz, rfl, rfl, hb1, hth, hc1, hc2, hc3, hcells⟩
  · exact hnone a 0 rfl hx
  by_cases hx : xs = []
  · exact hnone _ cap (by rw [hx]; rfl) hx
  have hbl : W.heap[blk]? = some (.cells cc TT fz) := hb1
  have hbs : blk < W.heap.size := (hfp blk (by simp)).2
  have hsz : keyE.size = 4 := rfl
  rw [hsz] at hc3
  have hkey : ∀ i (h : i < xs.length), (∀ j, j < 4 → cc[off + i * 4 + j]? = (encK xs[i])[j]?) ∧ xs[i].2.1.length < 2 ^ 63 ∧ xs[i].2.2.1.length < 2 ^ 63 := fun i h => by
    have := key_rep (hcells i h)
    rw [hsz] at this
    exact this
  have hlen : ∀ a ∈ xs, a.2.1.length < 2 ^ 63 ∧ a.2.2.1.length < 2 ^ 63 := fun a ha => by
    obtain ⟨i, hi, rfl⟩ := List.getElem_of_mem ha
    exact (hkey i hi).2
  obtain ⟨x0, hx0⟩ := List.exists_mem_of_ne_nil xs hx
  let inst : Inhabited {a // a ∈ xs} := ⟨⟨x0, hx0⟩⟩
  have hd : xs.attach.toArray.size = xs.length := by simp
  have hflat : ∀ (dk : Array {a // a ∈ xs}) t (ht : t < dk.size * 4), (flatK (fun a : {a // a ∈ xs} => encK a.1) 4 dk)[t]! = (encK (dk[t / 4]'(by omega)).1)[t % 4]! := fun dk t ht => by
    rw [get_flatK _ _ _ _ ht, getElem!_pos dk (t / 4) (by omega)]
  have hH : HoldsK (fun a : {a // a ∈ xs} => encK a.1) 4 W blk off xs.attach.toArray := by
    intro t ht
    have ht : t < xs.attach.toArray.size * 4 := by simpa using ht
    rw [hflat _ _ ht]
    have ht' : t < xs.length * 4 := by rw [hd] at ht; exact ht
    have hi : t / 4 < xs.length := by omega
    have hj : t % 4 < 4 := Nat.mod_lt _ (by omega)
    have hoff : off + t < cc.size := by omega
    constructor
    · unfold World.cell?
      simp only [hbl]
      have := (hkey (t / 4) hi).1 (t % 4) hj
      rw [show off + t / 4 * 4 + t % 4 = off + t by omega] at this
      show cc[off + t]? = _
      rw [this]
      have hl4 : (encK xs[t / 4]).length = 4 := rfl
      rw [List.getElem?_eq_getElem (by omega)]
      simp only [List.getElem_toArray, List.getElem_attach]
      rw [getElem!_pos _ _ (by rw [hl4]; exact hj)]
      rfl
    · unfold World.frozen?
      simp only [hbl]
      rcases hth with h | h
      · rw [h]; simp only [Bool.and_eq_false_iff, decide_eq_false_iff_not]; omega
      · simp only [Bool.and_eq_false_iff, decide_eq_false_iff_not]; left; omega
  have hcmp := cmp_lays n (T0 := T0) (T := T) (off := off) hgl hps (hfp blk (by simp)).1 h1 h2 h3 h4 h5 h6 h7 (fun e => n1 (by simp [e])) (fun e => n2 (by simp [e])) (fun e => n3 (by simp [e])) p1 p2 p3 hS hlen inst xs.attach.toArray.size
  have hcall := AnyQ.slices_SortFunc_total Try.laysS 4 Try.isAgg72 Try.sizeOf72 (fun a : {a // a ∈ xs} => encK a.1) (fun _ => rfl)
    (fun x v hv => by
      simp only [encK, List.mem_cons, List.not_mem_nil, or_false] at hv
      rcases hv with rfl | rfl | rfl | rfl <;> rfl)
    (fun a b => cfK n ents a.1 b.1) hS.swo 24 #[.pointer (some ⟨b, 0, none⟩)] blk off cap xs.attach.toArray W eg24 hcmp hH hbs (by rw [hd]; exact hS.len)
    (fun x y e1 e2 => Subtype.ext (hS.anti x.1 x.2 y.1 y.2 e1 e2))
  rw [hd] at hcall
  refine Calls.mono (show Calls Try.prog 23 _ W _ from hcall) fun e W' ⟨he, nn, os, hw⟩ => ?_
  have hmap : (xs.attach.mergeSort fun x y => !ltOf (fun a b : {a // a ∈ xs} => cfK n ents a.1 b.1) y x).map Subtype.val = sortK n ents xs := by
    have := List.map_mergeSort (r := fun x y : {a // a ∈ xs} => !ltOf (fun a b : {a // a ∈ xs} => cfK n ents a.1 b.1) y x) (s := fun a b => !ltC (cfK n ents) b a) (f := Subtype.val) (l := xs.attach) (fun _ _ _ _ => rfl)
    rw [this, List.attach_map_subtype_val]
    rfl
  have hl : (sortK n ents xs).length = xs.length := List.length_mergeSort xs
  simp only at hw
  generalize hL : (xs.attach.mergeSort fun x y => !ltOf (fun a b : {a // a ∈ xs} => cfK n ents a.1 b.1) y x) = L at hw hmap
  have hLl : L.length = xs.length := by rw [← hl, ← hmap, List.length_map]
  subst hw
  have hheap : ∀ k, k < W.heap.size → (sortWorldK (fun a : {a // a ∈ xs} => encK a.1) 4 W blk off nn L.toArray os).heap[k]? = if blk = k then some (.cells (Sort.putCells id off (flatK (fun a : {a // a ∈ xs} => encK a.1) 4 L.toArray) cc) TT fz) else W.heap[k]? := fun k hk => by
    rw [sortWorld_heap, Array.getElem?_append_left (by simpa using hk), Array.getElem?_modify]
    by_cases h : blk = k
    · subst h; rw [if_pos rfl, if_pos rfl, hbl]; rfl
    · rw [if_neg h, if_neg h]
  refine ⟨he, .inr ⟨blk, off, cap, Sort.putCells id off (flatK (fun a : {a // a ∈ xs} => encK a.1) 4 L.toArray) cc, TT, fz, ?_, rfl, ?_, ?_, ?_, hc2, ?_, fun i hi => ?_⟩, ⟨?_, ?_, rfl, rfl, fun h => by cases h⟩⟩
  · rw [hl]
  · show (sortWorldK _ _ _ _ _ _ _ _).heap[blk]? = _
    rw [hheap blk hbs, if_pos rfl]
  · unfold Sort.putCells; rw [Array.size_mapIdx]; exact hth
  · rw [hl]; exact hc1
  · unfold Sort.putCells; rw [Array.size_mapIdx, hsz]; exact hc3
  · have hi' : i < xs.length := by rw [← hl]; exact hi
    have hiL : i < L.length := by omega
    have hval : (sortK n ents xs)[i] = (L[i]).1 := by
      have : (sortK n ents xs)[i]? = some (L[i]).1 := by rw [← hmap, List.getElem?_map, List.getElem?_eq_getElem hiL]; rfl
      rw [List.getElem?_eq_getElem hi] at this
      exact Option.some.inj this
    have hm := hlen _ (L[i]).2
    refine rep_key (fun j hj => ?_) (by rw [hval]; exact hm.1) (by rw [hval]; exact hm.2)
    rw [hsz, hval]
    have hb : i * 4 + j < L.length * 4 := by omega
    rw [putCells_at (by omega) (by rw [size_flatK]; simp; omega) (by omega)]
    rw [show off + i * 4 + j - off = i * 4 + j by omega, hflat _ _ (by simpa using hb)]
    have e1 : (i * 4 + j) / 4 = i := by omega
    have e2 : (i * 4 + j) % 4 = j := by omega
    simp only [e1, e2, List.getElem_toArray]
    have hl4 : (encK (L[i]).1).length = 4 := rfl
    rw [List.getElem?_eq_getElem (by omega), getElem!_pos _ _ (by omega)]
  · rw [sortWorld_heap]; simp
  · intro k hk hkb
    rw [hheap k hk, if_neg (fun e => hkb (by simp [e]))]
end Go.Proofs.Ytegncnhhofbmiaa
