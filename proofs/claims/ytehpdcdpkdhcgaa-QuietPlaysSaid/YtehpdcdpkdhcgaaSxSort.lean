/- slices.Sort over a row of ints: the kit's contract as a contract of the walk (the row is the callee's own and comes back sorted). -/
import Derived.Test.YtehpdcdpkdhcgaaSxShelf
import Derived.Sort.Grow
namespace Go.Sx
open Go.Sort
variable {Pg : Program}
abbrev intE : CTs := .cons (.int .i64) .nil
abbrev sortSig : Sig := ⟨.cons (.one (.row intE)) .nil, .nil⟩
def sortI (xs : List Int64) : List Int64 := xs.mergeSort fun a b => decide (a.toInt ≤ b.toInt)
def sortF (xs : List Int64) : Option (Unit × List Int64) := oite (Nat.ble xs.length 4294967296) (some ((), sortI xs)) none
theorem sortI_len (xs : List Int64) : (sortI xs).length = xs.length := List.length_mergeSort xs
theorem sortI_ints (xs : List Int64) : (xs.map Int64.toInt).mergeSort (fun x y => decide (x ≤ y)) = (sortI xs).map Int64.toInt :=
  (List.map_mergeSort (r := fun a b : Int64 => decide (a.toInt ≤ b.toInt)) (s := fun x y : Int => decide (x ≤ y)) (f := Int64.toInt) (l := xs) (fun _ _ _ _ => rfl)).symm
theorem int_cells {P : PHeap} {x : Int64} {f : Nat → Option Value} : CTs.Rep P intE x f ↔ f 0 = some (.int .i64 x.toInt) := by
  simp only [CTs.Rep, CTs.hd, CT.Rep]
  constructor
  · rintro ⟨⟨v, h1, rfl⟩, _⟩; exact h1
  · intro h; exact ⟨⟨_, h, rfl⟩, trivial⟩
theorem sort_ok {f : Nat} {fn : Func} (hf : Pg.funcs[f]? = some fn) (hname : (fn.name == "runtime.NumGoroutine") = false) (hb : fn.body.isNone = false)
    (h0 : ∀ (p : Option Addr) (cap : Nat) (w : World), Calls Pg f #[.slice p 0 cap] w fun e w' => e = .returned (.tuple #[]) ∧ w' = w)
    (h1 : ∀ (blk off cap : Nat) (zs : List Int) (w : World), Holds (Value.int .i64) w blk off zs.toArray → blk < w.heap.size → zs.length < 4611686018427387904 →
      Calls Pg f #[.slice (some ⟨blk, off, none⟩) zs.length cap] w fun e w' => e = .returned (.tuple #[]) ∧ ∃ n os, w' = Sort.grow (Sort.putRow (Value.int .i64) (Sort.ahead w n) blk off (zs.mergeSort fun x y => decide (x ≤ y)).toArray) os) :
    FunOK Pg ⟨f, sortSig, sortF⟩ := by
  refine ⟨CallOK.of (fun P W args x fp hgl hps hrep hnd hfp r hr => ?_) rfl, fn, hf, hname, hb⟩
  obtain ⟨v, vs, f1, f2, rfl, rfl, hv, rfl, rfl⟩ := hrep
  have hv : OT.Rep P (World.view W) (.row intE) x v f1 := hv
  rw [OT.Rep] at hv
  have hr : oite (Nat.ble (List.length (α := Int64) x) 4294967296) (some ((), sortI x)) none = some r := hr
  cases hlt : Nat.ble (List.length (α := Int64) x) 4294967296 with
  | false => rw [hlt] at hr; cases hr
  | true =>
  rw [hlt] at hr
  simp only [oite, Option.some.injEq] at hr
  subst hr
  have hlen : List.length (α := Int64) x ≤ 4294967296 := Nat.le_of_ble_eq_true hlt
  have hsl := sortI_len x
  rcases hv with ⟨hx, ⟨a, rfl, _⟩, rfl⟩ | ⟨b, off, cap, cs, T, fz, rfl, rfl, hb1, hth, hc1, hc2, hc3, hcells⟩
  · refine (h0 a 0 W).mono fun e W' ⟨he, hw⟩ => ?_
    subst hw
    have hs0 : sortI x = [] := List.length_eq_zero_iff.1 (by rw [hsl, hx]; rfl)
    refine ⟨_, P, [], [], [], he, rfl, PHeap.le_refl P, hps, ⟨rfl, rfl⟩, ?_, by simp, by simp, Ext.refl _ _, fun b hb => .inl hb⟩
    refine ⟨[], [], rfl, ?_, rfl⟩
    rw [OT.Rep]
    exact .inl ⟨hs0, ⟨a, rfl, fun _ _ h => absurd h (by omega)⟩, rfl⟩
  · have hbl : W.heap[b]? = some (.cells cs T fz) := hb1
    have hbs : b < W.heap.size := by
      rcases Nat.lt_or_ge b W.heap.size with h | h
      · exact h
      · rw [Array.getElem?_eq_none h] at hbl; cases hbl
    have hsz : intE.size = 1 := rfl
    rw [hsz] at hc3
    have hcell : ∀ i (h : i < List.length (α := Int64) x), cs[off + i]? = some (.int .i64 (Int64.toInt (List.get (α := Int64) x ⟨i, h⟩))) := fun i h => by
      have := int_cells.1 (hcells i h)
      simpa [hsz] using this
    have hH : Holds (Value.int .i64) W b off (List.map Int64.toInt x).toArray := by
      intro j hj
      have hj' : j < List.length (α := Int64) x := by simpa using hj
      have hoff : off + j < cs.size := by omega
      constructor
      · unfold World.cell?
        simp only [hbl]
        rw [hcell j hj', getElem!_pos _ j (by simpa using hj')]
        simp
      · unfold World.frozen?
        simp only [hbl]
        rcases hth with h | h
        · rw [h]; simp only [Bool.and_eq_false_iff, decide_eq_false_iff_not]; omega
        · simp only [Bool.and_eq_false_iff, decide_eq_false_iff_not]; left; omega
    have hcall := h1 b off cap (List.map Int64.toInt x) W hH hbs (by simp; omega)
    rw [List.length_map, sortI_ints] at hcall
    refine hcall.mono fun e W' ⟨he, n, os, hw⟩ => ?_
    subst hw
    have hheap : (Sort.grow (Sort.putRow (Value.int .i64) (Sort.ahead W n) b off (List.map Int64.toInt (sortI x)).toArray) os).heap = W.heap.modify b (onCells (Sort.putCells (Value.int .i64) off (List.map Int64.toInt (sortI x)).toArray)) ++ os := rfl
    have hat : ∀ k, k < W.heap.size → (Sort.grow (Sort.putRow (Value.int .i64) (Sort.ahead W n) b off (List.map Int64.toInt (sortI x)).toArray) os).heap[k]? = if b = k then some (.cells (Sort.putCells (Value.int .i64) off (List.map Int64.toInt (sortI x)).toArray cs) T fz) else W.heap[k]? := fun k hk => by
      rw [hheap, Array.getElem?_append_left (by simpa using hk), Array.getElem?_modify]
      by_cases h : b = k
      · subst h; rw [if_pos rfl, if_pos rfl, hbl]; rfl
      · rw [if_neg h, if_neg h]
    have hbP : P b = none := (hfp b (by simp)).1
    have hsize : W.heap.size ≤ (Sort.grow (Sort.putRow (Value.int .i64) (Sort.ahead W n) b off (List.map Int64.toInt (sortI x)).toArray) os).heap.size := by rw [hheap]; simp
    refine ⟨_, P, [], [], [b], he, rfl, PHeap.le_refl P, ?_, ⟨rfl, rfl⟩, ?_, by simp, ?_, ⟨hsize, ?_, rfl, rfl⟩, fun b hb => .inl hb⟩
    · intro k o hk
      have hk1 := hps k o hk
      have hks : k < W.heap.size := by
        rcases Nat.lt_or_ge k W.heap.size with h | h
        · exact h
        · rw [Array.getElem?_eq_none h] at hk1; cases hk1
      rw [hat k hks, if_neg (fun e => by rw [← e, hbP] at hk; cases hk)]
      exact hk1
    · refine ⟨[b], [], rfl, ?_, rfl⟩
      rw [OT.Rep]
      refine .inr ⟨b, off, cap, Sort.putCells (Value.int .i64) off (List.map Int64.toInt (sortI x)).toArray cs, T, fz, ?_, rfl, ?_, ?_, ?_, hc2, ?_, fun i hi => ?_⟩
      · show Value.slice _ (List.length (α := Int64) x) cap = Value.slice _ (List.length (α := Int64) (sortI x)) cap
        rw [hsl]
      · show (Sort.grow _ os).heap[b]? = _
        rw [hat b hbs, if_pos rfl]
      · unfold Sort.putCells; rw [Array.size_mapIdx]; exact hth
      · show List.length (α := Int64) (sortI x) ≤ cap
        rw [hsl]; exact hc1
      · unfold Sort.putCells; rw [Array.size_mapIdx, hsz]; exact hc3
      · have hi : i < List.length (α := Int64) (sortI x) := hi
        have hi' : i < List.length (α := Int64) x := by omega
        have hc1' : List.length (α := Int64) x ≤ cap := hc1
        have hoff : off + i < cs.size := by omega
        refine int_cells.2 ?_
        show (Sort.putCells (Value.int .i64) off (List.map Int64.toInt (sortI x)).toArray cs)[off + i * 1 + 0]? = _
        rw [Nat.mul_one, Nat.add_zero]
        unfold Sort.putCells
        rw [Array.getElem?_mapIdx, Array.getElem?_eq_getElem hoff, Option.map_some, if_pos ⟨by omega, by simp; omega⟩]
        rw [show off + i - off = i from by omega, getElem!_pos _ i (by simpa using hi)]
        simp only [List.getElem_toArray, List.getElem_map]
        rfl
    · intro k hk
      have hk : k = b := by simpa using hk
      subst hk
      exact ⟨hbP, by omega, .inl (by simp)⟩
    · intro k hk hkb
      rw [hat k hk, if_neg (fun e => hkb (by simp [e]))]
end Go.Sx
