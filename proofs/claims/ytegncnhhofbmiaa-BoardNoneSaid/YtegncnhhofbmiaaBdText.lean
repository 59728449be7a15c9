/- lab.Text: a walk of its code over the builder's contracts of the shelf. -/
import Derived.Test.YtegncnhhofbmiaaSxShelf
import Derived.Test.YtegncnhhofbmiaaBdShelf
import Derived.KernelRfl
import Derived.WalkKit
import Derived.Deep.RegionLaw
import Derived.Lib.Walk
import Derived.Lib.Join
import Derived.Shelf.RegionOpenPlain
import Derived.Deep.LoopGhost
open Go Go.Sx
namespace Go.Proofs.Ytegncnhhofbmiaa
open Go.RowKit Go.Lib
theorem Any.hidU {p : Prop} (h : p) : Hid p := h
theorem atF_below {T e : TypeId} {B b : Nat} {p : Value} {bs : List Value} {w w' : World} (h : BuilderAtF T e B b p bs w) (hb : Below w.heap.size w w') : BuilderAtF T e B b p bs w' := by
  have hlt := h.lt
  obtain ⟨hB, v, hk, hown, hne⟩ := h
  exact ⟨hB, v, (hb.block b hlt).trans hk, hown.kept (row := none) ⟨hb.os, hb.tape, hb.output, hb.size, fun k hk _ => hb.block k hk⟩ (by cases hv : v.ownBlock <;> simp), hne⟩
theorem isF_below {T e : TypeId} {B b : Nat} {bs : List Value} {w w' : World} (h : IsBuilderF T e B b bs w) (hb : Below w.heap.size w w') : IsBuilderF T e B b bs w' := h.elim (fun x => .inl (atF_below x hb)) (fun x => .inr (atF_below x hb))
/-- a pair's text -/
def eqs (p : List UInt8 × List UInt8) : List UInt8 := p.1 ++ 61 :: p.2
/-- what is written after k rounds -/
def upTo (ps : List (List UInt8 × List UInt8)) (k : Nat) : List UInt8 := Lib.join ((ps.take k).map eqs) [44]
theorem joinTail_snoc (sep y : List UInt8) : ∀ l : List (List UInt8), Lib.joinTail sep (l ++ [y]) = Lib.joinTail sep l ++ sep ++ y
  | [] => by simp [Lib.joinTail]
  | x :: r => by simp [Lib.joinTail]
theorem join_snoc (sep y : List UInt8) (l : List (List UInt8)) : Lib.join (l ++ [y]) sep = Lib.join l sep ++ (if l = [] then [] else sep) ++ y := by
  cases l with
  | nil => simp [Lib.join]
  | cons x r => simp [Lib.join_cons, joinTail_snoc]
theorem upTo_succ (ps : List (List UInt8 × List UInt8)) (k : Nat) (x : List UInt8 × List UInt8) (hx : ps[k]? = some x) : upTo ps (k + 1) = upTo ps k ++ (if k = 0 then [] else [44]) ++ eqs x := by
  have hlt : k < ps.length := (List.getElem?_eq_some_iff.1 hx).1
  rw [upTo, List.take_add_one, hx, List.map_append]
  show Lib.join (_ ++ [eqs x]) _ = _
  rw [join_snoc]
  congr 2
  by_cases h : k = 0
  · simp [h]
  · rw [if_neg h, if_neg]
    cases ps with
    | nil => simp at hlt
    | cons a r => cases k with
      | zero => exact absurd rfl h
      | succ k => simp
theorem upTo_le (ps : List (List UInt8 × List UInt8)) (k : Nat) : ∀ n, k ≤ n → n ≤ ps.length → (upTo ps k).length ≤ (upTo ps n).length
  | 0, h, _ => by rw [show k = 0 by omega]; exact Nat.le_refl _
  | n + 1, h, hn => by
    rcases Nat.lt_or_ge n k with h' | h'
    · rw [show k = n + 1 by omega]; exact Nat.le_refl _
    · have := upTo_le ps k n h' (by omega)
      rw [upTo_succ ps n _ (List.getElem?_eq_getElem (by omega))]
      simp only [List.length_append]
      omega
set_option maxHeartbeats 4000000 in
set_option maxRecDepth 1000000 in
theorem text_walk (bk o c : Nat) (ps : List (ByteArray × ByteArray)) (w : World)
    (hcells : ∀ (j : Nat) x, ps[j]? = some x → w.cell? ⟨bk, o + j * 2, none⟩ = some (.string x.1) ∧ w.cell? ⟨bk, o + j * 2 + 1, none⟩ = some (.string x.2))
    (hbk : bk < w.heap.size) (hN : ps.length ≤ 140737488355328) (_hcap : ps.length ≤ c)
    (hlen : (upTo (ps.map fun x => (x.1.data.toList, x.2.data.toList)) ps.length).length ≤ 140737488355328) :
    Calls Try.prog 21 #[.slice (some ⟨bk, o, none⟩) ps.length c] w fun e w' => e = .returned (.string ⟨(upTo (ps.map fun x => (x.1.data.toList, x.2.data.toList)) ps.length).toArray⟩) ∧ Below w.heap.size w w' := by
  have mixed : Try.prog.follows .mixedOrders = true := by kernel_rfl
  have HC := Any.hidU hcells
  have Hlen := Any.hidU hlen
  clear hcells hlen
  go_enter Try.func21, Try.ntmps21
  go_wp2_with fail
  go_loopw [8] (fun i wr => ∃ k : Nat, k ≤ ps.length ∧ i = .int .i64 k ∧ Hid (IsBuilderF 85 5 w.heap.size w.heap.size (Lib.byteCells (upTo (ps.map fun x => (x.1.data.toList, x.2.data.toList)) k)) wr) ∧ Hid (Below w.heap.size w wr)) (fun i _ => ps.length - (RowKit.intOf i).toNat)
  case atStart =>
    refine ⟨0, Nat.zero_le _, rfl, ?_, ?_⟩
    · exact IsBuilderF.of (fresh_isBuilder 85 5 w)
    · exact (Below.refl w.heap.size w).alloc (Nat.le_refl _) _
  case round =>
    obtain ⟨k, hk, rfl, HB, HW⟩ := hrel
    have hBw : w.heap.size ≤ wr.heap.size := HW.out.size
    by_cases hkn : k < ps.length
    · obtain ⟨x, hx⟩ : ∃ x, ps[k]? = some x := ⟨ps[k], List.getElem?_eq_getElem hkn⟩
      have hc1 : wr.cell? ⟨bk, o + k * 2, none⟩ = some (.string x.1) := by
        rw [HW.out.cell (p := ⟨bk, o + k * 2, none⟩) hbk]
        exact (HC.out k x hx).1
      have hc2 : wr.cell? ⟨bk, o + k * 2 + 1, none⟩ = some (.string x.2) := by
        rw [HW.out.cell (p := ⟨bk, o + k * 2 + 1, none⟩) hbk]
        exact (HC.out k x hx).2
      have hx' : (ps.map fun x => (x.1.data.toList, x.2.data.toList))[k]? = some (x.1.data.toList, x.2.data.toList) := by rw [List.getElem?_map, hx]; rfl
      have hle := upTo_le (ps.map fun x => (x.1.data.toList, x.2.data.toList)) (k + 1) ps.length (by omega) (by simp)
      have hn := upTo_succ _ k _ hx'
      have hall := Hlen.out
      generalize hT : upTo (ps.map fun x => (x.1.data.toList, x.2.data.toList)) k = T at HB hn
      generalize hT' : upTo (ps.map fun x => (x.1.data.toList, x.2.data.toList)) (k + 1) = T' at hn hle
      have hsz : T.length + (if k = 0 then 0 else 1) + (x.1.size + 1 + x.2.size) ≤ 140737488355328 := by
        have : T'.length = T.length + (if k = 0 then 0 else 1) + (x.1.size + 1 + x.2.size) := by
          rw [hn, List.length_append, List.length_append, Lib.size_eq, Lib.size_eq]
          simp only [eqs, List.length_append, List.length_cons]
          split <;> simp <;> omega
        omega
      have HT' := Any.hidU hT'
      have Hn := Any.hidU hn
      clear hn hT hT' hle hall hx'
      have hs1 : x.1.size + 1 + x.2.size ≤ 140737488355328 := by omega
      have hbd : w.heap.size < wr.heap.size := HB.out.elim (fun h => h.lt) (fun h => h.lt)
      have hd : (x.1 ++ ({ data := #[61] } : ByteArray) ++ x.2).data.toList = eqs (x.1.data.toList, x.2.data.toList) := by simp [eqs, ByteArray.data_append]
      have hsz2 : (x.1 ++ ({ data := #[61] } : ByteArray) ++ x.2).size = x.1.size + 1 + x.2.size := by rw [Lib.size_eq, hd, Lib.size_eq, Lib.size_eq]; simp [eqs]; omega
      have fin : ∀ (w4 : World), BuilderAtF 85 5 w.heap.size w.heap.size (.pointer (some ⟨w.heap.size, 0, none⟩)) (Lib.byteCells (T ++ if k = 0 then [] else [44]) ++ Lib.strCells (x.1 ++ ({ data := #[61] } : ByteArray) ++ x.2)) w4 → Hid (IsBuilderF 85 5 w.heap.size w.heap.size (Lib.byteCells (upTo (ps.map fun x => (x.1.data.toList, x.2.data.toList)) (k + 1))) w4) := fun w4 h => by
        rw [Lib.strCells_eq, hd, ← Lib.byteCells_append, ← Hn.out, ← HT'.out] at h
        exact Or.inr h
      have Fin := Any.hidU fin
      clear fin hd
      have H0 := Any.hidU (HB.out.alloc (Obj.cells #[Value.string x.fst, Value.string x.snd] 56))
      have Hw0 := Any.hidU (HW.out.alloc hBw (Obj.cells #[Value.string x.fst, Value.string x.snd] 56))
      go_wp2_with fail
      · have hk0 : k ≠ 0 := by omega
        rw [if_neg hk0] at hsz Fin
        refine (Try.Builder_WriteByte w.heap.size w.heap.size _ 44 _ H0.out (by rw [Lib.byteCells_length]; omega) (by simp; omega)).mono ?_
        rintro e w3 ⟨rfl, h3, hb3, ho3⟩
        have hblk : w3.heap[wr.heap.size]? = some (Obj.cells #[Value.string x.fst, Value.string x.snd] 56) := ho3 wr.heap.size _ (heap_alloc_new wr _) (by intro h; have := Option.some.inj h; omega) (by intro c fz h; cases h)
        have e0 : w3.cell? ⟨wr.heap.size, 0, none⟩ = some (.string x.1) := by rw [Lib.cell_of_heap hblk]; rfl
        have e1 : w3.cell? ⟨wr.heap.size, 1, none⟩ = some (.string x.2) := by rw [Lib.cell_of_heap hblk]; rfl
        have H3 : Hid (IsBuilderF 85 5 w.heap.size w.heap.size (Lib.byteCells (T ++ [44])) w3) := by
          rw [Lib.byteCells_append]
          exact Or.inr h3
        have Hb3 := Any.hidU (Hw0.out.trans hb3)
        have hBw3 : w.heap.size ≤ w3.heap.size := Hb3.out.size
        clear h3 hb3 ho3 hblk
        go_wp2_with fail
        refine (Try.Builder_WriteString w.heap.size w.heap.size _ _ w3 H3.out (by rw [Lib.byteCells_length, hsz2]; simp; omega) hBw3).mono ?_
        rintro e w4 ⟨rfl, h4, hb4, _⟩
        have H4 := Fin.out w4 h4
        have Hb4 := Any.hidU (Hb3.out.trans hb4)
        clear h4 hb4
        go_wp2
        exact ⟨⟨k + 1, by omega, by go_num, H4, Hb4⟩, by simp [RowKit.intOf]; omega⟩
      · have hk0 : k = 0 := by omega
        rw [if_pos hk0] at hsz Fin
        refine (Try.Builder_WriteString w.heap.size w.heap.size _ _ _ H0.out (by rw [Lib.byteCells_length, hsz2]; omega) (by simp; omega)).mono ?_
        rintro e w4 ⟨rfl, h4, hb4, _⟩
        have H4 := Fin.out w4 (by rw [List.append_nil]; exact h4)
        have Hb4 := Any.hidU (Hw0.out.trans hb4)
        clear h4 hb4
        go_wp2
        exact ⟨⟨k + 1, by omega, by go_num, H4, Hb4⟩, by simp [RowKit.intOf]; omega⟩
    · have hke : k = ps.length := by omega
      subst hke
      go_wp2_with fail
      refine (Try.Builder_String_any w.heap.size w.heap.size _ wr HB.out hBw).mono ?_
      rintro e w5 ⟨rfl, _, hb5, _⟩
      have Hb5 := Any.hidU (HW.out.trans hb5)
      clear hb5
      go_wp2
      go_ret
      exact ⟨rfl, Hb5.out⟩
set_option maxHeartbeats 4000000 in
set_option maxRecDepth 1000000 in
theorem text_walk0 (a : Option Addr) (c : Nat) (w : World) :
    Calls Try.prog 21 #[.slice a 0 c] w fun e w' => e = .returned (.string ⟨#[]⟩) ∧ Below w.heap.size w w' := by
  have mixed : Try.prog.follows .mixedOrders = true := by kernel_rfl
  go_enter Try.func21, Try.ntmps21
  go_wp2_with fail
  go_loopw [8] (fun i wr => i = .int .i64 0 ∧ Hid (IsBuilderF 85 5 w.heap.size w.heap.size (Lib.byteCells []) wr) ∧ Hid (Below w.heap.size w wr)) (fun i _ => 0 - (RowKit.intOf i).toNat)
  case atStart =>
    refine ⟨rfl, ?_, ?_⟩
    · exact IsBuilderF.of (fresh_isBuilder 85 5 w)
    · exact (Below.refl w.heap.size w).alloc (Nat.le_refl _) _
  case round =>
    obtain ⟨rfl, HB, HW⟩ := hrel
    have hBw : w.heap.size ≤ wr.heap.size := HW.out.size
    go_wp2_with fail
    refine (Try.Builder_String_any w.heap.size w.heap.size _ wr HB.out hBw).mono ?_
    rintro e w5 ⟨rfl, _, hb5, _⟩
    have Hb5 := Any.hidU (HW.out.trans hb5)
    clear hb5
    go_wp2
    go_ret
    exact ⟨rfl, Hb5.out⟩
end Go.Proofs.Ytegncnhhofbmiaa
