/- lab.Text: its contract. -/
import Derived.Test.YtegncnhhofbmiaaBdText
import Derived.Test.YtegncnhhofbmiaaSxClone
open Go Go.Sx
namespace Go.Proofs.Ytegncnhhofbmiaa
abbrev pairE : CTs := .cons .str (.cons .str .nil)
def sig21 : Sig := ⟨.cons (.one (.c (.ro pairE))) .nil, .cons (.one (.c .str)) .nil⟩
def F21 (_ : Nat) (l : List (List UInt8 × List UInt8)) : Option (List UInt8 × Unit) := oite (Nat.ble l.length 140737488355328 && Nat.ble (upTo l l.length).length 140737488355328) (some (upTo l l.length, ())) none
theorem ok21_core (n : Nat) (P : PHeap) (W : World) (hps : ∀ b o, P b = some o → W.heap[b]? = some o) (x : List (List UInt8 × List UInt8)) (v : Value) (p1 : CT.Rep P (.ro pairE) x v)
    (h1 : x.length ≤ 140737488355328) (h2 : (upTo x x.length).length ≤ 140737488355328) :
    Calls Try.prog 21 #[v] W fun e W' => ∃ v_1 P' vs fr fo, e = .returned v_1 ∧ Done W P [] ⟨21, sig21, F21 n⟩ [v] (upTo x x.length, ()) v_1 W' P' vs fr fo := by
  simp only [CT.Rep] at p1
  obtain ⟨a, cap, rfl, k2, k3, k4, k5⟩ := p1
  have fin : ∀ (e : Ending) (W' : World), e = .returned (.string ⟨(upTo x x.length).toArray⟩) → W.heap.size ≤ W'.heap.size → (∀ b, b < W.heap.size → W'.heap[b]? = W.heap[b]?) → W'.os = W.os → W'.output = W.output →
      ∃ v P' vs fr fo, e = .returned v ∧ Done W P [] ⟨21, sig21, F21 n⟩ [.slice a x.length cap] (upTo x x.length, ()) v W' P' vs fr fo := by
    intro e W' he e1 e2 e3 e4
    refine ⟨_, P, [.string ⟨(upTo x x.length).toArray⟩], [], [], he, ?_⟩
    refine done_plain (W' := W') (g := ⟨21, sig21, F21 n⟩) (args := [.slice a x.length cap]) (r := (upTo x x.length, ())) hps e1 e2 e3 e4 rfl ?_ (by exact rfl) rfl List.nodup_nil (fun b hb => by cases hb)
    exact ⟨_, _, [], [], rfl, rfl, one_rep.2 ⟨str_rep.2 ⟨rfl, by show (upTo x x.length).length < _; omega⟩, rfl⟩, rfl, rfl⟩
  by_cases hz : x.length = 0
  · have hnil : x = [] := List.eq_nil_of_length_eq_zero hz
    subst hnil
    exact (text_walk0 a cap W).mono fun e W' ⟨he, hw⟩ => fin e W' he hw.size hw.block hw.os hw.output
  · cases a with
    | none => have := k4 rfl; omega
    | some ad =>
      obtain ⟨k5, k6⟩ := k5 ad rfl
      have hsp := k5 (by omega)
      obtain ⟨bk, o, sp⟩ := ad
      simp only at hsp k6
      subst hsp
      have hcell : ∀ (j : Nat) (hj : j < x.length), W.cell? ⟨bk, o + j * 2, none⟩ = some (.string ⟨x[j].1.toArray⟩) ∧ W.cell? ⟨bk, o + j * 2 + 1, none⟩ = some (.string ⟨x[j].2.toArray⟩) := fun j hj => by
        have := k6 j hj
        simp only [CTs.Rep, CTs.hd, CTs.tl] at this
        obtain ⟨⟨v, hv, hvr⟩, ⟨u, hu, hur⟩, _⟩ := this
        obtain ⟨rfl, _⟩ := str_rep.1 hvr
        obtain ⟨rfl, _⟩ := str_rep.1 hur
        have hv' : P.cell bk (o + j * 2) = some (.string ⟨x[j].1.toArray⟩) := by simpa [CTs.size] using hv
        have hu' : P.cell bk (o + j * 2 + 1) = some (.string ⟨x[j].2.toArray⟩) := by simpa [CTs.size] using hu
        exact ⟨glob_cell hps hv', glob_cell hps hu'⟩
      have hbk : bk < W.heap.size := by
        have := (hcell 0 (by omega)).1
        rcases Nat.lt_or_ge bk W.heap.size with h | h
        · exact h
        · simp [World.cell?, Array.getElem?_eq_none h] at this
      have hxs : (x.map fun s => ((⟨s.1.toArray⟩, ⟨s.2.toArray⟩) : ByteArray × ByteArray)).map (fun x => (x.1.data.toList, x.2.data.toList)) = x := by
        rw [List.map_map]
        have : ((fun b : ByteArray × ByteArray => (b.1.data.toList, b.2.data.toList)) ∘ fun s : List UInt8 × List UInt8 => ((⟨s.1.toArray⟩, ⟨s.2.toArray⟩) : ByteArray × ByteArray)) = id := by funext s; rfl
        rw [this, List.map_id]
      have := text_walk bk o cap (x.map fun s => (⟨s.1.toArray⟩, ⟨s.2.toArray⟩)) W (fun j y hy => by
        rw [List.getElem?_map] at hy
        cases hj : x[j]? with
        | none => rw [hj] at hy; cases hy
        | some s =>
          rw [hj] at hy
          simp only [Option.map_some, Option.some.injEq] at hy
          subst hy
          obtain ⟨hj', rfl⟩ := List.getElem?_eq_some_iff.1 hj
          exact hcell j hj') hbk (by simpa using h1) (by simpa using k2) (by rw [hxs, List.length_map]; exact h2)
      rw [hxs, List.length_map] at this
      exact this.mono fun e W' ⟨he, hw⟩ => fin e W' he hw.size hw.block hw.os hw.output
theorem ok21 (n : Nat) : FunOK Try.prog ⟨21, sig21, F21 n⟩ := by
  refine ⟨CallOK.of (fun P W args x fp hgl hps hrep hnd hfp r hr => ?_) rfl, Try.f21, Try.func21, by kernel_rfl, by kernel_rfl⟩
  obtain ⟨v, vs, f1, f2, rfl, rfl, q1, rfl, rfl⟩ := hrep
  obtain ⟨p1, rfl⟩ := one_rep.1 q1
  have hr : oite (Nat.ble (List.length x) 140737488355328 && Nat.ble (upTo x (List.length x)).length 140737488355328) (some (upTo x (List.length x), ())) none = some r := hr
  cases hlt : Nat.ble (List.length x) 140737488355328 && Nat.ble (upTo x (List.length x)).length 140737488355328 with
  | false => rw [hlt] at hr; cases hr
  | true =>
  rw [hlt] at hr
  have hr := Option.some.inj (show some (upTo x (List.length x), ()) = some r from hr)
  subst hr
  rw [Bool.and_eq_true] at hlt
  exact ok21_core n P W hps x v p1 (Nat.le_of_ble_eq_true hlt.1) (Nat.le_of_ble_eq_true hlt.2)
end Go.Proofs.Ytegncnhhofbmiaa
