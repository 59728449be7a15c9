/- sync.Once's Do over crc.Table's fill, as a contract. -/
import Derived.Test.YtgknjddbbehboaaGreatOnce
open Go Go.Sx
namespace Go.Proofs.YtgknjddbbehboaaGreat
/-! ### The contract -/
abbrev preT : OTs := .cons (.c (.int .u32)) (.cons (.c (.int .i32)) (.cons (.c (.int .u32)) .nil))
abbrev postT : OTs := .cons (.c (.int .u64)) (.cons (.c (.int .u64)) .nil)
abbrev TabT := (UInt32 × Int32 × UInt32) × List UInt32 × UInt64 × UInt64
theorem post_fp {P : PHeap} {H : HView} {x : postT.T} {vs : List Value} {fp : List Nat} (h : OTs.Rep P H postT x vs fp) : fp = [] := by
  obtain ⟨v1, r1, f1, f2, rfl, rfl, h1, v2, r2, g1, g2, rfl, rfl, h2, rfl, rfl⟩ := h
  simp only [OT.Rep] at h1 h2
  rw [h1.2, h2.2]; rfl
theorem post_any {P : PHeap} {H G : HView} {x : postT.T} {vs : List Value} (h : OTs.Rep P H postT x vs []) : OTs.Rep P G postT x vs [] :=
  OTs.Rep.mono (PHeap.le_refl P) postT _ _ _ (fun b hb => by cases hb) h
/-- Do, over what fill computes. -/
def doF (F : Option TabT → Option (Unit × Option TabT)) (x : Option TabT) : Option (Unit × Option TabT) :=
  match x with
  | none => none
  | some ((d, s, m), y, p) => if d = 1 then some ((), some ((d, s, m), y, p)) else if d = 0 ∧ s = 0 then
      match F (some ((0, 1, m), y, p)) with
      | some (_, some ((d', s', m'), y', p')) => if d' = 0 ∧ s' = 1 then some ((), some ((1, 0, m'), y', p')) else none
      | _ => none
    else none
theorem pre_rep {P : PHeap} {H : HView} {x : preT.T} {vs : List Value} {fp : List Nat} : OTs.Rep P H preT x vs fp ↔ vs = [.int .u32 (IK.toInt .u32 x.1), .int .i32 (IK.toInt .i32 x.2.1), .int .u32 (IK.toInt .u32 x.2.2)] ∧ fp = [] := by
  obtain ⟨a, b, c⟩ := x
  constructor
  · rintro ⟨v1, r1, f1, f2, rfl, rfl, h1, v2, r2, g1, g2, rfl, rfl, h2, v3, r3, e1, e2, rfl, rfl, h3, rfl, rfl⟩
    simp only [OT.Rep, CT.Rep] at h1 h2 h3
    obtain ⟨rfl, rfl⟩ := h1
    obtain ⟨rfl, rfl⟩ := h2
    obtain ⟨rfl, rfl⟩ := h3
    exact ⟨rfl, rfl⟩
  · rintro ⟨rfl, rfl⟩
    refine ⟨_, _, [], [], rfl, rfl, ?_, _, _, [], [], rfl, rfl, ?_, _, _, [], [], rfl, rfl, ?_, rfl, rfl⟩ <;> simp only [OT.Rep, CT.Rep] <;> exact ⟨rfl, trivial⟩
theorem once_ok {F : Option TabT → Option (Unit × Option TabT)} (hfill : FunOK Tryz.prog ⟨59, ⟨.cons (.one (.ptrA preT (.int .u32) 256 postT)) .nil, .nil⟩, F⟩) :
    ContractA Tryz.prog ⟨58, ⟨.cons (.one (.ptrA preT (.int .u32) 256 postT)) .nil, .nil⟩, doF F⟩ (onceArgs 59) := by
  intro P W args x fp hP hrep hnd hfp r hr
  obtain ⟨v, vs', f1, f2, rfl, rfl, hx, hvs, rfl⟩ := hrep
  subst hvs
  have hx : OT.Rep P (World.view W) (.ptrA preT (.int .u32) 256 postT) x v f1 := hx
  rw [List.append_nil] at hnd hfp
  simp only [OT.Rep] at hx
  rcases hx with ⟨rfl, _, _⟩ | ⟨pre, y, post, b, cs, T, g1, g2, c1, c2, c3, rfl, rfl, rfl, hH, hcs, hy, hpre, hpost⟩
  · have hr : (none : Option (Unit × Option TabT)) = some r := hr
    cases hr
  obtain ⟨rfl, rfl⟩ := pre_rep.1 hpre
  obtain ⟨d, s, m⟩ := pre
  have hg2 := post_fp hpost
  subst hg2
  have hb : W.heap[b]? = some (.cells cs T (0, 0)) := hH
  have hc0 : cs[0]? = some (.int .u32 (IK.toInt .u32 d)) := by rw [← Array.getElem?_toList, hcs]; rfl
  have hc1 : cs[1]? = some (.int .i32 (IK.toInt .i32 s)) := by rw [← Array.getElem?_toList, hcs]; rfl
  have hfz : W.frozen? ⟨b, 0, none⟩ = false := by simp [World.frozen?, hb]
  have hfz1 : W.frozen? ⟨b, 1, none⟩ = false := by simp [World.frozen?, hb]
  have hcell : ∀ {w : World} {ds : Array Value} {U : Nat} (o : Nat), w.heap[b]? = some (.cells ds U (0, 0)) → w.cell? ⟨b, o, none⟩ = ds[o]? := fun o h => by simp [World.cell?, h]
  have hPb : P b = none := (hfp b (by simp)).1
  have hbs : b < W.heap.size := (hfp b (by simp)).2
  replace hr : (if d = 1 then some ((), some ((d, s, m), y, post)) else if d = 0 ∧ s = 0 then
      match F (some ((0, 1, m), y, post)) with
      | some (_, some ((d', s', m'), y', p')) => if d' = 0 ∧ s' = 1 then some ((), some ((1, 0, m'), y', p')) else none
      | _ => none
    else none) = some r := hr
  split at hr
  · rename_i hd
    subst hd
    have hr : ((), some ((1, s, m), y, post)) = r := Option.some.inj hr
    subst hr
    refine (do_done ⟨b, 0, none⟩ _ W (by rw [hcell 0 hb, hc0]; rfl)).mono fun e W' ⟨he, hw⟩ => ?_
    subst hw
    refine ⟨.tuple #[], P, [], [], [b], he, rfl, PHeap.le_refl P, hP, ⟨rfl, rfl⟩, ?_, by simp, fun b' hb' => ?_, Ext.refl _ _, fun _ h => .inl h⟩
    · refine ⟨[b], [], rfl, ?_, rfl⟩
      simp only [OT.Rep]
      exact .inr ⟨_, y, post, b, cs, T, [], [], _, _, _, rfl, rfl, rfl, hH, hcs, hy, pre_rep.2 ⟨rfl, rfl⟩, hpost⟩
    · simp only [List.append_nil, List.mem_singleton] at hb'
      subst hb'
      exact ⟨hPb, hbs, .inl (by simp)⟩
  · split at hr
    · rename_i hds
      obtain ⟨rfl, rfl⟩ := hds
      cases hF : F (some ((0, 1, m), y, post)) with
      | none => rw [hF] at hr; cases hr
      | some r0 =>
        obtain ⟨u0, m0⟩ := r0
        rw [hF] at hr
        cases m0 with
        | none => simp at hr
        | some q =>
          obtain ⟨⟨d', s', m'⟩, y', p'⟩ := q
          simp only at hr
          split at hr
          · rename_i hds
            obtain ⟨rfl, rfl⟩ := hds
            have hr : ((), some ((1, 0, m'), y', p')) = r := Option.some.inj hr
            subst hr
            have hsc := setCell_setArr (o := 1) (.int .i32 1) hb
            have hb1 : (W.setCell ⟨b, 1, none⟩ (.int .i32 1)).heap[b]? = some (.cells (cs.setIfInBounds 1 (.int .i32 1)) T (0, 0)) := by rw [hsc]; exact setArr_heap hb
            have hsz1 : (W.setCell ⟨b, 1, none⟩ (.int .i32 1)).heap.size = W.heap.size := by rw [hsc]; exact setArr_size
            have hoth : ∀ c, b ≠ c → (W.setCell ⟨b, 1, none⟩ (.int .i32 1)).heap[c]? = W.heap[c]? := fun c h => by rw [hsc]; exact setArr_other h
            have hfc := hfill.con (ha := by rfl) P (W.setCell ⟨b, 1, none⟩ (.int .i32 1)) [.pointer (some ⟨b, 0, none⟩)] (some ((0, 1, m), y, post)) [b] (fun b' o ho => by
                rw [hoth b' (fun e => by subst e; rw [hPb] at ho; cases ho)]; exact hP b' o ho)
              ⟨_, [], [b], [], rfl, rfl, by
                show OT.Rep _ _ (.ptrA preT (.int .u32) 256 postT) _ _ _
                simp only [OT.Rep]
                refine .inr ⟨(0, 1, m), y, post, b, _, T, [], [], [.int .u32 0, .int .i32 1, .int .u32 (IK.toInt .u32 m)], c2, c3, rfl, rfl, rfl, hb1, ?_, hy, pre_rep.2 ⟨rfl, rfl⟩, hpost⟩
                rw [Array.toList_setIfInBounds, hcs]; rfl, rfl, rfl⟩
              (by simp) (fun b' hb' => by simp only [List.mem_singleton] at hb'; subst hb'; exact ⟨hPb, by rw [hsz1]; exact hbs⟩) _ hF
            let Q : World → Prop := fun w' => ∃ P' fr fo, Done (W.setCell ⟨b, 1, none⟩ (.int .i32 1)) P [b] ⟨59, ⟨.cons (.one (.ptrA preT (.int .u32) 256 postT)) .nil, .nil⟩, F⟩ [.pointer (some ⟨b, 0, none⟩)] (u0, some ((0, 1, m'), y', p')) (.tuple #[]) w' P' [] fr fo
            have hfc' : Calls Tryz.prog 59 #[.pointer (some ⟨b, 0, none⟩)] (W.setCell ⟨b, 1, none⟩ (.int .i32 1)) fun e w' => e = .returned (.tuple #[]) ∧ Q w' := by
              refine hfc.mono fun e w' ⟨v, P', vs, fr, fo, he, D⟩ => ?_
              obtain ⟨hvs, _⟩ := D.res
              subst hvs
              have hv := D.val
              have hv : v = .tuple #[] := hv
              subst hv
              exact ⟨he, P', fr, fo, D⟩
            have inner : ∀ w', Q w' → ∃ P' fr fo ds U e2 e3, Done (W.setCell ⟨b, 1, none⟩ (.int .i32 1)) P [b] ⟨59, ⟨.cons (.one (.ptrA preT (.int .u32) 256 postT)) .nil, .nil⟩, F⟩ [.pointer (some ⟨b, 0, none⟩)] (u0, some ((0, 1, m'), y', p')) (.tuple #[]) w' P' [] fr fo ∧
                w'.heap[b]? = some (.cells ds U (0, 0)) ∧ ds.toList = [.int .u32 0, .int .i32 1, .int .u32 (IK.toInt .u32 m')] ++ (e2 ++ e3) ∧ ArrRep P' (.int .u32) 256 y' e2 ∧ OTs.Rep P' (World.view w') postT p' e3 [] ∧ fo = [b] ∧ fr = [] := by
              rintro w' ⟨P', fr, fo, D⟩
              obtain ⟨_, hfr⟩ := D.res
              obtain ⟨f1, f2, hfo, ho, hf2⟩ := D.outs
              have hf2 : f2 = [] := hf2
              have ho : OT.Rep P' (World.view w') (.ptrA preT (.int .u32) 256 postT) (some ((0, 1, m'), y', p')) (.pointer (some ⟨b, 0, none⟩)) f1 := ho
              simp only [OT.Rep] at ho
              rcases ho with ⟨h, _⟩ | ⟨pre1, y1, p1, b1, ds, U, h1, h2, c1, e2, e3, k1, k2, k3, k4, k5, k6, k7, k8⟩
              · cases h
              · cases k1; cases k2
                obtain ⟨k9, rfl⟩ := pre_rep.1 k7
                subst k9
                have h2n : h2 = [] := post_fp k8
                subst h2n
                exact ⟨P', fr, fo, ds, U, e2, e3, D, k4, k5, k6, k8, by rw [hfo, k3, hf2]; rfl, hfr⟩
            refine (do_first b W Q (by rw [hcell 0 hb, hc0]; rfl) (by rw [hcell 1 hb, hc1]; rfl) hfz hfz1 hfc' fun w' hq => ?_).mono fun e W' ⟨he, w1, hq, hw⟩ => ?_
            · obtain ⟨P', fr, fo, ds, U, e2, e3, D, k4, k5, _⟩ := inner w' hq
              refine ⟨?_, ?_, by simp [World.frozen?, k4], by simp [World.frozen?, k4]⟩
              · rw [hcell 0 k4, ← Array.getElem?_toList, k5]; rfl
              · rw [hcell 1 k4, ← Array.getElem?_toList, k5]; rfl
            · obtain ⟨P', fr, fo, ds, U, e2, e3, D, k4, k5, k6, k7, rfl, rfl⟩ := inner w1 hq
              have k4' : w1.drew.heap[b]? = some (.cells ds U (0, 0)) := k4
              have a1 := setCell_setArr (o := 0) (.int .u32 1) k4'
              have a2 : (setArr w1.drew b (ds.setIfInBounds 0 (.int .u32 1)) U (0, 0)).heap[b]? = some (.cells (ds.setIfInBounds 0 (.int .u32 1)) U (0, 0)) := setArr_heap k4'
              have a3 := setCell_setArr (o := 1) (.int .i32 0) a2
              rw [a1, a3, setArr_setArr] at hw
              have hWb : W'.heap[b]? = some (.cells ((ds.setIfInBounds 0 (.int .u32 1)).setIfInBounds 1 (.int .i32 0)) U (0, 0)) := by rw [hw]; exact setArr_heap k4'
              have hWo : ∀ c, b ≠ c → W'.heap[c]? = w1.heap[c]? := fun c h => by rw [hw]; exact setArr_other h
              have hWs : W'.heap.size = w1.heap.size := by rw [hw]; exact setArr_size
              have hP'b : P' b = none ∧ b < w1.heap.size := by have := D.fps b (by simp); exact ⟨this.1, this.2.1⟩
              refine ⟨.tuple #[], P', [], [], [b], he, rfl, D.ple, fun b' o ho => ?_, ⟨rfl, rfl⟩, ?_, by simp, fun b' hb' => ?_, ⟨?_, ?_, ?_, ?_⟩, fun b' hb' => ?_⟩
              · rw [hWo b' (fun e => by subst e; rw [hP'b.1] at ho; cases ho)]; exact D.psub b' o ho
              · refine ⟨[b], [], rfl, ?_, rfl⟩
                simp only [OT.Rep]
                refine .inr ⟨(1, 0, m'), y', p', b, _, U, [], [], [.int .u32 1, .int .i32 0, .int .u32 (IK.toInt .u32 m')], e2, e3, rfl, rfl, rfl, hWb, ?_, k6, pre_rep.2 ⟨rfl, rfl⟩, post_any k7⟩
                rw [Array.toList_setIfInBounds, Array.toList_setIfInBounds, k5]; rfl
              · simp only [List.append_nil, List.mem_singleton] at hb'
                subst hb'
                exact ⟨hP'b.1, by rw [hWs]; exact hP'b.2, .inl (by simp)⟩
              · rw [hWs, ← hsz1]; exact D.ext.le
              · intro c hc hcn
                have hcb : b ≠ c := fun e => hcn (by simp [e])
                rw [hWo c hcb, D.ext.same c (by rw [hsz1]; exact hc) hcn, hoth c hcb]
              · rw [hw]; exact D.ext.os.trans (by rw [hsc]; rfl)
              · rw [hw]; exact D.ext.out.trans (by rw [hsc]; rfl)
              · rcases D.pnew b' hb' with h | h | h
                · exact .inl h
                · exact .inr (.inl h)
                · exact .inr (.inr (by rw [← hsz1]; exact h))
          · cases hr
    · cases hr
def sig58 : Sig := ⟨(.cons (.one (.c (.ro (.cons .bool (.cons .bool (.cons .bool (.cons .bool (.cons .bool (.cons .bool (.cons .bool (.cons .bool (.cons .bool (.cons .bool (.cons .bool (.cons .bool (.cons .bool (.cons .bool (.cons .bool (.cons .bool (.cons .bool (.cons .bool (.cons .bool (.cons .bool (.cons .bool (.cons .bool (.cons .bool (.cons .bool (.cons .bool (.cons .bool (.cons .bool (.cons .bool (.cons .bool (.cons .bool (.cons .bool (.cons .bool (.cons .bool (.cons .bool (.cons .bool (.cons .bool (.cons .bool (.cons .bool (.cons .bool (.cons .bool (.cons .bool (.cons .bool (.cons .bool (.cons .bool (.cons .bool (.cons .bool (.cons .bool (.cons .bool (.cons .bool (.cons .bool (.cons .bool (.cons .bool (.cons .bool (.cons .bool (.cons .bool (.cons .bool (.cons .bool (.cons .bool (.cons .bool .nil)))))))))))))))))))))))))))))))))))))))))))))))))))))))))))))) (.cons (.oagg .nil) (.cons (.one (.ptrA (.cons (.c (.int .u32)) (.cons (.c (.int .i32)) (.cons (.c (.int .u32)) .nil))) (.int .u32) 256 (.cons (.c (.int .u64)) (.cons (.c (.int .u64)) .nil)))) .nil))), .nil⟩
def F58 (n : Nat) : List (CTs.T (.cons .bool (.cons .bool (.cons .bool (.cons .bool (.cons .bool (.cons .bool (.cons .bool (.cons .bool (.cons .bool (.cons .bool (.cons .bool (.cons .bool (.cons .bool (.cons .bool (.cons .bool (.cons .bool (.cons .bool (.cons .bool (.cons .bool (.cons .bool (.cons .bool (.cons .bool (.cons .bool (.cons .bool (.cons .bool (.cons .bool (.cons .bool (.cons .bool (.cons .bool (.cons .bool (.cons .bool (.cons .bool (.cons .bool (.cons .bool (.cons .bool (.cons .bool (.cons .bool (.cons .bool (.cons .bool (.cons .bool (.cons .bool (.cons .bool (.cons .bool (.cons .bool (.cons .bool (.cons .bool (.cons .bool (.cons .bool (.cons .bool (.cons .bool (.cons .bool (.cons .bool (.cons .bool (.cons .bool (.cons .bool (.cons .bool (.cons .bool (.cons .bool (.cons .bool .nil)))))))))))))))))))))))))))))))))))))))))))))))))))))))))))) × Unit × Option TabT → Option (Unit × Option TabT) := fun x => doF (F59 n) x.2.2
theorem ok58 (n : Nat) : FunOK Tryz.prog ⟨58, sig58, F58 n⟩ := by
  refine ⟨?_, _, Tryz.func58, by kernel_rfl, by kernel_rfl⟩
  show ContractA Tryz.prog ⟨58, ⟨.cons (.one (.ptrA preT (.int .u32) 256 postT)) .nil, .nil⟩, doF (F59 n)⟩ (onceArgs 59)
  exact once_ok (ok59 n)
end Go.Proofs.YtgknjddbbehboaaGreat
