/- A walk of Go code by plain functions is sound. -/
import Derived.Test.YtegncnhhofbmiaaSxFun
import Derived.Below
import Derived.Lib.Split
import Derived.Lib.SplitLaws
import Derived.Lib.Join
import Derived.Deep.Draws
namespace Go.Sx
/-! Contracts of Go's library that the kit has proved once: as contracts of the walk. -/
section
variable {Pg : Program}

theorem str_rep {P : PHeap} {x : List UInt8} {v : Value} : CT.Rep P .str x v ↔ v = .string ⟨x.toArray⟩ ∧ x.length < 2 ^ 63 := by simp [CT.Rep]
theorem one_rep {P : PHeap} {H : HView} {t : CT} {x : t.T} {v : Value} {fp : List Nat} : PTy.Rep P H (.one (.c t)) x v fp ↔ t.Rep P x v ∧ fp = [] := by
  show OT.Rep P H (.c t) x v fp ↔ _
  rw [OT.Rep]
/-- A variable that holds one integer, in the world. -/
theorem glob_cell {P : PHeap} {W : World} (hp : ∀ b o, P b = some o → W.heap[b]? = some o) {g o : Nat} {v : Value} (h : P.cell g o = some v) : W.cell? ⟨g, o, none⟩ = some v := by
  unfold PHeap.cell at h
  split at h
  · rename_i c t fz hb
    simp only [World.cell?, hp _ _ hb]
    exact h
  · cases h
/-- Nothing is changed in memory but for what is new. -/
theorem done_plain {W W' : World} {P : PHeap} (hps : ∀ b o, P b = some o → W.heap[b]? = some o) (hle : W.heap.size ≤ W'.heap.size) (hsame : ∀ b, b < W.heap.size → W'.heap[b]? = W.heap[b]?) (hos : W'.os = W.os) (hout : W'.output = W.output)
    {g : Fun} {args : List Value} {r : g.sig.Out} {v : Value} {vs : List Value} {fr fo : List Nat} (hv : v = retV vs) (hr : PTys.Rep P (World.view W') g.sig.rs r.1 vs fr) (ho : OutsRep P (World.view W') g.sig.ps args r.2 fo) (hfo : fo = []) (hnd : fr.Nodup) (hfr : ∀ b ∈ fr, W.heap.size ≤ b ∧ b < W'.heap.size) :
    Done W P [] g args r v W' P vs fr fo := by
  have hlt : ∀ b o, P b = some o → b < W.heap.size := fun b o h => by
    have := hps b o h
    rcases Nat.lt_or_ge b W.heap.size with h' | h'
    · exact h'
    · rw [Array.getElem?_eq_none h'] at this; cases this
  subst hfo
  refine ⟨hv, PHeap.le_refl P, fun b o h => by rw [hsame b (hlt b o h)]; exact hps b o h, hr, ho, by simpa using hnd, fun b hb => ?_, ⟨hle, fun b hb _ => hsame b hb, hos, hout, fun h => by cases h⟩, fun b hb => .inl hb⟩
  have hb : b ∈ fr := by simpa using hb
  refine ⟨?_, (hfr b hb).2, .inr (hfr b hb).1⟩
  cases hp : P b with
  | none => rfl
  | some o => have := hlt b o hp; have := (hfr b hb).1; omega

abbrev strs2 : PTys := .cons (.one (.c .str)) (.cons (.one (.c .str)) .nil)
theorem args2 {P : PHeap} {H : HView} {x : strs2.T} {args : List Value} {fp : List Nat} (h : PTys.Rep P H strs2 x args fp) :
    args = [.string ⟨x.1.toArray⟩, .string ⟨x.2.toArray⟩] ∧ x.1.length < 2 ^ 63 ∧ x.2.length < 2 ^ 63 ∧ fp = [] := by
  obtain ⟨v, vs, f1, f2, rfl, rfl, h1, u, us, g1, g2, rfl, rfl, h2, rfl, rfl⟩ := h
  obtain ⟨k1, rfl⟩ := one_rep.1 h1
  obtain ⟨k2, rfl⟩ := one_rep.1 h2
  have k1 : CT.Rep P .str x.1 v := k1
  have k2 : CT.Rep P .str x.2 u := k2
  obtain ⟨rfl, l1⟩ := str_rep.1 k1
  obtain ⟨rfl, l2⟩ := str_rep.1 k2
  exact ⟨rfl, l1, l2, rfl⟩

/-! ### strings.Cut -/
abbrev cutSig : Sig := ⟨strs2, .cons (.one (.c .str)) (.cons (.one (.c .str)) (.cons (.one (.c .bool)) .nil))⟩
def cutF (x : List UInt8 × List UInt8) : Option ((List UInt8 × List UInt8 × Bool) × Unit) := oite (Nat.blt x.1.length 4294967281) (some (Lib.cut x.1 x.2, ())) none
theorem cut_len (s t : List UInt8) : (Lib.cut s t).1.length ≤ s.length ∧ (Lib.cut s t).2.1.length ≤ s.length := by
  unfold Lib.cut
  split
  · simp; omega
  · simp
theorem cut_ok {f g : Nat} {fn : Func} (hf : Pg.funcs[f]? = some fn) (hname : (fn.name == "runtime.NumGoroutine") = false) (hb : fn.body.isNone = false) (hg : ((Pg.globals[g]?).bind fun d => Pg.underlying d.type) = some (.int .i64))
    (hc : ∀ (s sep : ByteArray) (m : Int) (w : World), s.size < 4294967281 → w.cell? ⟨g, 0, none⟩ = some (.int .i64 m) →
      Calls Pg f #[.string s, .string sep] w fun e w' => e = .returned (.tuple #[.string ⟨(Lib.cut s.data.toList sep.data.toList).1.toArray⟩, .string ⟨(Lib.cut s.data.toList sep.data.toList).2.1.toArray⟩, .bool (Lib.cut s.data.toList sep.data.toList).2.2]) ∧ ∃ n, w' = w.drewN n) :
    FunOK Pg ⟨f, cutSig, cutF⟩ := by
  refine ⟨CallOK.of (fun P W args x fp hgl hps hrep hnd hfp r hr => ?_) rfl, fn, hf, hname, hb⟩
  obtain ⟨rfl, l1, l2, rfl⟩ := args2 hrep
  have hr : oite (Nat.blt x.1.length 4294967281) (some (Lib.cut x.1 x.2, ())) none = some r := hr
  cases hlt : Nat.blt x.1.length 4294967281 with
  | false => rw [hlt] at hr; cases hr
  | true =>
  rw [hlt] at hr
  simp only [oite, Option.some.injEq] at hr
  subst hr
  have hlt : x.1.length < 4294967281 := by simpa [Nat.blt_eq] using hlt
  obtain ⟨d, hg1, hg2⟩ := Option.bind_eq_some_iff.1 hg
  obtain ⟨m, hm⟩ := hgl g d .i64 hg1 hg2
  refine (hc ⟨x.1.toArray⟩ ⟨x.2.toArray⟩ m W hlt (glob_cell hps hm)).mono fun e W' ⟨he, n, hw⟩ => ?_
  subst hw
  obtain ⟨c1, c2⟩ := cut_len x.1 x.2
  refine ⟨_, P, [.string ⟨(Lib.cut x.1 x.2).1.toArray⟩, .string ⟨(Lib.cut x.1 x.2).2.1.toArray⟩, .bool (Lib.cut x.1 x.2).2.2], [], [], he, ?_⟩
  refine done_plain (W' := W.drewN n) (g := ⟨f, cutSig, cutF⟩) (args := [.string ⟨x.1.toArray⟩, .string ⟨x.2.toArray⟩]) (r := (Lib.cut x.1 x.2, ())) hps (Nat.le_refl _) (fun _ _ => rfl) rfl rfl rfl ?_ (by exact rfl) rfl List.nodup_nil (fun b hb => by cases hb)
  refine ⟨_, _, [], [], rfl, rfl, one_rep.2 ⟨str_rep.2 ⟨rfl, by show (Lib.cut x.1 x.2).1.length < _; omega⟩, rfl⟩, _, _, [], [], rfl, rfl, one_rep.2 ⟨str_rep.2 ⟨rfl, by show (Lib.cut x.1 x.2).2.1.length < _; omega⟩, rfl⟩, _, _, [], [], rfl, rfl, one_rep.2 ⟨by simp only [CT.Rep]; rfl, rfl⟩, rfl, rfl⟩

/-! ### strings.Split -/
abbrev strE : CTs := .cons .str .nil
abbrev splitSig : Sig := ⟨strs2, .cons (.one (.row strE)) .nil⟩
def splitF (x : List UInt8 × List UInt8) : Option (List (List UInt8) × Unit) := oite (Nat.blt x.1.length 4294967281 && Nat.blt 0 x.2.length) (some (Lib.split x.1 x.2, ())) none
theorem splitK_len (sep : List UInt8) : ∀ (k : Nat) (s : List UInt8), (Lib.splitK sep 0 k s).length ≤ k + 1 ∧ ∀ p ∈ Lib.splitK sep 0 k s, p.length ≤ s.length
  | 0, s => by simp [Lib.splitK]
  | k + 1, s => by
    unfold Lib.splitK
    split
    · simp
    · obtain ⟨h1, h2⟩ := splitK_len sep k (s.drop ((Lib.index s sep).toNat + sep.length))
      refine ⟨by simp; omega, fun p hp => ?_⟩
      rcases List.mem_cons.1 hp with rfl | hp
      · simp; omega
      · have := h2 p hp; simp at this; omega
theorem split_ok {f g t : Nat} {fn : Func} (hf : Pg.funcs[f]? = some fn) (hname : (fn.name == "runtime.NumGoroutine") = false) (hb : fn.body.isNone = false) (hg : ((Pg.globals[g]?).bind fun d => Pg.underlying d.type) = some (.int .i64))
    (hc : ∀ (s sep : ByteArray) (m : Int) (w : World), s.size < 4294967281 → w.cell? ⟨g, 0, none⟩ = some (.int .i64 m) → 1 ≤ sep.size →
      Calls Pg f #[.string s, .string sep] w fun e w' => e = .returned (.slice (some ⟨w.heap.size, 0, none⟩) (Lib.countB s sep + 1) (Lib.countB s sep + 1)) ∧ w' = w.alloc (.cells ((Lib.splitB sep 0 (Lib.countB s sep) s).map Value.string).toArray t)) :
    FunOK Pg ⟨f, splitSig, splitF⟩ := by
  refine ⟨CallOK.of (fun P W args x fp hgl hps hrep hnd hfp r hr => ?_) rfl, fn, hf, hname, hb⟩
  obtain ⟨rfl, l1, l2, rfl⟩ := args2 hrep
  have hr : oite (Nat.blt x.1.length 4294967281 && Nat.blt 0 x.2.length) (some (Lib.split x.1 x.2, ())) none = some r := hr
  cases hlt : Nat.blt x.1.length 4294967281 && Nat.blt 0 x.2.length with
  | false => rw [hlt] at hr; cases hr
  | true =>
  rw [hlt] at hr
  simp only [oite, Option.some.injEq] at hr
  subst hr
  rw [Bool.and_eq_true] at hlt
  have h1 : x.1.length < 4294967281 := by simpa [Nat.blt_eq] using hlt.1
  have h2 : 0 < x.2.length := by simpa [Nat.blt_eq] using hlt.2
  obtain ⟨d, hg1, hg2⟩ := Option.bind_eq_some_iff.1 hg
  obtain ⟨m, hm⟩ := hgl g d .i64 hg1 hg2
  refine (hc ⟨x.1.toArray⟩ ⟨x.2.toArray⟩ m W h1 (glob_cell hps hm) h2).mono fun e W' ⟨he, hw⟩ => ?_
  subst hw
  have hsp := Lib.splitB_data ⟨x.2.toArray⟩ 0 (Lib.countB ⟨x.1.toArray⟩ ⟨x.2.toArray⟩) ⟨x.1.toArray⟩
  have hsp' : (Lib.splitB ⟨x.2.toArray⟩ 0 (Lib.countB ⟨x.1.toArray⟩ ⟨x.2.toArray⟩) ⟨x.1.toArray⟩).map (·.data.toList) = Lib.split x.1 x.2 := hsp
  obtain ⟨bs, hbs⟩ : ∃ bs, bs = Lib.splitB ⟨x.2.toArray⟩ 0 (Lib.countB ⟨x.1.toArray⟩ ⟨x.2.toArray⟩) ⟨x.1.toArray⟩ := ⟨_, rfl⟩
  rw [← hbs] at hsp'
  rw [← hbs]
  have hlenc : bs.length = Lib.countB ⟨x.1.toArray⟩ ⟨x.2.toArray⟩ + 1 := by rw [hbs]; exact Lib.splitB_all ⟨x.2.toArray⟩ h2 0 _ _ rfl
  have hlen : (Lib.split x.1 x.2).length = bs.length := by rw [← hsp']; simp
  obtain ⟨k1, k2⟩ := splitK_len x.2 (Lib.count x.1 x.2) x.1
  have hcount : Lib.countB ⟨x.1.toArray⟩ ⟨x.2.toArray⟩ ≤ x.1.length := Lib.countB_le ⟨x.2.toArray⟩ h2 x.1.length ⟨x.1.toArray⟩ (Nat.le_refl _)
  rw [← hlenc] at he
  have ha : ∀ o, (W.alloc o).heap = W.heap.push o := fun _ => rfl
  refine ⟨_, P, [.slice (some ⟨W.heap.size, 0, none⟩) bs.length bs.length], [W.heap.size], [], he, ?_⟩
  refine done_plain (W' := W.alloc (.cells (bs.map Value.string).toArray t)) (g := ⟨f, splitSig, splitF⟩) (args := [.string ⟨x.1.toArray⟩, .string ⟨x.2.toArray⟩]) (r := (Lib.split x.1 x.2, ())) hps (by rw [ha]; simp) (fun b hb => by rw [ha, Array.getElem?_push]; simp [Nat.ne_of_lt hb]) rfl rfl rfl ?_ (by exact rfl) rfl (by simp) (fun b hb => by rw [ha]; simp at hb; subst hb; simp)
  refine ⟨_, _, [W.heap.size], [], rfl, rfl, ?_, rfl, rfl⟩
  show OT.Rep P _ (.row strE) (Lib.split x.1 x.2) _ _
  rw [OT.Rep]
  refine .inr ⟨W.heap.size, 0, bs.length, (bs.map Value.string).toArray, t, (0, 0), by rw [hlen], rfl, by show (W.heap.push _)[W.heap.size]? = _; simp, .inl rfl, by omega, by omega, by simp [CTs.size], fun i hi => ?_⟩
  have hi' : i < bs.length := by omega
  have hx : (Lib.split x.1 x.2)[i] = bs[i].data.toList := by
    have : (Lib.split x.1 x.2)[i]? = (bs.map (·.data.toList))[i]? := by rw [hsp']
    rw [List.getElem?_eq_getElem hi, List.getElem?_map, List.getElem?_eq_getElem hi'] at this
    simpa using this
  simp only [CTs.Rep, CTs.hd]
  refine ⟨⟨.string bs[i], by simp [CTs.size, hi'], str_rep.2 ⟨?_, ?_⟩⟩, trivial⟩
  · rw [hx]
  · have := k2 _ (List.getElem_mem hi)
    have : (Lib.split x.1 x.2)[i].length ≤ x.1.length := this
    omega

/-! ### strings.Join -/
abbrev joinSig : Sig := ⟨.cons (.one (.c (.ro strE))) (.cons (.one (.c .str)) .nil), .cons (.one (.c .str)) .nil⟩
def joinF (x : List (List UInt8) × List UInt8) : Option (List UInt8 × Unit) := oite (Nat.ble x.1.length 140737488355328 && Nat.ble (Lib.join x.1 x.2).length 140737488355328) (some (Lib.join x.1 x.2, ())) none
theorem join_ok {f : Nat} {fn : Func} (hf : Pg.funcs[f]? = some fn) (hname : (fn.name == "runtime.NumGoroutine") = false) (hb : fn.body.isNone = false)
    (h0 : ∀ (a : Option Addr) (c : Nat) (sep : ByteArray) (w : World), Calls Pg f #[.slice a 0 c, .string sep] w fun e w' => e = .returned (.string ⟨#[]⟩) ∧ w' = w)
    (hc : ∀ (bk o c : Nat) (xs : List ByteArray) (sep : ByteArray) (w : World), (∀ (j : Nat) x, xs[j]? = some x → w.cell? ⟨bk, o + j, none⟩ = some (.string x)) → bk < w.heap.size → xs.length ≤ 140737488355328 → xs.length ≤ c →
      (Lib.join (xs.map (·.data.toList)) sep.data.toList).length ≤ 140737488355328 →
      Calls Pg f #[.slice (some ⟨bk, o, none⟩) xs.length c, .string sep] w fun e w' => e = .returned (.string ⟨(Lib.join (xs.map (·.data.toList)) sep.data.toList).toArray⟩) ∧ RowKit.Below w.heap.size w w') :
    FunOK Pg ⟨f, joinSig, joinF⟩ := by
  refine ⟨CallOK.of (fun P W args x fp hgl hps hrep hnd hfp r hr => ?_) rfl, fn, hf, hname, hb⟩
  obtain ⟨v, vs, f1, f2, rfl, rfl, q1, u, us, g1, g2, rfl, rfl, q2, rfl, rfl⟩ := hrep
  obtain ⟨p1, rfl⟩ := one_rep.1 q1
  obtain ⟨p2, rfl⟩ := one_rep.1 q2
  have p2 : CT.Rep P .str x.2 u := p2
  obtain ⟨rfl, l2⟩ := str_rep.1 p2
  have hr : oite (Nat.ble x.1.length 140737488355328 && Nat.ble (Lib.join x.1 x.2).length 140737488355328) (some (Lib.join x.1 x.2, ())) none = some r := hr
  cases hlt : Nat.ble x.1.length 140737488355328 && Nat.ble (Lib.join x.1 x.2).length 140737488355328 with
  | false => rw [hlt] at hr; cases hr
  | true =>
  rw [hlt] at hr
  simp only [oite, Option.some.injEq] at hr
  subst hr
  rw [Bool.and_eq_true] at hlt
  have h1 := Nat.le_of_ble_eq_true hlt.1
  have h2 := Nat.le_of_ble_eq_true hlt.2
  have p1 : CT.Rep P (.ro strE) x.1 v := p1
  simp only [CT.Rep] at p1
  obtain ⟨a, cap, rfl, k2, k3, k4, k5⟩ := p1
  have fin : ∀ (e : Ending) (W' : World), e = .returned (.string ⟨(Lib.join x.1 x.2).toArray⟩) → W.heap.size ≤ W'.heap.size → (∀ b, b < W.heap.size → W'.heap[b]? = W.heap[b]?) → W'.os = W.os → W'.output = W.output →
      ∃ v P' vs fr fo, e = .returned v ∧ Done W P [] ⟨f, joinSig, joinF⟩ [.slice a x.1.length cap, .string ⟨x.2.toArray⟩] (Lib.join x.1 x.2, ()) v W' P' vs fr fo := by
    intro e W' he e1 e2 e3 e4
    refine ⟨_, P, [.string ⟨(Lib.join x.1 x.2).toArray⟩], [], [], he, ?_⟩
    refine done_plain (W' := W') (g := ⟨f, joinSig, joinF⟩) (args := [.slice a x.1.length cap, .string ⟨x.2.toArray⟩]) (r := (Lib.join x.1 x.2, ())) hps e1 e2 e3 e4 rfl ?_ (by exact rfl) rfl List.nodup_nil (fun b hb => by cases hb)
    exact ⟨_, _, [], [], rfl, rfl, one_rep.2 ⟨str_rep.2 ⟨rfl, by show (Lib.join x.1 x.2).length < _; omega⟩, rfl⟩, rfl, rfl⟩
  by_cases hz : x.1.length = 0
  · have hnil : x.1 = [] := List.eq_nil_of_length_eq_zero hz
    have hj : Lib.join x.1 x.2 = [] := by rw [hnil]; rfl
    rw [hz]
    rw [hz] at fin
    exact (h0 a cap ⟨x.2.toArray⟩ W).mono fun e W' ⟨he, hw⟩ => by
      subst hw
      exact fin e _ (by rw [he, hj]) (Nat.le_refl _) (fun _ _ => rfl) rfl rfl
  · cases a with
    | none => have := k4 rfl; omega
    | some ad =>
      obtain ⟨k5, k6⟩ := k5 ad rfl
      have hsp := k5 (by omega)
      obtain ⟨bk, o, sp⟩ := ad
      simp only at hsp k6
      subst hsp
      have hcell : ∀ (j : Nat) (hj : j < x.1.length), W.cell? ⟨bk, o + j, none⟩ = some (.string ⟨x.1[j].toArray⟩) := fun j hj => by
        have := k6 j hj
        simp only [CTs.Rep, CTs.hd] at this
        obtain ⟨⟨v, hv, hvr⟩, _⟩ := this
        obtain ⟨rfl, _⟩ := str_rep.1 hvr
        have hv' : P.cell bk (o + j) = some (.string ⟨x.1[j].toArray⟩) := by simpa [CTs.size] using hv
        exact glob_cell hps hv'
      have hbk : bk < W.heap.size := by
        have := hcell 0 (by omega)
        rcases Nat.lt_or_ge bk W.heap.size with h | h
        · exact h
        · simp [World.cell?, Array.getElem?_eq_none h] at this
      have hxs : (x.1.map fun s => (⟨s.toArray⟩ : ByteArray)).map (·.data.toList) = x.1 := by
        rw [List.map_map]
        have : ((fun b : ByteArray => b.data.toList) ∘ fun s : List UInt8 => (⟨s.toArray⟩ : ByteArray)) = id := by funext s; rfl
        rw [this, List.map_id]
      have := hc bk o cap (x.1.map fun s => (⟨s.toArray⟩ : ByteArray)) ⟨x.2.toArray⟩ W (fun j y hy => by
        rw [List.getElem?_map] at hy
        cases hj : x.1[j]? with
        | none => rw [hj] at hy; cases hy
        | some s =>
          rw [hj] at hy
          simp only [Option.map_some, Option.some.injEq] at hy
          subst hy
          obtain ⟨hj', rfl⟩ := List.getElem?_eq_some_iff.1 hj
          exact hcell j hj') hbk (by simpa using h1) (by simpa using k2) (by rw [hxs]; exact h2)
      rw [hxs, List.length_map] at this
      exact this.mono fun e W' ⟨he, hw⟩ => fin e W' he hw.size hw.block hw.os hw.output
end
end Go.Sx
