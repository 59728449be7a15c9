/- A walk of Go code by plain functions is sound. -/
import Derived.Test.YtegncnhhofbmiaaSxLaw
import Derived.RowKit
import Derived.Shelf.Vars
namespace Go.Sx
open Go.ChangeShapes Go.WideShapes Go.RowKit

def notRow (P : Program) (t : TypeId) : Bool := match P.underlying t with | some (.struct _) => false | some (.array _ _) => false | some _ => true | none => false
def isRow (P : Program) (t : TypeId) : Bool := match P.underlying t with | some (.struct _) => true | _ => false
def endsC (r : Option CTs) : Bool := match r with | some .nil => true | _ => false
def ptyFits (P : Program) (t : TypeId) : PTy → Bool
  | .one (.c ct) => notRow P t && endsC (consume P 30 t (.cons ct .nil))
  | .agg e => isRow P t && Nat.beq e.size (P.cellsOf t) && endsC (consume P 30 t e)
  | _ => false
def ptysFit (P : Program) : List TypeId → PTys → Bool
  | [], .nil => true
  | t :: ts, .cons p ps => ptyFits P t p && ptysFit P ts ps
  | _, _ => false
def arrFits (P : Program) (t : TypeId) : PTy → Bool
  | .agg e => match P.underlying t with
    | some (.array n et) => Nat.beq e.size (P.cellsOf t) && Nat.beq (P.cellsOf t) (n * P.cellsOf et) && endsC (stepA (consume P 30 et) n e)
    | _ => false
  | _ => false
def ptysFitA (P : Program) : List TypeId → PTys → Bool
  | [], .nil => true
  | t :: ts, .cons p ps => (ptyFits P t p || arrFits P t p) && ptysFitA P ts ps
  | _, _ => false
theorem endsC_eq {r : Option CTs} (h : endsC r = true) : r = some .nil := by
  unfold endsC at h
  split at h
  · rfl
  · cases h

section
variable {H : Type} {enc : TypeId × Value → H} {P : Program} {W : World} {base : Nat}

theorem pty_reads {r : Reach} {b0 : Nat} {t : TypeId} {p : PTy} (hf : ptyFits P t p = true) {v : Value} (hval : Value.okWide P W r b0 t v) {d : DataW H} {ps : List MemPlace}
    (h : DataW.Trod enc P W base (fun _ => true) true t v d ps) : ∃ x : p.T, PTy.Rep (World.view W) (World.view W) p x v [] := by
  obtain ⟨fuel, h⟩ := h
  cases p with
  | one o =>
    cases o with
    | c ct =>
      simp only [ptyFits, Bool.and_eq_true] at hf
      obtain ⟨h1, h2⟩ := hf
      have hc := endsC_eq h2
      have hnot : ∀ cs, v ≠ .agg cs := by
        intro cs e
        subst e
        unfold notRow at h1
        unfold Value.okWide at hval
        split at h1
        · cases h1
        · cases h1
        · rename_i td hns hna hu
          rw [hu] at hval
          cases td <;> simp_all [Cell.okWide, Cell.ok]
        · cases h1
      have hcells : v.cells.toList = [v] := by
        cases v <;> first | rfl | exact absurd rfl (hnot _)
      rw [hcells] at h
      obtain ⟨x, hx⟩ := consume_reads 30 t _ _ hc fuel _ _ h (fun _ => none) () (by simp [CTs.Rep])
      simp only [CTs.Rep] at hx
      obtain ⟨⟨w, hw, hr⟩, _⟩ := hx
      simp at hw
      subst hw
      refine ⟨CTs.hd ct .nil x, ?_⟩
      show OT.Rep (World.view W) (World.view W) (.c ct) _ _ _
      rw [OT.Rep]
      exact ⟨hr, rfl⟩
    | row e => simp [ptyFits] at hf
    | ptr e => simp [ptyFits] at hf
    | map k u => simp [ptyFits] at hf
    | ptrA a b c d => simp [ptyFits] at hf
  | oagg e => simp [ptyFits] at hf
  | mv e => simp [ptyFits] at hf
  | mvr e => simp [ptyFits] at hf
  | rs off e => simp [ptyFits] at hf
  | agg e =>
    simp only [ptyFits, Bool.and_eq_true] at hf
    obtain ⟨⟨h1, h2⟩, h3⟩ := hf
    have hc := endsC_eq h3
    have hz := nbeq_true h2
    have hrow : ∃ cs, v = .agg cs ∧ cs.size = P.cellsOf t := by
      unfold isRow at h1
      unfold Value.okWide at hval
      split at h1
      · rename_i fs hu
        rw [hu] at hval
        obtain ⟨cs, e1, e2, _⟩ := hval
        exact ⟨cs, e1, e2⟩
      · cases h1
    obtain ⟨cs, rfl, hcs⟩ := hrow
    have hcells : (Value.agg cs).cells.toList = cs.toList := rfl
    rw [hcells] at h
    obtain ⟨x, hx⟩ := consume_reads 30 t _ _ hc fuel _ _ h (fun _ => none) () (by simp [CTs.Rep])
    refine ⟨x, cs, rfl, by omega, CTs.Rep.mono (PHeap.le_refl _) e _ _ _ (fun j v hv => ?_) hx, rfl⟩
    by_cases hj : j < cs.toList.length
    · rw [if_pos hj] at hv; simpa using hv
    · rw [if_neg hj] at hv; cases hv

theorem arr_reads {r : Reach} {b0 : Nat} {t : TypeId} {p : PTy} (hf : arrFits P t p = true) {v : Value} (hval : Value.okWide P W r b0 t v) {d : DataW H} {ps : List MemPlace}
    (h : DataW.Trod enc P W base (fun _ => true) true t v d ps) : ∃ x : p.T, PTy.Rep (World.view W) (World.view W) p x v [] := by
  obtain ⟨fuel, h⟩ := h
  cases p with
  | one o => simp [arrFits] at hf
  | oagg e => simp [arrFits] at hf
  | mv e => simp [arrFits] at hf
  | mvr e => simp [arrFits] at hf
  | rs off e => simp [arrFits] at hf
  | agg e =>
    simp only [arrFits] at hf
    split at hf
    · rename_i n et hu
      simp only [Bool.and_eq_true] at hf
      obtain ⟨⟨h1, h2⟩, h3⟩ := hf
      have hz := nbeq_true h1
      have hz2 := nbeq_true h2
      have hc := endsC_eq h3
      have hrow : ∃ cs, v = .agg cs ∧ cs.size = P.cellsOf t := by
        unfold Value.okWide at hval
        rw [hu] at hval
        obtain ⟨cs, e1, e2, _⟩ := hval
        exact ⟨cs, e1, e2⟩
      obtain ⟨cs, rfl, hcs⟩ := hrow
      have hcells : (Value.agg cs).cells.toList = cs.toList := rfl
      rw [hcells] at h
      obtain ⟨xs, m, hfuel, hx0, hl, hxl, hget⟩ := DataW.trod_array hu h
      have hall := stepA_reads (W := W) (cs := cs.toList) (sz := P.cellsOf et) n 0 e .nil hc (fun i hi e r hc => by
        have h1 := hget i (by omega)
        rw [List.getElem?_eq_getElem (by omega)] at h1
        exact consume_reads 30 et e r hc _ _ _ h1)
      have e1 : (cs.toList.drop (0 * P.cellsOf et)).take (n * P.cellsOf et) = cs.toList := by
        rw [Nat.zero_mul, List.drop_zero, List.take_of_length_le (by omega)]
      rw [e1] at hall
      obtain ⟨x, hx⟩ := hall (fun _ => none) () (by simp [CTs.Rep])
      refine ⟨x, cs, rfl, by omega, CTs.Rep.mono (PHeap.le_refl _) e _ _ _ (fun j v hv => ?_) hx, rfl⟩
      by_cases hj : j < cs.toList.length
      · rw [if_pos hj] at hv; simpa using hv
      · rw [if_neg hj] at hv; cases hv
    · cases hf
theorem ptys_read {r : Reach} {b0 : Nat} : ∀ {ts : List TypeId} {ps : PTys} (_ : ptysFitA P ts ps = true) {vs : List Value} {ds : List (DataW H)} {pl : List MemPlace}
    (_ : ∀ (j : Nat) t v, ts[j]? = some t → vs[j]? = some v → Value.okWide P W r b0 t v) (_ : DataW.TrodAll enc P W base (fun _ => true) true ts vs ds pl), ∃ x : ps.T, PTys.Rep (World.view W) (World.view W) ps x vs []
  | [], .nil, _, vs, ds, pl, _, h => by
    obtain ⟨rfl, _, _⟩ := trodAll_nil h
    exact ⟨(), rfl, rfl⟩
  | t :: ts, .cons p ps, hf, vs, ds, pl, hv, h => by
    obtain ⟨v, vs', d, ds', a, b, rfl, rfl, rfl, h1, h2⟩ := trodAll_cons h
    simp only [ptysFitA, Bool.and_eq_true, Bool.or_eq_true] at hf
    obtain ⟨x, hx⟩ : ∃ x : p.T, PTy.Rep (World.view W) (World.view W) p x v [] := by
      rcases hf.1 with hf | hf
      · exact pty_reads hf (hv 0 t v rfl rfl) h1
      · exact arr_reads hf (hv 0 t v rfl rfl) h1
    obtain ⟨y, hy⟩ := ptys_read hf.2 (fun j t v h3 h4 => hv (j + 1) t v (by simpa using h3) (by simpa using h4)) h2
    refine ⟨PTys.mk p ps x y, v, vs', [], [], rfl, rfl, ?_, ?_⟩
    · simpa only [PTys.hd_mk] using hx
    · simpa only [PTys.tl_mk] using hy
  | [], .cons _ _, h, _, _, _, _, _ => by simp [ptysFitA] at h
  | _ :: _, .nil, h, _, _, _, _, _ => by simp [ptysFitA] at h

theorem ext_same {W W' : World} (h : Ext [] W W') {b : Nat} (hb : b < W.heap.size) : W'.heap[b]? = W.heap[b]? := h.same b hb (by simp)
theorem ext_kept {W W' : World} (h : Ext [] W W') (may : MemPlace → Prop) : W.keptBut W' may := by
  refine ⟨h.os, h.out, fun i hi => ?_⟩
  rw [ext_same h hi]
  cases W.heap[i]? with
  | none => rfl
  | some o =>
    cases o with
    | cells c t f => exact ⟨rfl, rfl, rfl, fun _ _ => rfl⟩
    | map es c => exact .inr ⟨rfl, rfl⟩
    | _ => rfl
theorem ext_sameAt {W W' : World} (h : Ext [] W W') {p : MemPlace} (hp : p.block < W.heap.size) : W.sameAt W' p := by
  cases p with
  | cell b off =>
    have := ext_same h (b := b) hp
    simp only [World.sameAt, World.cell?, this]
  | map b => exact ext_same h hp
theorem ext_frozen {W W' : World} (h : Ext [] W W') {b off : Nat} (hb : b < W.heap.size) : W'.frozen? ⟨b, off, none⟩ = W.frozen? ⟨b, off, none⟩ := by
  simp only [World.frozen?, ext_same h hb]

theorem trodAll_stays {ts : List TypeId} (hl : laidOutB P = true) (hr : ∀ t ∈ ts, P.readableRec t = true ∧ t < P.types.size) {W W' : World} {sp : Nat → Bool} : ∀ {vs : List Value} {ds : List (DataW H)} {ps : List MemPlace},
    DataW.TrodAll enc P W base (fun _ => true) true ts vs ds ps → (∀ p ∈ ps, W.sameAt W' p) → (∀ p ∈ ps, sp p.block = true) → DataW.TrodAll enc P W' base sp true ts vs ds ps := by
  induction ts with
  | nil => intro vs ds ps h _ _; obtain ⟨rfl, rfl, rfl⟩ := trodAll_nil h; exact rfl
  | cons t ts ih =>
    intro vs ds ps h h1 h2
    obtain ⟨v, vs', d, ds', a, b, rfl, rfl, rfl, h3, h4⟩ := trodAll_cons h
    exact ⟨a, b, WideElems.Trod_stays hl (hr t List.mem_cons_self).1 (hr t List.mem_cons_self).2 h3 (fun p hp => h1 p (List.mem_append_left _ hp)) (fun p hp => h2 p (List.mem_append_left _ hp)),
      ih (fun t ht => hr t (List.mem_cons_of_mem _ ht)) h4 (fun p hp => h1 p (List.mem_append_right _ hp)) (fun p hp => h2 p (List.mem_append_right _ hp)), rfl⟩

theorem trodAll_length : ∀ {ts : List TypeId} {vs : List Value} {ds : List (DataW H)} {ps : List MemPlace} {sp : Nat → Bool}, DataW.TrodAll enc P W base sp true ts vs ds ps → ds.length = ts.length
  | [], _, _, _, _, h => by obtain ⟨_, rfl, _⟩ := trodAll_nil h; rfl
  | _ :: _, _, _, _, _, h => by
    obtain ⟨v, vs', d, ds', a, b, rfl, rfl, rfl, h3, h4⟩ := trodAll_cons h
    simp [trodAll_length h4]

/-! What lies in memory is of a size that memory has. -/
mutual
def CT.fits : (t : CT) → t.T → Prop
  | .int _, _ => True
  | .bool, _ => True
  | .str, s => s.length < 2 ^ 63
  | .rop _, _ => True
  | .rom _ _, _ => True
  | .fn _, _ => True
  | .ro e, xs => xs.length < 2 ^ 63 ∧ ∀ i (h : i < xs.length), CTs.fits e xs[i]
def CTs.fits : (e : CTs) → e.T → Prop
  | .nil, _ => True
  | .cons t ts, x => CT.fits t (CTs.hd t ts x) ∧ CTs.fits ts (CTs.tl t ts x)
end
mutual
theorem CT.Rep.fits {P : PHeap} : ∀ (t : CT) (x : t.T) (v : Value), t.Rep P x v → t.fits x
  | .int _, _, _, _ => by simp [CT.fits]
  | .bool, _, _, _ => by simp [CT.fits]
  | .str, s, _, h => by simp only [CT.Rep] at h; simp only [CT.fits]; exact h.2
  | .rop _, _, _, _ => by simp only [CT.fits]
  | .rom _ _, _, _, _ => by simp only [CT.fits]
  | .fn _, _, _, _ => by simp only [CT.fits]
  | .ro e, xs, v, h => by
    simp only [CT.Rep] at h
    obtain ⟨a, cap, h1, h2, h3, h4, h5⟩ := h
    simp only [CT.fits]
    refine ⟨by omega, fun i hi => ?_⟩
    cases a with
    | none => have := h4 rfl; omega
    | some ad => exact CTs.Rep.fits e _ _ ((h5 ad rfl).2 i hi)
theorem CTs.Rep.fits {P : PHeap} : ∀ (e : CTs) (x : e.T) (f : Nat → Option Value), e.Rep P x f → e.fits x
  | .nil, _, _, _ => by simp [CTs.fits]
  | .cons t ts, x, f, h => by
    simp only [CTs.Rep] at h
    obtain ⟨⟨v, _, h1⟩, h2⟩ := h
    simp only [CTs.fits]
    exact ⟨CT.Rep.fits t _ _ h1, CTs.Rep.fits ts _ _ h2⟩
end
def PTy.fits : (t : PTy) → t.T → Prop
  | .one (.c t), x => CT.fits t x
  | .one (.row _), _ => True
  | .one (.ptr _), _ => True
  | .one (.map _ _), _ => True
  | .one (.ptrA _ _ _ _), _ => True
  | .agg e, x => CTs.fits e x
  | .oagg _, _ => True
  | .mv _, _ => True
  | .mvr _, _ => True
  | .rs _ _, _ => True
def PTys.fits : (ps : PTys) → ps.T → Prop
  | .nil, _ => True
  | .cons t ts, x => PTy.fits t (PTys.hd t ts x) ∧ PTys.fits ts (PTys.tl t ts x)
theorem PTys.Rep.fits {P : PHeap} {Hv : HView} : ∀ (ps : PTys) (x : ps.T) (vs : List Value) (fp : List Nat), PTys.Rep P Hv ps x vs fp → ps.fits x
  | .nil, _, _, _, _ => trivial
  | .cons t ts, x, vs, fp, h => by
    simp only [PTys.Rep] at h
    obtain ⟨v, vs', f1, f2, _, _, h3, h4⟩ := h
    refine ⟨?_, PTys.Rep.fits ts _ _ _ h4⟩
    cases t with
    | one t =>
      cases t with
      | c t => simp only [PTy.Rep, OT.Rep] at h3; exact CT.Rep.fits t _ _ h3.1
      | row e => trivial
      | ptr e => trivial
      | map k u => trivial
      | ptrA a b c d => trivial
    | oagg e => trivial
    | mv e => trivial
    | mvr e => trivial
    | rs off e => trivial
    | agg e => obtain ⟨cs, _, _, h, _⟩ := h3; exact CTs.Rep.fits e _ _ h

/-! The package-level variables that hold one integer: what a row says of its worlds. -/
def globB (P : Program) : Bool := (List.range P.globals.size).all fun g => match P.globals[g]? with
  | some d => match P.underlying d.type with
    | some (.int _) => match ((begin P (fun _ _ => 0) default).world.heap[g]?).bind Obj.row? with
      | some (zero, t) => Nat.beq t d.type && (Nat.beq zero.size 1 && (P.buildable t && match P.cellTypes P.depth t with | some [u] => Nat.beq u t | _ => false))
      | none => false
    | _ => true
  | none => true
theorem Glob.shaped (h : W.ShapedOpen P) (hb : globB P = true) : Glob P (World.view W) := by
  intro g d k hd hu
  have hg : g < P.globals.size := by
    rcases Nat.lt_or_ge g P.globals.size with h | h
    · exact h
    · rw [Array.getElem?_eq_none h] at hd; cases hd
  have h1 := List.all_eq_true.1 hb g (List.mem_range.2 hg)
  rw [hd] at h1
  simp only [hu] at h1
  split at h1
  · rename_i zero t h0
    simp only [Bool.and_eq_true] at h1
    obtain ⟨h2, h3, h4, h5⟩ := h1
    have h2 := nbeq_true h2
    subst h2
    have hc : P.cellTypes P.depth d.type = some [d.type] := by
      split at h5
      · rename_i u hu'; rw [hu', nbeq_true h5]
      · cases h5
    obtain ⟨m, hm⟩ := Proofs.cell_of_shapedOpen_int h hg h0 (nbeq_true h3) h4 hc hu
    exact ⟨m, (cell_plain hm).2⟩
  · cases h1

theorem law_calls {f : Nat} {fn : Func} {ps : PTys} {F : ps.T → Option ((PTys.cons (.one (.c .bool)) .nil).T × ps.outs.T)} (hcon : Contract P ⟨f, ⟨ps, .cons (.one (.c .bool)) .nil⟩, F⟩)
    (hF : ∀ x, ∃ y, F x = some y ∧ PTys.hd (.one (.c .bool)) .nil y.1 = true)
    {tb : TypeId} (hres : fn.resultTypes = #[tb]) (htb : P.underlying tb = some .bool) (hfit : ptysFitA P fn.params.toList ps = true)
    (hl : laidOutB P = true) (hr : (fn.params.toList.all fun t => P.readableRec t && Nat.blt t P.types.size) = true)
    {s : ChangeSpec} (hsv : s.vars = []) (hs : ∀ ds : List (DataW H), ds.length = fn.params.toList.length → s.fn H ds = { results := [.lit (.bool true)], args := ds }) {apart fresh handsOn again : Bool} :
    ∀ (W : World) (base : Nat) (args : Array Value) (ds gs : List (DataW H)) (before : List MemPlace),
      (∀ (j : Nat) t v, fn.params[j]? = some t → args[j]? = some v → Value.okWide P W .any base t v) → DataW.Whole enc P fn.params.toList s.vars apart W args.toList ds gs before → Glob P (World.view W) →
      Calls P f args W fun e W' => ∃ v, e = .returned v ∧ s.post enc P fn apart fresh handsOn again W args v W' := by
  intro W base args ds gs before hval hW hgl
  have hW0 := hW
  obtain ⟨p, q, hA, hV, rfl, hz, hn⟩ := hW
  have hgs : gs = [] ∧ q = [] := by
    rw [hsv] at hV
    cases gs with
    | nil => exact ⟨rfl, hV⟩
    | cons g gs => exact hV.elim
  obtain ⟨rfl, rfl⟩ := hgs
  obtain ⟨x, hx⟩ := ptys_read hfit (fun j t v h1 h2 => hval j t v (by simpa using h1) (by simpa using h2)) hA
  obtain ⟨y, hy, hy1⟩ := hF x
  have hlt := hW0.lt
  refine (hcon (World.view W) W args.toList x [] hgl (fun b o h => h) hx List.nodup_nil (by simp) y hy).mono fun e W' ⟨v, P', vs, fr, fo, he, D⟩ => ⟨v, he, ?_⟩
  have hext := D.ext
  have hvs : v = .bool true := by
    obtain ⟨w, vs', f1, f2, h1, h2, h3, h4⟩ := D.res
    obtain ⟨h4, h5⟩ := h4
    subst h4
    have h3 : OT.Rep P' (World.view W') (.c .bool) (PTys.hd (.one (.c .bool)) .nil y.1) w f1 := h3
    rw [OT.Rep] at h3
    have h3 := h3.1
    rw [hy1] at h3
    have h3 : w = .bool true := by simpa [CT.Rep] using h3
    rw [D.val, h1, h3]; rfl
  subst hvs
  have hdl : ds.length = fn.params.toList.length := trodAll_length hA
  have hfn := hs ds hdl
  have hr' : ∀ t ∈ fn.params.toList, P.readableRec t = true ∧ t < P.types.size := fun t ht => by
    have := List.all_eq_true.1 hr t ht
    rw [Bool.and_eq_true] at this
    exact ⟨this.1, Nat.le_of_ble_eq_true this.2⟩
  have hargs : ∀ sp : Nat → Bool, (∀ x ∈ p, sp x.block = true) → DataW.TrodAll enc P W' 0 sp true fn.params.toList args.toList ds p := fun sp hsp =>
    trodAll_stays hl hr' hA (fun x hx => ext_sameAt hext (hlt x (by simp [hx]))) hsp
  have hbool : ∀ (b : Nat) (sp : Nat → Bool) (hd : Bool), DataW.TrodAll enc P W' b sp hd fn.resultTypes.toList ((Value.bool true).resultList fn.resultTypes.size) [.lit (.bool true)] [] := by
    intro b sp hd
    rw [hres]
    exact ⟨[], [], shut_bool htb true, rfl, rfl⟩
  rw [List.append_nil] at hW0 hlt
  refine ⟨ds, [], p, [], p, [], hW0, ?_, ?_, ?_, World.keptBut_mono (fun x hx => ⟨hx, .inr (.inl hx)⟩) (ext_kept hext (· ∈ p)), fun _ => ?_⟩
  · rw [List.append_nil, hfn]; exact hbool _ _ _
  · rw [List.append_nil, hfn]; exact hargs _ (fun x hx => by simpa using hlt x hx)
  · rw [List.append_nil, hfn, hsv]; exact rfl
  · refine ⟨?_, ?_⟩
    · intro j t r h1 h2
      rw [hres] at h1 h2
      cases j with
      | zero =>
        simp at h1; subst h1
        have h2 : [Value.bool true][0]? = some r := h2
        simp at h2; subst h2
        exact okWide_bool_mk htb true
      | succ j => simp at h1
    · refine ⟨_, [], [] ++ p, ⟨[] ++ p, [], trodAll_append (hargs _ (fun _ _ => rfl)) (hbool 0 (fun _ => true) true), by rw [hsv]; exact rfl, by simp, ?_, ?_⟩, ?_⟩
      · intro b off hp
        have hp : MemPlace.cell b off ∈ p := by simpa using hp
        rw [ext_frozen (b := b) hext (hlt _ hp)]
        exact hz b off (by simpa using hp)
      · intro ha
        simpa using hn ha
      · intro x hx _
        simpa using hx
theorem law_calls_fits {f : Nat} {fn : Func} {ps : PTys} {F : ps.T → Option ((PTys.cons (.one (.c .bool)) .nil).T × ps.outs.T)} (hcon : Contract P ⟨f, ⟨ps, .cons (.one (.c .bool)) .nil⟩, F⟩)
    (hF : ∀ x, ps.fits x → ∃ y, F x = some y ∧ PTys.hd (.one (.c .bool)) .nil y.1 = true)
    {tb : TypeId} (hres : fn.resultTypes = #[tb]) (htb : P.underlying tb = some .bool) (hfit : ptysFitA P fn.params.toList ps = true)
    (hl : laidOutB P = true) (hr : (fn.params.toList.all fun t => P.readableRec t && Nat.blt t P.types.size) = true)
    {s : ChangeSpec} (hsv : s.vars = []) (hs : ∀ ds : List (DataW H), ds.length = fn.params.toList.length → s.fn H ds = { results := [.lit (.bool true)], args := ds }) {apart fresh handsOn again : Bool} :
    ∀ (W : World) (base : Nat) (args : Array Value) (ds gs : List (DataW H)) (before : List MemPlace),
      (∀ (j : Nat) t v, fn.params[j]? = some t → args[j]? = some v → Value.okWide P W .any base t v) → DataW.Whole enc P fn.params.toList s.vars apart W args.toList ds gs before → Glob P (World.view W) →
      Calls P f args W fun e W' => ∃ v, e = .returned v ∧ s.post enc P fn apart fresh handsOn again W args v W' := by
  intro W base args ds gs before hval hW hgl
  have hW0 := hW
  obtain ⟨p, q, hA, hV, rfl, hz, hn⟩ := hW
  have hgs : gs = [] ∧ q = [] := by
    rw [hsv] at hV
    cases gs with
    | nil => exact ⟨rfl, hV⟩
    | cons g gs => exact hV.elim
  obtain ⟨rfl, rfl⟩ := hgs
  obtain ⟨x, hx⟩ := ptys_read hfit (fun j t v h1 h2 => hval j t v (by simpa using h1) (by simpa using h2)) hA
  obtain ⟨y, hy, hy1⟩ := hF x (PTys.Rep.fits ps x _ _ hx)
  have hlt := hW0.lt
  refine (hcon (World.view W) W args.toList x [] hgl (fun b o h => h) hx List.nodup_nil (by simp) y hy).mono fun e W' ⟨v, P', vs, fr, fo, he, D⟩ => ⟨v, he, ?_⟩
  have hext := D.ext
  have hvs : v = .bool true := by
    obtain ⟨w, vs', f1, f2, h1, h2, h3, h4⟩ := D.res
    obtain ⟨h4, h5⟩ := h4
    subst h4
    have h3 : OT.Rep P' (World.view W') (.c .bool) (PTys.hd (.one (.c .bool)) .nil y.1) w f1 := h3
    rw [OT.Rep] at h3
    have h3 := h3.1
    rw [hy1] at h3
    have h3 : w = .bool true := by simpa [CT.Rep] using h3
    rw [D.val, h1, h3]; rfl
  subst hvs
  have hdl : ds.length = fn.params.toList.length := trodAll_length hA
  have hfn := hs ds hdl
  have hr' : ∀ t ∈ fn.params.toList, P.readableRec t = true ∧ t < P.types.size := fun t ht => by
    have := List.all_eq_true.1 hr t ht
    rw [Bool.and_eq_true] at this
    exact ⟨this.1, Nat.le_of_ble_eq_true this.2⟩
  have hargs : ∀ sp : Nat → Bool, (∀ x ∈ p, sp x.block = true) → DataW.TrodAll enc P W' 0 sp true fn.params.toList args.toList ds p := fun sp hsp =>
    trodAll_stays hl hr' hA (fun x hx => ext_sameAt hext (hlt x (by simp [hx]))) hsp
  have hbool : ∀ (b : Nat) (sp : Nat → Bool) (hd : Bool), DataW.TrodAll enc P W' b sp hd fn.resultTypes.toList ((Value.bool true).resultList fn.resultTypes.size) [.lit (.bool true)] [] := by
    intro b sp hd
    rw [hres]
    exact ⟨[], [], shut_bool htb true, rfl, rfl⟩
  rw [List.append_nil] at hW0 hlt
  refine ⟨ds, [], p, [], p, [], hW0, ?_, ?_, ?_, World.keptBut_mono (fun x hx => ⟨hx, .inr (.inl hx)⟩) (ext_kept hext (· ∈ p)), fun _ => ?_⟩
  · rw [List.append_nil, hfn]; exact hbool _ _ _
  · rw [List.append_nil, hfn]; exact hargs _ (fun x hx => by simpa using hlt x hx)
  · rw [List.append_nil, hfn, hsv]; exact rfl
  · refine ⟨?_, ?_⟩
    · intro j t r h1 h2
      rw [hres] at h1 h2
      cases j with
      | zero =>
        simp at h1; subst h1
        have h2 : [Value.bool true][0]? = some r := h2
        simp at h2; subst h2
        exact okWide_bool_mk htb true
      | succ j => simp at h1
    · refine ⟨_, [], [] ++ p, ⟨[] ++ p, [], trodAll_append (hargs _ (fun _ _ => rfl)) (hbool 0 (fun _ => true) true), by rw [hsv]; exact rfl, by simp, ?_, ?_⟩, ?_⟩
      · intro b off hp
        have hp : MemPlace.cell b off ∈ p := by simpa using hp
        rw [ext_frozen (b := b) hext (hlt _ hp)]
        exact hz b off (by simpa using hp)
      · intro ha
        simpa using hn ha
      · intro x hx _
        simpa using hx
theorem law_calls_any {f : Nat} {fn : Func} {ps : PTys} {F : Nat → ps.T → Option ((PTys.cons (.one (.c .bool)) .nil).T × ps.outs.T)} (hcon : ∀ n, Contract P ⟨f, ⟨ps, .cons (.one (.c .bool)) .nil⟩, F n⟩)
    (hF : ∀ x, ps.fits x → ∃ n y, F n x = some y ∧ PTys.hd (.one (.c .bool)) .nil y.1 = true)
    {tb : TypeId} (hres : fn.resultTypes = #[tb]) (htb : P.underlying tb = some .bool) (hfit : ptysFitA P fn.params.toList ps = true)
    (hl : laidOutB P = true) (hr : (fn.params.toList.all fun t => P.readableRec t && Nat.blt t P.types.size) = true)
    {s : ChangeSpec} (hsv : s.vars = []) (hs : ∀ ds : List (DataW H), ds.length = fn.params.toList.length → s.fn H ds = { results := [.lit (.bool true)], args := ds }) {apart fresh handsOn again : Bool} :
    ∀ (W : World) (base : Nat) (args : Array Value) (ds gs : List (DataW H)) (before : List MemPlace),
      (∀ (j : Nat) t v, fn.params[j]? = some t → args[j]? = some v → Value.okWide P W .any base t v) → DataW.Whole enc P fn.params.toList s.vars apart W args.toList ds gs before → Glob P (World.view W) →
      Calls P f args W fun e W' => ∃ v, e = .returned v ∧ s.post enc P fn apart fresh handsOn again W args v W' := by
  intro W base args ds gs before hval hW hgl
  have hW0 := hW
  obtain ⟨p, q, hA, hV, rfl, hz, hn⟩ := hW
  have hgs : gs = [] ∧ q = [] := by
    rw [hsv] at hV
    cases gs with
    | nil => exact ⟨rfl, hV⟩
    | cons g gs => exact hV.elim
  obtain ⟨rfl, rfl⟩ := hgs
  obtain ⟨x, hx⟩ := ptys_read hfit (fun j t v h1 h2 => hval j t v (by simpa using h1) (by simpa using h2)) hA
  obtain ⟨n, y, hy, hy1⟩ := hF x (PTys.Rep.fits ps x _ _ hx)
  have hlt := hW0.lt
  refine (hcon n (World.view W) W args.toList x [] hgl (fun b o h => h) hx List.nodup_nil (by simp) y hy).mono fun e W' ⟨v, P', vs, fr, fo, he, D⟩ => ⟨v, he, ?_⟩
  have hext := D.ext
  have hvs : v = .bool true := by
    obtain ⟨w, vs', f1, f2, h1, h2, h3, h4⟩ := D.res
    obtain ⟨h4, h5⟩ := h4
    subst h4
    have h3 : OT.Rep P' (World.view W') (.c .bool) (PTys.hd (.one (.c .bool)) .nil y.1) w f1 := h3
    rw [OT.Rep] at h3
    have h3 := h3.1
    rw [hy1] at h3
    have h3 : w = .bool true := by simpa [CT.Rep] using h3
    rw [D.val, h1, h3]; rfl
  subst hvs
  have hdl : ds.length = fn.params.toList.length := trodAll_length hA
  have hfn := hs ds hdl
  have hr' : ∀ t ∈ fn.params.toList, P.readableRec t = true ∧ t < P.types.size := fun t ht => by
    have := List.all_eq_true.1 hr t ht
    rw [Bool.and_eq_true] at this
    exact ⟨this.1, Nat.le_of_ble_eq_true this.2⟩
  have hargs : ∀ sp : Nat → Bool, (∀ x ∈ p, sp x.block = true) → DataW.TrodAll enc P W' 0 sp true fn.params.toList args.toList ds p := fun sp hsp =>
    trodAll_stays hl hr' hA (fun x hx => ext_sameAt hext (hlt x (by simp [hx]))) hsp
  have hbool : ∀ (b : Nat) (sp : Nat → Bool) (hd : Bool), DataW.TrodAll enc P W' b sp hd fn.resultTypes.toList ((Value.bool true).resultList fn.resultTypes.size) [.lit (.bool true)] [] := by
    intro b sp hd
    rw [hres]
    exact ⟨[], [], shut_bool htb true, rfl, rfl⟩
  rw [List.append_nil] at hW0 hlt
  refine ⟨ds, [], p, [], p, [], hW0, ?_, ?_, ?_, World.keptBut_mono (fun x hx => ⟨hx, .inr (.inl hx)⟩) (ext_kept hext (· ∈ p)), fun _ => ?_⟩
  · rw [List.append_nil, hfn]; exact hbool _ _ _
  · rw [List.append_nil, hfn]; exact hargs _ (fun x hx => by simpa using hlt x hx)
  · rw [List.append_nil, hfn, hsv]; exact rfl
  · refine ⟨?_, ?_⟩
    · intro j t r h1 h2
      rw [hres] at h1 h2
      cases j with
      | zero =>
        simp at h1; subst h1
        have h2 : [Value.bool true][0]? = some r := h2
        simp at h2; subst h2
        exact okWide_bool_mk htb true
      | succ j => simp at h1
    · refine ⟨_, [], [] ++ p, ⟨[] ++ p, [], trodAll_append (hargs _ (fun _ _ => rfl)) (hbool 0 (fun _ => true) true), by rw [hsv]; exact rfl, by simp, ?_, ?_⟩, ?_⟩
      · intro b off hp
        have hp : MemPlace.cell b off ∈ p := by simpa using hp
        rw [ext_frozen (b := b) hext (hlt _ hp)]
        exact hz b off (by simpa using hp)
      · intro ha
        simpa using hn ha
      · intro x hx _
        simpa using hx
end
end Go.Sx
