/- A part of the proof: a walk of Go code by plain functions, and that it is sound. -/
import Derived.Test.YtimmkhgbnfihgaaDoorSxLaw2
namespace Go.Sx
open Go.ChangeShapes Go.WideShapes Go.RowKit

/-! ### How much is read -/
mutual
def CT.bulk : (t : CT) → t.T → Nat
  | .int _, _ => 0
  | .bool, _ => 0
  | .str, s => List.length s
  | .ro e, xs => (List.map (fun x => CTs.bulk e x + 1) xs).sum
def CTs.bulk : (e : CTs) → e.T → Nat
  | .nil, _ => 0
  | .cons t ts, x => CT.bulk t (CTs.hd t ts x) + CTs.bulk ts (CTs.tl t ts x)
end
def PTy.bulk : (t : PTy) → t.T → Nat
  | .one (.c t), x => CT.bulk t x
  | .one (.row _), _ => 0
  | .one (.ptr _), _ => 0
  | .one (.map _ _), _ => 0
  | .one (.ptrA _ _ _ _), _ => 0
  | .agg e, x => CTs.bulk e x
  | .oagg _, _ => 0
  | .mv _, _ => 0
def PTys.bulk : (ps : PTys) → ps.T → Nat
  | .nil, _ => 0
  | .cons t ts, x => PTy.bulk t (PTys.hd t ts x) + PTys.bulk ts (PTys.tl t ts x)

section
variable {H : Type} {enc : TypeId × Value → H} {P : Program} {W : World} {base : Nat}
/-- a measure of what is read -/
structure BulkFn (b : DataW H → Nat) (bs : List (DataW H) → Nat) : Prop where
  str : ∀ s, s.length + 1 ≤ b (.lit (.string s))
  lit : ∀ l, 1 ≤ b (.lit l)
  nil : 1 ≤ b .nil
  slice : ∀ es rest, bs es + 1 ≤ b (.slice es rest)
  agg : ∀ ps, bs ps + 1 ≤ b (.agg ps)
  cons : ∀ d r, b d + bs r ≤ bs (d :: r)

def ReadsB (W : World) (N : Nat) (cs : List Value) (e r : CTs) : Prop :=
  ∀ (f : Nat → Option Value) (y : r.T), CTs.Rep (World.view W) r y f → ∃ x : e.T, CTs.Rep (World.view W) e x (fun j => if j < cs.length then cs[j]? else f (j - cs.length)) ∧ e.bulk x ≤ N + r.bulk y
theorem ReadsB.nil {e : CTs} : ReadsB W 0 [] e e := fun f y h => ⟨y, by simpa using h, by omega⟩
theorem ReadsB.trans {N M : Nat} {A B : List Value} {e e1 r : CTs} (h : ReadsB W N A e e1) (h' : ReadsB W M B e1 r) : ReadsB W (N + M) (A ++ B) e r := by
  intro f y hy
  obtain ⟨x1, h1, g1⟩ := h' f y hy
  obtain ⟨x, h2, g2⟩ := h _ x1 h1
  refine ⟨x, CTs.Rep.mono (PHeap.le_refl _) e _ _ _ (fun j v hv => ?_) h2, by omega⟩
  by_cases hA : j < A.length
  · rw [if_pos hA] at hv
    rw [if_pos (by simp; omega), List.getElem?_append_left hA]; exact hv
  · rw [if_neg hA] at hv
    by_cases hB : j - A.length < B.length
    · rw [if_pos hB] at hv
      rw [if_pos (by simp; omega), List.getElem?_append_right (by omega)]; exact hv
    · rw [if_neg hB] at hv
      rw [if_neg (by simp; omega)]
      rw [List.length_append, ← Nat.sub_sub]; exact hv
theorem ReadsB.cell {t : CT} {r : CTs} {v : Value} {x : t.T} (h : CT.Rep (World.view W) t x v) : ReadsB W (t.bulk x) [v] (.cons t r) r := by
  intro f y hy
  refine ⟨CTs.mk t r x y, ?_, by simp only [CTs.bulk, CTs.hd_mk, CTs.tl_mk]; omega⟩
  simp only [CTs.Rep, CTs.hd_mk, CTs.tl_mk]
  exact ⟨⟨v, by simp, h⟩, by simpa using hy⟩

theorem stepF_readsB {b : DataW H → Nat} {bs : List (DataW H) → Nat} (B : BulkFn b bs) {c : TypeId → CTs → Option CTs} {cs : List Value} : ∀ (fs : List Field) (xs : List (DataW H × List MemPlace)) (o o' : Nat) (e r : CTs), fs.length = xs.length → stepF P c fs o e = some (o', r) → o' ≤ cs.length →
    (∀ (i : Nat) f x, fs[i]? = some f → xs[i]? = some x → ∀ e r, c f.type e = some r → ∃ N, N + 1 ≤ b x.1 ∧ ReadsB W N ((cs.drop f.offset).take (P.cellsOf f.type)) e r) →
    o ≤ o' ∧ ∃ N, N ≤ bs (xs.map (·.1)) ∧ ReadsB W N ((cs.drop o).take (o' - o)) e r
  | [], _, o, o', e, r, _, h, _, _ => by
    simp only [stepF, Option.some.injEq, Prod.mk.injEq] at h
    obtain ⟨rfl, rfl⟩ := h
    refine ⟨Nat.le_refl _, 0, Nat.zero_le _, ?_⟩
    rw [Nat.sub_self, List.take_zero]; exact ReadsB.nil
  | f :: fs, [], o, o', e, r, hlen, _, _, _ => by simp at hlen
  | f :: fs, x :: xs, o, o', e, r, hlen, h, hl, hc => by
    simp only [stepF] at h
    split at h
    · rename_i ho
      split at h
      · rename_i e' he
        have ho := nbeq_true ho
        obtain ⟨h1, N2, g2, h2⟩ := stepF_readsB B fs xs (o + P.cellsOf f.type) o' e' r (by simpa using hlen) h hl (fun i g y h1 h2 => hc (i + 1) g y (by simpa using h1) (by simpa using h2))
        refine ⟨by omega, ?_⟩
        obtain ⟨N1, g1, h3⟩ := hc 0 f x rfl rfl e e' he
        rw [ho] at h3
        have h4 := h3.trans h2
        have e1 : (cs.drop o).take (o' - o) = (cs.drop o).take (P.cellsOf f.type) ++ (cs.drop (o + P.cellsOf f.type)).take (o' - (o + P.cellsOf f.type)) := by
          have : o' - o = P.cellsOf f.type + (o' - (o + P.cellsOf f.type)) := by omega
          rw [this, List.take_add, List.drop_drop]
        have := B.cons x.1 (xs.map (·.1))
        refine ⟨N1 + N2, by simp only [List.map_cons]; omega, ?_⟩
        rw [e1]; exact h4
      · cases h
    · cases h
theorem sum_le {α : Type} {b : DataW H → Nat} {bs : List (DataW H) → Nat} (B : BulkFn b bs) (g : α → Nat) : ∀ (xs : List α) (es : List (DataW H × List MemPlace)), xs.length = es.length → (∀ i (h : i < xs.length) (h' : i < es.length), g xs[i] ≤ b es[i].1) → (xs.map g).sum ≤ bs (es.map (·.1))
  | [], _, _, _ => by simp
  | x :: xs, [], h, _ => by simp at h
  | x :: xs, e :: es, h, hg => by
    have h1 := hg 0 (by simp) (by simp)
    have h2 := sum_le B g xs es (by simpa using h) (fun i h h' => hg (i + 1) (by simpa using h) (by simpa using h'))
    have h3 := B.cons e.1 (es.map (·.1))
    simp only [List.getElem_cons_zero] at h1
    simp only [List.map_cons, List.sum_cons]
    omega

theorem consume_readsB {b : DataW H → Nat} {bs : List (DataW H) → Nat} (B : BulkFn b bs) : ∀ (n : Nat) (t : TypeId) (e r : CTs), consume P n t e = some r → ∀ (fuel : Nat) (cs : List Value) (x : DataW H × List MemPlace),
    DataW.trod enc P W base (fun _ => true) true fuel t cs = some x → ∃ N, N + 1 ≤ b x.1 ∧ ReadsB W N cs e r := by
  intro n
  induction n with
  | zero => intro t e r h; simp [consume] at h
  | succ n ih =>
    intro t e r h fuel cs x hx
    simp only [consume] at h
    split at h
    · rename_i hu
      split at h
      · cases h
        obtain ⟨v, rfl, rfl⟩ := DataW.trod_bool hu hx
        exact ⟨0, B.lit _, ReadsB.cell (t := .bool) (x := v) (by simp [CT.Rep])⟩
      · cases h
    · rename_i k hu
      split at h
      · rename_i k' _
        split at h
        · rename_i hk _
          cases h
          obtain ⟨hk⟩ := hk
          subst hk
          obtain ⟨m, rfl, rfl, hw⟩ := DataW.trod_int hu hx
          refine ⟨0, B.lit _, ReadsB.cell (t := .int k) (x := IK.ofInt k m) ?_⟩
          simp only [CT.Rep]
          rw [IK.toInt_ofInt]
          congr 1
          revert hw
          cases k <;> simp [Lit.wf, IntKind.wrap, IntKind.min, IntKind.max, IntKind.signed, IntKind.bits] <;> omega
        · cases h
      · cases h
    · rename_i hu
      split at h
      · cases h
        obtain ⟨s, rfl, rfl, hs⟩ := DataW.trod_string hu hx
        refine ⟨_, B.str _, ReadsB.cell (t := .str) (x := s.data.toList) ?_⟩
        simp only [CT.Rep]
        refine ⟨by simp, ?_⟩
        have : s.data.toList.length = s.size := Array.length_toList
        rw [this]
        unfold maxLen at hs
        omega
      · cases h
    · rename_i et hu
      split at h
      · rename_i e' r'
        split at h
        · rename_i hc
          split at h
          · rename_i hsz
            cases h
            rw [Bool.and_eq_true] at hsz
            have hz := nbeq_true hsz.1
            have hpos : 0 < e'.size := Nat.le_of_ble_eq_true hsz.2
            have tc := ih et e' .nil hc
            rcases DataW.trod_slice hu hx with ⟨rfl, rfl⟩ | ⟨a, len, cap, elems, rest, m, rfl, rfl, rfl, hb, hl, hm, hel, hget, hrest, _⟩
            · refine ⟨0, B.nil, ReadsB.cell (t := .ro e') (x := ([] : List e'.T)) ?_⟩
              simp only [CT.Rep]
              exact ⟨none, 0, rfl, by simp, by simp, fun _ => rfl, fun ad h => by cases h⟩
            · have each : ∀ i (h : i < elems.length), ∃ cs', W.cells? base (a.add (i * P.cellsOf et)) (P.cellsOf et) = some cs' ∧ DataW.trod enc P W base (fun _ => true) true m et cs' = some elems[i] := by
                intro i hi
                have := hget i (by omega)
                rw [List.getElem?_eq_getElem (by omega), Option.bind_eq_some_iff] at this
                obtain ⟨cs', h1, h2⟩ := this
                exact ⟨cs', h1, h2⟩
              have hsp : 0 < cap → a.spot = none := by
                intro hcap
                have : ∃ cs', W.cells? base a (P.cellsOf et) = some cs' := by
                  by_cases h0 : 0 < len
                  · obtain ⟨cs', h1, _⟩ := each 0 (by omega)
                    rw [Nat.zero_mul, add_zero'] at h1
                    exact ⟨cs', h1⟩
                  · obtain ⟨hr1, hr2⟩ := hrest rfl
                    have := hr2 0 (by omega)
                    rw [List.getElem?_eq_getElem (by omega), Option.bind_eq_some_iff] at this
                    obtain ⟨cs', h1, _⟩ := this
                    have hl0 : len = 0 := by omega
                    rw [hl0, Nat.zero_add, Nat.zero_mul, add_zero'] at h1
                    exact ⟨cs', h1⟩
                obtain ⟨cs', h1⟩ := this
                obtain ⟨h2, h3⟩ := cells_get h1
                have h4 := h3 0 (by omega)
                rw [add_zero', List.getElem?_eq_getElem (by omega)] at h4
                exact (cell_plain h4).1
              obtain ⟨xs, x1, x2⟩ := choose_list (fun i (x : e'.T) => CTs.Rep (World.view W) e' x (fun j => PHeap.cell (World.view W) a.block (a.off + i * e'.size + j)) ∧ ∀ h : i < elems.length, e'.bulk x + 1 ≤ b elems[i].1) len (by
                intro i hi
                obtain ⟨cs', h1, h2⟩ := each i (by omega)
                obtain ⟨N, g1, g2⟩ := tc m cs' elems[i] h2
                obtain ⟨x, hx, g3⟩ := g2 (fun _ => none) () (by simp [CTs.Rep])
                have g4 : CTs.bulk .nil () = 0 := by simp only [CTs.bulk]
                refine ⟨x, CTs.Rep.mono (PHeap.le_refl _) e' _ _ _ (fun j v hv => ?_) hx, fun _ => by omega⟩
                by_cases hj : j < cs'.length
                · rw [if_pos hj] at hv
                  have := cells_view h1 hv
                  rw [(add_block a _).1, (add_block a _).2] at this
                  rw [hz]; exact this
                · rw [if_neg hj] at hv; cases hv)
              have hsum := sum_le B (fun x => e'.bulk x + 1) xs elems (by omega) (fun i h h' => (x2 i h).2 h')
              have hsl := B.slice (elems.map (·.1)) (rest.map (·.1))
              have hcell : ReadsB W (CT.bulk (.ro e') xs) [.slice (some a) len cap] (.cons (.ro e') r) r := by
                refine ReadsB.cell (t := .ro e') (x := xs) ?_
                simp only [CT.Rep]
                unfold maxLen at hm
                refine ⟨some a, cap, by rw [x1], by omega, by omega, (fun h => by cases h), fun ad had => ?_⟩
                cases had
                exact ⟨hsp, fun i hi => (x2 i hi).1⟩
              refine ⟨_, ?_, hcell⟩
              have : CT.bulk (.ro e') xs = (List.map (fun x => e'.bulk x + 1) xs).sum := by simp only [CT.bulk]
              rw [this]; exact Nat.le_trans (Nat.add_le_add_right hsum 1) hsl
          · cases h
        · cases h
      · cases h
    · rename_i fs hu
      split at h
      · rename_i o r' hst
        split at h
        · rename_i ho
          cases h
          have ho := nbeq_true ho
          obtain ⟨xs, m, rfl, rfl, hl, hxl, hget⟩ := DataW.trod_struct hu hx
          obtain ⟨_, N, g1, this⟩ := stepF_readsB (W := W) (cs := cs) B fs.toList xs 0 o e r (by simpa using hxl.symm) hst (by omega) (fun i f x hf hx e r hc => by
            have hi' : fs[i]? = some f := by rw [← hf]; simp
            have h1 := hget i f hi'
            rw [hx] at h1
            exact ih f.type e r hc _ _ _ h1)
          have e1 : (cs.drop 0).take (o - 0) = cs := by
            rw [List.drop_zero, Nat.sub_zero, List.take_of_length_le (by omega)]
          rw [e1] at this
          exact ⟨N, Nat.le_trans (Nat.add_le_add_right g1 1) (B.agg _), this⟩
        · cases h
      · cases h
    · cases h
theorem pty_readsB {b : DataW H → Nat} {bs : List (DataW H) → Nat} (B : BulkFn b bs) {r : Reach} {b0 : Nat} {t : TypeId} {p : PTy} (hf : ptyFits P t p = true) {v : Value} (hval : Value.okWide P W r b0 t v) {d : DataW H} {ps : List MemPlace}
    (h : DataW.Trod enc P W base (fun _ => true) true t v d ps) : ∃ x : p.T, PTy.Rep (World.view W) (World.view W) p x v [] ∧ p.bulk x ≤ b d := by
  obtain ⟨fuel, h⟩ := h
  have bn : CTs.bulk .nil () = 0 := by simp only [CTs.bulk]
  cases p with
  | one o =>
    cases o with
    | c ct =>
      simp only [ptyFits, Bool.and_eq_true] at hf
      obtain ⟨h1, h2⟩ := hf
      have hc := endsC_eq h2
      have hnot : ∀ cs, v ≠ .agg cs := by
        intro cs e
        subst e
        unfold notRow at h1
        unfold Value.okWide at hval
        split at h1
        · cases h1
        · cases h1
        · rename_i td hns hna hu
          rw [hu] at hval
          cases td <;> simp_all [Cell.okWide, Cell.ok]
        · cases h1
      have hcells : v.cells.toList = [v] := by
        cases v <;> first | rfl | exact absurd rfl (hnot _)
      rw [hcells] at h
      obtain ⟨N, g1, g2⟩ := consume_readsB B 30 t _ _ hc fuel _ _ h
      obtain ⟨x, hx, g3⟩ := g2 (fun _ => none) () (by simp [CTs.Rep])
      simp only [CTs.Rep] at hx
      obtain ⟨⟨w, hw, hr⟩, _⟩ := hx
      simp at hw
      subst hw
      refine ⟨CTs.hd ct .nil x, ?_, ?_⟩
      · show OT.Rep (World.view W) (World.view W) (.c ct) _ _ _
        rw [OT.Rep]
        exact ⟨hr, rfl⟩
      · show CT.bulk ct (CTs.hd ct .nil x) ≤ b d
        have : CTs.bulk (.cons ct .nil) x = CT.bulk ct (CTs.hd ct .nil x) + 0 := by simp only [CTs.bulk]
        dsimp only at g1
        omega
    | row e => simp [ptyFits] at hf
    | ptr e => simp [ptyFits] at hf
    | map k u => simp [ptyFits] at hf
    | ptrA a b c d => simp [ptyFits] at hf
  | oagg e => simp [ptyFits] at hf
  | mv e => simp [ptyFits] at hf
  | agg e =>
    simp only [ptyFits, Bool.and_eq_true] at hf
    obtain ⟨⟨h1, h2⟩, h3⟩ := hf
    have hc := endsC_eq h3
    have hz := nbeq_true h2
    have hrow : ∃ cs, v = .agg cs ∧ cs.size = P.cellsOf t := by
      unfold isRow at h1
      unfold Value.okWide at hval
      split at h1
      · rename_i fs hu
        rw [hu] at hval
        obtain ⟨cs, e1, e2, _⟩ := hval
        exact ⟨cs, e1, e2⟩
      · cases h1
    obtain ⟨cs, rfl, hcs⟩ := hrow
    have hcells : (Value.agg cs).cells.toList = cs.toList := rfl
    rw [hcells] at h
    obtain ⟨N, g1, g2⟩ := consume_readsB B 30 t _ _ hc fuel _ _ h
    obtain ⟨x, hx, g3⟩ := g2 (fun _ => none) () (by simp [CTs.Rep])
    refine ⟨x, ⟨cs, rfl, by omega, CTs.Rep.mono (PHeap.le_refl _) e _ _ _ (fun j v hv => ?_) hx, rfl⟩, ?_⟩
    · by_cases hj : j < cs.toList.length
      · rw [if_pos hj] at hv; simpa using hv
      · rw [if_neg hj] at hv; cases hv
    · show CTs.bulk e x ≤ b d
      dsimp only at g1
      omega
theorem ptys_readB {b : DataW H → Nat} {bs : List (DataW H) → Nat} (B : BulkFn b bs) {r : Reach} {b0 : Nat} : ∀ {ts : List TypeId} {ps : PTys} (_ : ptysFit P ts ps = true) {vs : List Value} {ds : List (DataW H)} {pl : List MemPlace}
    (_ : ∀ (j : Nat) t v, ts[j]? = some t → vs[j]? = some v → Value.okWide P W r b0 t v) (_ : DataW.TrodAll enc P W base (fun _ => true) true ts vs ds pl), ∃ x : ps.T, PTys.Rep (World.view W) (World.view W) ps x vs [] ∧ ps.bulk x ≤ bs ds
  | [], .nil, _, vs, ds, pl, _, h => by
    obtain ⟨rfl, _, _⟩ := trodAll_nil h
    exact ⟨(), ⟨rfl, rfl⟩, Nat.zero_le _⟩
  | t :: ts, .cons p ps, hf, vs, ds, pl, hv, h => by
    obtain ⟨v, vs', d, ds', a, c, rfl, rfl, rfl, h1, h2⟩ := trodAll_cons h
    simp only [ptysFit, Bool.and_eq_true] at hf
    obtain ⟨x, hx, g1⟩ := pty_readsB B hf.1 (hv 0 t v rfl rfl) h1
    obtain ⟨y, hy, g2⟩ := ptys_readB B hf.2 (fun j t v h3 h4 => hv (j + 1) t v (by simpa using h3) (by simpa using h4)) h2
    have g3 := B.cons d ds'
    refine ⟨PTys.mk p ps x y, ⟨v, vs', [], [], rfl, rfl, ?_, ?_⟩, ?_⟩
    · simpa only [PTys.hd_mk] using hx
    · simpa only [PTys.tl_mk] using hy
    · simp only [PTys.bulk, PTys.hd_mk, PTys.tl_mk]; omega
  | [], .cons _ _, h, _, _, _, _, _ => by simp [ptysFit] at h
  | _ :: _, .nil, h, _, _, _, _, _ => by simp [ptysFit] at h
theorem law_calls_upto {f : Nat} {fn : Func} {ps : PTys} {F : Nat → ps.T → Option ((PTys.cons (.one (.c .bool)) .nil).T × ps.outs.T)} (hcon : ∀ n, Contract P ⟨f, ⟨ps, .cons (.one (.c .bool)) .nil⟩, F n⟩)
    {b : DataW H → Nat} {bs : List (DataW H) → Nat} (B : BulkFn b bs) {N : Nat}
    (hF : ∀ x, ps.fits x → ps.bulk x ≤ N → ∃ n y, F n x = some y ∧ PTys.hd (.one (.c .bool)) .nil y.1 = true)
    {tb : TypeId} (hres : fn.resultTypes = #[tb]) (htb : P.underlying tb = some .bool) (hfit : ptysFit P fn.params.toList ps = true)
    (hl : laidOutB P = true) (hr : (fn.params.toList.all fun t => P.readableRec t && Nat.blt t P.types.size) = true)
    {s : ChangeSpec} (hsv : s.vars = []) (hs : ∀ ds : List (DataW H), ds.length = fn.params.toList.length → s.fn H ds = { results := [.lit (.bool true)], args := ds }) {apart fresh handsOn again : Bool} :
    ∀ (W : World) (base : Nat) (args : Array Value) (ds gs : List (DataW H)) (before : List MemPlace),
      (∀ (j : Nat) t v, fn.params[j]? = some t → args[j]? = some v → Value.okWide P W .any base t v) → DataW.Whole enc P fn.params.toList s.vars apart W args.toList ds gs before → bs ds ≤ N → Glob P (World.view W) →
      Calls P f args W fun e W' => ∃ v, e = .returned v ∧ s.post enc P fn apart fresh handsOn again W args v W' := by
  intro W base args ds gs before hval hW hN hgl
  have hW0 := hW
  obtain ⟨p, q, hA, hV, rfl, hz, hn⟩ := hW
  have hgs : gs = [] ∧ q = [] := by
    rw [hsv] at hV
    cases gs with
    | nil => exact ⟨rfl, hV⟩
    | cons g gs => exact hV.elim
  obtain ⟨rfl, rfl⟩ := hgs
  obtain ⟨x, hx, hxb⟩ := ptys_readB B hfit (fun j t v h1 h2 => hval j t v (by simpa using h1) (by simpa using h2)) hA
  obtain ⟨n, y, hy, hy1⟩ := hF x (PTys.Rep.fits ps x _ _ hx) (Nat.le_trans hxb hN)
  have hlt := hW0.lt
  refine (hcon n (World.view W) W args.toList x [] hgl (fun b o h => h) hx List.nodup_nil (by simp) y hy).mono fun e W' ⟨v, P', vs, fr, fo, he, D⟩ => ⟨v, he, ?_⟩
  have hext := D.ext
  have hvs : v = .bool true := by
    obtain ⟨w, vs', f1, f2, h1, h2, h3, h4⟩ := D.res
    obtain ⟨h4, h5⟩ := h4
    subst h4
    have h3 : OT.Rep P' (World.view W') (.c .bool) (PTys.hd (.one (.c .bool)) .nil y.1) w f1 := h3
    rw [OT.Rep] at h3
    have h3 := h3.1
    rw [hy1] at h3
    have h3 : w = .bool true := by simpa [CT.Rep] using h3
    rw [D.val, h1, h3]; rfl
  subst hvs
  have hdl : ds.length = fn.params.toList.length := trodAll_length hA
  have hfn := hs ds hdl
  have hr' : ∀ t ∈ fn.params.toList, P.readableRec t = true ∧ t < P.types.size := fun t ht => by
    have := List.all_eq_true.1 hr t ht
    rw [Bool.and_eq_true] at this
    exact ⟨this.1, Nat.le_of_ble_eq_true this.2⟩
  have hargs : ∀ sp : Nat → Bool, (∀ x ∈ p, sp x.block = true) → DataW.TrodAll enc P W' 0 sp true fn.params.toList args.toList ds p := fun sp hsp =>
    trodAll_stays hl hr' hA (fun x hx => ext_sameAt hext (hlt x (by simp [hx]))) hsp
  have hbool : ∀ (b : Nat) (sp : Nat → Bool) (hd : Bool), DataW.TrodAll enc P W' b sp hd fn.resultTypes.toList ((Value.bool true).resultList fn.resultTypes.size) [.lit (.bool true)] [] := by
    intro b sp hd
    rw [hres]
    exact ⟨[], [], shut_bool htb true, rfl, rfl⟩
  rw [List.append_nil] at hW0 hlt
  refine ⟨ds, [], p, [], p, [], hW0, ?_, ?_, ?_, World.keptBut_mono (fun x hx => ⟨hx, .inr (.inl hx)⟩) (ext_kept hext (· ∈ p)), fun _ => ?_⟩
  · rw [List.append_nil, hfn]; exact hbool _ _ _
  · rw [List.append_nil, hfn]; exact hargs _ (fun x hx => by simpa using hlt x hx)
  · rw [List.append_nil, hfn, hsv]; exact rfl
  · refine ⟨?_, ?_⟩
    · intro j t r h1 h2
      rw [hres] at h1 h2
      cases j with
      | zero =>
        simp at h1; subst h1
        have h2 : [Value.bool true][0]? = some r := h2
        simp at h2; subst h2
        exact okWide_bool_mk htb true
      | succ j => simp at h1
    · refine ⟨_, [], [] ++ p, ⟨[] ++ p, [], trodAll_append (hargs _ (fun _ _ => rfl)) (hbool 0 (fun _ => true) true), by rw [hsv]; exact rfl, by simp, ?_, ?_⟩, ?_⟩
      · intro b off hp
        have hp : MemPlace.cell b off ∈ p := by simpa using hp
        rw [ext_frozen (b := b) hext (hlt _ hp)]
        exact hz b off (by simpa using hp)
      · intro ha
        simpa using hn ha
      · intro x hx _
        simpa using hx
end
end Go.Sx
