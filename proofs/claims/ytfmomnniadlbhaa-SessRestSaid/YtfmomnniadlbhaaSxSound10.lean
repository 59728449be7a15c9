/- A walk of Go code by plain functions is sound. -/
import Derived.Test.YtfmomnniadlbhaaSxSound9
namespace Go.Sx
section
variable {Pg : Program} {tt : TT} {cx : Cx} {P : PHeap} {ε : HMap} {φ : Nat → List Nat} {tab : Tab} {W : World}

theorem rep_cells {e : CTs} {x : e.T} {f : Nat → Option Value} (h : e.Rep P x f) : ∃ vs : List Value, vs.length = e.size ∧ (∀ j, j < e.size → f j = vs[j]?) ∧ ∀ v ∈ vs, oneCell v := by
 obtain ⟨vs, h1, h2, h3⟩ := CTs.toS_den (ε := fun _ => none) e x f h
 refine ⟨vs, h1, h2, ?_⟩
 have gen : ∀ (ss : List S1) (vs : List Value), DenL P (fun _ => none) ss vs → ss.all S1.solid = true → ∀ v ∈ vs, oneCell v := by
  intro ss
  induction ss with
  | nil => intro vs h _ v hv; simp only [DenL] at h; rw [h] at hv; cases hv
  | cons s ss ih =>
   intro vs ⟨w, vs', h1, h2, h3⟩ ha v hv
   subst h1
   simp only [List.all_cons, Bool.and_eq_true] at ha
   rcases List.mem_cons.1 hv with e | e
   ·subst e; exact solid_cell ha.1 h2 (fun c w hc => by cases hc)
   ·exact ih vs' h3 ha.2 v e
 refine gen _ _ h3 ?_
 have : ∀ (e : CTs) (x : e.T), (CTs.toS e x).all S1.solid = true := by
  intro e
  induction e using CTs.rec (motive_1 := fun _ => True) with
  | int k => trivial
  | bool => trivial
  | str => trivial
  | ro e _ => trivial
  | rop e _ => trivial
  | rom a b _ _ => trivial
  | fn f => trivial
  | nil => intro x; rfl
  | cons t ts _ ih => intro x; simp only [CTs.toS, List.all_cons, ih, Bool.and_true]; cases t <;> rfl
 exact this e x

theorem gather {e : CTs} : ∀ (ys : List e.T) (f : Nat → Option Value), (∀ i (h : i < ys.length), e.Rep P (ys[i]) (fun j => f (i * e.size + j))) →
  ∃ news : List Value, news.length = ys.length * e.size ∧ (∀ k, k < news.length → f k = news[k]?) ∧ ∀ v ∈ news, oneCell v
 | [], f, _ => ⟨[], by simp, fun k hk => by simp at hk, by simp⟩
 | y :: r, f, h => by
  have h0 := h 0 (by simp)
  simp only [List.getElem_cons_zero, Nat.zero_mul, Nat.zero_add] at h0
  obtain ⟨vs, v1, v2, v3⟩ := rep_cells h0
  obtain ⟨ns, n1, n2, n3⟩ := gather r (fun k => f (e.size + k)) (fun i hi => by
   have := h (i + 1) (by simpa using hi)
   simp only [List.getElem_cons_succ] at this
   have e1 : ∀ j, e.size + (i * e.size + j) = (i + 1) * e.size + j := fun j => by rw [Nat.add_mul]; omega
   simpa only [e1] using this)
  refine ⟨vs ++ ns, by simp [v1, n1, Nat.add_mul, Nat.add_comm], ?_, ?_⟩
  ·intro k hk
   by_cases hkl : k < e.size
   ·rw [List.getElem?_append_left (by omega)]; exact v2 k hkl
   ·rw [List.getElem?_append_right (by omega), v1]
    have := n2 (k - e.size) (by simp at hk; omega)
    have e2 : e.size + (k - e.size) = k := by omega
    rw [← this]; exact congrArg f e2.symm
  ·intro v hv
   rcases List.mem_append.1 hv with h | h
   ·exact v3 v h
   ·exact n3 v h
theorem gather_rep {e : CTs} {ys : List e.T} {f : Nat → Option Value} {news : List Value} (h : ∀ i (h : i < ys.length), e.Rep P (ys[i]) (fun j => f (i * e.size + j)))
  (hl : news.length = ys.length * e.size) (hf : ∀ k, k < news.length → f k = news[k]?) : ∀ i (h : i < ys.length), e.Rep P (ys[i]) (fun j => news[i * e.size + j]?) := by
 intro i hi
 refine CTs.Rep.mono' e _ _ _ (fun j v hj hv => ?_) (h i hi)
 have : (i + 1) * e.size ≤ ys.length * e.size := Nat.mul_le_mul_right _ hi
 rw [Nat.add_mul] at this
 rw [← hf _ (by omega)]; exact hv

def SrcOK (Pg : Program) (P : PHeap) (W : World) (e : CTs) (ys : List e.T) (u : Value) : Prop :=
 (Builtin.lenOf u).run Pg W = .ok ys.length W ∧ ∃ news : List Value, news.length = ys.length * e.size ∧
  (∀ W', W'.heap = W.heap → (Builtin.firstCells e.size ys.length u).run Pg W' = .ok news.toArray W') ∧ (∀ i (h : i < ys.length), e.Rep P (ys[i]) (fun j => news[i * e.size + j]?)) ∧ ∀ v ∈ news, oneCell v

theorem cell?_heap {W W' : World} (h : W'.heap = W.heap) (a : Addr) : W'.cell? a = W.cell? a := by simp [World.cell?, h]
theorem src_slice {e : CTs} {ys : List e.T} {ad : Addr} {n c : Nat} (hn : n = ys.length) (hs : 0 < ys.length → ad.spot = none)
  (h : ∀ i (h : i < ys.length), e.Rep P (ys[i]) (fun j => W.cell? ⟨ad.block, ad.off + (i * e.size + j), none⟩)) : SrcOK Pg P W e ys (.slice (some ad) n c) := by
 obtain ⟨news, n1, n2, n3⟩ := gather ys (fun k => W.cell? ⟨ad.block, ad.off + k, none⟩) h
 refine ⟨by rw [hn]; rfl, news, n1, fun W' hW' => ?_, gather_rep h n1 n2, n3⟩
 have := run_loadCells_list (P := Pg) W' ad news (fun j v hj => by
  have hjl : j < news.length := by
   rcases Nat.lt_or_ge j news.length with h | h
   ·exact h
   ·rw [List.getElem?_eq_none h] at hj; cases hj
  have hp : 0 < ys.length := by
   rcases Nat.eq_zero_or_pos ys.length with h0 | h0
   ·rw [n1, h0, Nat.zero_mul] at hjl; omega
   ·exact h0
  rw [cell?_heap hW', add_spot (hs hp), n2 j hjl]; exact hj)
 rw [n1] at this
 simpa [Builtin.firstCells] using this
theorem src_ro (I : Inv cx P ε φ tab W) {e : CTs} {ys : List e.T} {u : Value} (h : (CT.ro e).Rep P ys u) : SrcOK Pg P W e ys u := by
 simp only [CT.Rep] at h
 obtain ⟨a, cap, h1, h2, h3, h4, h5⟩ := h
 cases a with
 | none =>
  have h0 := h4 rfl
  have hy : ys = [] := List.eq_nil_of_length_eq_zero (by omega)
  subst hy
  refine ⟨by rw [h1]; rfl, [], by simp, fun W' _ => ?_, fun i hi => by simp at hi, by simp⟩
  rw [h1]; rfl
 | some ad =>
  obtain ⟨s1, s2⟩ := h5 ad rfl
  rw [h1]
  exact src_slice rfl (fun hp => s1 (by omega)) fun i hi => CTs.Rep.mono (PHeap.le_refl P) e _ _ _ (fun j v hv => cell_of_P I (by simpa only [Nat.add_assoc] using hv)) (s2 i hi)
theorem src_row {e : CTs} {ys : List e.T} {u : Value} {fp : List Nat} (h : RowRep P (World.view W) e ys u fp) : SrcOK Pg P W e ys u := by
 rcases h with ⟨rfl, ⟨a, h1, h2⟩, _⟩ | ⟨b, off, cap, cs, T, fz, h1, _, h3, _, h5, h6, h7, h8⟩
 ·refine ⟨by rw [h1]; rfl, [], by simp, fun W' _ => ?_, fun i hi => by simp at hi, by simp⟩
  rw [h1]; cases a <;> simp [Builtin.firstCells, loadCells, loadCellsFrom]
 ·rw [h1]
  exact src_slice rfl (fun _ => rfl) fun i hi => CTs.Rep.mono (PHeap.le_refl P) e _ _ _ (fun j v hv => by rw [cell_of_view h3, ← Nat.add_assoc]; exact hv) (h8 i hi)
theorem bytes_rep (b : List UInt8) : ∀ i (h : i < b.length), u8s.Rep P (b[i]) (fun j => (b.map fun x : UInt8 => Value.int .u8 (x.toNat : Int))[i * 1 + j]?) := by
 intro i hi
 simp only [CTs.Rep, CT.Rep, and_true]
 refine ⟨.int .u8 ((b[i]).toNat : Int), ?_, rfl⟩
 simp [hi]
theorem src_str (b : List UInt8) : SrcOK Pg P W u8s b (.string ⟨b.toArray⟩) := by
 refine ⟨rfl, b.map fun x : UInt8 => .int .u8 (x.toNat : Int), by simp [CTs.size], fun W' _ => ?_, bytes_rep b, ?_⟩
 ·have : ((⟨b.toArray⟩ : ByteArray).extract 0 b.length) = ⟨b.toArray⟩ := by rw [extract_list]; simp
  show (pure (((⟨b.toArray⟩ : ByteArray).extract 0 b.length).data.map fun b => Value.int .u8 b.toNat) : Sem (Array Value)).run Pg W' = _
  rw [this]; simp
 ·intro v hv
  obtain ⟨x, _, rfl⟩ := List.mem_map.1 hv
  exact ⟨by simp, by simp⟩

theorem view_row {e : CTs} {xs : List e.T} {fp : List Nat} {v w : Value} {c z len : Nat} (hw : ε c = some w) (hr : RowRep P (World.view W) e xs w fp) (hd : Den P ε (.view c z 0 len) v) (hl : len ≤ xs.length) :
  ∃ fp', RowRep P (World.view W) e (xs.take len) v fp' ∧ ∀ b ∈ fp', b ∈ fp := by
 rcases hd with ⟨b, o, n, cap, cp, h1, h2, h3, h4, h5, h6, h7⟩ | ⟨h1, h2⟩
 ·rw [hw] at h1; cases h1
  rcases hr with ⟨q1, ⟨a, q2, q3⟩, _⟩ | ⟨b', off, cap', cs, T, fz, q1, q2, q3, q4, q5, q6, q7, q8⟩
  ·injection q2 with e1 e2 e3
   subst e2; subst e3
   have hl0 : len = 0 := by omega
   have hc0 : cp = 0 := by omega
   subst hl0; subst hc0
   exact ⟨[], .inl ⟨by simp, ⟨_, by simpa using h2, fun ad had => by cases had; intro _; rfl⟩, rfl⟩, by simp⟩
  ·injection q1 with e1 e2 e3
   cases e1; subst e2; subst e3
   have hlen : (xs.take len).length = len := by simp; omega
   refine ⟨[b], .inr ⟨b, o, cp, cs, T, fz, by rw [h2, hlen]; simp, rfl, q3, q4, by omega, by omega, Nat.le_trans (Nat.add_le_add_left (Nat.mul_le_mul_right _ (by omega)) _) q7, fun i hi => ?_⟩, by rw [q2]; simp⟩
   have hi' : i < xs.length := by simp at hi; omega
   have : (xs.take len)[i] = xs[i] := by simp
   rw [this]; exact q8 i hi'
 ·subst h1
  exact ⟨[], .inl ⟨by simp, h2, rfl⟩, by simp⟩

theorem takeSrc_sound (I : Inv cx P ε φ tab W) (e : CTs) (s : S1) (u : Value) (hd : Den P ε s u) (ys : List e.T) (tab' : Tab) (h : (takeSrc e s).run tab = some (ys, tab')) :
  tab' = tab ∧ SrcOK Pg P W e ys u := by
 unfold takeSrc at h
 cases s <;> first | exact (run_fail_inv h).elim | skip
 case nils =>
  obtain ⟨rfl, rfl⟩ := run_pure_inv h
  obtain ⟨a, h1, h2⟩ := hd
  exact ⟨rfl, src_row (.inl ⟨rfl, ⟨a, h1, h2⟩, rfl⟩ : RowRep P (World.view W) e [] u [])⟩
 case ro e' xs =>
  simp only at h
  split at h
  ·rename_i p hp
   subst p
   obtain ⟨rfl, rfl⟩ := run_pure_inv h
   exact ⟨rfl, src_ro I hd⟩
  ·exact (run_fail_inv h).elim
 case aview c n =>
  simp only at h
  split at h
  ·rename_i ct
   obtain ⟨y, hc, h⟩ := run_get_inv h
   cases y <;> first | exact (run_fail_inv h).elim | skip
   rename_i vs
   simp only at h
   split at h
   ·rename_i y hy
    split at h
    ·rename_i hl
     have hl := nbeq_true hl
     obtain ⟨rfl, rfl⟩ := run_pure_inv h
     obtain ⟨h0, b0, hx, rfl⟩ := hd
     obtain ⟨w, e1, b, cs, T, f1, f2, f3, f4⟩ := I.chunk c _ hc
     rw [hx] at e1; cases e1; cases f1
     have ha := ofSL_rep ct vs ys cs.toList hy f4
     have h63 : (2 : Nat) ^ 63 = 9223372036854775808 := by decide
     have hcs := ha.1
     have hyl := ha.2.1
     simp only [Array.length_toList] at hcs
     refine ⟨rfl, src_row (fp := [b0]) (.inr ⟨b0, 0, n, cs, T, (0, 0), by rw [hl], rfl, f3, .inl rfl, by omega, by omega, by simp only [CTs.size]; omega, fun i hi => ?_⟩)⟩
     have hi2 : i < cs.toList.length := by simp only [Array.length_toList]; omega
     simp only [CTs.Rep, CTs.size, and_true]
     refine ⟨cs.toList[i], ?_, ha.2.2 i hi _ (by simp)⟩
     simp only [Array.length_toList] at hi2
     simp [hi2]
    ·exact (run_fail_inv h).elim
   ·exact (run_fail_inv h).elim
  ·exact (run_fail_inv h).elim
 case own c =>
  obtain ⟨y, hc, h⟩ := run_get_inv h
  obtain ⟨w, e1, e2⟩ := I.chunk c y hc
  have hv : ε c = some u := hd
  rw [hv] at e1; cases e1
  cases y <;> first | exact (run_fail_inv h).elim | skip
  ·rename_i e' xs
   simp only at h
   split at h
   ·rename_i p hp
    subst p
    obtain ⟨rfl, rfl⟩ := run_pure_inv h
    exact ⟨rfl, src_row e2⟩
   ·exact (run_fail_inv h).elim
  ·rename_i e' xs
   simp only at h
   split at h
   ·rename_i p hp
    subst p
    obtain ⟨rfl, rfl⟩ := run_pure_inv h
    exact ⟨rfl, src_ro I e2.1⟩
   ·exact (run_fail_inv h).elim
 case view c z off len =>
  obtain ⟨y, hc, h⟩ := run_get_inv h
  obtain ⟨w, e1, e2⟩ := I.chunk c y hc
  cases y <;> first | exact (run_fail_inv h).elim | skip
  ·rename_i e' xs
   simp only at h
   split at h
   ·rename_i p hz hp
    subst p
    have hz := nbeq_true hz
    obtain ⟨rfl, rfl⟩ := run_pure_inv h
    refine ⟨rfl, ?_⟩
    rcases hd with ⟨b, o, n, cap, cp, h1, h2, h3, h4, h5, h6, h7⟩ | ⟨h1, a, h2, h3⟩
    ·rw [e1] at h1; cases h1
     rcases e2 with ⟨q1, ⟨a, q2, q3⟩, _⟩ | ⟨b', off', cap', cs, T, fz, q1, q2, q3, q4, q5, q6, q7, q8⟩
     ·injection q2 with f1 f2 f3
      have hl0 : len = 0 := by omega
      subst hl0
      refine ⟨by rw [h2]; simp [Builtin.lenOf], [], by simp, fun W' _ => ?_, fun i hi => by simp at hi, by simp⟩
      rw [h2]; simp [Builtin.firstCells, loadCells, loadCellsFrom]
     ·injection q1 with f1 f2 f3
      cases f1; subst f2; subst f3
      have hlen : ((xs.drop off).take len).length = len := by simp; omega
      rw [h2]
      refine src_slice (by rw [hlen]) (fun _ => rfl) fun i hi => ?_
      rw [hlen] at hi
      have hx : ((xs.drop off).take len)[i]'(by rw [hlen]; exact hi) = xs[off + i]'(by omega) := by simp
      rw [hx]
      refine CTs.Rep.mono (PHeap.le_refl _) e' _ _ _ (fun j v hv => ?_) (q8 (off + i) (by omega))
      have e3 : o + off * z + (i * e'.size + j) = o + (off + i) * e'.size + j := by rw [← hz, Nat.add_mul]; omega
      show W.cell? ⟨b, o + off * z + (i * e'.size + j), none⟩ = some v
      rw [cell_of_view q3, e3]; exact hv
    ·subst h1
     refine ⟨by rw [h2]; simp [Builtin.lenOf], [], by simp, fun W' _ => ?_, fun i hi => by simp at hi, by simp⟩
     rw [h2]; cases a <;> simp [Builtin.firstCells, loadCells, loadCellsFrom]
   ·exact (run_fail_inv h).elim
  ·rename_i e' xs
   simp only at h
   split at h
   ·rename_i p hz hp
    subst p
    have hz := nbeq_true hz
    obtain ⟨rfl, rfl⟩ := run_pure_inv h
    exact ⟨rfl, src_ro I (view_ro (fun w' hw' => by rw [e1] at hw'; cases hw'; exact e2.1) hz hd)⟩
   ·exact (run_fail_inv h).elim
 case str b =>
  simp only at h
  split at h
  ·obtain ⟨rfl, rfl⟩ := run_pure_inv h
   obtain ⟨h1, h2⟩ := hd
   subst h1
   exact ⟨rfl, src_str _⟩
  ·exact (run_fail_inv h).elim

theorem growBy_le (n : Nat) : ∀ (r c : Nat), c ≤ 2 * n → Builtin.growBy n r c ≤ 2 * n + 768
 | 0, c, h => by simp only [Builtin.growBy]; omega
 | r + 1, c, h => by
  simp only [Builtin.growBy]
  split
  ·omega
  ·refine Nat.le_trans ?_ (Nat.le_refl _)
   by_cases h2 : c + (c + 768) / 4 ≤ 2 * n
   ·exact growBy_le n r _ h2
   · -- it is past already: the next round stops
    cases r with
    | zero => simp only [Builtin.growBy]; omega
    | succ r => simp only [Builtin.growBy]; rw [if_pos (by omega)]; omega
theorem nextcap_le (n c : Nat) (h : c < n) : Builtin.nextslicecap n c ≤ 2 * n + 768 := by
 unfold Builtin.nextslicecap
 split
 ·omega
 ·split
  ·omega
  ·exact growBy_le n 4 c (by omega)

theorem rep_append {e : CTs} {xs ys : List e.T} {olds news : List Value} (h1 : olds.length = xs.length * e.size) (hx : ∀ i (h : i < xs.length), e.Rep P (xs[i]) (fun j => olds[i * e.size + j]?))
  (hy : ∀ i (h : i < ys.length), e.Rep P (ys[i]) (fun j => news[i * e.size + j]?)) : ∀ i (h : i < (xs ++ ys).length), e.Rep P ((xs ++ ys)[i]) (fun j => (olds ++ news)[i * e.size + j]?) := by
 intro i hi
 by_cases c : i < xs.length
 ·rw [List.getElem_append_left c]
  refine CTs.Rep.mono' e _ _ _ (fun j v hj hv => ?_) (hx i c)
  have : (i + 1) * e.size ≤ xs.length * e.size := Nat.mul_le_mul_right _ c
  rw [Nat.add_mul] at this
  rw [List.getElem?_append_left (by omega)]; exact hv
 ·rw [List.getElem_append_right (by omega)]
  refine CTs.Rep.mono' e _ _ _ (fun j v hj hv => ?_) (hy (i - xs.length) (by simp at hi; omega))
  have e1 : i * e.size = xs.length * e.size + (i - xs.length) * e.size := by rw [← Nat.add_mul]; congr 1; omega
  rw [List.getElem?_append_right (by omega), ← hv]
  congr 1; omega
theorem isInt_false (d : TypeDesc) (h : ∀ k, d ≠ .int k) : (d matches .int _) = false := by
 cases d <;> first | rfl | exact absurd rfl (h _)
def BaseOK (P : PHeap) (W' : World) (c : CTs) (xs : List c.T) (v : Value) (fp : List Nat) (v' : Value) (fp' : List Nat) : Prop :=
 (RowRep P (World.view W') c xs v fp ∧ ∀ b ∈ fp', b ∉ fp) ∨ ∃ b o n cap, v' = .slice (some ⟨b, o, none⟩) n cap ∧ v = .slice (some ⟨b, o, none⟩) xs.length cap ∧ xs.length ≤ n
theorem append_core (I : Inv cx P ε φ tab W) {t u e : Nat} {d ud ed : TD} (ht : tdOf Pg t = some d) (hk : d.kind = .slice e) (hu : tdOf Pg u = some ud) (huk : ∀ k, ud.kind ≠ .int k) (he : tdOf Pg e = some ed)
  {c : CTs} (hcs : c.size = ed.size) {z : Value} (hz : ed.zero = some z) (hzs : z.cells.size = ed.size) (hb : ed.bytes ≤ 16384)
  {xs ys : List c.T} {v w : Value} {fp : List Nat} (hx : RowRep P (World.view W) c xs v fp) (hy : SrcOK Pg P W c ys w) (hlen : xs.length + ys.length ≤ maxCells) (ty : Nat) :
  ∃ v' W' fp', (Builtin.append_ #[t, u] ty #[v, w]).run Pg W = .ok v' W' ∧ Ext fp W W' ∧ RowRep P (World.view W') c (xs ++ ys) v' fp' ∧ fp'.Nodup ∧
   (∀ b ∈ fp', (b ∈ fp ∨ W.heap.size ≤ b) ∧ b < W'.heap.size) ∧ BaseOK P W' c xs v fp v' fp' := by
 obtain ⟨hy1, news, n1, n2, n3, n4⟩ := hy
 have hut := td_slice ht hk
 obtain ⟨desc, hud⟩ : ∃ desc, Pg.underlying u = some desc := by obtain ⟨i, desc, _, h2, _⟩ := td_facts hu; exact ⟨desc, h2⟩
 have hnoint : ∀ k, desc ≠ .int k := by
  intro k hk'
  obtain ⟨i, desc', _, h2, h3, _⟩ := td_facts hu
  rw [hud] at h2; cases h2
  subst hk'
  exact huk _ h3
 have hm := isInt_false desc hnoint
 unfold maxCells at hlen
 have hsz := td_size he
 have room : ∀ cap, cap < xs.length + ys.length → ¬ (Builtin.nextslicecap (xs.length + ys.length) cap * ed.bytes > 2 ^ 48) := by
  intro cap hc
  have h1 := nextcap_le (xs.length + ys.length) cap hc
  have h2 : Builtin.nextslicecap (xs.length + ys.length) cap * ed.bytes ≤ (2 * 4294967296 + 768) * 16384 := Nat.mul_le_mul (by omega) hb
  omega
 obtain ⟨i, hi, hi1, hi2, hi3⟩ := td_info he
 -- the new block
 have grow : ∀ (base : Option Addr) (cap : Nat), v = .slice base xs.length cap → cap < xs.length + ys.length → ∃ v' W' fp', (Builtin.append_ #[t, u] ty #[v, w]).run Pg W = .ok v' W' ∧ Ext fp W W' ∧ RowRep P (World.view W') c (xs ++ ys) v' fp' ∧ fp'.Nodup ∧
   (∀ b ∈ fp', (b ∈ fp ∨ W.heap.size ≤ b) ∧ b < W'.heap.size) ∧ BaseOK P W' c xs v fp v' fp' := by
  intro base cap hv hc
  have hold : ∀ b ∈ fp, b < W.heap.size := by
   rcases hx with ⟨_, _, rfl⟩ | ⟨b, off, cap, cs, T, fz, q1, q2, q3, q4, q5, q6, q7, q8⟩
   ·simp
   ·intro b' hb'
    rw [q2] at hb'; simp at hb'; subst hb'
    have q3' : W.heap[b']? = some (.cells cs T fz) := q3
    rcases Nat.lt_or_ge b' W.heap.size with h | h
    ·exact h
    ·rw [Array.getElem?_eq_none h] at q3'; cases q3'
  obtain ⟨_, olds, o1, o2, o3, o4⟩ := src_row (Pg := Pg) hx
  obtain ⟨N, hNN⟩ : ∃ N, N = grownCap W (xs.length + ys.length) cap e := ⟨_, rfl⟩
  have hN1 : xs.length + ys.length ≤ N := by rw [hNN]; exact grownCap_ge W _ _ e
  have hN2 : N ≤ maxLen := by rw [hNN]; exact grownCap_le_maxLen W _ _ e (by simp only [maxLen]; omega)
  let W1 : World := { W with drawn := W.drawn + 1 }
  obtain ⟨cells, hcells⟩ : ∃ cells : Array Value, cells = olds.toArray ++ news.toArray ++ Builtin.zeroCells z.cells (N - (xs.length + ys.length)) := ⟨_, rfl⟩
  refine ⟨.slice (some ⟨W.heap.size, 0, none⟩) (xs.length + ys.length) N, { W1 with heap := W1.heap.push (.cells cells e) }, [W.heap.size], ?_, ⟨by simp [W1], fun b hb _ => ?_, rfl, rfl⟩, ?_, by simp, fun b hb => ?_, .inl ⟨RowRep.mono (PHeap.le_refl P) (fun b hb => ?_) hx, fun b hb hb' => ?_⟩⟩
  ·have hf1 := o2 W1 rfl
   have hf2 := n2 W1 rfl
   rw [hcs] at hf1 hf2
   have hr := room cap hc
   have hz0 := td_zero he hz W1
   subst hv
   have hlt : ¬ (xs.length + ys.length ≤ cap) := by omega
   have hbig : ¬ (((xs.length + ys.length : Nat) : Int) > IntKind.i64.max ∧ ed.bytes = 0) := by
    simp only [IntKind.max, IntKind.signed, IntKind.bits]; omega
   have hti : ∀ w', (typeInfo e).run Pg w' = .ok i w' := fun w' => by simp [typeInfo, hi]
   have k1 : ¬ (9223372036854775807 < (xs.length : Int) + (ys.length : Int) ∧ i.bytes = 0) := by omega
   have k2 : ¬ (281474976710656 < Builtin.nextslicecap (xs.length + ys.length) cap * i.bytes) := by
    rw [← hi2]; have := room cap hc; omega
   have k3 : (Question.appendCap (xs.length + ys.length) cap e).forced = false := rfl
   have k4 : (Builtin.firstCells ed.size xs.length (.slice base xs.length cap)).run Pg W.drew = .ok olds.toArray W.drew := hf1
   have k5 : (Builtin.firstCells ed.size ys.length w).run Pg W.drew = .ok news.toArray W.drew := hf2
   have k6 : (zeroValue e).run Pg W.drew = .ok z W.drew := hz0
   have hce : cells = olds.toArray ++ (news.toArray ++ Builtin.zeroCells z.cells (N - (xs.length + ys.length))) := by rw [hcells, Array.append_assoc]
   unfold Builtin.append_
   simp only [List.getElem?_toArray, List.getElem?_cons_zero, List.getElem?_cons_succ, Sem.run_bind, run_underlying hut, run_underlying hud, hsz, Result.andThen_ok]
   ·simp [hy1, hlt, hti, k1, k2, k3, k4, k5, k6]
    simp only [newRow, newObj]
    simp only [hce]
    simp [Sem.run, W1, hNN, grownCap]
    rfl
  ·show (W.heap.push _)[b]? = W.heap[b]?
   rw [Array.getElem?_push]; simp [Nat.ne_of_lt hb]
  ·have hcell : cells.size = N * c.size := by
    simp only [hcells, Array.size_append, List.size_toArray, size_zeroCells, o1, n1, hzs, ← hcs, ← Nat.add_mul]
    congr 1; omega
   refine .inr ⟨W.heap.size, 0, N, cells, e, (0, 0), by simp, rfl, by simp [World.view, W1], .inl rfl, by simpa using hN1, by simp only [maxLen] at hN2; omega, by omega, fun j hj => ?_⟩
   have hget : ∀ k, k < (xs.length + ys.length) * c.size → cells[k]? = (olds ++ news)[k]? := by
    intro k hk
    have hl : (olds ++ news).length = (xs.length + ys.length) * c.size := by simp [o1, n1, Nat.add_mul]
    rw [← Array.getElem?_toList]
    simp only [hcells, Array.toList_append]
    rw [List.getElem?_append_left (by omega)]
   have hj' : j < xs.length + ys.length := by simpa using hj
   have hbound : ∀ m, m < c.size → j * c.size + m < (xs.length + ys.length) * c.size := fun m hm => by
    have : (j + 1) * c.size ≤ (xs.length + ys.length) * c.size := Nat.mul_le_mul_right _ hj'
    rw [Nat.add_mul] at this; omega
   refine CTs.Rep.mono' c _ _ _ (fun m a hm ha => ?_) (rep_append o1 o3 n3 j hj)
   rw [Nat.zero_add, hget _ (hbound m hm)]; exact ha
  ·simp at hb; subst hb; exact ⟨.inr (Nat.le_refl _), by simp [W1]⟩
  ·show (W.heap.push _)[b]? = W.heap[b]?
   rw [Array.getElem?_push]; simp [Nat.ne_of_lt (hold b hb)]
  ·simp at hb; subst hb; exact Nat.lt_irrefl _ (hold _ hb')
 -- within the room
 have inplace : ∀ (base : Option Addr) (cap : Nat), v = .slice base xs.length cap → xs.length + ys.length ≤ cap → ∀ W', (match base with | some a => storeCells (a.add (xs.length * ed.size)) news | none => pure ()).run Pg W = .ok () W' →
   (Builtin.append_ #[t, u] ty #[v, w]).run Pg W = .ok (.slice base (xs.length + ys.length) cap) W' := by
  intro base cap hv hc W' hst
  subst hv
  have k5 : (Builtin.firstCells ed.size ys.length w).run Pg W = .ok news.toArray W := by have := n2 W rfl; rwa [hcs] at this
  unfold Builtin.append_
  simp only [List.getElem?_toArray, List.getElem?_cons_zero, List.getElem?_cons_succ, Sem.run_bind, run_underlying hut, run_underlying hud, hsz, Result.andThen_ok]
  cases base with
  | none =>
   have hst' : W' = W := by simp at hst; exact hst.symm
   subst hst'
   simp [hy1, hc, k5]
  | some a =>
   simp only at hst
   simp [hy1, hc, k5, hst]
 rcases hx with ⟨rfl, ⟨a, hv, hsp⟩, rfl⟩ | ⟨b, off, cap, cs, T, fz, q1, q2, q3, q4, q5, q6, q7, q8⟩
 ·by_cases hm : ys.length = 0
  ·have hys : ys = [] := List.eq_nil_of_length_eq_zero hm
   subst hys
   have hnil : news = [] := List.eq_nil_of_length_eq_zero (by rw [n1]; simp)
   have := inplace a 0 (by simpa using hv) (by simp) W (by rw [hnil]; cases a <;> rfl)
   exact ⟨_, W, [], this, Ext.refl _ _, .inl ⟨rfl, ⟨a, rfl, hsp⟩, rfl⟩, List.nodup_nil, by simp, .inl ⟨.inl ⟨rfl, ⟨a, hv, hsp⟩, rfl⟩, by simp⟩⟩
  ·exact grow a 0 (by simpa using hv) (by simp; omega)
 ·by_cases hc : xs.length + ys.length ≤ cap
  ·have hfit : off + xs.length * ed.size + news.length ≤ cs.size := by
    have : (xs.length + ys.length) * c.size ≤ cap * c.size := Nat.mul_le_mul_right _ hc
    rw [Nat.add_mul] at this
    rw [n1, ← hcs]; omega
   have hst := storeCells_run (Pg := Pg) b (off + xs.length * ed.size) T fz news 0 cs W q3 q4 (by simpa using hfit) n4
   have := inplace _ cap q1 hc _ (by simpa [add_none] using hst)
   have hbl : b < W.heap.size := by
    have q3' : W.heap[b]? = some (.cells cs T fz) := q3
    rcases Nat.lt_or_ge b W.heap.size with h | h
    ·exact h
    ·rw [Array.getElem?_eq_none h] at q3'; cases q3'
   refine ⟨_, _, [b], this, ⟨by rw [setArr_size]; exact Nat.le_refl _, fun b' _ hn => setArr_other (fun e => hn (by rw [q2, e]; simp)), rfl, rfl⟩, ?_, by simp, fun b' hb' => by simp at hb'; subst hb'; exact ⟨.inl (by rw [q2]; simp), by rw [setArr_size]; exact hbl⟩, .inr ⟨b, off, xs.length + ys.length, cap, rfl, q1, by omega⟩⟩
   have hps := putArr_size cs (off + xs.length * ed.size) news hfit
   refine .inr ⟨b, off, cap, _, T, fz, by simp, rfl, setArr_heap q3, by rw [hps]; exact q4, by simpa using hc, q6, by rw [hps]; exact q7, fun j hj => ?_⟩
   have cell := putArr_get cs (off + xs.length * ed.size) news hfit
   by_cases hjl : j < xs.length
   ·rw [List.getElem_append_left hjl]
    refine CTs.Rep.mono' c _ _ _ (fun m a hm ha => ?_) (q8 j hjl)
    have : (j + 1) * c.size ≤ xs.length * c.size := Nat.mul_le_mul_right _ hjl
    rw [Nat.add_mul] at this
    rw [cell, if_neg (by rw [← hcs]; omega)]; exact ha
   ·rw [List.getElem_append_right (by omega)]
    have hj' : j - xs.length < ys.length := by simp at hj; omega
    refine CTs.Rep.mono' c _ _ _ (fun m a hm ha => ?_) (n3 (j - xs.length) hj')
    have e1 : j * c.size = xs.length * c.size + (j - xs.length) * c.size := by rw [← Nat.add_mul]; congr 1; omega
    have : (j - xs.length + 1) * c.size ≤ ys.length * c.size := Nat.mul_le_mul_right _ hj'
    rw [Nat.add_mul] at this
    rw [cell, if_pos (by rw [← hcs, n1]; omega), ← ha]
    congr 1
    rw [← hcs]; omega
  ·exact grow _ cap q1 (by omega)
end
end Go.Sx
