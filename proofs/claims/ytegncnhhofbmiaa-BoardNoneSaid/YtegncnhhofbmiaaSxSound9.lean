/- A walk of Go code by plain functions is sound. -/
import Derived.Test.YtegncnhhofbmiaaSxSound8
namespace Go.Sx
section
variable {Pg : Program} {tt : TT} {cx : Cx} {P : PHeap} {ε : HMap} {φ : Nat → List Nat} {tab : Tab} {W : World}

/-- Pieces, and their handles and blocks, one by one. -/
def PairOK (P : PHeap) (H : HView) : List (Nat × Chunk) → HL2 → Prop
  | [], [] => True
  | (d, x) :: l, (d', v, f) :: L => d = d' ∧ Handle v ∧ (∀ η, ChunkOK P H η v f x) ∧ PairOK P H l L
  | _, _ => False
theorem PairOK.keys {H : HView} : ∀ {l : List (Nat × Chunk)} {L : HL2}, PairOK P H l L → L.map (·.1) = l.map (·.1)
  | [], [], _ => rfl
  | (d, x) :: l, (d', v, f) :: L, ⟨h1, _, _, h4⟩ => by simp [h1, PairOK.keys h4]
theorem PairOK.get {H : HView} : ∀ {l : List (Nat × Chunk)} {L : HL2}, PairOK P H l L → (l.map (·.1)).Nodup →
    (∀ d, (∃ p, Map.get L d = some p) ↔ ∃ y, (d, y) ∈ l) ∧ (∀ d v f y, Map.get L d = some (v, f) → (d, y) ∈ l → Handle v ∧ ∀ η, ChunkOK P H η v f y)
  | [], [], _, _ => ⟨by simp [Map.get], by simp⟩
  | (d, x) :: l, (d', v, f) :: L, ⟨h1, h2, h3, h4⟩, hn => by
    subst h1
    rw [List.map_cons, List.nodup_cons] at hn
    obtain ⟨i1, i2⟩ := PairOK.get h4 hn.2
    have g0 : Map.get ((d, v, f) :: L) d = some (v, f) := by simp [Map.get]
    have g1 : ∀ e, e ≠ d → Map.get ((d, v, f) :: L) e = Map.get L e := fun e he => by
      have : Nat.beq d e = false := by cases hb : Nat.beq d e with | true => exact absurd (nbeq_true hb).symm he | false => rfl
      simp [Map.get, this]
    have no : ∀ y, (d, y) ∉ l := fun y hy => hn.1 (List.mem_map.2 ⟨_, hy, rfl⟩)
    refine ⟨fun e => ?_, fun e w g y hg hm => ?_⟩
    · by_cases he : e = d
      · subst he; exact ⟨fun _ => ⟨x, by simp⟩, fun _ => ⟨_, g0⟩⟩
      · rw [g1 e he, i1 e]
        constructor
        · rintro ⟨y, hy⟩; exact ⟨y, List.mem_cons_of_mem _ hy⟩
        · rintro ⟨y, hy⟩
          rcases List.mem_cons.1 hy with h | h
          · cases h; exact absurd rfl he
          · exact ⟨y, h⟩
    · by_cases he : e = d
      · subst he
        rw [g0] at hg; cases hg
        rcases List.mem_cons.1 hm with h | h
        · cases h; exact ⟨h2, h3⟩
        · exact absurd h (no y)
      · rw [g1 e he] at hg
        rcases List.mem_cons.1 hm with h | h
        · cases h; exact absurd rfl he
        · exact i2 e w g y hg h
theorem PairOK.append {H : HView} : ∀ {l l' : List (Nat × Chunk)} {L L' : HL2}, PairOK P H l L → PairOK P H l' L' → PairOK P H (l ++ l') (L ++ L')
  | [], _, [], _, _, h => h
  | _ :: _, _, _ :: _, _, ⟨h1, h2, h3, h4⟩, h => ⟨h1, h2, h3, PairOK.append h4 h⟩

theorem row_handle {H : HView} {e : CTs} {xs : List e.T} {v : Value} {fp : List Nat} (h : RowRep P H e xs v fp) : Handle v := by
  rcases h with ⟨_, ⟨a, h, _⟩, _⟩ | ⟨b, off, cap, cs, T, fz, h, _⟩
  · exact .inr (.inl ⟨_, _, _, h⟩)
  · exact .inr (.inl ⟨_, _, _, h⟩)
theorem map_handle {H : HView} {k u : VT} {xs : List (k.T × u.T)} {v : Value} {fp : List Nat} (h : MapRep P H k u xs v fp) : Handle v := by
  obtain ⟨b, es, clock, h, _⟩ := h
  exact .inr (.inr (.inl ⟨_, h⟩))
theorem ptr_handle {H : HView} {e : OTs} {m : Option e.T} {v : Value} {fp : List Nat} (h : (OT.ptr e).Rep P H m v fp) : Handle v := by
  rw [OT.Rep] at h
  rcases h with ⟨_, h, _⟩ | ⟨y, b, cs, T, fp', _, h, _⟩
  · exact .inl ⟨_, h⟩
  · exact .inl ⟨_, h⟩

theorem ptrA_handle {H : HView} {p q : OTs} {t : CT} {n : Nat} {m : Option (p.T × List t.T × q.T)} {v : Value} {fp : List Nat} (h : (OT.ptrA p t n q).Rep P H m v fp) : Handle v := by
  rw [OT.Rep] at h
  rcases h with ⟨_, h, _⟩ | ⟨x, y, z, b, cs, T, f1, f2, c1, c2, c3, _, h, _⟩
  · exact .inl ⟨_, h⟩
  · exact .inl ⟨_, h⟩

/-- The cells of a struct that owns memory, opened. -/
theorem unfold_pairs {H : HView} : ∀ (e : OTs) (x : e.T) (n : Nat) (vs : List Value) (fp : List Nat), e.Rep P H x vs fp →
    ∃ L : HL2, PairOK P H (unfoldCells e x n).2 L ∧ fpsOf L = fp ∧ ∀ η : HMap, (∀ d v f, (d, v, f) ∈ L → η d = some v) → DenL P η (unfoldCells e x n).1 vs
  | .nil, x, n, vs, fp, h => by
    simp only [OTs.Rep] at h
    obtain ⟨rfl, rfl⟩ := h
    exact ⟨[], by simp [unfoldCells, PairOK], rfl, fun η _ => rfl⟩
  | .cons t ts, x, n, vs, fp, h => by
    simp only [OTs.Rep] at h
    obtain ⟨v, vs', f1, f2, rfl, rfl, h3, h4⟩ := h
    obtain ⟨L, l1, l2, l3⟩ := unfold_pairs ts _ (n + 1) vs' f2 h4
    have plus : ∀ (y : Chunk), unfoldCells (.cons t ts) x n = (.own n :: (unfoldCells ts (OTs.tl t ts x) (n + 1)).1, (n, y) :: (unfoldCells ts (OTs.tl t ts x) (n + 1)).2) → Handle v → (∀ η, ChunkOK P H η v f1 y) →
        ∃ L : HL2, PairOK P H (unfoldCells (.cons t ts) x n).2 L ∧ fpsOf L = f1 ++ f2 ∧ ∀ η : HMap, (∀ d v f, (d, v, f) ∈ L → η d = some v) → DenL P η (unfoldCells (.cons t ts) x n).1 (v :: vs') := by
      intro y hu hh hy
      rw [hu]
      exact ⟨(n, v, f1) :: L, ⟨rfl, hh, hy, l1⟩, by simp [fpsOf, ← l2], fun η hη => ⟨v, vs', rfl, hη n v f1 (by simp), l3 η fun d w f hm => hη d w f (List.mem_cons_of_mem _ hm)⟩⟩
    cases t with
    | c t =>
      simp only [OT.Rep] at h3
      obtain ⟨h3, rfl⟩ := h3
      exact ⟨L, l1, by simpa using l2, fun η hη => ⟨v, vs', rfl, (CT.toS_den t _ v).1 h3, l3 η hη⟩⟩
    | row e =>
      simp only [OT.Rep] at h3
      exact plus (.row e _) rfl (row_handle h3) (fun η => h3)
    | ptr e => exact plus (.fold e _) rfl (ptr_handle h3) (fun η => h3)
    | map k u =>
      simp only [OT.Rep] at h3
      exact plus (.map k u _) rfl (map_handle h3) (fun η => h3)
    | ptrA a t m q => exact plus (.foldA a t m q _) rfl (ptrA_handle h3) (fun η => h3)

/-! ### A contract -/
def retV (vs : List Value) : Value := match vs with | [x] => x | vs => .tuple vs.toArray
def LendRep (P : PHeap) (H : HView) : (e : OTs) → List Value → (r : OTs) → (lendT e r).T → List Nat → (r.T → List Nat → Prop) → Prop
  | .nil, vs, _, y, fp, k => vs = [] ∧ k y fp
  | .cons (.row e) ts, v :: vs, r, y, fp, k => ∃ f1 f2, fp = f1 ++ f2 ∧ OT.Rep P H (.row e) (OTs.hd (.row e) (lendT ts r) y) v f1 ∧ LendRep P H ts vs r (OTs.tl (.row e) (lendT ts r) y) f2 k
  | .cons (.c _) ts, _ :: vs, r, y, fp, k => LendRep P H ts vs r y fp k
  | .cons (.ptr _) ts, _ :: vs, r, y, fp, k => LendRep P H ts vs r y fp k
  | .cons (.map _ _) ts, _ :: vs, r, y, fp, k => LendRep P H ts vs r y fp k
  | .cons (.ptrA _ _ _ _) ts, _ :: vs, r, y, fp, k => LendRep P H ts vs r y fp k
  | .cons _ _, [], _, _, _, _ => False
def OutsRep (P : PHeap) (H : HView) : (ps : PTys) → List Value → ps.outs.T → List Nat → Prop
  | .nil, _, _, fp => fp = []
  | .cons (.one (.ptr e)) ts, a :: as, y, fp => ∃ f1 f2, fp = f1 ++ f2 ∧ OT.Rep P H (.ptr e) (OTs.hd (.ptr e) ts.outs y) a f1 ∧ OutsRep P H ts as (OTs.tl (.ptr e) ts.outs y) f2
  | .cons (.one (.c _)) ts, _ :: as, y, fp => OutsRep P H ts as y fp
  | .cons (.one (.row e)) ts, a :: as, y, fp => ∃ f1 f2, fp = f1 ++ f2 ∧ OT.Rep P H (.row e) (OTs.hd (.row e) ts.outs y) a f1 ∧ OutsRep P H ts as (OTs.tl (.row e) ts.outs y) f2
  | .cons (.one (.map _ _)) ts, _ :: as, y, fp => OutsRep P H ts as y fp
  | .cons (.one (.ptrA p t n q)) ts, a :: as, y, fp => ∃ f1 f2, fp = f1 ++ f2 ∧ OT.Rep P H (.ptrA p t n q) (OTs.hd (.ptrA p t n q) ts.outs y) a f1 ∧ OutsRep P H ts as (OTs.tl (.ptrA p t n q) ts.outs y) f2
  | .cons (.agg _) ts, _ :: as, y, fp => OutsRep P H ts as y fp
  | .cons (.mv _) ts, _ :: as, y, fp => OutsRep P H ts as y fp
  | .cons (.mvr _) ts, _ :: as, y, fp => OutsRep P H ts as y fp
  | .cons (.rs _ _) ts, _ :: as, y, fp => OutsRep P H ts as y fp
  | .cons (.oagg e) ts, a :: as, y, fp => ∃ cs : Array Value, a = .agg cs ∧ LendRep P H e cs.toList ts.outs y fp fun y fp => OutsRep P H ts as y fp
  | .cons _ _, [], _, _ => False

/-- What a call does, as its contract says. -/
structure Done (W : World) (P : PHeap) (fp : List Nat) (g : Fun) (args : List Value) (r : g.sig.Out) (v : Value) (W' : World) (P' : PHeap) (vs : List Value) (fr fo : List Nat) (td : Bool := false) : Prop where
  val : v = retV vs
  ple : P.le P'
  psub : ∀ b o, P' b = some o → W'.heap[b]? = some o
  res : PTys.Rep P' (World.view W') g.sig.rs r.1 vs fr
  outs : OutsRep P' (World.view W') g.sig.ps args r.2 fo
  nd : (fo ++ fr).Nodup
  fps : ∀ b ∈ fo ++ fr, P' b = none ∧ b < W'.heap.size ∧ (b ∈ fp ∨ W.heap.size ≤ b)
  ext : Ext fp W W' td
  pnew : ∀ b, P' b ≠ none → P b ≠ none ∨ b ∈ fp ∨ W.heap.size ≤ b

/-- The package-level variables that hold one integer hold one. -/
def Glob (Pg : Program) (P : PHeap) : Prop := ∀ g d k, Pg.globals[g]? = some d → Pg.underlying d.type = some (.int k) → ∃ m, P.cell g 0 = some (.int k m)
theorem Glob.mono {Pg : Program} {P Q : PHeap} (h : Glob Pg P) (hl : P.le Q) : Glob Pg Q := fun g d k h1 h2 => by
  obtain ⟨m, hm⟩ := h g d k h1 h2
  exact ⟨m, PHeap.cell_le hl hm⟩
def ContractA (Pg : Program) (g : Fun) (A : List Value → Array Value) (td : Bool := false) : Prop :=
  ∀ (P : PHeap) (W : World) (args : List Value) (x : g.sig.In) (fp : List Nat), Glob Pg P →
    (∀ b o, P b = some o → W.heap[b]? = some o) → PTys.Rep P (World.view W) g.sig.ps x args fp → fp.Nodup → (∀ b ∈ fp, P b = none ∧ b < W.heap.size) →
    ∀ r, g.F x = some r → Calls Pg g.f (A args) W fun e W' => ∃ v P' vs fr fo, e = .returned v ∧ Done W P fp g args r v W' P' vs fr fo td
def Contract (Pg : Program) (g : Fun) (td : Bool := false) : Prop := ContractA Pg g List.toArray td
/-- What Do is handed: a pointer, and a method that is bound to it. -/
def onceArgs (f : Nat) (as : List Value) : Array Value := match as with | [v] => #[v, bndVal f v] | _ => #[]

theorem giveR_sound {H : HView} : ∀ (rs : PTys) (r : rs.T) (n : Nat) (vs : List Value) (fp : List Nat), rs.Rep P H r vs fp →
    ∃ L : HL2, PairOK P H (giveR rs r n).2 L ∧ fpsOf L = fp ∧ (∀ p ∈ (giveR rs r n).2, n ≤ p.1 ∧ p.1 < n + psize rs) ∧
      ∀ η : HMap, (∀ d v f, (d, v, f) ∈ L → η d = some v) → DenPs P η (giveR rs r n).1 vs
  | .nil, r, n, vs, fp, h => by
    obtain ⟨rfl, rfl⟩ := h
    exact ⟨[], trivial, rfl, by simp [giveR], fun _ _ => rfl⟩
  | .cons t ts, r, n, vs, fp, h => by
    obtain ⟨v, vs', f1, f2, rfl, rfl, h3, h4⟩ := h
    obtain ⟨L, l1, l2, l3, l4⟩ := giveR_sound ts _ (n + t.w) vs' f2 h4
    have hw : 1 ≤ t.w := by cases t <;> simp [PTy.w]
    have l3' : ∀ p ∈ (giveR ts (PTys.tl t ts r) (n + t.w)).2, n ≤ p.1 ∧ p.1 < n + psize (.cons t ts) := fun p hp => by
      have := l3 p hp; simp only [psize]; omega
    have plus : ∀ (y : Chunk), giveR (.cons t ts) r n = (.inl (.own n) :: (giveR ts (PTys.tl t ts r) (n + t.w)).1, (n, y) :: (giveR ts (PTys.tl t ts r) (n + t.w)).2) → Handle v → (∀ η, ChunkOK P H η v f1 y) →
        ∃ L : HL2, PairOK P H (giveR (.cons t ts) r n).2 L ∧ fpsOf L = f1 ++ f2 ∧ (∀ p ∈ (giveR (.cons t ts) r n).2, n ≤ p.1 ∧ p.1 < n + psize (.cons t ts)) ∧
          ∀ η : HMap, (∀ d v f, (d, v, f) ∈ L → η d = some v) → DenPs P η (giveR (.cons t ts) r n).1 (v :: vs') := by
      intro y hu hh hy
      rw [hu]
      refine ⟨(n, v, f1) :: L, ⟨rfl, hh, hy, l1⟩, by simp [fpsOf, ← l2], ?_, ?_⟩
      · intro p hp
        rcases List.mem_cons.1 hp with h | h
        · subst h; simp only [psize]; omega
        · exact l3' p h
      · intro η hη
        exact ⟨v, vs', rfl, hη n v f1 (by simp), l4 η fun d w f hm => hη d w f (List.mem_cons_of_mem _ hm)⟩
    cases t with
    | one t =>
      cases t with
      | c t =>
        have h5 : OT.Rep P H (.c t) (PTys.hd _ ts r) v f1 := h3
        rw [OT.Rep] at h5
        obtain ⟨h6, h7⟩ := h5
        subst h7
        exact ⟨L, l1, by simpa using l2, l3', fun η hη => ⟨v, vs', rfl, (CT.toS_den t _ v).1 h6, l4 η hη⟩⟩
      | row e =>
        have h3 : OT.Rep P H (.row e) (PTys.hd _ ts r) v f1 := h3
        rw [OT.Rep] at h3
        exact plus (.row e _) rfl (row_handle h3) (fun η => h3)
      | ptr e => exact plus (.fold e _) rfl (ptr_handle h3) (fun η => h3)
      | map k u =>
        have h3 : OT.Rep P H (.map k u) (PTys.hd _ ts r) v f1 := h3
        rw [OT.Rep] at h3
        exact plus (.map k u _) rfl (map_handle h3) (fun η => h3)
      | ptrA a t m q => exact plus (.foldA a t m q _) rfl (ptrA_handle h3) (fun η => h3)
    | agg e =>
      obtain ⟨cs, rfl, h5, h6, rfl⟩ := h3
      refine ⟨L, l1, by simpa using l2, l3', fun η hη => ⟨_, vs', rfl, ⟨cs, rfl, ?_⟩, l4 η hη⟩⟩
      obtain ⟨ws, w1, w2, w3⟩ := CTs.toS_den (ε := η) e _ _ h6
      have : ws = cs.toList := by
        apply List.ext_getElem?
        intro j
        by_cases hj : j < e.size
        · rw [← w2 j hj]; simp
        · rw [List.getElem?_eq_none (by omega), List.getElem?_eq_none (by simp; omega)]
      rw [← this]; exact w3
    | oagg e =>
      obtain ⟨cs, rfl, h5⟩ := h3
      obtain ⟨L0, m1, m2, m3⟩ := unfold_pairs e _ n cs.toList f1 h5
      have hu : giveR (.cons (.oagg e) ts) r n = (.inr (unfoldCells e (PTys.hd (.oagg e) ts r) n).1 :: (giveR ts (PTys.tl (.oagg e) ts r) (n + (PTy.oagg e).w)).1, (unfoldCells e (PTys.hd (.oagg e) ts r) n).2 ++ (giveR ts (PTys.tl (.oagg e) ts r) (n + (PTy.oagg e).w)).2) := rfl
      rw [hu]
      refine ⟨L0 ++ L, PairOK.append m1 l1, by rw [← m2, ← l2]; simp [fpsOf], ?_, fun η hη => ⟨_, vs', rfl, ⟨cs, rfl, m3 η fun d w f hm => hη d w f (List.mem_append_left _ hm)⟩, l4 η fun d w f hm => hη d w f (List.mem_append_right _ hm)⟩⟩
      intro p hp
      rcases List.mem_append.1 hp with h | h
      · have := unfoldCells_ids e _ n p h; simp only [psize, PTy.w]; omega
      · exact l3' p h
    | mvr e =>
      have h3 : OT.Rep P H (.row e) (PTys.hd _ ts r) v f1 := h3
      rw [OT.Rep] at h3
      exact plus (.row e _) rfl (row_handle h3) (fun η => h3)
    | rs off e =>
      obtain ⟨w, h5, h6⟩ := h3
      have hu : giveR (.cons (.rs off e) ts) r n = (.inl (.rs1 off n (PTys.hd (.rs off e) ts r).1) :: (giveR ts (PTys.tl (.rs off e) ts r) (n + (PTy.rs off e).w)).1, (n, .row e (PTys.hd (.rs off e) ts r).2) :: (giveR ts (PTys.tl (.rs off e) ts r) (n + (PTy.rs off e).w)).2) := rfl
      rw [hu]
      refine ⟨(n, w, f1) :: L, ⟨rfl, row_handle h5, fun η => h5, l1⟩, by simp [fpsOf, ← l2], ?_, fun η hη => ⟨_, vs', rfl, ?_, l4 η fun d w f hm => hη d w f (List.mem_cons_of_mem _ hm)⟩⟩
      · intro p hp
        rcases List.mem_cons.1 hp with h | h
        · subst h; simp only [psize, PTy.w]; omega
        · exact l3' p h
      · have hn := hη n w f1 List.mem_cons_self
        exact h6.imp id fun ⟨h0, b, o, cap, h7, h8⟩ => ⟨h0, b, o, cap, w, h7, h8, hn⟩
    | mv e =>
      obtain ⟨cs, rfl, h5⟩ := h3
      obtain ⟨L0, m1, m2, m3⟩ := unfold_pairs e _ n cs.toList f1 h5
      have hu : giveR (.cons (.mv e) ts) r n = (.inr (unfoldCells e (PTys.hd (.mv e) ts r) n).1 :: (giveR ts (PTys.tl (.mv e) ts r) (n + (PTy.mv e).w)).1, (unfoldCells e (PTys.hd (.mv e) ts r) n).2 ++ (giveR ts (PTys.tl (.mv e) ts r) (n + (PTy.mv e).w)).2) := rfl
      rw [hu]
      refine ⟨L0 ++ L, PairOK.append m1 l1, by rw [← m2, ← l2]; simp [fpsOf], ?_, fun η hη => ⟨_, vs', rfl, ⟨cs, rfl, m3 η fun d w f hm => hη d w f (List.mem_append_left _ hm)⟩, l4 η fun d w f hm => hη d w f (List.mem_append_right _ hm)⟩⟩
      intro p hp
      rcases List.mem_append.1 hp with h | h
      · have := unfoldCells_ids e _ n p h; simp only [psize, PTy.w]; omega
      · exact l3' p h

def ArgsOK : PTys → List SV → Prop
  | .nil, _ => True
  | .cons (.one (.ptr _)) ts, s :: ss => (s = .one .nilp ∨ ∃ c, s = .one (.own c)) ∧ ArgsOK ts ss
  | .cons (.one (.ptrA _ _ _ _)) ts, s :: ss => (s = .one .nilp ∨ ∃ c, s = .one (.own c)) ∧ ArgsOK ts ss
  | .cons _ ts, _ :: ss => ArgsOK ts ss
  | .cons _ _, [] => False
theorem takePs_args : ∀ (ps : PTys) (ss : List SV) (x : ps.T) (tab tab' : Tab), (takePs ps ss).run tab = some (x, tab') → ArgsOK ps ss
  | .nil, _, _, _, _, _ => trivial
  | .cons _ _, [], _, _, _, h => by simp only [takePs] at h; exact (run_fail_inv h).elim
  | .cons t ts, s :: ss, x, tab, tab', h => by
    simp only [takePs] at h
    obtain ⟨y, t1, k1, h⟩ := run_bind_inv h
    obtain ⟨z, t2, k2, h⟩ := run_bind_inv h
    have ih := takePs_args ts ss z t1 t2 k2
    cases t with
    | agg e => exact ih
    | oagg e => exact ih
    | mvr e => exact ih
    | rs off e => exact ih
    | mv e => exact ih
    | one t =>
      cases t with
      | c t => exact ih
      | row e => exact ih
      | map k u => exact ih
      | ptr e =>
        refine ⟨?_, ih⟩
        cases s <;> first | exact (run_fail_inv k1).elim | skip
        rename_i s
        simp only [takeP, takeO] at k1
        cases s <;> first | exact (run_fail_inv k1).elim | skip
        · exact .inl rfl
        · rename_i c; exact .inr ⟨c, rfl⟩
      | ptrA a b c d =>
        refine ⟨?_, ih⟩
        cases s <;> first | exact (run_fail_inv k1).elim | skip
        rename_i s
        simp only [takeP, takeO] at k1
        cases s <;> first | exact (run_fail_inv k1).elim | skip
        · exact .inl rfl
        · rename_i c; exact .inr ⟨c, rfl⟩

theorem giveLend_sound {P' : PHeap} {H : HView} : ∀ (e : OTs) (ss : List S1) (vs : List Value) (r : OTs) (y : (lendT e r).T) (fp : List Nat) (k : r.T → List Nat → Prop) (K : r.T → List (Nat × Chunk)), lendS e ss = true → DenL P ε ss vs → LendRep P' H e vs r y fp k →
    (∀ y fp, k y fp → ∃ L : HL2, PairOK P' H (K y) L ∧ fpsOf L = fp ∧ ∀ d v f, (d, v, f) ∈ L → ε d = some v) →
    ∃ L : HL2, PairOK P' H (giveLend e ss r y K) L ∧ fpsOf L = fp ∧ ∀ d v f, (d, v, f) ∈ L → ε d = some v
  | .nil, ss, vs, r, y, fp, k, K, _, _, h, hk => hk y fp h.2
  | .cons t ts, [], _, _, _, _, _, _, hl, _, _, _ => by cases t <;> simp [lendS] at hl
  | .cons t ts, s :: ss, _, r, y, fp, k, K, hl, ⟨v, vs', rfl, h2, h3⟩, h, hk => by
    cases t with
    | c t => exact giveLend_sound ts ss vs' r y fp k K hl h3 h hk
    | ptr e => simp [lendS] at hl
    | ptrA a b c d => simp [lendS] at hl
    | map a b => simp [lendS] at hl
    | row e =>
      cases s <;> first | (simp [lendS] at hl; done) | skip
      rename_i c
      obtain ⟨f1, f2, rfl, h5, h6⟩ := h
      obtain ⟨L, l1, l2, l3⟩ := giveLend_sound ts ss vs' r _ f2 k K hl h3 h6 hk
      rw [OT.Rep] at h5
      refine ⟨(c, v, f1) :: L, ⟨rfl, row_handle h5, fun η => h5, l1⟩, by simp [fpsOf, ← l2], ?_⟩
      intro d w f hm
      rcases List.mem_cons.1 hm with h | h
      · cases h; exact h2
      · exact l3 d w f h
theorem giveOuts_sound {P' : PHeap} {H : HView} : ∀ (ps : PTys) (ss : List SV) (vs : List Value) (y : ps.outs.T) (fp : List Nat), ArgsOK ps ss → lendOK ps ss = true → DenVs P ε ss vs → OutsRep P' H ps vs y fp →
    ∃ L : HL2, PairOK P' H (giveOuts ps ss y) L ∧ fpsOf L = fp ∧ ∀ d v f, (d, v, f) ∈ L → ε d = some v
  | .nil, ss, vs, y, fp, _, _, _, h => ⟨[], by simp [giveOuts, PairOK], by simp only [OutsRep] at h; rw [h]; rfl, by simp⟩
  | .cons t ts, [], vs, y, fp, h, _, _, _ => by cases t with
    | agg e => exact h.elim
    | oagg e => exact h.elim
    | mv e => exact h.elim
    | mvr e => exact h.elim
    | rs off e => exact h.elim
    | one t => cases t <;> exact h.elim
  | .cons t ts, s :: ss, _, y, fp, hok, hlo, ⟨v, vs', rfl, h2, h3⟩, h => by
    cases t with
    | agg e => exact giveOuts_sound ts ss vs' y fp hok hlo h3 h
    | mv e => exact giveOuts_sound ts ss vs' y fp hok hlo h3 h
    | mvr e => exact giveOuts_sound ts ss vs' y fp hok hlo h3 h
    | rs off e => exact giveOuts_sound ts ss vs' y fp hok hlo h3 h
    | oagg e =>
      simp only [lendOK, Bool.and_eq_true] at hlo
      obtain ⟨hl1, hl2⟩ := hlo
      cases s <;> first | (simp at hl1; done) | skip
      rename_i ws
      obtain ⟨cs, rfl, h4⟩ := h
      obtain ⟨cs', e1, h5⟩ := h2
      cases e1
      exact giveLend_sound e ws cs.toList ts.outs y fp _ _ hl1 h5 h4 fun y fp hy => giveOuts_sound ts ss vs' y fp hok hl2 h3 hy
    | one t =>
      cases t with
      | c t => exact giveOuts_sound ts ss vs' y fp hok (Bool.and_eq_true_iff.1 hlo).2 h3 h
      | map k u => exact giveOuts_sound ts ss vs' y fp hok hlo h3 h
      | row e =>
        simp only [lendOK, Bool.and_eq_true] at hlo
        obtain ⟨hl1, hl2⟩ := hlo
        obtain ⟨f1, f2, rfl, h5, h6⟩ := h
        obtain ⟨L, l1, l2, l3⟩ := giveOuts_sound ts ss vs' _ f2 hok hl2 h3 h6
        rcases s with s | s | s <;> first | (simp at hl1; done) | skip
        cases s <;> first | (simp at hl1; done) | skip
        rename_i c
        rw [OT.Rep] at h5
        refine ⟨(c, v, f1) :: L, ⟨rfl, row_handle h5, fun η => h5, l1⟩, by simp [fpsOf, ← l2], ?_⟩
        intro d w f hm
        rcases List.mem_cons.1 hm with h | h
        · cases h; exact h2
        · exact l3 d w f h
      | ptr e =>
        obtain ⟨f1, f2, rfl, h5, h6⟩ := h
        obtain ⟨ho, hok⟩ := hok
        obtain ⟨L, l1, l2, l3⟩ := giveOuts_sound ts ss vs' _ f2 hok (Bool.and_eq_true_iff.1 hlo).2 h3 h6
        rcases ho with rfl | ⟨c, rfl⟩
        · have hv : v = .pointer none := h2
          rw [OT.Rep] at h5
          rcases h5 with ⟨_, _, rfl⟩ | ⟨x, b, cs, T, fp', _, h5, _⟩
          · exact ⟨L, l1, by simpa using l2, l3⟩
          · rw [hv] at h5; cases h5
        · refine ⟨(c, v, f1) :: L, ⟨rfl, ptr_handle h5, fun η => h5, l1⟩, by simp [fpsOf, ← l2], ?_⟩
          intro d w f hm
          rcases List.mem_cons.1 hm with h | h
          · cases h; exact h2
          · exact l3 d w f h
      | ptrA pa ta na qa =>
        obtain ⟨f1, f2, rfl, h5, h6⟩ := h
        obtain ⟨ho, hok⟩ := hok
        obtain ⟨L, l1, l2, l3⟩ := giveOuts_sound ts ss vs' _ f2 hok (Bool.and_eq_true_iff.1 hlo).2 h3 h6
        rcases ho with rfl | ⟨c, rfl⟩
        · have hv : v = .pointer none := h2
          rw [OT.Rep] at h5
          rcases h5 with ⟨_, _, rfl⟩ | ⟨x, y, z, b, cs, T, fa, fb, c1, c2, c3, _, h5, _⟩
          · exact ⟨L, l1, by simpa using l2, l3⟩
          · rw [hv] at h5; cases h5
        · refine ⟨(c, v, f1) :: L, ⟨rfl, ptrA_handle h5, fun η => h5, l1⟩, by simp [fpsOf, ← l2], ?_⟩
          intro d w f hm
          rcases List.mem_cons.1 hm with h | h
          · cases h; exact h2
          · exact l3 d w f h

theorem denV_giveV {l : List (S1 ⊕ List S1)} {vs : List Value} {η : HMap} (h : DenPs P η l vs) : DenV P η (giveV l) (retV vs) := by
  match l, h with
  | [], h => simp only [DenPs] at h; subst h; exact ⟨#[], rfl, rfl⟩
  | [.inl s], ⟨v, vs', h1, h2, h3⟩ => simp only [DenPs] at h3; subst h3; subst h1; exact h2
  | [.inr ss], ⟨v, vs', h1, h2, h3⟩ => simp only [DenPs] at h3; subst h3; subst h1; exact h2
  | a :: b :: r, ⟨v, vs', h1, h2, u, us, h3, h4, h5⟩ =>
    subst h1; subst h3
    have e1 : giveV (a :: b :: r) = .tup (a :: b :: r) := by cases a <;> rfl
    rw [e1]
    exact ⟨_, rfl, by simpa using ⟨v, u :: us, rfl, h2, u, us, rfl, h4, h5⟩⟩

theorem addE_mem {L : HL2} {d : Nat} {v : Value} {f : List Nat} (hn : (L.map (·.1)).Nodup) (h : (d, v, f) ∈ L) : addE L ε d = some v := by
  have : Map.get L d = some (v, f) := by
    induction L with
    | nil => cases h
    | cons p r ih =>
      obtain ⟨k, y⟩ := p
      rw [List.map_cons, List.nodup_cons] at hn
      unfold Map.get
      rcases List.mem_cons.1 h with e | h
      · cases e; simp
      · have : Nat.beq k d = false := by
          cases hb : Nat.beq k d with
          | true => exact absurd (List.mem_map.2 ⟨_, h, rfl⟩) (nbeq_true hb ▸ hn.1)
          | false => rfl
        rw [this]; exact ih hn.2 h
  simp [addE, this]

/-- What a call does, as a contract says, is what the walk says: for whichever way of calling. -/
theorem call_soundG {g : Fun} {C : List Value → (Ending → World → Prop) → Prop} (mono : ∀ as Q Q', C as Q → (∀ e W', Q e W' → Q' e W') → C as Q')
    (hg : ∀ (P : PHeap) (args : List Value) (x : g.sig.In) (fp : List Nat), cx.P0.le P → (∀ b o, P b = some o → W.heap[b]? = some o) → PTys.Rep P (World.view W) g.sig.ps x args fp → fp.Nodup → (∀ b ∈ fp, P b = none ∧ b < W.heap.size) →
      ∀ r, g.F x = some r → C args fun e W' => ∃ v P' vs fr fo, e = .returned v ∧ Done W P fp g args r v W' P' vs fr fo cx.td) (I : Inv cx P ε φ tab W) {fresh : Nat} (hfr : Fresh ε fresh) {ss : List SV} {vs : List Value} (hs : DenVs P ε ss vs) {sv : SV} {tab' : Tab}
    (h : (callF g ss fresh).run tab = some (sv, tab')) :
    C vs fun e W' => ∃ v P' ε' φ', e = .returned v ∧ P.le P' ∧ HMap.le ε ε' ∧ (∀ c, ε' c ≠ none → ε c ≠ none ∨ (fresh ≤ c ∧ c < fresh + stride)) ∧ Inv cx P' ε' φ' tab' W' ∧ DenV P' ε' sv v := by
  unfold callF at h
  split at h
  · rename_i hsz
    simp only [Bool.and_eq_true] at hsz
    obtain ⟨hsz, hlo⟩ := hsz
    have hsz := Nat.le_of_ble_eq_true hsz
    obtain ⟨x, t1, k1, h⟩ := run_bind_inv h
    obtain ⟨r, hr, h⟩ := run_bindO_inv h
    obtain ⟨t2, h, a2, a3, a4, a5⟩ := newAll_inv _ _ h
    obtain ⟨t3, h, b2, b3, b4, b5⟩ := newAll_inv _ _ h
    obtain ⟨rfl, rfl⟩ := run_pure_inv h
    have hok := takePs_args _ _ _ _ _ k1
    obtain ⟨P1, φ1, fp, p1, p2, p3, p4, p5⟩ := takePs_sound g.sig.ps ss vs x tab t1 P φ [] I Held.nil hs k1
    rw [List.append_nil] at p3
    refine mono _ _ _ (hg P1 vs x fp p2.pmono p2.psub p4 p3.nd (fun b hb => ⟨(p3.ok b hb).1, (p3.ok b hb).2.1⟩) r hr) fun e W' ⟨v, P', rs, fr, fo, he, D⟩ => ?_
    obtain ⟨Lo, o1, o2, o3⟩ := giveOuts_sound g.sig.ps ss vs r.2 fo hok hlo hs D.outs
    obtain ⟨Lr, q1, q2, q3, q4⟩ := giveR_sound g.sig.rs r.1 fresh rs fr D.res
    have hpair := PairOK.append o1 q1
    have hkeys : ((giveOuts g.sig.ps ss r.2 ++ (giveR g.sig.rs r.1 fresh).2).map (·.1)).Nodup := by
      rw [List.map_append]
      refine List.nodup_append.2 ⟨a5, b5, fun a ha b hb e => ?_⟩
      obtain ⟨p, hp, rfl⟩ := List.mem_map.1 ha
      obtain ⟨q, hq, e2⟩ := List.mem_map.1 hb
      have := b4 q hq
      rw [e2, ← e, a2 p.1 p.2 hp] at this
      cases this
    obtain ⟨g1, g2⟩ := hpair.get hkeys
    have hLk : ((Lo ++ Lr).map (·.1)).Nodup := by rw [hpair.keys]; exact hkeys
    have hfps : fpsOf (Lo ++ Lr) = fo ++ fr := by
      rw [← o2, ← q2]; simp [fpsOf]
    have inL : ∀ d v f, Map.get (Lo ++ Lr) d = some (v, f) → (d, v, f) ∈ Lo ∨ (d, v, f) ∈ Lr := fun d v f hd => List.mem_append.1 (Map.get_mem hd)
    have idR : ∀ d v f, (d, v, f) ∈ Lr → fresh ≤ d ∧ d < fresh + stride := fun d v f hd => by
      have : d ∈ Lr.map (·.1) := List.mem_map.2 ⟨_, hd, rfl⟩
      rw [q1.keys] at this
      obtain ⟨p, hp, rfl⟩ := List.mem_map.1 this
      have := q3 p hp
      omega
    have getL : ∀ d x, tab'.get d = some x → (∃ p, Map.get (Lo ++ Lr) d = some p) ∨ t1.get d = some x := by
      intro d x hd
      by_cases hn : ∃ y, (d, y) ∈ giveOuts g.sig.ps ss r.2 ++ (giveR g.sig.rs r.1 fresh).2
      · exact .inl ((g1 d).2 hn)
      · right
        rw [b3 d (fun y hy => hn ⟨y, List.mem_append_right _ hy⟩), a3 d (fun y hy => hn ⟨y, List.mem_append_left _ hy⟩)] at hd
        exact hd
    have I2 := p2.install (P' := P') (W' := W') (tab' := tab') fp (Lo ++ Lr) (fun b hb => (p3.ok b hb).2) p3.away D.ext D.ple D.psub D.pnew ?_ getL ?_ (by rw [hfps]; exact D.nd) ?_
    · refine ⟨v, P', _, _, he, PHeap.le_trans p1 D.ple, addE_le ?_, ?_, I2, ?_⟩
      · intro d w f hd
        rcases inL d w f hd with h | h
        · exact .inr (o3 d w f h)
        · exact .inl (hfr d (idR d w f h).1 (idR d w f h).2)
      · intro d hd
        unfold addE at hd
        cases hg' : Map.get (Lo ++ Lr) d with
        | none => rw [hg'] at hd; exact .inl hd
        | some p =>
          obtain ⟨w, f⟩ := p
          rcases inL d w f hg' with h | h
          · left; rw [o3 d w f h]; simp
          · exact .inr (idR d w f h)
      · rw [D.val]
        refine denV_giveV (q4 _ fun d w f hm => addE_mem hLk (List.mem_append_right _ hm))
    · intro d w f hd
      obtain ⟨y, hy⟩ := (g1 d).1 ⟨_, hd⟩
      refine ⟨?_, (g2 d w f y hd hy).1⟩
      rcases inL d w f hd with h | h
      · exact .inr (o3 d w f h)
      · exact .inl (hfr d (idR d w f h).1 (idR d w f h).2)
    · intro d w f y hd hy
      obtain ⟨z, hz⟩ := (g1 d).1 ⟨_, hd⟩
      have : y = z := by
        rcases List.mem_append.1 hz with h | h
        · have e1 := a2 d z h
          have e2 : tab'.get d = t2.get d := b3 d (fun u hu => by have := b4 _ hu; rw [e1] at this; cases this)
          rw [e2, e1] at hy; cases hy; rfl
        · rw [b2 d z h] at hy; cases hy; rfl
      subst this
      exact (g2 d w f y hd hz).2 _
    · intro b hb
      rw [hfps] at hb
      obtain ⟨d1, d2, d3⟩ := D.fps b hb
      exact ⟨d3, d1, d2⟩
  · exact (run_fail_inv h).elim

theorem call_sound {g : Fun} {A : List Value → Array Value} (hg : ContractA Pg g A cx.td) (hgl : Glob Pg cx.P0) (I : Inv cx P ε φ tab W) {fresh : Nat} (hfr : Fresh ε fresh) {ss : List SV} {vs : List Value} (hs : DenVs P ε ss vs) {sv : SV} {tab' : Tab}
    (h : (callF g ss fresh).run tab = some (sv, tab')) :
    Calls Pg g.f (A vs) W fun e W' => ∃ v P' ε' φ', e = .returned v ∧ P.le P' ∧ HMap.le ε ε' ∧ (∀ c, ε' c ≠ none → ε c ≠ none ∨ (fresh ≤ c ∧ c < fresh + stride)) ∧ Inv cx P' ε' φ' tab' W' ∧ DenV P' ε' sv v :=
  call_soundG (C := fun as Q => Calls Pg g.f (A as) W Q) (fun _ _ _ h hq => h.mono hq) (fun P args x fp h0 h1 h2 h3 h4 r hr => hg P W args x fp (hgl.mono h0) h1 h2 h3 h4 r hr) I hfr hs h

/-- A function without a body, whose entry answers at once. -/
def ContractE (Pg : Program) (g : Fun) (td : Bool := false) : Prop :=
  ∀ (P : PHeap) (W : World) (args : List Value) (x : g.sig.In) (fp : List Nat), Glob Pg P →
    (∀ b o, P b = some o → W.heap[b]? = some o) → PTys.Rep P (World.view W) g.sig.ps x args fp → fp.Nodup → (∀ b ∈ fp, P b = none ∧ b < W.heap.size) →
    ∀ r, g.F x = some r → ∃ v W', (callFunc g.f args.toArray).run Pg W = .ok (.value v) W' ∧ ∃ P' vs fr fo, Done W P fp g args r v W' P' vs fr fo td
def Enters (Pg : Program) (f : Nat) (W : World) (as : List Value) (Q : Ending → World → Prop) : Prop := ∃ v W', (callFunc f as.toArray).run Pg W = .ok (.value v) W' ∧ Q (.returned v) W'
theorem enter_sound {g : Fun} (hg : ContractE Pg g cx.td) (hgl : Glob Pg cx.P0) (I : Inv cx P ε φ tab W) {fresh : Nat} (hfr : Fresh ε fresh) {ss : List SV} {vs : List Value} (hs : DenVs P ε ss vs) {sv : SV} {tab' : Tab}
    (h : (callF g ss fresh).run tab = some (sv, tab')) :
    Enters Pg g.f W vs fun e W' => ∃ v P' ε' φ', e = .returned v ∧ P.le P' ∧ HMap.le ε ε' ∧ (∀ c, ε' c ≠ none → ε c ≠ none ∨ (fresh ≤ c ∧ c < fresh + stride)) ∧ Inv cx P' ε' φ' tab' W' ∧ DenV P' ε' sv v :=
  call_soundG (C := Enters Pg g.f W) (fun _ _ _ ⟨v, W', h1, h2⟩ hq => ⟨v, W', h1, hq _ _ h2⟩)
    (fun P args x fp h0 h1 h2 h3 h4 r hr => by
      obtain ⟨v, W', e1, P', vs, fr, fo, D⟩ := hg P W args x fp (hgl.mono h0) h1 h2 h3 h4 r hr
      exact ⟨v, W', e1, v, P', vs, fr, fo, rfl, D⟩) I hfr hs h

/-! ### One cell -/
def AtomOK (Pg : Program) (f : Nat) : Atom → Prop
  | .add k => ∀ (W : World) (b o : Nat) (cs : Array Value) (T : Nat) (x y : Int), W.heap[b]? = some (.cells cs T (0, 0)) → cs[o]? = some (.int k x) →
      Calls Pg f #[.pointer (some ⟨b, o, none⟩), .int k y] W fun e W' => e = .returned (.int k (k.wrap (x + y))) ∧ W' = setArr W b (cs.setIfInBounds o (.int k (k.wrap (x + y)))) T (0, 0)
  | .load k => ∀ (W : World) (b o : Nat) (cs : Array Value) (T : Nat) (x : Int), W.heap[b]? = some (.cells cs T (0, 0)) → cs[o]? = some (.int k x) →
      Calls Pg f #[.pointer (some ⟨b, o, none⟩)] W fun e W' => e = .returned (.int k x) ∧ W' = W
  | .field off => ∀ (W : World) (b : Nat) (cs : Array Value) (T : Nat) (v : Value), W.heap[b]? = some (.cells cs T (0, 0)) → cs[off]? = some v →
      Calls Pg f #[.pointer (some ⟨b, 0, none⟩)] W fun e W' => e = .returned v ∧ W' = W
  | .pair20 a b => ∀ (W : World) (c : Nat) (cs : Array Value) (T : Nat) (x y : IK .u64), W.heap[c]? = some (.cells cs T (0, 0)) → cs[a]? = some (.int .u64 (IK.toInt .u64 x)) → cs[b]? = some (.int .u64 (IK.toInt .u64 y)) →
      Calls Pg f #[.pointer (some ⟨c, 0, none⟩)] W fun e W' => e = .returned (.int .u64 (IK.toInt .u64 (IK.or .u64 (IK.shl .u64 x 20) y))) ∧ ∃ d, W' = { W with drawn := d } ∧ W.drawn ≤ d
/-- A function turns a row by way of a closure that reads a map. -/
def SrtOK (Pg : Program) (f : Nat) (s : Srt) (td : Bool) : Prop :=
  ∀ (P : PHeap) (W : World) (xs ys : List s.r.T) (ents : List (s.k.T × s.v.T)) (v0 : Value) (fp : List Nat) (b bb m : Nat) (bs cs : Array Value) (T0 T : Nat) (es : Array MapEntry) (clock : Nat),
    Glob Pg P → (∀ b o, P b = some o → W.heap[b]? = some o) → RowRep P (World.view W) s.r xs v0 fp → fp.Nodup → (∀ b ∈ fp, P b = none ∧ b < W.heap.size) →
    W.heap[b]? = some (.cells bs T0 (0, 0)) → bs[0]? = some (.pointer (some ⟨bb, 0, none⟩)) → W.heap[bb]? = some (.cells cs T (0, 0)) → cs[0]? = some (.map (some m)) →
    W.heap[m]? = some (.map es clock) → EntsRep P s.k s.v ents es.toList → BornOK es clock → b ∉ fp → bb ∉ fp → m ∉ fp → P b = none → P bb = none → P m = none → b ≠ bb → b ≠ m → bb ≠ m → s.F xs ents = some ys →
    Calls Pg f #[v0, .func (.func s.g) #[] #[.pointer (some ⟨b, 0, none⟩)]] W fun e W' => e = .returned (.tuple #[]) ∧ RowRep P (World.view W') s.r ys v0 fp ∧ Ext fp W W' td
/-- A function does as its signature says. -/
def CallOK (Pg : Program) (g : Fun) (td : Bool := false) : Prop := match atomOf g.sig with
  | some a => AtomOK Pg g.f a
  | none => match onceOf g with
    | some (f, g) => ContractA Pg g (onceArgs f) td
    | none => match bndOf g with
      | some (f, g) => ContractA Pg g (fun as => (bndArgs f as).toArray) td
      | none => match srtOf g with
        | some s => SrtOK Pg g.f s td
        | none => Contract Pg g td
theorem bndOf_f {g g' : Fun} {f : Nat} (h : bndOf g = some (f, g')) : g'.f = g.f := by
  unfold bndOf at h
  split at h
  · simp only [Option.some.injEq, Prod.mk.injEq] at h
    obtain ⟨_, rfl⟩ := h
    rfl
  · cases h
theorem unbnd_den {f : Nat} : ∀ (ss ss' : List SV) (vs : List Value), unbnd f ss = some ss' → DenVs P ε ss vs → ∃ vs', DenVs P ε ss' vs' ∧ vs = bndArgs f vs'
  | [], _, _, h, _ => by simp [unbnd] at h
  | s :: r, ss', vs, h, hd => by
    unfold unbnd at h
    split at h
    · rename_i f' d heq
      cases heq
      split at h
      · rename_i hb
        cases h
        have hb := nbeq_true hb
        subst hb
        obtain ⟨v, vs1, rfl, ⟨w, hw1, hw2⟩, h2⟩ := hd
        have h2 : vs1 = [] := h2
        subst h2; subst hw2
        exact ⟨[w], ⟨w, [], rfl, hw1, rfl⟩, rfl⟩
      · cases h
    · rename_i s0 r0 _ heq
      cases heq
      obtain ⟨v, vs1, rfl, h1, h2⟩ := hd
      cases hr : unbnd f r with
      | none => rw [hr] at h; cases h
      | some rr =>
        rw [hr] at h
        cases h
        obtain ⟨vs', k1, rfl⟩ := unbnd_den r rr vs1 hr h2
        refine ⟨v :: vs', ⟨v, vs', rfl, h1, k1⟩, ?_⟩
        cases vs' with
        | nil =>
          cases r with
          | nil => simp [unbnd] at hr
          | cons a b => obtain ⟨_, _, hx, _⟩ := h2; simp [bndArgs] at hx
        | cons a b => rfl
    · cases h
theorem intAt_den {ss : List S1} {vs : List Value} {k : IntKind} {off : Nat} {m : IK k} (h : DenL P ε ss vs) (hm : intAt k ss off = some m) : vs[off]? = some (.int k (IK.toInt k m)) := by
  unfold intAt at hm
  rw [nth_eq] at hm
  split at hm
  · rename_i s hs
    obtain ⟨v, hv, hd⟩ := DenL.nth h hs
    rw [hv]
    have := CT.ofS_rep (.int k) s m v hm hd
    simp only [CT.Rep] at this
    rw [this]
  · cases hm
theorem locP_den (I : Inv cx P ε φ tab W) {x : S1} {c off : Nat} {v : Value} (hx : Den P ε x v) (hl : locP x = some (c, off)) {vs : List S1} (hc : tab.get c = some (.cells vs)) :
    ∃ b cs T, v = .pointer (some ⟨b, off, none⟩) ∧ ε c = some (.pointer (some ⟨b, 0, none⟩)) ∧ φ c = [b] ∧ W.heap[b]? = some (.cells cs T (0, 0)) ∧ DenL P ε vs cs.toList := by
  obtain ⟨hh, e1, b, cs, T, e2, e3, e4, e5⟩ := I.chunk c _ hc
  subst e2
  unfold locP at hl
  split at hl
  · simp only [Option.some.injEq, Prod.mk.injEq] at hl
    obtain ⟨rfl, rfl⟩ := hl
    have hx : ε _ = some v := hx
    rw [e1] at hx; cases hx
    exact ⟨b, cs, T, rfl, e1, e3, e4, e5⟩
  · simp only [Option.some.injEq, Prod.mk.injEq] at hl
    obtain ⟨rfl, rfl⟩ := hl
    obtain ⟨b', h1, h2⟩ := hx
    rw [e1] at h1; cases h1
    exact ⟨b, cs, T, h2, e1, e3, e4, e5⟩
  · cases hl
theorem locA_den (I : Inv cx P ε φ tab W) {x : S1} {c off : Nat} {v : Value} (hx : Den P ε x v) (hl : locP x = some (c, off)) {vs ws : List S1} {t : CT} {n : Nat} {y : List t.T} (hc : tab.get c = some (.cellsA vs t n y ws)) :
    ∃ b cs T c1 c2 c3, v = .pointer (some ⟨b, off, none⟩) ∧ ε c = some (.pointer (some ⟨b, 0, none⟩)) ∧ φ c = [b] ∧ W.heap[b]? = some (.cells cs T (0, 0)) ∧ cs.toList = c1 ++ (c2 ++ c3) ∧ DenL P ε vs c1 ∧ ArrRep P t n y c2 ∧ DenL P ε ws c3 := by
  obtain ⟨hh, e1, b, cs, T, c1, c2, c3, e2, e3, e4, e5, e6, e7, e8⟩ := I.chunk c _ hc
  subst e2
  unfold locP at hl
  split at hl
  · simp only [Option.some.injEq, Prod.mk.injEq] at hl
    obtain ⟨rfl, rfl⟩ := hl
    have hx : ε _ = some v := hx
    rw [e1] at hx; cases hx
    exact ⟨b, cs, T, c1, c2, c3, rfl, e1, e3, e4, e5, e6, e7, e8⟩
  · simp only [Option.some.injEq, Prod.mk.injEq] at hl
    obtain ⟨rfl, rfl⟩ := hl
    obtain ⟨b', h1, h2⟩ := hx
    rw [e1] at h1; cases h1
    exact ⟨b, cs, T, c1, c2, c3, h2, e1, e3, e4, e5, e6, e7, e8⟩
  · cases hl
theorem put_one (cs : Array Value) (off : Nat) (v : Value) (h : off < cs.size) : putArr cs off [v] = cs.setIfInBounds off v := by
  apply Array.ext_getElem?
  intro i
  rw [putArr_get _ _ _ (by simp only [List.length_cons, List.length_nil]; omega)]
  simp only [List.length_cons, List.length_nil]
  by_cases hi : i = off
  · subst hi
    rw [if_pos ⟨Nat.le_refl _, by omega⟩, Array.getElem?_setIfInBounds_self_of_lt h]
    simp
  · rw [if_neg (by omega), Array.getElem?_setIfInBounds_ne (fun h => hi h.symm)]
theorem field_at {f off : Nat} (hg : AtomOK Pg f (.field off)) (I : Inv cx P ε φ tab W) {c : Nat} {v : Value} (hv : ε c = some v) {vs : List S1} (hc : tab.get c = some (.cells vs)) {sv : SV} {tab' : Tab}
    (h : (fieldV vs off).run tab = some (sv, tab')) : tab' = tab ∧ Calls Pg f #[v] W fun e W' => ∃ w d, e = .returned w ∧ W' = { W with drawn := d } ∧ W.drawn ≤ d ∧ DenV P ε sv w := by
  unfold fieldV at h
  split at h
  · rename_i d hd
    obtain ⟨e1, e2⟩ := run_pure_inv h
    subst e1; subst e2
    obtain ⟨hh, e1, b, cs, T, e2, e3, e4, e5⟩ := I.chunk c _ hc
    subst e2
    rw [hv] at e1; cases e1
    obtain ⟨w, hw, hd'⟩ := DenL.nth e5 (nth_eq _ _ ▸ hd)
    refine ⟨rfl, (hg W b cs T w e4 (by simpa using hw)).mono fun e W' ⟨h1, h2⟩ => ⟨w, W.drawn, h1, h2, Nat.le_refl _, hd'⟩⟩
  · exact (run_fail_inv h).elim
theorem calc_at {f a b : Nat} (hg : AtomOK Pg f (.pair20 a b)) (I : Inv cx P ε φ tab W) {c : Nat} {v : Value} (hv : ε c = some v) {vs : List S1} (hc : tab.get c = some (.cells vs)) {sv : SV} {tab' : Tab}
    (h : (calcV vs a b).run tab = some (sv, tab')) : tab' = tab ∧ Calls Pg f #[v] W fun e W' => ∃ w d, e = .returned w ∧ W' = { W with drawn := d } ∧ W.drawn ≤ d ∧ DenV P ε sv w := by
  unfold calcV at h
  split at h
  · rename_i x y hx hy
    obtain ⟨e1, e2⟩ := run_pure_inv h
    subst e1; subst e2
    obtain ⟨hh, e1, b', cs, T, e2, e3, e4, e5⟩ := I.chunk c _ hc
    subst e2
    rw [hv] at e1; cases e1
    exact ⟨rfl, (hg W b' cs T x y e4 (by simpa using intAt_den e5 hx) (by simpa using intAt_den e5 hy)).mono fun e W' ⟨h1, d, h2, h2'⟩ => ⟨_, d, h1, h2, h2', rfl⟩⟩
  · exact (run_fail_inv h).elim
theorem openC_sound {f : Nat} {k : List S1 → Prog SV} (I : Inv cx P ε φ tab W) {fresh : Nat} (hfr : Fresh ε fresh) {c : Nat} {v : Value} (hv : ε c = some v)
    (hk : ∀ {ε' : HMap} {φ' : Nat → List Nat} {t1 : Tab} {vs : List S1} {sv : SV} {t2 : Tab}, Inv cx P ε' φ' t1 W → ε' c = some v → t1.get c = some (.cells vs) → (k vs).run t1 = some (sv, t2) → t2 = t1 ∧ Calls Pg f #[v] W fun e W' => ∃ w d, e = .returned w ∧ W' = { W with drawn := d } ∧ W.drawn ≤ d ∧ DenV P ε' sv w)
    {sv : SV} {tab' : Tab} (h : (openC c fresh k).run tab = some (sv, tab')) :
    Calls Pg f #[v] W fun e W' => ∃ v P' ε' φ', e = .returned v ∧ P.le P' ∧ HMap.le ε ε' ∧ (∀ c, ε' c ≠ none → ε c ≠ none ∨ (fresh ≤ c ∧ c < fresh + stride)) ∧ Inv cx P' ε' φ' tab' W' ∧ DenV P' ε' sv v := by
  unfold openC at h
  obtain ⟨ch, hc, h⟩ := run_get_inv h
  cases ch <;> first | exact (run_fail_inv h).elim | skip
  · obtain ⟨e0, hh⟩ := hk I hv hc h
    subst e0
    exact hh.mono fun e W' ⟨w, d, h1, h2, h2', h3⟩ => by subst h2; exact ⟨w, P, ε, φ, h1, PHeap.le_refl P, fun _ _ h => h, fun _ h => .inl h, I.drew d fun _ => h2', h3⟩
  · simp only at h
    split at h
    · rename_i hsz
      obtain ⟨z, hz, h⟩ := run_bindO_inv h
      subst hz
      obtain ⟨t1, ε', φ', k1, k2, k3, k4, k5, _⟩ := open_sound I (Nat.le_of_ble_eq_true hsz) hfr hc h
      obtain ⟨e0, hh⟩ := hk k5 (k3 _ _ hv) k2 k1
      subst e0
      exact hh.mono fun e W' ⟨w, d, h1, h2, h2', h3⟩ => by subst h2; exact ⟨w, P, ε', φ', h1, PHeap.le_refl P, k3, k4, k5.drew d fun _ => h2', h3⟩
    · exact (run_fail_inv h).elim
theorem atom_sound {f : Nat} {a : Atom} (hg : AtomOK Pg f a) (I : Inv cx P ε φ tab W) {fresh : Nat} {ss : List SV} {vs : List Value} (hs : DenVs P ε ss vs) {sv : SV} {tab' : Tab}
    (hfr : Fresh ε fresh) (h : (atomP a ss fresh).run tab = some (sv, tab')) :
    Calls Pg f vs.toArray W fun e W' => ∃ v P' ε' φ', e = .returned v ∧ P.le P' ∧ HMap.le ε ε' ∧ (∀ c, ε' c ≠ none → ε c ≠ none ∨ (fresh ≤ c ∧ c < fresh + stride)) ∧ Inv cx P' ε' φ' tab' W' ∧ DenV P' ε' sv v := by
  cases a with
  | field off =>
    simp only [atomP] at h
    split at h
    · rename_i c
      obtain ⟨v1, vs1, rfl, hx, hs1⟩ := hs
      have hs1 : vs1 = [] := hs1
      subst hs1
      exact openC_sound I hfr hx (fun I' hv hc h => field_at hg I' hv hc h) h
    · exact (run_fail_inv h).elim
  | pair20 a b =>
    simp only [atomP] at h
    split at h
    · rename_i c
      obtain ⟨v1, vs1, rfl, hx, hs1⟩ := hs
      have hs1 : vs1 = [] := hs1
      subst hs1
      exact openC_sound I hfr hx (fun I' hv hc h => calc_at hg I' hv hc h) h
    · exact (run_fail_inv h).elim
  | add k =>
    simp only [atomP] at h
    split at h
    · rename_i x y
      split at h
      · rename_i c off n hl hn
        obtain ⟨ch, hc, h⟩ := run_get_inv h
        cases ch <;> first | exact (run_fail_inv h).elim | skip
        case cellsA vs0 t0 N y0 ws0 =>
          simp only at h
          split at h
          · rename_i hle
            have hle := Nat.le_of_ble_eq_true hle
            split at h
            · rename_i m hm
              obtain ⟨ws', t1, k1, h2⟩ := run_bind_inv h
              obtain ⟨k2, e0⟩ := run_ret_inv k1
              subst e0
              have h3 : (Prog.pure (SV.one (S1.int k (IK.add k m n)))).run (Map.set t1 c (Chunk.cellsA vs0 t0 N y0 ws')) = some (sv, tab') := h2
              obtain ⟨e1, e2⟩ := run_pure_inv h3
              subst e1; subst e2
              obtain ⟨v1, vs1, rfl, hx, hs1⟩ := hs
              obtain ⟨v2, vs2, rfl, hy, hs2⟩ := hs1
              have hs2 : vs2 = [] := hs2
              subst hs2
              obtain ⟨b, cs, T, c1, c2, c3, rfl, g1, g2, g3, g4, g5, g6, g7⟩ := locA_den I hx hl hc
              have hm' := intAt_den g7 hm
              have hy' := CT.ofS_rep (.int k) y n v2 hn hy
              simp only [CT.Rep] at hy'
              subst hy'
              have l1 := g5.length
              have l2 := g6.1
              have hcs : cs[off]? = some (.int k (IK.toInt k m)) := by
                have e : off = c1.length + c2.length + (off - (vs0.length + N)) := by omega
                rw [e, (parted g4).2.2]; exact hm'
              refine (hg W b off cs T _ _ g3 hcs).mono fun e W' ⟨h1, h2⟩ => ?_
              subst h1; subst h2
              refine ⟨_, P, ε, φ, rfl, PHeap.le_refl P, fun _ _ h => h, fun _ h => .inl h, ?_, ?_⟩
              · have hnew : DenL P ε [S1.int k (IK.add k m n)] [Value.int k (IK.toInt k (IK.add k m n))] := ⟨_, [], rfl, rfl, rfl⟩
                have hrun : (putAP c vs0 t0 N y0 ws0 off [S1.int k (IK.add k m n)]).run t1 = some (SV.one S1.dead, Map.set t1 c (Chunk.cellsA vs0 t0 N y0 ws')) := by
                  unfold putAP putAL
                  have b1 : Nat.ble (off + [S1.int k (IK.add k m n)].length) vs0.length = false := by
                    cases hb : Nat.ble (off + [S1.int k (IK.add k m n)].length) vs0.length with
                    | false => rfl
                    | true => have := Nat.le_of_ble_eq_true hb; simp at this; omega
                  rw [b1, Nat.ble_eq_true_of_le hle, k2]
                  rfl
                obtain ⟨_, q2, vs', ws2, y', d1, d2, d3, q3, q4, q5, q6, q7⟩ := putA_sound g4 g5 g6 g7 hnew hrun
                rw [q3]
                have hsz : off < cs.size := by simp only [List.length_cons, List.length_nil] at q2; omega
                refine I.write hc g2 g3 fun h' hh' => ?_
                rw [g1] at hh'; cases hh'
                refine ⟨b, _, T, d1, d2, d3, rfl, rfl, setArr_heap g3, ?_, q5, q6, q7⟩
                rw [← IK.add_toInt, ← put_one cs off _ hsz]; exact q4
              · show Value.int k _ = Value.int k _
                rw [IK.add_toInt]
            · exact (run_fail_inv h).elim
          · exact (run_fail_inv h).elim
        rename_i ws
        simp only at h
        split at h
        · rename_i m hm
          obtain ⟨ws', t1, k1, h2⟩ := run_bind_inv h
          obtain ⟨k2, e0⟩ := run_ret_inv k1
          subst e0
          have h3 : (Prog.pure (SV.one (S1.int k (IK.add k m n)))).run (Map.set t1 c (Chunk.cells ws')) = some (sv, tab') := h2
          obtain ⟨e1, e2⟩ := run_pure_inv h3
          subst e1; subst e2
          obtain ⟨v1, vs1, rfl, hx, hs1⟩ := hs
          obtain ⟨v2, vs2, rfl, hy, hs2⟩ := hs1
          have hs2 : vs2 = [] := hs2
          subst hs2
          obtain ⟨b, cs, T, rfl, g1, g2, g3, g4⟩ := locP_den I hx hl hc
          have hm' := intAt_den g4 hm
          have hy' := CT.ofS_rep (.int k) y n v2 hn hy
          simp only [CT.Rep] at hy'
          subst hy'
          have hcs : cs[off]? = some (.int k (IK.toInt k m)) := by simpa using hm'
          refine (hg W b off cs T _ _ g3 hcs).mono fun e W' ⟨h1, h2⟩ => ?_
          subst h1; subst h2
          refine ⟨_, P, ε, φ, rfl, PHeap.le_refl P, fun _ _ h => h, fun _ h => .inl h, ?_, ?_⟩
          · have hnew : DenL P ε [S1.int k (IK.add k m n)] [Value.int k (IK.toInt k (IK.add k m n))] := ⟨_, [], rfl, rfl, rfl⟩
            obtain ⟨p1, p2⟩ := putCells_den k2 g4 hnew
            have hput : putArr cs off [.int k (IK.toInt k (IK.add k m n))] = cs.setIfInBounds off (.int k (k.wrap (IK.toInt k m + IK.toInt k n))) := by
              rw [← IK.add_toInt]
              apply Array.ext_getElem?
              intro i
              rw [putArr_get _ _ _ p2]
              simp only [List.length_cons, List.length_nil]
              by_cases hi : i = off
              · subst hi
                rw [if_pos ⟨Nat.le_refl _, by omega⟩]
                have p3 : i < cs.size := by simp only [List.length_cons, List.length_nil] at p2; omega
                rw [Array.getElem?_setIfInBounds_self_of_lt p3]
                simp
              · rw [if_neg (by omega), Array.getElem?_setIfInBounds_ne (fun h => hi h.symm)]
            refine I.write hc g2 g3 fun h' hh' => ?_
            rw [g1] at hh'; cases hh'
            refine ⟨b, _, T, rfl, rfl, setArr_heap g3, ?_⟩
            rw [← hput]; exact p1
          · show Value.int k _ = Value.int k _
            rw [IK.add_toInt]
        · exact (run_fail_inv h).elim
      · exact (run_fail_inv h).elim
    · exact (run_fail_inv h).elim
  | load k =>
    simp only [atomP] at h
    split at h
    · rename_i x
      split at h
      · rename_i c off hl
        obtain ⟨ch, hc, h⟩ := run_get_inv h
        cases ch <;> first | exact (run_fail_inv h).elim | skip
        case cellsA vs0 t0 N y0 ws0 =>
          simp only at h
          split at h
          · rename_i hle
            have hle := Nat.le_of_ble_eq_true hle
            split at h
            · rename_i m hm
              obtain ⟨e1, e2⟩ := run_pure_inv h
              subst e1; subst e2
              obtain ⟨v1, vs1, rfl, hx, hs1⟩ := hs
              have hs1 : vs1 = [] := hs1
              subst hs1
              obtain ⟨b, cs, T, c1, c2, c3, rfl, g1, g2, g3, g4, g5, g6, g7⟩ := locA_den I hx hl hc
              have hm' := intAt_den g7 hm
              have l1 := g5.length
              have l2 := g6.1
              have hcs : cs[off]? = some (.int k (IK.toInt k m)) := by
                have e : off = c1.length + c2.length + (off - (vs0.length + N)) := by omega
                rw [e, (parted g4).2.2]; exact hm'
              refine (hg W b off cs T _ g3 hcs).mono fun e W' ⟨h1, h2⟩ => ?_
              subst h1; subst h2
              exact ⟨_, P, ε, φ, rfl, PHeap.le_refl P, fun _ _ h => h, fun _ h => .inl h, I, rfl⟩
            · exact (run_fail_inv h).elim
          · exact (run_fail_inv h).elim
        rename_i ws
        simp only at h
        split at h
        · rename_i m hm
          obtain ⟨e1, e2⟩ := run_pure_inv h
          subst e1; subst e2
          obtain ⟨v1, vs1, rfl, hx, hs1⟩ := hs
          have hs1 : vs1 = [] := hs1
          subst hs1
          obtain ⟨b, cs, T, rfl, g1, g2, g3, g4⟩ := locP_den I hx hl hc
          have hm' := intAt_den g4 hm
          have hcs : cs[off]? = some (.int k (IK.toInt k m)) := by simpa using hm'
          refine (hg W b off cs T _ g3 hcs).mono fun e W' ⟨h1, h2⟩ => ?_
          subst h1; subst h2
          exact ⟨_, P, ε, φ, rfl, PHeap.le_refl P, fun _ _ h => h, fun _ h => .inl h, I, rfl⟩
        · exact (run_fail_inv h).elim
      · exact (run_fail_inv h).elim
    · exact (run_fail_inv h).elim
theorem mapIn_spec {vs : List S1} {m : Nat} (h : mapIn vs = some m) : ∃ r, vs = .own m :: r := by
  unfold mapIn at h
  split at h
  · cases h; exact ⟨_, rfl⟩
  · cases h
theorem castM_map' {k v k' v' : VT} {P : PHeap} {H : HView} {ε : HMap} {fp : List Nat} {w : Value} (h : OT.map k' v' = OT.map k v) (xs : List (k'.T × v'.T)) (hx : ChunkOK P H ε w fp (.map k' v' xs)) : ChunkOK P H ε w fp (.map k v (castM h xs)) := by
  cases h; exact hx
theorem srtM_sound {f : Nat} {s : Srt} (hg : SrtOK Pg f s cx.td) (hgl : Glob Pg cx.P0) (I : Inv cx P ε φ tab W) {c d c0 : Nat} {xs : List s.r.T} {bs vs : List S1} {x0 : Chunk} {v0 v1 : Value}
    (hc : tab.get c = some (.row s.r xs)) (hv0 : ε c = some v0) (hd : tab.get d = some (.cells (.own c0 :: bs))) (hv1 : ε d = some v1) (h0 : tab.get c0 = some x0) (hx0 : ∃ bb fp, φ c0 = bb :: fp ∧ ∃ cs T, ε c0 = some (.pointer (some ⟨bb, 0, none⟩)) ∧ World.view W bb = some (.cells cs T (0, 0)) ∧ ∃ v, cs[0]? = some v ∧ ∀ s0 r, vs = s0 :: r → Den P ε s0 v)
    (hx0r : ∀ e ys, x0 ≠ .row e ys) (hx0m : ∀ k v ys, x0 ≠ .map k v ys) {sv : SV} {tab' : Tab} (h : (srtM s c xs vs).run tab = some (sv, tab')) :
    Calls Pg f #[v0, .func (.func s.g) #[] #[v1]] W fun e W' => ∃ v P' ε' φ', e = .returned v ∧ P.le P' ∧ HMap.le ε ε' ∧ (∀ c, ε' c ≠ none → ε c ≠ none ∨ (0 ≤ c ∧ False)) ∧ Inv cx P' ε' φ' tab' W' ∧ DenV P' ε' sv v := by
  unfold srtM at h
  split at h
  case h_2 => exact (run_fail_inv h).elim
  rename_i m hm
  obtain ⟨vr, rfl⟩ := mapIn_spec hm
  obtain ⟨xm, hmt, h⟩ := run_get_inv h
  cases xm <;> first | exact (run_fail_inv h).elim | skip
  rename_i k v ents
  simp only at h
  split at h
  case h_2 => exact (run_fail_inv h).elim
  rename_i hk _
  obtain ⟨ys, hys, h⟩ := run_bindO_inv h
  have h' : (tab.set c (.row s.r ys), SV.tup []) = (tab', sv) := by
    simp only [Prog.run, Option.some.injEq, Prod.mk.injEq] at h
    exact Prod.ext h.2 h.1
  cases h'
  obtain ⟨w, e1, hrow⟩ := I.chunk c _ hc
  rw [hv0] at e1; cases e1
  obtain ⟨w, e1, b, cb, Tb, rfl, q2, q3, q4⟩ := I.chunk d _ hd
  rw [hv1] at e1; cases e1
  obtain ⟨bb, fpb, q5, cs, T, q6, q7, vv, q8, q9⟩ := hx0
  obtain ⟨w, e1, hmm⟩ := I.chunk m _ hmt
  obtain ⟨mb, es, clock, g1, g2, g3, g4, g5⟩ := castM_map' hk ents hmm
  subst g1
  have hvm : vv = .map (some mb) := by
    have := q9 _ _ rfl
    have : ε m = some vv := this
    rw [e1] at this; cases this; rfl
  subst hvm
  obtain ⟨bv, brest, hb1, hb2, _⟩ := q4
  have hb2 : ε c0 = some bv := hb2
  rw [q6] at hb2; cases hb2
  have hcd : c ≠ d := fun e => by subst e; rw [hc] at hd; cases hd
  have hc0 : c ≠ c0 := fun e => by subst e; rw [hc] at h0; cases h0; exact hx0r _ _ rfl
  have hcm : c ≠ m := fun e => by subst e; rw [hc] at hmt; cases hmt
  have hdm : d ≠ m := fun e => by subst e; rw [hd] at hmt; cases hmt
  have hm0 : c0 ≠ m := fun e => by subst e; rw [h0] at hmt; cases hmt; exact hx0m _ _ _ rfl
  have ap : ∀ {x y : Nat} {p q : Chunk}, x ≠ y → tab.get x = some p → tab.get y = some q → ∀ z, z ∈ φ x → z ∉ φ y := fun hne h1 h2 z hz => I.apart _ _ _ _ hne h1 h2 z hz
  have hdc : b ∈ φ d := by rw [q2]; simp
  have h0c : bb ∈ φ c0 := by rw [q5]; simp
  have hmc : mb ∈ φ m := by rw [g2]; simp
  have hd0 : d ≠ c0 ∨ b = bb := by
    by_cases e : d = c0
    · right; subst e; rw [hv1] at q6; cases q6; rfl
    · exact .inl e
  have hbbb : b ≠ bb := fun e => by
    subst e
    have e2 : World.view W b = some (.cells cb Tb (0, 0)) := q3
    rw [q7] at e2; cases e2
    have : cb[0]? = some (.pointer (some ⟨b, 0, none⟩)) := by
      have : cb.toList[0]? = some (.pointer (some ⟨b, 0, none⟩)) := by rw [hb1]; rfl
      simpa using this
    rw [q8] at this; cases this
  refine (hg P W xs ys (castM hk ents) v0 (φ c) b bb mb cb cs Tb T es clock (hgl.mono I.pmono) I.psub hrow (I.nodup c _ hc) (fun z hz => ⟨(I.live c _ hc z hz).1, (I.live c _ hc z hz).2.1⟩) q3 ?_ q7 q8 g3 g4 g5 (fun hz => ap hcd hc hd _ hz hdc) (fun hz => ap hc0 hc h0 _ hz h0c) (fun hz => ap hcm hc hmt _ hz hmc)
    (I.live d _ hd _ hdc).1 (I.live c0 _ h0 _ h0c).1 (I.live m _ hmt _ hmc).1 hbbb (fun e => ap hdm hd hmt _ hdc (e ▸ hmc)) (fun e => ap hm0 h0 hmt _ h0c (e ▸ hmc)) hys).mono fun e W' ⟨r1, r2, r3⟩ => ?_
  · have : cb.toList[0]? = some (.pointer (some ⟨bb, 0, none⟩)) := by rw [hb1]; rfl
    simpa using this
  · refine ⟨_, P, ε, φ, r1, PHeap.le_refl P, fun _ _ h => h, fun _ h => .inl h, ?_, ⟨#[], rfl, rfl⟩⟩
    refine I.step (φ c) (· = c) (fun z hz => (I.live c _ hc z hz).2) r3 (PHeap.le_refl P) ?_ (fun b' hb' => .inl hb') (fun _ _ h => h) ?_ ?_ ?_ (fun c' w h h' => by rw [h'] at h; cases h)
    · intro b' o hb'
      have h1 := I.psub b' o hb'
      have hlt : b' < W.heap.size := by
        rcases Nat.lt_or_ge b' W.heap.size with h' | h'
        · exact h'
        · rw [Array.getElem?_eq_none h'] at h1; cases h1
      rw [r3.same b' hlt (fun hz => by rw [(I.live c _ hc b' hz).1] at hb'; cases hb')]; exact h1
    · intro c' x hx hne
      have hcc : c ≠ c' := fun e => hne e.symm
      rw [Map.get_set_other _ _ hcc] at hx
      exact ⟨hx, rfl, fun b' hb' hm' => I.apart c c' _ x hcc hc hx b' hm' hb'⟩
    · intro c' x hx hN
      subst hN
      rw [Map.get_set_same] at hx; cases hx
      refine ⟨_, hv0, r2, I.nodup _ _ hc, fun z hz => ⟨.inl hz, (I.live _ _ hc z hz).1, Nat.lt_of_lt_of_le (I.live _ _ hc z hz).2.1 r3.le⟩⟩
    · intro c' d' y z hc' hd' hcd hx hy
      rw [hc', hd'] at hcd; exact absurd rfl hcd
theorem srt_sound {f : Nat} {s : Srt} (hg : SrtOK Pg f s cx.td) (hgl : Glob Pg cx.P0) (I : Inv cx P ε φ tab W) {fresh : Nat} {ss : List SV} {vs : List Value} (hs : DenVs P ε ss vs) {sv : SV} {tab' : Tab}
    (h : (srtP s ss).run tab = some (sv, tab')) :
    Calls Pg f vs.toArray W fun e W' => ∃ v P' ε' φ', e = .returned v ∧ P.le P' ∧ HMap.le ε ε' ∧ (∀ c, ε' c ≠ none → ε c ≠ none ∨ (fresh ≤ c ∧ c < fresh + stride)) ∧ Inv cx P' ε' φ' tab' W' ∧ DenV P' ε' sv v := by
  unfold srtP at h
  split at h
  case h_2 => exact (run_fail_inv h).elim
  rename_i c f' d
  split at h
  case h_2 => exact (run_fail_inv h).elim
  rename_i hf
  have hf := nbeq_true hf
  subst hf
  obtain ⟨xc, hc, h⟩ := run_get_inv h
  cases xc <;> first | exact (run_fail_inv h).elim | skip
  rename_i e xs
  simp only at h
  split at h
  case h_2 => exact (run_fail_inv h).elim
  rename_i he _
  subst he
  obtain ⟨xd, hd, h⟩ := run_get_inv h
  cases xd <;> first | exact (run_fail_inv h).elim | skip
  rename_i bs
  simp only at h
  split at h
  case h_2 => exact (run_fail_inv h).elim
  rename_i c0 h0
  obtain ⟨br, rfl⟩ := mapIn_spec h0
  obtain ⟨x0, h0, h⟩ := run_get_inv h
  obtain ⟨v0, vr, rfl, hv0, v1, vr', rfl, ⟨w, hw1, hw2⟩, hnil⟩ := hs
  have hnil : vr' = [] := hnil
  subst hnil
  have hv0 : ε c = some v0 := hv0
  have hbv : v1 = .func (.func s.g) #[] #[w] := by
    rw [hw2]
    unfold bndVal
    rw [Nat.ble_eq_true_of_le (Nat.le_add_left 300 s.g)]
    simp
  subst hbv
  have fin : ∀ {e W'}, (∃ v P' ε' φ', e = .returned v ∧ P.le P' ∧ HMap.le ε ε' ∧ (∀ c, ε' c ≠ none → ε c ≠ none ∨ (0 ≤ c ∧ False)) ∧ Inv cx P' ε' φ' tab' W' ∧ DenV P' ε' sv v) →
      ∃ v P' ε' φ', e = Ending.returned v ∧ P.le P' ∧ HMap.le ε ε' ∧ (∀ c, ε' c ≠ none → ε c ≠ none ∨ (fresh ≤ c ∧ c < fresh + stride)) ∧ Inv cx P' ε' φ' tab' W' ∧ DenV P' ε' sv v :=
    fun ⟨v, P', ε', φ', a1, a2, a3, a4, a5, a6⟩ => ⟨v, P', ε', φ', a1, a2, a3, fun c hc => (a4 c hc).imp id fun h => h.2.elim, a5, a6⟩
  cases x0 <;> first | exact (run_fail_inv h).elim | skip
  · rename_i vs
    obtain ⟨w0, e1, bb, cs, T, rfl, q2, q3, q4⟩ := I.chunk c0 _ h0
    cases vs with
    | nil => unfold srtM mapIn at h; exact (run_fail_inv h).elim
    | cons s0 r0 =>
      obtain ⟨z, zr, hz1, hz2, hz3⟩ := q4
      refine (srtM_sound hg hgl I hc hv0 hd hw1 h0 ⟨bb, [], q2, cs, T, e1, q3, z, ?_, fun s1 r1 he => by cases he; exact hz2⟩ (fun _ _ => by simp) (fun _ _ _ => by simp) h).mono fun e W' hq => fin hq
      have : cs.toList[0]? = some z := by rw [hz1]; rfl
      simpa using this
  · rename_i vs t n y ws
    obtain ⟨w0, e1, bb, cs, T, c1, c2, c3, rfl, q2, q3, q4, q5, q6, q7⟩ := I.chunk c0 _ h0
    cases vs with
    | nil => unfold srtM mapIn at h; exact (run_fail_inv h).elim
    | cons s0 r0 =>
      obtain ⟨z, zr, hz1, hz2, hz3⟩ := q5
      refine (srtM_sound hg hgl I hc hv0 hd hw1 h0 ⟨bb, [], q2, cs, T, e1, q3, z, ?_, fun s1 r1 he => by cases he; exact hz2⟩ (fun _ _ => by simp) (fun _ _ _ => by simp) h).mono fun e W' hq => fin hq
      have : cs.toList[0]? = some z := by rw [q4, hz1]; rfl
      simpa using this
theorem onceOf_f {g g' : Fun} {f : Nat} (h : onceOf g = some (f, g')) : g'.f = g.f := by
  unfold onceOf at h
  split at h
  · cases h; rfl
  · cases h
theorem callok_sound {g : Fun} (hg : CallOK Pg g cx.td) (hgl : Glob Pg cx.P0) (I : Inv cx P ε φ tab W) {fresh : Nat} (hfr : Fresh ε fresh) {ss : List SV} {vs : List Value} (hs : DenVs P ε ss vs) {sv : SV} {tab' : Tab}
    (h : (callP g ss fresh).run tab = some (sv, tab')) :
    Calls Pg g.f vs.toArray W fun e W' => ∃ v P' ε' φ', e = .returned v ∧ P.le P' ∧ HMap.le ε ε' ∧ (∀ c, ε' c ≠ none → ε c ≠ none ∨ (fresh ≤ c ∧ c < fresh + stride)) ∧ Inv cx P' ε' φ' tab' W' ∧ DenV P' ε' sv v := by
  unfold callP at h
  unfold CallOK at hg
  split at h
  · rename_i a ha
    rw [ha] at hg
    exact atom_sound hg I hs hfr h
  · rename_i ha
    rw [ha] at hg
    simp only at hg
    split at h
    · rename_i f g' ho
      rw [ho] at hg
      simp only at hg
      unfold onceP at h
      split at h
      · rename_i c f' d
        split at h
        · rename_i h1 h2
          have h1 := nbeq_true h1
          have h2 := nbeq_true h2
          subst h1; subst h2
          obtain ⟨v1, vs1, rfl, hx, v2, vs2, rfl, ⟨w, hw1, hw2⟩, hs2⟩ := hs
          have hs2 : vs2 = [] := hs2
          subst hs2
          have hx : ε d = some v1 := hx
          rw [hx] at hw1; cases hw1
          subst hw2
          have hf := onceOf_f ho
          have := call_sound (A := onceArgs f') hg hgl I hfr (ss := [.one (.own d)]) (vs := [v1]) ⟨v1, [], rfl, hx, rfl⟩ h
          rw [hf] at this
          exact this
        · exact (run_fail_inv h).elim
      · exact (run_fail_inv h).elim
    · rename_i ho
      rw [ho] at hg
      simp only at hg
      split at h
      · rename_i f g' hb
        rw [hb] at hg
        simp only at hg
        split at h
        · rename_i as ha
          obtain ⟨vs', k1, rfl⟩ := unbnd_den _ _ _ ha hs
          have := call_sound (A := fun as => (bndArgs f as).toArray) hg hgl I hfr k1 h
          rw [bndOf_f hb] at this
          exact this
        · exact (run_fail_inv h).elim
      · rename_i hb
        rw [hb] at hg
        simp only at hg
        split at h
        · rename_i s hs'
          rw [hs'] at hg
          exact srt_sound hg hgl I hs h
        · rename_i hs'
          rw [hs'] at hg
          exact call_sound hg hgl I hfr hs h
end
end Go.Sx
