/- A walk of Go code by plain functions is sound. -/
import Derived.Test.YtegncnhhofbmiaaSxBase
namespace Go.Sx

/-! ### Types of data -/
mutual
/-- a cell of plain data -/
inductive CT where
  | int (k : IntKind) | bool | str
  | ro (e : CTs)       -- a slice that is only read
  | rop (e : CTs)      -- a pointer (or nil) to a struct that is only read
  | rom (k v : CTs)    -- a map that is only read
  | fn (f : Nat)       -- a function, written out
inductive CTs where
  | nil | cons (t : CT) (ts : CTs)
end
mutual
@[reducible] def CT.T : CT → Type
  | .int k => IK k
  | .bool => Bool
  | .str => List UInt8
  | .ro e => List (CTs.T e)
  | .rop e => Option (CTs.T e)
  | .rom k v => List (CTs.T k × CTs.T v)
  | .fn _ => Unit
@[reducible] def CTs.T : CTs → Type
  | .nil => Unit
  | .cons t ts => match ts with
    | .nil => CT.T t
    | .cons _ _ => CT.T t × CTs.T ts
end
/-- a key or a value of a map -/
inductive VT where
  | one (t : CT) | agg (e : CTs)
@[reducible] def VT.T : VT → Type
  | .one t => t.T
  | .agg e => e.T
mutual
/-- a cell that may own memory -/
inductive OT where
  | c (t : CT)
  | row (e : CTs)      -- a slice of the owner's own
  | ptr (e : OTs)      -- a pointer to a struct of the owner's own
  | map (k v : VT)     -- a map of the owner's own
  | ptrA (p : OTs) (t : CT) (n : Nat) (q : OTs)  -- a pointer to a struct of the owner's own, with an array of n cells amid
inductive OTs where
  | nil | cons (t : OT) (ts : OTs)
end
mutual
@[reducible] def OT.T : OT → Type
  | .c t => t.T
  | .row e => List e.T
  | .ptr e => Option (OTs.T e)
  | .map k v => List (k.T × v.T)
  | .ptrA p t _ q => Option (OTs.T p × List t.T × OTs.T q)
@[reducible] def OTs.T : OTs → Type
  | .nil => Unit
  | .cons t ts => match ts with
    | .nil => OT.T t
    | .cons _ _ => OT.T t × OTs.T ts
end

def CTs.mk : (t : CT) → (ts : CTs) → t.T → ts.T → (CTs.cons t ts).T
  | _, .nil, x, _ => x
  | _, .cons _ _, x, y => (x, y)
def CTs.hd : (t : CT) → (ts : CTs) → (CTs.cons t ts).T → t.T
  | _, .nil, x => x
  | _, .cons _ _, x => x.1
def CTs.tl : (t : CT) → (ts : CTs) → (CTs.cons t ts).T → ts.T
  | _, .nil, _ => ()
  | _, .cons _ _, x => x.2
theorem CTs.hd_mk (t : CT) (ts : CTs) (x : t.T) (y : ts.T) : CTs.hd t ts (CTs.mk t ts x y) = x := by cases ts <;> rfl
theorem CTs.tl_mk (t : CT) (ts : CTs) (x : t.T) (y : ts.T) : CTs.tl t ts (CTs.mk t ts x y) = y := by cases ts <;> rfl
def OTs.mk : (t : OT) → (ts : OTs) → t.T → ts.T → (OTs.cons t ts).T
  | _, .nil, x, _ => x
  | _, .cons _ _, x, y => (x, y)
def OTs.hd : (t : OT) → (ts : OTs) → (OTs.cons t ts).T → t.T
  | _, .nil, x => x
  | _, .cons _ _, x => x.1
def OTs.tl : (t : OT) → (ts : OTs) → (OTs.cons t ts).T → ts.T
  | _, .nil, _ => ()
  | _, .cons _ _, x => x.2
theorem OTs.hd_mk (t : OT) (ts : OTs) (x : t.T) (y : ts.T) : OTs.hd t ts (OTs.mk t ts x y) = x := by cases ts <;> rfl
theorem OTs.tl_mk (t : OT) (ts : OTs) (x : t.T) (y : ts.T) : OTs.tl t ts (OTs.mk t ts x y) = y := by cases ts <;> rfl

def CTs.size : CTs → Nat
  | .nil => 0
  | .cons _ ts => CTs.size ts + 1
def OTs.size : OTs → Nat
  | .nil => 0
  | .cons _ ts => OTs.size ts + 1

def kindEq : (a b : IntKind) → Option (PLift (a = b))
  | .i8, .i8 => some ⟨rfl⟩ | .i16, .i16 => some ⟨rfl⟩ | .i32, .i32 => some ⟨rfl⟩ | .i64, .i64 => some ⟨rfl⟩
  | .u8, .u8 => some ⟨rfl⟩ | .u16, .u16 => some ⟨rfl⟩ | .u32, .u32 => some ⟨rfl⟩ | .u64, .u64 => some ⟨rfl⟩
  | _, _ => none
def natEq (a b : Nat) : Option (PLift (a = b)) := match h : Nat.beq a b with | true => some ⟨Nat.eq_of_beq_eq_true h⟩ | false => none
mutual
def CT.eq? : (a b : CT) → Option (PLift (a = b))
  | .int k, .int k' => match kindEq k k' with | some ⟨h⟩ => some ⟨h ▸ rfl⟩ | none => none
  | .bool, .bool => some ⟨rfl⟩
  | .str, .str => some ⟨rfl⟩
  | .ro e, .ro e' => match CTs.eq? e e' with | some ⟨h⟩ => some ⟨h ▸ rfl⟩ | none => none
  | .rop e, .rop e' => match CTs.eq? e e' with | some ⟨h⟩ => some ⟨h ▸ rfl⟩ | none => none
  | .rom k v, .rom k' v' => match CTs.eq? k k', CTs.eq? v v' with
    | some ⟨h⟩, some ⟨h'⟩ => some ⟨h ▸ h' ▸ rfl⟩
    | _, _ => none
  | .fn f, .fn g => match natEq f g with | some ⟨h⟩ => some ⟨h ▸ rfl⟩ | none => none
  | _, _ => none
def CTs.eq? : (a b : CTs) → Option (PLift (a = b))
  | .nil, .nil => some ⟨rfl⟩
  | .cons t ts, .cons u us => match CT.eq? t u, CTs.eq? ts us with
    | some ⟨h⟩, some ⟨h'⟩ => some ⟨h ▸ h' ▸ rfl⟩
    | _, _ => none
  | _, _ => none
end
def VT.eq? : (a b : VT) → Option (PLift (a = b))
  | .one t, .one u => match CT.eq? t u with | some ⟨h⟩ => some ⟨h ▸ rfl⟩ | none => none
  | .agg t, .agg u => match CTs.eq? t u with | some ⟨h⟩ => some ⟨h ▸ rfl⟩ | none => none
  | _, _ => none
mutual
def OT.eq? : (a b : OT) → Option (PLift (a = b))
  | .c t, .c u => match CT.eq? t u with | some ⟨h⟩ => some ⟨h ▸ rfl⟩ | none => none
  | .row t, .row u => match CTs.eq? t u with | some ⟨h⟩ => some ⟨h ▸ rfl⟩ | none => none
  | .ptr t, .ptr u => match OTs.eq? t u with | some ⟨h⟩ => some ⟨h ▸ rfl⟩ | none => none
  | .map k v, .map k' v' => match VT.eq? k k', VT.eq? v v' with
    | some ⟨h⟩, some ⟨h'⟩ => some ⟨h ▸ h' ▸ rfl⟩
    | _, _ => none
  | .ptrA p t n q, .ptrA p' t' n' q' => match OTs.eq? p p', CT.eq? t t', natEq n n', OTs.eq? q q' with
    | some ⟨h1⟩, some ⟨h2⟩, some ⟨h3⟩, some ⟨h4⟩ => some ⟨h1 ▸ h2 ▸ h3 ▸ h4 ▸ rfl⟩
    | _, _, _, _ => none
  | _, _ => none
def OTs.eq? : (a b : OTs) → Option (PLift (a = b))
  | .nil, .nil => some ⟨rfl⟩
  | .cons t ts, .cons u us => match OT.eq? t u, OTs.eq? ts us with
    | some ⟨h⟩, some ⟨h'⟩ => some ⟨h ▸ h' ▸ rfl⟩
    | _, _ => none
  | _, _ => none
end

/-! ### Symbolic values -/
inductive S1 where
  | dead
  | int (k : IntKind) (x : IK k)
  | bool (b : Bool)
  | str (s : List UInt8)
  | ro (e : CTs) (xs : List e.T)
  | rop (e : CTs) (m : Option e.T)
  | rom (k v : CTs) (xs : List (k.T × v.T))
  | nilp
  | nils
  | own (c : Nat)
  | pcell (c off : Nat)
  | pelem (c z : Nat) (i off : Nat)   -- z: an element's cells
  | view (c z : Nat) (off len : Nat)
  | parr (c off i : Nat)             -- a pointer to an array's cell
  | bnd (f c : Nat)                  -- a method bound to a pointer of one's own; from 300 on: a function with one variable of its surroundings
  | aview (c n : Nat)                -- an array of one's own as a slice
  | rs1 (off c k : Nat)              -- a slice of k structs (none or one), which is only read, but for the slice at its cell off: that is one's own
  | rp1 (off c : Nat)                -- a pointer to such a struct
  | pro (e : CTs) (x : e.T)          -- a pointer to an element of a slice that is only read, or behind its first cells
  | const (v : Value)

inductive SV where
  | one (s : S1)
  | agg (vs : List S1)
  | tup (vs : List (S1 ⊕ List S1))
  | aggA (vs : List S1) (t : CT) (n : Nat) (y : List t.T) (ws : List S1)   -- an array of n cells amid

inductive Chunk where
  | cells (vs : List S1)
  | row (e : CTs) (xs : List e.T)
  | fold (e : OTs) (m : Option e.T)
  | sealed (e : CTs) (xs : List e.T)     -- from now on only read
  | iter (s : List UInt8) (pos : Nat)    -- how far a range over a string has come
  | map (k v : VT) (xs : List (k.T × v.T))
  | foldA (p : OTs) (t : CT) (n : Nat) (q : OTs) (m : Option (p.T × List t.T × q.T))
  | cellsA (vs : List S1) (t : CT) (n : Nat) (y : List t.T) (ws : List S1)   -- a struct's cells, an array of n cells amid
  | pre (d : Nat) (e : CTs) (xs : List e.T)   -- a slice to which was appended: its memory may be the other one's beginning
  | miter (c : Nat) (k v : VT) (xs rest : List (k.T × v.T)) (cur : Option (k.T × v.T))   -- a range over a map: what it holds, what is still to come, what came last
  | sealedM (k v : CTs) (xs : List (k.T × v.T))     -- a map: from now on only read
  | riter (k v : CTs) (rest : List (k.T × v.T)) (cur : Option (k.T × v.T))   -- a range over a map that is only read
  | mapO (c : Nat) (k v : VT) (xs : List (k.T × v.T)) (key : k.T)   -- a map, one of its entries in hand: that is to be stored
  | ranged (d : Nat)     -- a map that is being ranged over: it is at its iterator

abbrev Map (α : Type) := List (Nat × α)
def Map.get {α : Type} : Map α → Nat → Option α
  | [], _ => none
  | (k, x) :: r, c => match Nat.beq k c with | true => some x | false => Map.get r c
def Map.set {α : Type} (m : Map α) (c : Nat) (y : α) : Map α := (c, y) :: m
def Map.del {α : Type} : Map α → Nat → Map α
  | [], _ => []
  | (k, x) :: r, c => match Nat.beq k c with | true => Map.del r c | false => (k, x) :: Map.del r c
theorem nbeq_true {a b : Nat} (h : Nat.beq a b = true) : a = b := Nat.eq_of_beq_eq_true h
theorem nbeq_false {a b : Nat} (h : Nat.beq a b = false) : a ≠ b := Nat.ne_of_beq_eq_false h
theorem nbeq_self (a : Nat) : Nat.beq a a = true := Nat.beq_refl a
theorem Map.get_set_same {α : Type} (m : Map α) (c : Nat) (x : α) : (m.set c x).get c = some x := by simp [Map.set, Map.get]
theorem Map.get_set_other {α : Type} (m : Map α) {c d : Nat} (x : α) (hne : c ≠ d) : (m.set c x).get d = m.get d := by
  have : Nat.beq c d = false := by cases h : Nat.beq c d with | true => exact absurd (nbeq_true h) hne | false => rfl
  simp [Map.set, Map.get, this]
theorem Map.get_del_same {α : Type} (m : Map α) (c : Nat) : (m.del c).get c = none := by
  induction m with
  | nil => rfl
  | cons p r ih =>
    obtain ⟨k, y⟩ := p
    cases h : Nat.beq k c <;> simp [Map.del, Map.get, h, ih]
theorem Map.get_del_other {α : Type} (m : Map α) {c d : Nat} (hne : c ≠ d) : (m.del c).get d = m.get d := by
  induction m with
  | nil => rfl
  | cons p r ih =>
    obtain ⟨k, y⟩ := p
    cases h : Nat.beq k c with
    | true =>
      have hk := nbeq_true h
      have : Nat.beq k d = false := by cases h' : Nat.beq k d with | true => exact absurd (hk ▸ nbeq_true h') hne | false => rfl
      simp [Map.del, Map.get, h, this, ih]
    | false => cases h' : Nat.beq k d <;> simp [Map.del, Map.get, h, h', ih]

abbrev Tab := Map Chunk
abbrev Slots := Map SV
def Slots.at (s : Slots) (t : Nat) : SV := match Map.get s t with | some v => v | none => .one .dead

/-! ### What they mean -/
abbrev PHeap := Nat → Option Obj
def PHeap.cell (P : PHeap) (b o : Nat) : Option Value := match P b with | some (.cells c _ _) => c[o]? | _ => none
def PHeap.le (P Q : PHeap) : Prop := ∀ b o, P b = some o → Q b = some o
theorem PHeap.le_refl (P : PHeap) : P.le P := fun _ _ h => h
theorem PHeap.le_trans {P Q R : PHeap} (h : P.le Q) (h' : Q.le R) : P.le R := fun b o x => h' b o (h b o x)
theorem PHeap.cell_le {P Q : PHeap} (h : P.le Q) {b o : Nat} {v : Value} (hc : P.cell b o = some v) : Q.cell b o = some v := by
  unfold PHeap.cell at *
  split at hc
  · rename_i c t f hb; rw [h _ _ hb]; exact hc
  · cases hc

/-- When a map's entries were put in. -/
def BornOK (es : Array MapEntry) (clock : Nat) : Prop := (∀ e ∈ es.toList, e.born < clock) ∧ (es.toList.map (·.born)).Nodup
mutual
def CT.Rep (P : PHeap) : (t : CT) → t.T → Value → Prop
  | .int k, x, v => v = .int k (IK.toInt k x)
  | .bool, x, v => v = .bool x
  | .str, x, v => v = .string ⟨x.toArray⟩ ∧ x.length < 2 ^ 63
  | .ro e, xs, v => ∃ a cap, v = .slice a xs.length cap ∧ xs.length ≤ cap ∧ cap < 2 ^ 63 ∧ (a = none → cap = 0) ∧
      ∀ ad, a = some ad → (0 < cap → ad.spot = none) ∧ ∀ i (h : i < xs.length), CTs.Rep P e (xs[i]) (fun j => P.cell ad.block (ad.off + i * e.size + j))
  | .rop e, m, v => (m = none ∧ v = .pointer none) ∨ ∃ x ad, m = some x ∧ v = .pointer (some ad) ∧ ad.spot = none ∧ CTs.Rep P e x (fun j => P.cell ad.block (ad.off + j))
  | .rom k u, xs, w => (xs = [] ∧ w = .map none) ∨ ∃ b es clock, w = .map (some b) ∧ P b = some (.map es clock) ∧ BornOK es clock ∧ es.size = xs.length ∧
      ∀ i (h : i < xs.length), ∃ (en : MapEntry) (ks us : Array Value), es[i]? = some en ∧ en.key = .agg ks ∧ ks.size = k.size ∧ en.val = .agg us ∧ us.size = u.size ∧
        CTs.Rep P k (xs[i]).1 (fun j => ks[j]?) ∧ CTs.Rep P u (xs[i]).2 (fun j => us[j]?)
  | .fn f, _, v => v = .func (.func f) #[] #[]
def CTs.Rep (P : PHeap) : (e : CTs) → e.T → (Nat → Option Value) → Prop
  | .nil, _, _ => True
  | .cons t ts, x, f => (∃ v, f 0 = some v ∧ CT.Rep P t (CTs.hd t ts x) v) ∧ CTs.Rep P ts (CTs.tl t ts x) (fun j => f (j + 1))
end

mutual
theorem CT.Rep.mono {P Q : PHeap} (hl : P.le Q) : ∀ (t : CT) (x : t.T) (v : Value), t.Rep P x v → t.Rep Q x v
  | .int _, _, _, h => by simpa [CT.Rep] using h
  | .bool, _, _, h => by simpa [CT.Rep] using h
  | .str, _, _, h => by simpa [CT.Rep] using h
  | .ro e, xs, v, h => by
    simp only [CT.Rep] at h ⊢
    obtain ⟨a, cap, h1, h2, h3, h4, h5⟩ := h
    refine ⟨a, cap, h1, h2, h3, h4, fun ad had => ⟨(h5 ad had).1, fun i hi => ?_⟩⟩
    exact CTs.Rep.mono hl e _ _ _ (fun j v hv => PHeap.cell_le hl hv) ((h5 ad had).2 i hi)
  | .rop e, m, v, h => by
    simp only [CT.Rep] at h ⊢
    rcases h with h | ⟨x, ad, h1, h2, h3, h4⟩
    · exact .inl h
    · exact .inr ⟨x, ad, h1, h2, h3, CTs.Rep.mono hl e _ _ _ (fun j v hv => PHeap.cell_le hl hv) h4⟩
  | .rom k u, xs, w, h => by
    simp only [CT.Rep] at h ⊢
    rcases h with h | ⟨b, es, clock, h1, h2, h3, h4, h5⟩
    · exact .inl h
    · refine .inr ⟨b, es, clock, h1, hl _ _ h2, h3, h4, fun i hi => ?_⟩
      obtain ⟨en, ks, us, g1, g2, g3, g4, g5, g6, g7⟩ := h5 i hi
      exact ⟨en, ks, us, g1, g2, g3, g4, g5, CTs.Rep.mono hl k _ _ _ (fun _ _ h => h) g6, CTs.Rep.mono hl u _ _ _ (fun _ _ h => h) g7⟩
  | .fn _, _, _, h => by simpa [CT.Rep] using h
theorem CTs.Rep.mono {P Q : PHeap} (hl : P.le Q) : ∀ (e : CTs) (x : e.T) (f g : Nat → Option Value), (∀ j v, f j = some v → g j = some v) → e.Rep P x f → e.Rep Q x g
  | .nil, _, _, _, _, _ => by simp [CTs.Rep]
  | .cons t ts, x, f, g, hfg, h => by
    simp only [CTs.Rep] at h ⊢
    obtain ⟨⟨v, hv, hr⟩, h2⟩ := h
    exact ⟨⟨v, hfg _ _ hv, CT.Rep.mono hl t _ _ hr⟩, CTs.Rep.mono hl ts _ _ _ (fun j v hv => hfg (j + 1) v hv) h2⟩
end

abbrev HView := Nat → Option Obj
def World.view (W : World) : HView := fun b => W.heap[b]?
def thawed (fz : Nat × Nat) (n : Nat) : Prop := fz.1 = fz.2 ∨ n ≤ fz.1

/-- a slice without any room -/
def Bare (v : Value) : Prop := ∃ a, v = .slice a 0 0 ∧ ∀ ad : Addr, a = some ad → (0 < 0 → ad.spot = none)
/-- a slice of the owner's own -/
def RowRep (P : PHeap) (H : HView) (e : CTs) (xs : List e.T) (v : Value) (fp : List Nat) : Prop :=
  (xs = [] ∧ Bare v ∧ fp = []) ∨
  ∃ b off cap cs T fz, v = .slice (some ⟨b, off, none⟩) xs.length cap ∧ fp = [b] ∧ H b = some (.cells cs T fz) ∧ thawed fz cs.size ∧
    xs.length ≤ cap ∧ cap < 2 ^ 63 ∧ off + cap * e.size ≤ cs.size ∧
    ∀ i (h : i < xs.length), e.Rep P (xs[i]) (fun j => cs[off + i * e.size + j]?)

/-- A key or a value of a map. -/
def VT.Rep (P : PHeap) : (t : VT) → t.T → Value → Prop
  | .one t, x, v => CT.Rep P t x v
  | .agg e, x, v => ∃ cs : Array Value, v = .agg cs ∧ cs.size = e.size ∧ CTs.Rep P e x (fun j => cs[j]?)
theorem VT.Rep.mono {P Q : PHeap} (hl : P.le Q) (t : VT) (x : t.T) (v : Value) (h : t.Rep P x v) : t.Rep Q x v := by
  cases t with
  | one t => exact CT.Rep.mono hl t x v h
  | agg e => obtain ⟨cs, h1, h2, h3⟩ := h; exact ⟨cs, h1, h2, CTs.Rep.mono hl e _ _ _ (fun _ _ h => h) h3⟩
/-- A map's entries, one by one. -/
def EntsRep (P : PHeap) (k v : VT) : List (k.T × v.T) → List MapEntry → Prop
  | [], es => es = []
  | x :: xs, es => ∃ e es', es = e :: es' ∧ k.Rep P x.1 e.key ∧ v.Rep P x.2 e.val ∧ EntsRep P k v xs es'
theorem EntsRep.mono {P Q : PHeap} (hl : P.le Q) {k v : VT} : ∀ (xs : List (k.T × v.T)) (es : List MapEntry), EntsRep P k v xs es → EntsRep Q k v xs es
  | [], _, h => h
  | _ :: xs, _, ⟨e, es', h1, h2, h3, h4⟩ => ⟨e, es', h1, VT.Rep.mono hl _ _ _ h2, VT.Rep.mono hl _ _ _ h3, EntsRep.mono hl xs _ h4⟩
/-- A map of the owner's own. -/
def MapRep (P : PHeap) (H : HView) (k v : VT) (xs : List (k.T × v.T)) (w : Value) (fp : List Nat) : Prop :=
  ∃ b es clock, w = .map (some b) ∧ fp = [b] ∧ H b = some (.map es clock) ∧ EntsRep P k v xs es.toList ∧ BornOK es clock
theorem MapRep.mono {P Q : PHeap} {H G : HView} (hl : P.le Q) {k v : VT} {xs : List (k.T × v.T)} {w : Value} {fp : List Nat}
    (hg : ∀ b ∈ fp, G b = H b) (h : MapRep P H k v xs w fp) : MapRep Q G k v xs w fp := by
  obtain ⟨b, es, clock, h1, h2, h3, h4, h5⟩ := h
  exact ⟨b, es, clock, h1, h2, by rw [hg b (by simp [h2])]; exact h3, EntsRep.mono hl _ _ h4, h5⟩

/-- An array's cells. -/
def ArrRep (P : PHeap) (t : CT) (n : Nat) (y : List t.T) (c : List Value) : Prop := c.length = n ∧ y.length = n ∧ ∀ i (h : i < y.length) (w : Value), c[i]? = some w → t.Rep P y[i] w
theorem ArrRep.mono {P Q : PHeap} (hl : P.le Q) {t : CT} {n : Nat} {y : List t.T} {c : List Value} (h : ArrRep P t n y c) : ArrRep Q t n y c :=
  ⟨h.1, h.2.1, fun i hi w hw => CT.Rep.mono hl t _ _ (h.2.2 i hi w hw)⟩

mutual
def OT.Rep (P : PHeap) (H : HView) : (t : OT) → t.T → Value → List Nat → Prop
  | .c t, x, v, fp => t.Rep P x v ∧ fp = []
  | .row e, xs, v, fp => RowRep P H e xs v fp
  | .ptr e, m, v, fp => (m = none ∧ v = .pointer none ∧ fp = []) ∨
      ∃ x b cs T fp', m = some x ∧ v = .pointer (some ⟨b, 0, none⟩) ∧ fp = b :: fp' ∧ H b = some (.cells cs T (0, 0)) ∧ OTs.Rep P H e x cs.toList fp'
  | .map k v, xs, w, fp => MapRep P H k v xs w fp
  | .ptrA p t n q, m, v, fp => (m = none ∧ v = .pointer none ∧ fp = []) ∨
      ∃ x y z b cs T f1 f2 c1 c2 c3, m = some (x, y, z) ∧ v = .pointer (some ⟨b, 0, none⟩) ∧ fp = b :: (f1 ++ f2) ∧ H b = some (.cells cs T (0, 0)) ∧ cs.toList = c1 ++ (c2 ++ c3) ∧
        ArrRep P t n y c2 ∧ OTs.Rep P H p x c1 f1 ∧ OTs.Rep P H q z c3 f2
def OTs.Rep (P : PHeap) (H : HView) : (e : OTs) → e.T → List Value → List Nat → Prop
  | .nil, _, vs, fp => vs = [] ∧ fp = []
  | .cons t ts, x, vs, fp => ∃ v vs' f1 f2, vs = v :: vs' ∧ fp = f1 ++ f2 ∧ OT.Rep P H t (OTs.hd t ts x) v f1 ∧ OTs.Rep P H ts (OTs.tl t ts x) vs' f2
end

theorem RowRep.mono {P Q : PHeap} {H G : HView} (hl : P.le Q) {e : CTs} {xs : List e.T} {v : Value} {fp : List Nat}
    (hg : ∀ b ∈ fp, G b = H b) (h : RowRep P H e xs v fp) : RowRep Q G e xs v fp := by
  rcases h with h | ⟨b, off, cap, cs, T, fz, h1, h2, h3, h4, h5, h6, h7, h8⟩
  · exact .inl h
  · refine .inr ⟨b, off, cap, cs, T, fz, h1, h2, ?_, h4, h5, h6, h7, fun i hi => CTs.Rep.mono hl _ _ _ _ (fun _ _ h => h) (h8 i hi)⟩
    rw [hg b (by simp [h2])]; exact h3
mutual
theorem OT.Rep.mono {P Q : PHeap} {H G : HView} (hl : P.le Q) : ∀ (t : OT) (x : t.T) (v : Value) (fp : List Nat),
    (∀ b ∈ fp, G b = H b) → t.Rep P H x v fp → t.Rep Q G x v fp
  | .c t, x, v, fp, _, h => by simp only [OT.Rep] at h ⊢; exact ⟨CT.Rep.mono hl t x v h.1, h.2⟩
  | .row e, xs, v, fp, hg, h => by simp only [OT.Rep] at h ⊢; exact RowRep.mono hl hg h
  | .map k u, xs, v, fp, hg, h => by simp only [OT.Rep] at h ⊢; exact MapRep.mono hl hg h
  | .ptrA p t n q, m, v, fp, hg, h => by
    simp only [OT.Rep] at h ⊢
    rcases h with h | ⟨x, y, z, b, cs, T, f1, f2, c1, c2, c3, h1, h2, h3, h4, h5, h6, h7, h8⟩
    · exact .inl h
    · refine .inr ⟨x, y, z, b, cs, T, f1, f2, c1, c2, c3, h1, h2, h3, ?_, h5, h6.mono hl, OTs.Rep.mono hl p _ _ _ (fun b' hb => hg b' (by simp [h3, hb])) h7, OTs.Rep.mono hl q _ _ _ (fun b' hb => hg b' (by simp [h3, hb])) h8⟩
      rw [hg b (by simp [h3])]; exact h4
  | .ptr e, m, v, fp, hg, h => by
    simp only [OT.Rep] at h ⊢
    rcases h with h | ⟨x, b, cs, T, fp', h1, h2, h3, h4, h5⟩
    · exact .inl h
    · refine .inr ⟨x, b, cs, T, fp', h1, h2, h3, ?_, OTs.Rep.mono hl e _ _ _ (fun b' hb => hg b' (by simp [h3, hb])) h5⟩
      rw [hg b (by simp [h3])]; exact h4
theorem OTs.Rep.mono {P Q : PHeap} {H G : HView} (hl : P.le Q) : ∀ (e : OTs) (x : e.T) (vs : List Value) (fp : List Nat),
    (∀ b ∈ fp, G b = H b) → e.Rep P H x vs fp → e.Rep Q G x vs fp
  | .nil, _, _, _, _, h => by simpa [OTs.Rep] using h
  | .cons t ts, x, vs, fp, hg, h => by
    simp only [OTs.Rep] at h ⊢
    obtain ⟨v, vs', f1, f2, h1, h2, h3, h4⟩ := h
    exact ⟨v, vs', f1, f2, h1, h2, OT.Rep.mono hl t _ _ _ (fun b hb => hg b (by simp [h2, hb])) h3,
      OTs.Rep.mono hl ts _ _ _ (fun b hb => hg b (by simp [h2, hb])) h4⟩
end

abbrev HMap := Nat → Option Value
def HMap.le (ε η : HMap) : Prop := ∀ c v, ε c = some v → η c = some v

/-- A function bound to a pointer: a method, or (from 300 on) one with a variable of its surroundings. -/
def bndVal (f : Nat) (w : Value) : Value := match Nat.ble 300 f with | true => .func (.func (f - 300)) #[] #[w] | false => .func (.func f) #[w] #[]
/-- A value is what a symbolic one says. -/
def Den (P : PHeap) (ε : HMap) : S1 → Value → Prop
  | .dead, _ => True
  | .int k x, v => v = .int k (IK.toInt k x)
  | .bool b, v => v = .bool b
  | .str s, v => v = .string ⟨s.toArray⟩ ∧ s.length < 2 ^ 63
  | .ro e xs, v => (CT.ro e).Rep P xs v
  | .rop e m, v => (CT.rop e).Rep P m v
  | .rom k u xs, v => (CT.rom k u).Rep P xs v
  | .nilp, v => v = .pointer none
  | .nils, v => Bare v
  | .own c, v => ε c = some v
  | .pcell c off, v => ∃ b, ε c = some (.pointer (some ⟨b, 0, none⟩)) ∧ v = .pointer (some ⟨b, off, none⟩)
  | .pelem c z i off, v => ∃ b o n cap, ε c = some (.slice (some ⟨b, o, none⟩) n cap) ∧ v = .pointer (some ⟨b, o + i * z + off, none⟩)
  | .view c z off len, v => (∃ b o n cap cp, ε c = some (.slice (some ⟨b, o, none⟩) n cap) ∧ v = .slice (some ⟨b, o + off * z, none⟩) len cp ∧
      off + len ≤ n ∧ n ≤ cap ∧ cap < 2 ^ 63 ∧ len ≤ cp ∧ off + cp ≤ cap) ∨ (len = 0 ∧ Bare v)
  | .parr c off i, v => ∃ b, ε c = some (.pointer (some ⟨b, 0, none⟩)) ∧ v = .pointer (some ⟨b, off + i, none⟩)
  | .bnd f c, v => ∃ w, ε c = some w ∧ v = bndVal f w
  | .rs1 off c k, v => (k = 0 ∧ Bare v) ∨ (k = 1 ∧ ∃ b o cap w, v = .slice (some ⟨b, o, none⟩) 1 cap ∧ P.cell b (o + off) = some w ∧ ε c = some w)
  | .rp1 off c, v => ∃ b o w, v = .pointer (some ⟨b, o, none⟩) ∧ P.cell b (o + off) = some w ∧ ε c = some w
  | .aview c n, v => n ≤ 65536 ∧ ∃ b, ε c = some (.pointer (some ⟨b, 0, none⟩)) ∧ v = .slice (some ⟨b, 0, none⟩) n n
  | .pro e x, v => ∃ ad, v = .pointer (some ad) ∧ ad.spot = none ∧ e.Rep P x (fun j => P.cell ad.block (ad.off + j))
  | .const c, v => v = c
def DenL (P : PHeap) (ε : HMap) : List S1 → List Value → Prop
  | [], vs => vs = []
  | s :: ss, vs => ∃ v vs', vs = v :: vs' ∧ Den P ε s v ∧ DenL P ε ss vs'
def DenP (P : PHeap) (ε : HMap) : S1 ⊕ List S1 → Value → Prop
  | .inl s, v => Den P ε s v
  | .inr ss, v => ∃ cs, v = .agg cs ∧ DenL P ε ss cs.toList
def DenPs (P : PHeap) (ε : HMap) : List (S1 ⊕ List S1) → List Value → Prop
  | [], vs => vs = []
  | s :: ss, vs => ∃ v vs', vs = v :: vs' ∧ DenP P ε s v ∧ DenPs P ε ss vs'
def DenV (P : PHeap) (ε : HMap) : SV → Value → Prop
  | .one s, v => Den P ε s v
  | .agg ss, v => ∃ cs, v = .agg cs ∧ DenL P ε ss cs.toList
  | .tup ss, v => ∃ vs, v = .tuple vs ∧ DenPs P ε ss vs.toList
  | .aggA vs t n y ws, v => ∃ cs c1 c2 c3, v = .agg cs ∧ cs.toList = c1 ++ (c2 ++ c3) ∧ DenL P ε vs c1 ∧ ArrRep P t n y c2 ∧ DenL P ε ws c3

theorem Den.mono {P Q : PHeap} {ε η : HMap} (hl : P.le Q) (he : HMap.le ε η) : ∀ (s : S1) (v : Value), Den P ε s v → Den Q η s v := by
  intro s v h
  cases s with
  | own c => exact he _ _ h
  | rs1 off c k => exact h.imp id fun ⟨h0, b, o, cap, w, h1, h2, h3⟩ => ⟨h0, b, o, cap, w, h1, PHeap.cell_le hl h2, he _ _ h3⟩
  | rp1 off c => obtain ⟨b, o, w, h1, h2, h3⟩ := h; exact ⟨b, o, w, h1, PHeap.cell_le hl h2, he _ _ h3⟩
  | pcell c off => obtain ⟨b, h1, h2⟩ := h; exact ⟨b, he _ _ h1, h2⟩
  | pelem c z i off => obtain ⟨b, o, n, cap, h1, h2⟩ := h; exact ⟨b, o, n, cap, he _ _ h1, h2⟩
  | parr c off i => obtain ⟨b, h1, h2⟩ := h; exact ⟨b, he _ _ h1, h2⟩
  | bnd f c => obtain ⟨w, h1, h2⟩ := h; exact ⟨w, he _ _ h1, h2⟩
  | aview c n => obtain ⟨h0, w, h1, h2⟩ := h; exact ⟨h0, w, he _ _ h1, h2⟩
  | view c z off len =>
    rcases h with ⟨b, o, n, cap, cp, h1, h2⟩ | h
    · exact .inl ⟨b, o, n, cap, cp, he _ _ h1, h2⟩
    · exact .inr h
  | ro e xs => exact CT.Rep.mono hl _ _ _ h
  | rop e m => exact CT.Rep.mono hl _ _ _ h
  | rom k u xs => exact CT.Rep.mono hl _ _ _ h
  | pro e x => obtain ⟨ad, h1, h2, h3⟩ := h; exact ⟨ad, h1, h2, CTs.Rep.mono hl _ _ _ _ (fun _ _ h => PHeap.cell_le hl h) h3⟩
  | _ => exact h
theorem DenL.mono {P Q : PHeap} {ε η : HMap} (hl : P.le Q) (he : HMap.le ε η) : ∀ (s : List S1) (v : List Value), DenL P ε s v → DenL Q η s v
  | [], _, h => h
  | _ :: ss, _, ⟨v, vs', h1, h2, h3⟩ => ⟨v, vs', h1, Den.mono hl he _ _ h2, DenL.mono hl he ss _ h3⟩
theorem DenPs.mono {P Q : PHeap} {ε η : HMap} (hl : P.le Q) (he : HMap.le ε η) : ∀ (s : List (S1 ⊕ List S1)) (v : List Value), DenPs P ε s v → DenPs Q η s v
  | [], _, h => h
  | .inl _ :: ss, _, ⟨v, vs', h1, h2, h3⟩ => ⟨v, vs', h1, Den.mono hl he _ _ h2, DenPs.mono hl he ss _ h3⟩
  | .inr _ :: ss, _, ⟨v, vs', h1, ⟨cs, h2, h2'⟩, h3⟩ => ⟨v, vs', h1, ⟨cs, h2, DenL.mono hl he _ _ h2'⟩, DenPs.mono hl he ss _ h3⟩
theorem DenV.mono {P Q : PHeap} {ε η : HMap} (hl : P.le Q) (he : HMap.le ε η) : ∀ (s : SV) (v : Value), DenV P ε s v → DenV Q η s v
  | .one _, _, h => Den.mono hl he _ _ h
  | .agg _, _, ⟨cs, h, h'⟩ => ⟨cs, h, DenL.mono hl he _ _ h'⟩
  | .tup _, _, ⟨cs, h, h'⟩ => ⟨cs, h, DenPs.mono hl he _ _ h'⟩
  | .aggA _ _ _ _ _, _, ⟨cs, c1, c2, c3, h, h', h1, h2, h3⟩ => ⟨cs, c1, c2, c3, h, h', DenL.mono hl he _ _ h1, h2.mono hl, DenL.mono hl he _ _ h3⟩

/-! Maps, as lists. -/
def CT.eqb : (t : CT) → t.T → t.T → Bool
  | .int k, x, y => IK.eqb k x y
  | .bool, x, y => x == y
  | .str, x, y => x == y
  | .ro _, _, _ => false
  | .rop _, _, _ => false
  | .rom _ _, _, _ => false
  | .fn _, _, _ => false
def CTs.eqb : (e : CTs) → e.T → e.T → Bool
  | .nil, _, _ => true
  | .cons t ts, x, y => CT.eqb t (CTs.hd t ts x) (CTs.hd t ts y) && CTs.eqb ts (CTs.tl t ts x) (CTs.tl t ts y)
def VT.eqb : (t : VT) → t.T → t.T → Bool
  | .one t, x, y => CT.eqb t x y
  | .agg e, x, y => CTs.eqb e x y
/-- A map's entry, at a key; with one more; without one. -/
def mget (k v : VT) (key : k.T) : List (k.T × v.T) → Option v.T
  | [] => none
  | p :: r => match VT.eqb k key p.1 with | true => some p.2 | false => mget k v key r
def mput (k v : VT) (key : k.T) (x : v.T) : List (k.T × v.T) → List (k.T × v.T)
  | [] => [(key, x)]
  | p :: r => match VT.eqb k key p.1 with | true => (key, x) :: r | false => p :: mput k v key x r
def mdel (k v : VT) (key : k.T) : List (k.T × v.T) → List (k.T × v.T)
  | [] => []
  | p :: r => match VT.eqb k key p.1 with | true => r | false => p :: mdel k v key r

/-- What is put at a key goes to the j-th place. -/
def putAt (k v : VT) (key : k.T) (y : v.T) (xs : List (k.T × v.T)) (j : Nat) : Prop := mput k v key y xs = xs.set j (key, y)
/-- What a piece of memory holds. -/
def ChunkOK (P : PHeap) (H : HView) (ε : HMap) (h : Value) (fp : List Nat) : Chunk → Prop
  | .cells vs => ∃ b cs T, h = .pointer (some ⟨b, 0, none⟩) ∧ fp = [b] ∧ H b = some (.cells cs T (0, 0)) ∧ DenL P ε vs cs.toList
  | .row e xs => RowRep P H e xs h fp
  | .fold e m => (OT.ptr e).Rep P H m h fp
  | .sealed e xs => (CT.ro e).Rep P xs h ∧ fp = []
  | .iter s pos => ∃ b, h = .pointer (some ⟨b, 0, none⟩) ∧ fp = [b] ∧ H b = some (.stringIter ⟨s.toArray⟩ pos) ∧ s.length < 2 ^ 63
  | .map k v xs => MapRep P H k v xs h fp
  | .foldA p t n q m => (OT.ptrA p t n q).Rep P H m h fp
  | .cellsA vs t n y ws => ∃ b cs T c1 c2 c3, h = .pointer (some ⟨b, 0, none⟩) ∧ fp = [b] ∧ H b = some (.cells cs T (0, 0)) ∧ cs.toList = c1 ++ (c2 ++ c3) ∧ DenL P ε vs c1 ∧ ArrRep P t n y c2 ∧ DenL P ε ws c3
  | .pre d e xs => RowRep P H e xs h fp ∨ (fp = [] ∧ ∃ b o n cap, ε d = some (.slice (some ⟨b, o, none⟩) n cap) ∧ h = .slice (some ⟨b, o, none⟩) xs.length cap ∧ xs.length ≤ n)
  | .miter c k v xs rest cur => ∃ b m es clock seen es', h = .pointer (some ⟨b, 0, none⟩) ∧ fp = [b, m] ∧ H b = some (.mapIter (some m) clock seen clock) ∧ ε c = some (.map (some m)) ∧
      H m = some (.map es clock) ∧ EntsRep P k v xs es.toList ∧ BornOK es clock ∧ es'.Perm (es.toList.filter fun e => !seen.contains e.born) ∧ EntsRep P k v rest es' ∧
      ∀ p, cur = some p → ∃ (e : MapEntry) (seen' : Array Nat), e ∈ es.toList ∧ seen = seen'.push e.born ∧ k.Rep P p.1 e.key ∧ v.Rep P p.2 e.val
  | .sealedM k v xs => (CT.rom k v).Rep P xs h ∧ fp = []
  | .mapO c k v xs key => ∃ m es clock j e p, h = .int .i64 (e : MapEntry).born ∧ fp = [m] ∧ ε c = some (.map (some m)) ∧ H m = some (.map es clock) ∧ EntsRep P k v xs es.toList ∧ BornOK es clock ∧
      es.toList[j]? = some e ∧ xs[j]? = some p ∧ VT.Rep P k key e.key ∧ ∀ y, putAt k v key y xs j
  | .ranged _ => fp = [] ∧ ∃ m, h = .map (some m)
  | .riter k v rest cur => ∃ b, h = .pointer (some ⟨b, 0, none⟩) ∧ fp = [b] ∧
      ((rest = [] ∧ cur = none ∧ ∃ n m, H b = some (.mapIter none n #[] m)) ∨
      ∃ m es clock seen es', H b = some (.mapIter (some m) clock seen clock) ∧ P m = some (.map es clock) ∧ BornOK es clock ∧ es'.Perm (es.toList.filter fun e => !seen.contains e.born) ∧ EntsRep P (.agg k) (.agg v) rest es' ∧
      ∀ p, cur = some p → ∃ (e : MapEntry) (seen' : Array Nat), e ∈ es.toList ∧ seen = seen'.push e.born ∧ (VT.agg k).Rep P p.1 e.key ∧ (VT.agg v).Rep P p.2 e.val)

theorem ChunkOK.mono {P Q : PHeap} {H G : HView} {ε η : HMap} (hl : P.le Q) (he : HMap.le ε η) {h : Value} {fp : List Nat} {x : Chunk}
    (hg : ∀ b ∈ fp, G b = H b) (hx : ChunkOK P H ε h fp x) : ChunkOK Q G η h fp x := by
  cases x with
  | cells vs =>
    obtain ⟨b, cs, T, h1, h2, h3, h4⟩ := hx
    exact ⟨b, cs, T, h1, h2, by rw [hg b (by simp [h2])]; exact h3, DenL.mono hl he _ _ h4⟩
  | row e xs => exact RowRep.mono hl hg hx
  | fold e m => exact OT.Rep.mono hl _ _ _ _ hg hx
  | sealed e xs => exact ⟨CT.Rep.mono hl _ _ _ hx.1, hx.2⟩
  | iter s pos =>
    obtain ⟨b, h1, h2, h3, h4⟩ := hx
    exact ⟨b, h1, h2, by rw [hg b (by simp [h2])]; exact h3, h4⟩
  | map k v xs => exact MapRep.mono hl hg hx
  | foldA p t n q m => exact OT.Rep.mono hl _ _ _ _ hg hx
  | cellsA vs t n y ws =>
    obtain ⟨b, cs, T, c1, c2, c3, h1, h2, h3, h4, h5, h6, h7⟩ := hx
    exact ⟨b, cs, T, c1, c2, c3, h1, h2, by rw [hg b (by simp [h2])]; exact h3, h4, DenL.mono hl he _ _ h5, h6.mono hl, DenL.mono hl he _ _ h7⟩
  | pre d e xs =>
    rcases hx with hx | ⟨h1, b, o, n, cap, h2, h3, h4⟩
    · exact .inl (RowRep.mono hl hg hx)
    · exact .inr ⟨h1, b, o, n, cap, he _ _ h2, h3, h4⟩
  | miter c k v xs rest cur =>
    obtain ⟨b, m, es, clock, seen, es', h1, h2, h3, h4, h5, h6, h7, h8, h9, h10⟩ := hx
    refine ⟨b, m, es, clock, seen, es', h1, h2, by rw [hg b (by simp [h2])]; exact h3, he _ _ h4, by rw [hg m (by simp [h2])]; exact h5, EntsRep.mono hl _ _ h6, h7, h8, EntsRep.mono hl _ _ h9, fun p hp => ?_⟩
    obtain ⟨e, s', q1, q2, q3, q4⟩ := h10 p hp
    exact ⟨e, s', q1, q2, VT.Rep.mono hl _ _ _ q3, VT.Rep.mono hl _ _ _ q4⟩
  | sealedM k v xs => exact ⟨CT.Rep.mono hl _ _ _ hx.1, hx.2⟩
  | ranged d => exact hx
  | mapO c k v xs key =>
    obtain ⟨m, es, clock, j, e, p, h1, h2, h3, h4, h5, h6, h7, h8, h9, h10⟩ := hx
    exact ⟨m, es, clock, j, e, p, h1, h2, he _ _ h3, by rw [hg m (by simp [h2])]; exact h4, EntsRep.mono hl _ _ h5, h6, h7, h8, VT.Rep.mono hl _ _ _ h9, h10⟩
  | riter k v rest cur =>
    obtain ⟨b, h1, h2, h3⟩ := hx
    refine ⟨b, h1, h2, ?_⟩
    rw [hg b (by simp [h2])]
    rcases h3 with h3 | ⟨m, es, clock, seen, es', h3, h4, h5, h6, h7, h8⟩
    · exact .inl h3
    · refine .inr ⟨m, es, clock, seen, es', h3, hl _ _ h4, h5, h6, EntsRep.mono hl _ _ h7, fun p hp => ?_⟩
      obtain ⟨e, s', q1, q2, q3, q4⟩ := h8 p hp
      exact ⟨e, s', q1, q2, VT.Rep.mono hl _ _ _ q3, VT.Rep.mono hl _ _ _ q4⟩

/-- Beside some blocks all is as it was. -/
structure Ext (fp : List Nat) (W W' : World) (td : Bool := false) : Prop where
  le : W.heap.size ≤ W'.heap.size
  same : ∀ b, b < W.heap.size → b ∉ fp → W'.heap[b]? = W.heap[b]?
  os : W'.os = W.os
  out : W'.output = W.output
  tape : td = true → W'.tape = W.tape ∧ W.drawn ≤ W'.drawn      -- where it is asked: what was drawn
theorem Ext.refl (fp : List Nat) (W : World) {td : Bool} : Ext fp W W td := ⟨Nat.le_refl _, fun _ _ _ => rfl, rfl, rfl, fun _ => ⟨rfl, Nat.le_refl _⟩⟩

/-- Where a call began. -/
structure Cx where
  W0 : World
  P0 : PHeap
  fp0 : List Nat
  pins : HMap := fun _ => none      -- names that are never changed
  td : Bool := false

/-- what stands for a piece of memory: a pointer or a slice -/
def Handle (w : Value) : Prop := (∃ a, w = .pointer a) ∨ (∃ a n m, w = .slice a n m) ∨ (∃ a, w = .map a) ∨ ∃ n, w = .int .i64 n
structure Inv (cx : Cx) (P : PHeap) (ε : HMap) (φ : Nat → List Nat) (tab : Tab) (W : World) : Prop where
  chunk : ∀ c x, tab.get c = some x → ∃ h, ε c = some h ∧ ChunkOK P (World.view W) ε h (φ c) x
  nodup : ∀ c x, tab.get c = some x → (φ c).Nodup
  apart : ∀ c d x y, c ≠ d → tab.get c = some x → tab.get d = some y → ∀ b ∈ φ c, b ∉ φ d
  live : ∀ c x, tab.get c = some x → ∀ b ∈ φ c, P b = none ∧ b < W.heap.size ∧ (b ∈ cx.fp0 ∨ cx.W0.heap.size ≤ b)
  psub : ∀ b o, P b = some o → W.heap[b]? = some o
  ext : Ext cx.fp0 cx.W0 W cx.td
  pmono : cx.P0.le P
  pnew : ∀ b, P b ≠ none → cx.P0 b ≠ none ∨ b ∈ cx.fp0 ∨ cx.W0.heap.size ≤ b
  hand : ∀ c w, ε c = some w → Handle w

end Go.Sx
