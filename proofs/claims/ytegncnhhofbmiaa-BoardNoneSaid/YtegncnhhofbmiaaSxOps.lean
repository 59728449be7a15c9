/- A walk of Go code by plain functions is sound. -/
import Derived.Test.YtegncnhhofbmiaaSxProg
namespace Go.Sx

/-! ### What the types say, as a small table -/
inductive TK where
  | int (k : IntKind) | bool | str
  | ptr (e : Nat) | slice (e : Nat) | arr (n e : Nat)
  | struct (fs : List (Nat × Nat × Bool))       -- offset, type, is it blank
  | map (k e : Nat) | iface (bare : Bool) | other
structure TD where
  kind : TK
  size : Nat
  bytes : Nat
  zero : Option Value
  odd : Bool            -- its values are not compared part by part alone

abbrev TT := Map TD

def TK.ofDesc : TypeDesc → TK
  | .int k => .int k | .bool => .bool | .string => .str
  | .pointer e => .ptr e | .slice e => .slice e | .array n e => .arr n e
  | .struct fs => .struct (fs.toList.map fun f => (f.offset, f.type, f.name == "_"))
  | .map k e => .map k e | .interface ms => .iface ms.isEmpty | _ => .other
def tdOf (P : Program) (t : Nat) : Option TD :=
  match P.info? t, P.underlying t with
  | some i, some d => some ⟨TK.ofDesc d, i.size, i.bytes, i.zero, P.eqGuardType P.depth t || P.stoodInHeld t⟩
  | _, _ => none
def TTOK (P : Program) (tt : TT) : Prop := ∀ t d, tt.get t = some d → tdOf P t = some d
def TD.agg (d : TD) : Bool := match d.kind with | .struct _ => true | .arr _ _ => true | _ => false

theorem TTOK.of_rows {P : Program} {tt : TT} (h : tt.map (fun p => tdOf P p.1) = tt.map (fun p => some p.2)) : TTOK P tt := by
  induction tt with
  | nil => intro t d h; cases h
  | cons p r ih =>
    obtain ⟨k, x⟩ := p
    simp only [List.map_cons, List.cons.injEq] at h
    intro t d ht
    unfold Map.get at ht
    cases hb : Nat.beq k t with
    | true => rw [hb] at ht; simp at ht; rw [← nbeq_true hb, h.1, ht]
    | false => rw [hb] at ht; exact ih h.2 t d ht

def nth {α : Type} : List α → Nat → Option α
  | [], _ => none
  | x :: xs, n => match n with | 0 => some x | n + 1 => nth xs n
theorem nth_eq {α : Type} (l : List α) : ∀ n, nth l n = l[n]? := by
  induction l with
  | nil => intro n; rfl
  | cons x xs ih => intro n; cases n with | zero => rfl | succ n => simp [nth, ih]

/-! ### Constants, operands -/
def S1.solid : S1 → Bool
  | .dead => false
  | .const v => match v with | .func .. => true | .nilFunc => true | .nilIface => true | .iface .. => true | .map _ => true | _ => false
  | _ => true
def constS (v : Value) : S1 :=
  match v with
  | .int k n => match decide (k.wrap n = n) with | true => .int k (IK.ofInt k n) | false => .dead
  | .bool b => .bool b
  | .string s => match Nat.blt s.size (2 ^ 63) with | true => .str s.data.toList | false => .dead
  | .pointer none => .nilp
  | .slice none n c => match Nat.beq n 0 && Nat.beq c 0 with | true => .nils | false => .dead
  | .func f a b => .const (.func f a b)
  | .nilFunc => .const .nilFunc
  | .nilIface => .const .nilIface
  | .map none => .const (.map none)
  | _ => .dead
def constV (v : Value) : SV :=
  match v with
  | .agg cs => .agg (cs.toList.map constS)
  | v => .one (constS v)
def ev (s : Slots) : Operand → SV
  | .tmp t => s.at t
  | .const v => constV v
  | .global g => .one (.const (.pointer (some ⟨g, 0, none⟩)))
  | .func f => .one (.const (.func (.func f) #[] #[]))

/-- A pointer to a struct's beginning is the struct's own. -/
def asOwn (s : S1) : S1 := match s with
  | .pcell c off => match off with | 0 => .own c | n + 1 => .pcell c (n + 1)
  | s => s
def ownV (s : SV) : SV := match s with | .one s => .one (asOwn s) | s => s
/-- The cells of a value. -/
def SV.cells? : SV → Option (List S1)
  | .one s => match s.solid with | true => some [asOwn s] | false => none
  | .agg vs => match vs.all S1.solid with | true => some vs | false => none
  | .tup _ => none
  | .aggA _ _ _ _ _ => none
def SV.len : SV → Nat
  | .one _ => 1
  | .agg l => l.length
  | .tup _ => 0
  | .aggA vs _ n _ ws => vs.length + n + ws.length
def partS (d : TD) (vs : List S1) (off : Nat) : Option SV :=
  match d.agg with
  | true => match Nat.ble (off + d.size) vs.length with | true => some (.agg ((vs.drop off).take d.size)) | false => none
  | false => match nth vs off with | some s => some (.one s) | none => none
def putCells (vs : List S1) (off : Nat) (new : List S1) : Option (List S1) :=
  match Nat.ble (off + new.length) vs.length with | true => some (vs.take off ++ new ++ vs.drop (off + new.length)) | false => none

def CT.toS : (t : CT) → t.T → S1
  | .int k, x => .int k x
  | .bool, b => .bool b
  | .str, s => .str s
  | .ro e, xs => .ro e xs
  | .rop e, m => .rop e m
  | .rom k v, xs => .rom k v xs
  | .fn f, _ => .const (.func (.func f) #[] #[])
def CTs.toS : (e : CTs) → e.T → List S1
  | .nil, _ => []
  | .cons t ts, x => CT.toS t (CTs.hd t ts x) :: CTs.toS ts (CTs.tl t ts x)
def castCT {a b : CT} (h : a = b) (x : a.T) : b.T := h ▸ x
/-- Is a value a function, written out? -/
def isFn (f : Nat) (v : Value) : Bool := match v with
  | .func (.func g) a b => Nat.beq g f && (Nat.beq a.size 0 && Nat.beq b.size 0)
  | _ => false
def CT.ofS : (t : CT) → S1 → Option t.T
  | .int k, .int k' x => match kindEq k' k with | some ⟨h⟩ => some (h ▸ x) | none => none
  | .bool, .bool b => some b
  | .str, .str s => some s
  | .ro e, .ro e' xs => match CTs.eq? e' e with | some ⟨h⟩ => some (h ▸ xs) | none => none
  | .ro _, .nils => some []
  | .rop e, .rop e' m => match CTs.eq? e' e with | some ⟨h⟩ => some (h ▸ m) | none => none
  | .rop e, .pro e' x => match CTs.eq? e' e with | some ⟨h⟩ => some (some (h ▸ x)) | none => none
  | .rop _, .nilp => some none
  | .rom k v, .rom k' v' xs => match CT.eq? (.rom k' v') (.rom k v) with | some ⟨h⟩ => some (castCT h xs) | none => none
  | .rom _ _, .const v => match v with | .map none => some [] | _ => none
  | .fn f, .const v => match isFn f v with | true => some () | false => none
  | _, _ => none
def CTs.ofS : (e : CTs) → List S1 → Option e.T
  | .nil, [] => some ()
  | .cons t ts, s :: ss => match CT.ofS t s, CTs.ofS ts ss with
    | some x, some y => some (CTs.mk t ts x y)
    | _, _ => none
  | _, _ => none
/-- An element behind its first cells. -/
def dropE : (e : CTs) → e.T → Nat → S1
  | e, x, 0 => .pro e x
  | .nil, _, _ + 1 => .dead
  | .cons t ts, x, n + 1 => dropE ts (CTs.tl t ts x) n

/-- An element's type, off the table: its cells are plain. -/
def cellTy (tt : TT) : Nat → Nat → Option CTs
  | 0, _ => none
  | n + 1, t => match tt.get t with
    | some d => match d.kind with
      | .int k => some (.cons (.int k) .nil)
      | .bool => some (.cons .bool .nil)
      | .str => some (.cons .str .nil)
      | .slice e => match cellTy tt n e with | some c => some (.cons (.ro c) .nil) | none => none
      | .map ke ve => match tt.get ke, tt.get ve, cellTy tt n ke, cellTy tt n ve with
        | some kd, some vd, some k, some v => match kd.agg && vd.agg with | true => some (.cons (.rom k v) .nil) | false => none
        | _, _, _, _ => none
      | .struct fs => fs.foldr (fun f acc => match acc, cellTy tt n f.2.1 with
          | some r, some c => some (app c r)
          | _, _ => none) (some .nil)
      | .arr k e => match cellTy tt n e with
          | some c => some (rep k c)
          | none => none
      | _ => none
    | none => none
where
  app : CTs → CTs → CTs
    | .nil, r => r
    | .cons t ts, r => .cons t (app ts r)
  rep : Nat → CTs → CTs
    | 0, _ => .nil
    | n + 1, c => app c (rep n c)

/-! ### Operations -/
open Prog

/-- A place in a list, as an integer has it. -/
def at? {α : Type} (xs : List α) (n : Int) : Option α := match decide (0 ≤ n) with | true => xs[n.toNat]? | false => none

/-- Keys and values of maps. -/
def VT.toS : (t : VT) → t.T → S1 ⊕ List S1
  | .one t, x => .inl (CT.toS t x)
  | .agg e, x => .inr (CTs.toS e x)
def VT.ofS : (t : VT) → SV → Option t.T
  | .one t, .one s => CT.ofS t s
  | .agg e, .agg ss => CTs.ofS e ss
  | _, _ => none
def unfoldCells : (e : OTs) → e.T → Nat → List S1 × List (Nat × Chunk)
  | .nil, _, _ => ([], [])
  | .cons t ts, x, n =>
    let r := unfoldCells ts (OTs.tl t ts x) (n + 1)
    match t, OTs.hd t ts x with
    | .c t, y => (CT.toS t y :: r.1, r.2)
    | .row e, y => (.own n :: r.1, (n, .row e y) :: r.2)
    | .ptr e, y => (.own n :: r.1, (n, .fold e y) :: r.2)
    | .map k v, y => (.own n :: r.1, (n, .map k v y) :: r.2)
    | .ptrA p t m q, y => (.own n :: r.1, (n, .foldA p t m q y) :: r.2)
def setAll {β : Type} : List (Nat × Chunk) → Prog β → Prog β
  | [], k => k
  | (n, x) :: r, k => .set n x (setAll r k)
def newAll {β : Type} : List (Nat × Chunk) → Prog β → Prog β
  | [], k => k
  | (n, x) :: r, k => .new n x (newAll r k)
/-- How many numbers an operation may give. -/
def stride : Nat := 100
/-- A struct behind a pointer is opened (where it isn't yet); fails if the pointer is nil. -/
def openP {β : Type} (c fresh : Nat) (k : List S1 → Prog β) : Prog β :=
  .get c fun
    | .cells vs => k vs
    | .fold e m => match Nat.ble e.size stride with
        | true => .bindO m fun x => .set c (.cells (unfoldCells e x fresh).1) (newAll (unfoldCells e x fresh).2 (k (unfoldCells e x fresh).1))
        | false => .fail
    | .foldA p t n q m => match Nat.ble (p.size + q.size) stride with
        | true => .bindO m fun x => .set c (.cellsA (unfoldCells p x.1 fresh).1 t n x.2.1 (unfoldCells q x.2.2 (fresh + p.size)).1)
            (newAll ((unfoldCells p x.1 fresh).2 ++ (unfoldCells q x.2.2 (fresh + p.size)).2) (k []))
        | false => .fail
    | .cellsA _ _ _ _ _ => k []
    | _ => .fail

def repCT (t : CT) : Nat → CTs
  | 0 => .nil
  | n + 1 => .cons t (repCT t n)
/-- The first cells of a list, as an array. -/
def firstN (t : CT) : (n : Nat) → List t.T → Option (repCT t n).T
  | 0, _ => some ()
  | n + 1, x :: xs => match firstN t n xs with | some y => some (CTs.mk t (repCT t n) x y) | none => none
  | _ + 1, [] => none
/-- A list of cells of one kind. -/
def ofSL (t : CT) : List S1 → Option (List t.T)
  | [] => some []
  | s :: ss => match CT.ofS t s, ofSL t ss with | some x, some xs => some (x :: xs) | _, _ => none
def ret {α : Type} (m : Option α) : Prog α := match m with | some x => .pure x | none => .fail

/-- The zero of a cell's kind. -/
def zCT : (t : CT) → t.T
  | .int k => IK.ofInt k 0
  | .bool => false
  | .str => []
  | .ro _ => []
  | .rop _ => none
  | .rom _ _ => []
  | .fn _ => ()
def isZ : CT → Value → Bool
  | .int k, .int k' n => (match kindEq k' k with | some _ => true | none => false) && decide (n = 0)
  | .bool, .bool b => !b
  | .str, .string s => Nat.beq s.size 0
  | .ro _, .slice none n c => Nat.beq n 0 && Nat.beq c 0
  | .rop _, .pointer none => true
  | .rom _ _, .map none => true
  | _, _ => false
/-- A zero value with an array amid. -/
def zeroA (z : Value) (off : Nat) (ct : CT) (n : Nat) : Option (List S1 × List S1) :=
  match Nat.ble (off + n) z.cells.toList.length && ((z.cells.toList.drop off).take n).all (isZ ct) with
  | true => some ((z.cells.toList.take off).map constS, (z.cells.toList.drop (off + n)).map constS)
  | false => none
/-- Out of a struct with an array amid. -/
def partA (d : TD) (vs : List S1) (t : CT) (n : Nat) (y : List t.T) (ws : List S1) (off : Nat) : Option SV :=
  match Nat.ble (off + d.size) vs.length with
  | true => partS d vs off
  | false => match Nat.ble (vs.length + n) off with
    | true => partS d ws (off - (vs.length + n))
    | false => match Nat.beq off vs.length && Nat.beq d.size n && d.agg with
      | true => some (.aggA [] t n y [])
      | false => match Nat.beq off 0 && Nat.beq d.size (vs.length + n + ws.length) && d.agg with
        | true => some (.aggA vs t n y ws)
        | false => none
def partAP (d : TD) (vs : List S1) (t : CT) (n : Nat) (y : List t.T) (ws : List S1) (off : Nat) : Prog SV := ret (partA d vs t n y ws off)
def loadP (tt : TT) (t : Nat) (a : S1) : Prog SV :=
  match tt.get t with
  | none => .fail
  | some d => match a with
    | .own c => .get c fun | .cells vs => ret (partS d vs 0) | .cellsA vs t n y ws => partAP d vs t n y ws 0 | _ => .fail
    | .pcell c off => .get c fun | .cells vs => ret (partS d vs off) | .cellsA vs t n y ws => partAP d vs t n y ws off | _ => .fail
    | .parr c off i => .get c fun
        | .cellsA vs t _ y _ => match Nat.beq off vs.length, d.agg with
          | true, false => .bindO (y[i]?) fun x => .pure (.one (CT.toS t x))
          | _, _ => .fail
        | _ => .fail
    | .pelem c z i off => .get c fun
        | .row e xs => match Nat.beq e.size z with
          | true => .bindO (xs[i]?) fun x => ret (partS d (e.toS x) off)
          | false => .fail
        | _ => .fail
    | .pro e x => ret (partS d (e.toS x) 0)
    | .rop e m => .bindO m fun x => ret (partS d (e.toS x) 0)
    | .rp1 off c => match off with | 0 => ret (partS d [.own c] 0) | _ + 1 => .fail
    | _ => .fail
/-- Into a struct with an array amid. -/
def putAL (t : CT) (n : Nat) (vs : List S1) (y : List t.T) (ws : List S1) (off : Nat) (new : List S1) : Option (List S1 × List t.T × List S1) :=
  match Nat.ble (off + new.length) vs.length with
  | true => match putCells vs off new with | some vs' => some (vs', y, ws) | none => none
  | false => match Nat.ble (vs.length + n) off with
    | true => match putCells ws (off - (vs.length + n)) new with | some ws' => some (vs, y, ws') | none => none
    | false => match Nat.beq off vs.length, Nat.beq new.length n with
      | true, true => match ofSL t new with | some y' => some (vs, y', ws) | none => none
      | _, _ => match Nat.beq off 0, Nat.beq new.length (vs.length + n + ws.length) with
        | true, true => match ofSL t ((new.drop vs.length).take n) with | some y' => some (new.take vs.length, y', new.drop (vs.length + n)) | none => none
        | _, _ => none
def putAP (c : Nat) (vs : List S1) (t : CT) (n : Nat) (y : List t.T) (ws : List S1) (off : Nat) (new : List S1) : Prog SV :=
  (ret (putAL t n vs y ws off new)).bind fun r => .set c (.cellsA r.1 t n r.2.1 r.2.2) (.pure (.one .dead))
def putA (t : CT) (n : Nat) (vs : List S1) (y : List t.T) (ws : List S1) (off : Nat) (new : SV) : Option (List S1 × List t.T × List S1) :=
  match new with
  | .aggA vs' t' n' y' ws' => match CT.eq? t' t, Nat.beq n' n && Nat.beq (off + vs'.length) vs.length && Nat.ble ws'.length ws.length with
    | some ⟨h⟩, true => some (vs.take off ++ vs', h ▸ y', ws' ++ ws.drop ws'.length)
    | _, _ => none
  | new => match new.cells? with
    | some cs => putAL t n vs y ws off cs
    | none => none
def storeP (a : S1) (new : List S1) : Prog SV :=
  match a with
  | .own c => .get c fun | .cells vs => (ret (putCells vs 0 new)).bind fun vs' => .set c (.cells vs') (.pure (.one .dead)) | .cellsA vs t n y ws => putAP c vs t n y ws 0 new | _ => .fail
  | .pcell c off => .get c fun | .cells vs => (ret (putCells vs off new)).bind fun vs' => .set c (.cells vs') (.pure (.one .dead)) | .cellsA vs t n y ws => putAP c vs t n y ws off new | _ => .fail
  | .parr c off i => .get c fun
      | .cellsA vs t n y ws => match Nat.beq off vs.length, new with
        | true, [s] => (ret (CT.ofS t s)).bind fun x => .ite (Nat.blt i y.length) (.set c (.cellsA vs t n (y.set i x) ws) (.pure (.one .dead))) .fail
        | _, _ => .fail
      | _ => .fail
  | .pelem c z i off => .get c fun
      | .row e xs => match Nat.beq e.size z with
        | true => .bindO (xs[i]?) fun x => (ret (putCells (e.toS x) off new)).bind fun vs' => (ret (e.ofS vs')).bind fun y => .set c (.row e (xs.set i y)) (.pure (.one .dead))
        | false => .fail
      | _ => .fail
  | _ => .fail
def offP (a : S1) (n : Nat) : S1 :=
  match n with
  | 0 => a
  | n + 1 => match a with
    | .own c => .pcell c (n + 1)
    | .pcell c o => .pcell c (o + (n + 1))
    | .pelem c z i o => .pelem c z i (o + (n + 1))
    | .pro e x => dropE e x (n + 1)
    | .rp1 off c => match Nat.ble (n + 1) off with | true => .rp1 (off - (n + 1)) c | false => .dead
    | _ => .dead
def pcellOK : S1 → Bool
  | .own _ => true | .pcell _ _ => true | .pelem _ _ _ _ => true | .parr _ _ _ => true | .pro _ _ => true | .rp1 _ _ => true | _ => false

def cmpB (op : BinOp) (eq lt : Bool) : Option Bool :=
  match op with
  | .eql => some eq | .neq => some (!eq) | .lss => some lt | .leq => some (lt || eq) | .gtr => some (!(lt || eq)) | .geq => some (!lt)
  | _ => none
def binInt (op : BinOp) (k : IntKind) (x y : IK k) : Prog SV :=
  let v (z : IK k) : Prog SV := .pure (.one (.int k z))
  let b (z : Bool) : Prog SV := .pure (.one (.bool z))
  match op with
  | .add => v (IK.add k x y) | .sub => v (IK.sub k x y) | .mul => v (IK.mul k x y)
  | .quo => .ite (IK.eqb k y (IK.ofInt k 0)) .fail (v (IK.quo k x y))
  | .rem => .ite (IK.eqb k y (IK.ofInt k 0)) .fail (v (IK.rem k x y))
  | .and => v (IK.and k x y) | .or => v (IK.or k x y) | .xor => v (IK.xor k x y) | .andNot => v (IK.andNot k x y)
  | .eql => b (IK.eqb k x y) | .neq => b (!IK.eqb k x y)
  | .lss => b (IK.ltb k x y) | .leq => b (IK.leb k x y) | .gtr => b (IK.ltb k y x) | .geq => b (IK.leb k y x)
  | _ => .fail
/-- Where the divisor is written out there is nothing to ask. -/
def binDiv (op : BinOp) (k : IntKind) (x : IK k) (n : Int) : Option (IK k) :=
  match decide (k.wrap n = 0) with
  | true => none
  | false => match op with
    | .quo => some (IK.quo k x (IK.ofInt k n))
    | .rem => some (IK.rem k x (IK.ofInt k n))
    | _ => none
def bytesLt : List UInt8 → List UInt8 → Bool := Op.bytesLess
/-- The parts of a struct, of an array: each by its own comparison. -/
def eqFs (tt : TT) (eq : Nat → List S1 → List S1 → Option Bool) : List (Nat × Nat × Bool) → List S1 → List S1 → Option Bool
  | [], _, _ => some true
  | f :: r, a, b => match f.2.2 with
    | true => none
    | false => match tt.get f.2.1 with
      | none => none
      | some fd => match Nat.ble (f.1 + fd.size) a.length && Nat.ble (f.1 + fd.size) b.length with
        | false => none
        | true => match eq f.2.1 ((a.drop f.1).take fd.size) ((b.drop f.1).take fd.size), eqFs tt eq r a b with
          | some x, some y => some (x && y)
          | _, _ => none
def eqAs (eq : List S1 → List S1 → Option Bool) (sz : Nat) : Nat → Nat → List S1 → List S1 → Option Bool
  | 0, _, _, _ => some true
  | m + 1, off, a, b => match Nat.ble (off + sz) a.length && Nat.ble (off + sz) b.length with
    | false => none
    | true => match eq ((a.drop off).take sz) ((b.drop off).take sz), eqAs eq sz m (off + sz) a b with
      | some x, some y => some (x && y)
      | _, _ => none
/-- Are two values of plain cells the same? Their type says how. -/
def eqT (tt : TT) : Nat → Nat → List S1 → List S1 → Option Bool
  | 0, _, _, _ => none
  | n + 1, t, a, b => match tt.get t with
    | none => none
    | some d => match d.kind with
      | .int _ => match a, b with
        | [.int k x], [.int k' y] => match kindEq k' k with
          | some ⟨h⟩ => some (IK.eqb k x (h ▸ y))
          | none => none
        | _, _ => none
      | .bool => match a, b with
        | [.bool x], [.bool y] => some (x == y)
        | _, _ => none
      | .str => match a, b with
        | [.str x], [.str y] => some (x == y)
        | _, _ => none
      | .struct fs => match d.odd with
        | true => none
        | false => eqFs tt (eqT tt n) fs a b
      | .arr k e => match tt.get e with
        | some ed => eqAs (eqT tt n e) ed.size k 0 a b
        | none => none
      | _ => none

/-! ### Functions' signatures -/
inductive PTy where
  | one (t : OT)
  | agg (e : CTs)
  | oagg (e : OTs)      -- parts that own memory: as a result; as a parameter they are lent
  | mv (e : OTs)        -- a parameter's parts that own memory: they are given away
  | mvr (e : CTs)       -- a slice of one's own: it is given away
  | rs (off : Nat) (e : CTs)     -- a result: a slice of no or one struct, which is only read, but for the slice at one of its cells: that is one's own
@[reducible] def PTy.T : PTy → Type
  | .one t => t.T
  | .agg e => e.T
  | .oagg e => e.T
  | .mv e => e.T
  | .mvr e => List e.T
  | .rs _ e => Nat × List e.T
/-- How many names it takes. -/
def PTy.w : PTy → Nat
  | .one _ => 1
  | .agg _ => 1
  | .oagg e => e.size + 1
  | .mv e => e.size + 1
  | .mvr _ => 1
  | .rs _ _ => 1
inductive PTys where
  | nil | cons (t : PTy) (ts : PTys)
@[reducible] def PTys.T : PTys → Type
  | .nil => Unit
  | .cons t ts => match ts with
    | .nil => PTy.T t
    | .cons _ _ => PTy.T t × PTys.T ts
def PTys.mk : (t : PTy) → (ts : PTys) → t.T → ts.T → (PTys.cons t ts).T
  | _, .nil, x, _ => x
  | _, .cons _ _, x, y => (x, y)
def PTys.hd : (t : PTy) → (ts : PTys) → (PTys.cons t ts).T → t.T
  | _, .nil, x => x
  | _, .cons _ _, x => x.1
def PTys.tl : (t : PTy) → (ts : PTys) → (PTys.cons t ts).T → ts.T
  | _, .nil, _ => ()
  | _, .cons _ _, x => x.2
theorem PTys.hd_mk (t : PTy) (ts : PTys) (x : t.T) (y : ts.T) : PTys.hd t ts (PTys.mk t ts x y) = x := by cases ts <;> rfl
theorem PTys.tl_mk (t : PTy) (ts : PTys) (x : t.T) (y : ts.T) : PTys.tl t ts (PTys.mk t ts x y) = y := by cases ts <;> rfl
/-- The slices of a struct's own that is lent. -/
@[reducible] def lendT : OTs → OTs → OTs
  | .nil, r => r
  | .cons (.row e) ts, r => .cons (.row e) (lendT ts r)
  | .cons (.c _) ts, r => lendT ts r
  | .cons (.ptr _) ts, r => lendT ts r
  | .cons (.map _ _) ts, r => lendT ts r
  | .cons (.ptrA _ _ _ _) ts, r => lendT ts r
/-- What is changed behind the pointers that are handed in, in what is lent. -/
@[reducible] def PTys.outs : PTys → OTs
  | .nil => .nil
  | .cons (.one (.ptr e)) ts => .cons (.ptr e) (PTys.outs ts)
  | .cons (.oagg e) ts => lendT e (PTys.outs ts)
  | .cons (.mv _) ts => PTys.outs ts
  | .cons (.mvr _) ts => PTys.outs ts
  | .cons (.rs _ _) ts => PTys.outs ts
  | .cons (.one (.c _)) ts => PTys.outs ts
  | .cons (.one (.row e)) ts => .cons (.row e) (PTys.outs ts)
  | .cons (.one (.map _ _)) ts => PTys.outs ts
  | .cons (.one (.ptrA p t n q)) ts => .cons (.ptrA p t n q) (PTys.outs ts)
  | .cons (.agg _) ts => PTys.outs ts

structure Sig where
  ps : PTys
  rs : PTys
@[reducible] def Sig.In (s : Sig) : Type := s.ps.T
@[reducible] def Sig.Out (s : Sig) : Type := s.rs.T × s.ps.outs.T

/-- A function that may be called: its number, its signature, what it computes. -/
structure Fun where
  f : Nat
  sig : Sig
  F : sig.In → Option sig.Out

mutual
def CT.bare : CT → Bool
  | .ro _ => false
  | .rop _ => false
  | .rom _ _ => false
  | _ => true
def CTs.bare : CTs → Bool
  | .nil => true
  | .cons t ts => CT.bare t && CTs.bare ts
end
def VT.bare : VT → Bool
  | .one t => t.bare
  | .agg e => e.bare
mutual
def OT.bare : OT → Bool
  | .c t => t.bare
  | .row e => e.bare
  | .ptr e => OTs.bare e
  | .map k v => k.bare && v.bare
  | .ptrA p t _ q => OTs.bare p && t.bare && OTs.bare q
def OTs.bare : OTs → Bool
  | .nil => true
  | .cons t ts => OT.bare t && OTs.bare ts
end
def PTys.bare : PTys → Bool
  | .nil => true
  | .cons (.one t) ts => t.bare && PTys.bare ts
  | .cons (.agg e) ts => e.bare && PTys.bare ts
  | .cons (.oagg e) ts => e.bare && PTys.bare ts
  | .cons (.mv e) ts => e.bare && PTys.bare ts
  | .cons (.mvr e) ts => e.bare && PTys.bare ts
  | .cons (.rs _ e) ts => e.bare && PTys.bare ts

def castM {a b : OT} (h : a = b) (x : a.T) : b.T := h ▸ x
/-- A struct's cells, one by one. -/
def flatL {α : Type} (t : CT) (y : List t.T) (ws : List S1) : Nat → Nat → (List S1 → Prog α) → Prog α
  | 0, _, k => k ws
  | n + 1, i, k => .bindO (y[i]?) fun x => flatL t y ws n (i + 1) fun l => k (CT.toS t x :: l)
/-- What is one's own is only read from now on. -/
def sealS : (t : OT) → t.T → S1
  | .c t, y => CT.toS t y
  | .row e, y => .ro e y
  | .map (.agg k) (.agg v), y => .rom k v y
  | _, _ => .dead
def sealCells : (e : OTs) → e.T → List S1
  | .nil, _ => []
  | .cons t ts, x => sealS t (OTs.hd t ts x) :: sealCells ts (OTs.tl t ts x)
/-- A plain cell out of a symbolic one; a slice of one's own is only read from then on. -/
def takeC0 (t : CT) (s : S1) : Prog t.T :=
  match t, s with
  | .ro e, .own c => .get c fun
      | .row e' xs => match CTs.eq? e' e with | some ⟨h⟩ => .set c (.sealed e' xs) (.pure (h ▸ xs)) | none => .fail
      | .sealed e' xs => match CTs.eq? e' e with | some ⟨h⟩ => .pure (h ▸ xs) | none => .fail
      | _ => .fail
  | .ro e, .view c z off len => .get c fun
      | .row e' xs => match Nat.beq e'.size z, CTs.eq? e' e with | true, some ⟨h⟩ => .set c (.sealed e' xs) (.pure (h ▸ ((xs.drop off).take len))) | _, _ => .fail
      | .sealed e' xs => match Nat.beq e'.size z, CTs.eq? e' e with | true, some ⟨h⟩ => .pure (h ▸ ((xs.drop off).take len)) | _, _ => .fail
      | _ => .fail
  | .ro e, .aview c n => match e with
    | .cons ct .nil => .get c fun
      | .cells vs => match ofSL ct vs with
        | some y => match Nat.beq y.length n with
          | true => .del c (.pure y)
          | false => .fail
        | none => .fail
      | _ => .fail
    | _ => .fail
  | t, s => ret (CT.ofS t s)
mutual
def takeC : (t : CT) → S1 → Prog t.T
  | .rop e, s => match s with
    | .own c => .get c fun
      | .cells vs => .del c ((takeCs e vs).bind fun x => .pure (some x))
      | .cellsA vs t n y ws => .del c (flatL t y ws n 0 fun l => (takeCs e (vs ++ l)).bind fun x => .pure (some x))
      | .fold e' m => .del c (.elim m (.pure none) fun z => (ret (CTs.ofS e (sealCells e' z))).bind fun x => .pure (some x))
      | .foldA p t n q m => .del c (.elim m (.pure none) fun z => flatL t z.2.1 (sealCells q z.2.2) n 0 fun l => (ret (CTs.ofS e (sealCells p z.1 ++ l))).bind fun x => .pure (some x))
      | _ => .fail
    | s => ret (CT.ofS (.rop e) s)
  | .rom k v, s => match s with
    | .own c => .get c fun
      | .map k' v' xs => match OT.eq? (.map k' v') (.map (.agg k) (.agg v)) with
        | some ⟨h⟩ => .set c (.sealedM k v (castM h xs)) (.pure (castM h xs))
        | none => .fail
      | .sealedM k' v' xs => match CT.eq? (.rom k' v') (.rom k v) with
        | some ⟨h⟩ => .pure (castCT h xs)
        | none => .fail
      | _ => .fail
    | s => ret (CT.ofS (.rom k v) s)
  | .int k, s => takeC0 (.int k) s
  | .bool, s => takeC0 .bool s
  | .str, s => takeC0 .str s
  | .ro e, s => takeC0 (.ro e) s
  | .fn f, s => takeC0 (.fn f) s
def takeCs : (e : CTs) → List S1 → Prog e.T
  | .nil, [] => .pure ()
  | .cons t ts, s :: ss => (takeC t s).bind fun x => (takeCs ts ss).bind fun y => .pure (CTs.mk t ts x y)
  | .nil, _ :: _ => .fail
  | .cons _ _, [] => .fail
end
/-- Does a value hold memory of one's own? -/
def sealable (l : List S1) : Bool := l.any fun s => match s with | .own _ => true | .view _ _ _ _ => true | _ => false
/-- An element is stored that holds a slice of one's own: it is only read from then on. -/
def storeElemP (c z i off : Nat) (new : List S1) : Prog SV :=
  .get c fun
    | .row e xs => match Nat.beq e.size z with
      | true => .bindO (xs[i]?) fun x => (ret (putCells (e.toS x) off new)).bind fun vs' => (takeCs e vs').bind fun y => .get c fun
        | .row e2 xs2 => match CTs.eq? e2 e with
          | some ⟨h⟩ => .set c (.row e (List.set (h ▸ xs2) i y)) (.pure (.one .dead))
          | none => .fail
        | _ => .fail
      | false => .fail
    | _ => .fail
def takeGroups (e : CTs) : Nat → List S1 → Prog (List e.T)
  | 0, [] => .pure []
  | n + 1, l => (takeCs e (l.take e.size)).bind fun x => (takeGroups e n (l.drop e.size)).bind fun xs => .pure (x :: xs)
  | _, _ => .fail
def takeVT : (t : VT) → SV → Prog t.T
  | .one t, .one s => takeC t s
  | .agg e, .agg ss => takeCs e ss
  | _, _ => .fail
mutual
def takeO : (t : OT) → S1 → Prog t.T
  | .c t, s => takeC t s
  | .row e, s => match s with
    | .own c => .get c fun
        | .row e' xs => match CTs.eq? e' e with | some ⟨h⟩ => .del c (.pure (h ▸ xs)) | none => .fail
        | _ => .fail
    | .nils => .pure []
    | _ => .fail
  | .ptr e, s => match s with
    | .own c => .get c fun
        | .fold e' m => match OTs.eq? e' e with | some ⟨h⟩ => .del c (.pure (h ▸ m)) | none => .fail
        | .cells vs => .del c ((takeOs e vs).bind fun x => .pure (some x))
        | _ => .fail
    | .nilp => .pure none
    | _ => .fail
  | .map k v, s => match s with
    | .own c => .get c fun
        | .map k' v' xs => match OT.eq? (.map k' v') (.map k v) with | some ⟨h⟩ => .del c (.pure (castM h xs)) | none => .fail
        | _ => .fail
    | _ => .fail
  | .ptrA p t n q, s => match s with
    | .own c => .get c fun
        | .foldA p' t' n' q' m => match OT.eq? (.ptrA p' t' n' q') (.ptrA p t n q) with | some ⟨h⟩ => .del c (.pure (castM h m)) | none => .fail
        | .cellsA vs t' n' y ws => match CT.eq? t' t, Nat.beq n' n with
          | some ⟨h⟩, true => .del c ((takeOs p vs).bind fun x => (takeOs q ws).bind fun z => .pure (some (x, h ▸ y, z)))
          | _, _ => .fail
        | .cells vs => match ofSL t ((vs.drop p.size).take n) with
          | some y => match Nat.beq y.length n with
            | true => .del c ((takeOs p (vs.take p.size)).bind fun x => (takeOs q (vs.drop (p.size + n))).bind fun z => .pure (some (x, y, z)))
            | false => .fail
          | none => .fail
        | _ => .fail
    | .nilp => .pure none
    | _ => .fail
def takeOs : (e : OTs) → List S1 → Prog e.T
  | .nil, [] => .pure ()
  | .cons t ts, s :: ss => (takeO t s).bind fun x => (takeOs ts ss).bind fun y => .pure (OTs.mk t ts x y)
  | _, _ => .fail
end
def takeP : (t : PTy) → SV → Prog t.T
  | .one t, .one s => takeO t s
  | .mvr e, .one s => takeO (.row e) s
  | .rs off e, .one s => match s with
    | .rs1 off' c k => match Nat.beq off' off with
      | true => (takeO (.row e) (.own c)).bind fun xs => .pure (k, xs)
      | false => .fail
    | .nils => .pure (0, [])
    | _ => .fail
  | .agg e, .aggA vs t n y ws => flatL t y ws n 0 fun l => takeCs e (vs ++ l)
  | .oagg e, .aggA vs t n y ws => flatL t y ws n 0 fun l => takeOs e (vs ++ l)
  | .mv e, .aggA vs t n y ws => flatL t y ws n 0 fun l => takeOs e (vs ++ l)
  | .agg e, .agg vs => takeCs e vs
  | .oagg e, .agg vs => takeOs e vs
  | .mv e, .agg vs => takeOs e vs
  | _, _ => .fail
def takePs : (ps : PTys) → List SV → Prog ps.T
  | .nil, [] => .pure ()
  | .cons t ts, s :: ss => (takeP t s).bind fun x => (takePs ts ss).bind fun y => .pure (PTys.mk t ts x y)
  | _, _ => .fail
/-- Is what is lent one's own? -/
def lendS : OTs → List S1 → Bool
  | .nil, [] => true
  | .cons (.c _) ts, _ :: ss => lendS ts ss
  | .cons (.row _) ts, .own _ :: ss => lendS ts ss
  | _, _ => false
/-- May a value be handed in so? (Where a function has more than one signature, that tells which.) -/
def argOK : OT → SV → Bool
  | .c (.fn f), .one (.const v) => isFn f v
  | .c (.fn _), _ => false
  | .ptr _, .one (.pro _ _) => false
  | .ptr _, .one (.rop _ _) => false
  | .ptrA _ _ _ _, .one (.pro _ _) => false
  | .ptrA _ _ _ _, .one (.rop _ _) => false
  | _, _ => true
def lendOK : PTys → List SV → Bool
  | .nil, _ => true
  | .cons (.oagg e) ts, s :: ss => (match s with | .agg vs => lendS e vs | _ => false) && lendOK ts ss
  | .cons (.one (.row _)) ts, s :: ss => (match s with | .one (.own _) => true | _ => false) && lendOK ts ss
  | .cons (.one (.c t)) ts, s :: ss => argOK (.c t) s && lendOK ts ss
  | .cons (.one (.ptr e)) ts, s :: ss => argOK (.ptr e) s && lendOK ts ss
  | .cons (.one (.map _ _)) ts, _ :: ss => lendOK ts ss
  | .cons (.one (.ptrA p t n q)) ts, s :: ss => argOK (.ptrA p t n q) s && lendOK ts ss
  | .cons (.agg _) ts, _ :: ss => lendOK ts ss
  | .cons (.mv _) ts, _ :: ss => lendOK ts ss
  | .cons (.mvr _) ts, _ :: ss => lendOK ts ss
  | .cons (.rs _ _) ts, _ :: ss => lendOK ts ss
  | .cons _ _, [] => false
def giveLend : (e : OTs) → List S1 → (r : OTs) → (lendT e r).T → (r.T → List (Nat × Chunk)) → List (Nat × Chunk)
  | .nil, _, _, y, k => k y
  | .cons (.row e) ts, s :: ss, r, y, k => match s with
    | .own c => (c, .row e (OTs.hd (.row e) (lendT ts r) y)) :: giveLend ts ss r (OTs.tl (.row e) (lendT ts r) y) k
    | _ => giveLend ts ss r (OTs.tl (.row e) (lendT ts r) y) k
  | .cons (.c _) ts, _ :: ss, r, y, k => giveLend ts ss r y k
  | .cons (.ptr _) ts, _ :: ss, r, y, k => giveLend ts ss r y k
  | .cons (.map _ _) ts, _ :: ss, r, y, k => giveLend ts ss r y k
  | .cons (.ptrA _ _ _ _) ts, _ :: ss, r, y, k => giveLend ts ss r y k
  | .cons _ _, [], _, _, _ => []
/-- What was changed behind pointers is laid back. -/
def giveOuts : (ps : PTys) → List SV → ps.outs.T → List (Nat × Chunk)
  | .nil, _, _ => []
  | .cons (.one (.ptr e)) ts, s :: ss, y => match s with
    | .one (.own c) => (c, .fold e (OTs.hd (.ptr e) ts.outs y)) :: giveOuts ts ss (OTs.tl (.ptr e) ts.outs y)
    | _ => giveOuts ts ss (OTs.tl (.ptr e) ts.outs y)
  | .cons (.one (.c _)) ts, _ :: ss, y => giveOuts ts ss y
  | .cons (.one (.row e)) ts, s :: ss, y => match s with
    | .one (.own c) => (c, .row e (OTs.hd (.row e) ts.outs y)) :: giveOuts ts ss (OTs.tl (.row e) ts.outs y)
    | _ => giveOuts ts ss (OTs.tl (.row e) ts.outs y)
  | .cons (.one (.map _ _)) ts, _ :: ss, y => giveOuts ts ss y
  | .cons (.one (.ptrA p t n q)) ts, s :: ss, y => match s with
    | .one (.own c) => (c, .foldA p t n q (OTs.hd (.ptrA p t n q) ts.outs y)) :: giveOuts ts ss (OTs.tl (.ptrA p t n q) ts.outs y)
    | _ => giveOuts ts ss (OTs.tl (.ptrA p t n q) ts.outs y)
  | .cons (.agg _) ts, _ :: ss, y => giveOuts ts ss y
  | .cons (.mv _) ts, _ :: ss, y => giveOuts ts ss y
  | .cons (.mvr _) ts, _ :: ss, y => giveOuts ts ss y
  | .cons (.rs _ _) ts, _ :: ss, y => giveOuts ts ss y
  | .cons (.oagg e) ts, s :: ss, y => giveLend e (match s with | .agg vs => vs | _ => []) ts.outs y fun y => giveOuts ts ss y
  | .cons _ _, [], _ => []
def giveR : (ps : PTys) → ps.T → Nat → List (S1 ⊕ List S1) × List (Nat × Chunk)
  | .nil, _, _ => ([], [])
  | .cons t ts, x, n =>
    let r := giveR ts (PTys.tl t ts x) (n + t.w)
    match t, PTys.hd t ts x with
    | .one (.c t), y => (.inl (CT.toS t y) :: r.1, r.2)
    | .one (.row e), y => (.inl (.own n) :: r.1, (n, .row e y) :: r.2)
    | .one (.ptr e), y => (.inl (.own n) :: r.1, (n, .fold e y) :: r.2)
    | .one (.map k v), y => (.inl (.own n) :: r.1, (n, .map k v y) :: r.2)
    | .one (.ptrA p t m q), y => (.inl (.own n) :: r.1, (n, .foldA p t m q y) :: r.2)
    | .agg e, y => (.inr (CTs.toS e y) :: r.1, r.2)
    | .oagg e, y => (.inr (unfoldCells e y n).1 :: r.1, (unfoldCells e y n).2 ++ r.2)
    | .mv e, y => (.inr (unfoldCells e y n).1 :: r.1, (unfoldCells e y n).2 ++ r.2)
    | .mvr e, y => (.inl (.own n) :: r.1, (n, .row e y) :: r.2)
    | .rs off e, y => (.inl (.rs1 off n y.1) :: r.1, (n, .row e y.2) :: r.2)
/-- A struct with an array amid is stored. -/
def storeAP (size : Nat) (a : S1) (vs : List S1) (t : CT) (n : Nat) (y : List t.T) (ws : List S1) : Prog SV :=
  match Nat.beq (vs.length + n + ws.length) size && vs.all S1.solid && ws.all S1.solid, (match a with | .own c => some (c, 0) | .pcell c off => some (c, off) | _ => none) with
  | true, some (c, off) => .get c fun
    | .cells old => match Nat.ble (off + size) old.length with
      | true => .set c (.cellsA (old.take off ++ vs) t n y (ws ++ old.drop (off + size))) (.pure (.one .dead))
      | false => .fail
    | .cellsA vs0 t0 n0 y0 ws0 => match putA t0 n0 vs0 y0 ws0 off (.aggA vs t n y ws) with
      | some r => .set c (.cellsA r.1 t0 n0 r.2.1 r.2.2) (.pure (.one .dead))
      | none => .fail
    | _ => .fail
  | _, _ => .fail
def giveV (l : List (S1 ⊕ List S1)) : SV :=
  match l with
  | [.inl s] => .one s
  | [.inr ss] => .agg ss
  | l => .tup l
def psize : PTys → Nat
  | .nil => 0
  | .cons t ts => psize ts + t.w
/-- An operation on one cell that a pointer leads into: its signature is a mark. -/
inductive Atom where
  | add (k : IntKind) | load (k : IntKind) | field (off : Nat) | pair20 (a b : Nat)
@[reducible] def addSig (k : IntKind) : Sig := ⟨.cons (.oagg .nil) (.cons (.one (.c (.int k))) .nil), .cons (.one (.c (.int k))) .nil⟩
@[reducible] def loadSig (k : IntKind) : Sig := ⟨.cons (.oagg .nil) .nil, .cons (.one (.c (.int k))) .nil⟩
/-- A method that gives the pointer that its struct holds at a place (how many types the mark has). -/
@[reducible] def fieldSig (e : CTs) : Sig := ⟨.cons (.oagg .nil) .nil, .cons (.one (.c (.ro e))) .nil⟩
/-- A method that gives two cells of its struct as one number (the first times 2 ^ 20). -/
@[reducible] def calcSig (e e' : CTs) : Sig := ⟨.cons (.oagg .nil) .nil, .cons (.one (.c (.ro e))) (.cons (.one (.c (.ro e'))) .nil)⟩
def atomOf (s : Sig) : Option Atom :=
  match s.ps with
  | .cons (.oagg .nil) (.cons (.one (.c (.int k))) .nil) => some (.add k)
  | .cons (.oagg .nil) .nil => match s.rs with
    | .cons (.one (.c (.int k))) .nil => some (.load k)
    | .cons (.one (.c (.ro e))) .nil => some (.field e.size)
    | .cons (.one (.c (.ro e))) (.cons (.one (.c (.ro e'))) .nil) => some (.pair20 e.size e'.size)
    | _ => none
  | _ => none
/-- Where a pointer leads: a piece of memory, a place in it. -/
def locP (a : S1) : Option (Nat × Nat) := match a with | .own c => some (c, 0) | .pcell c off => some (c, off) | _ => none
def intAt (k : IntKind) (vs : List S1) (off : Nat) : Option (IK k) := match nth vs off with | some s => CT.ofS (.int k) s | none => none
def fieldV (vs : List S1) (off : Nat) : Prog SV := match nth vs off with
  | some (.own d) => .pure (.one (.own d))
  | _ => .fail
def calcV (vs : List S1) (a b : Nat) : Prog SV := match intAt .u64 vs a, intAt .u64 vs b with
  | some x, some y => .pure (.one (.int .u64 (IK.or .u64 (IK.shl .u64 x 20) y)))
  | _, _ => .fail
def openC (c fresh : Nat) (k : List S1 → Prog SV) : Prog SV := .get c fun
  | .cells vs => k vs
  | .fold e m => match Nat.ble e.size stride with
    | true => .bindO m fun x => .set c (.cells (unfoldCells e x fresh).1) (newAll (unfoldCells e x fresh).2 (k (unfoldCells e x fresh).1))
    | false => .fail
  | _ => .fail
def atomP (a : Atom) (args : List SV) (fresh : Nat) : Prog SV :=
  match a with
  | .field off => match args with
    | [.one (.own c)] => openC c fresh fun vs => fieldV vs off
    | _ => .fail
  | .pair20 a b => match args with
    | [.one (.own c)] => openC c fresh fun vs => calcV vs a b
    | _ => .fail
  | .add k => match args with
    | [.one x, .one y] => match locP x, CT.ofS (.int k) y with
      | some (c, off), some n => .get c fun
        | .cells vs => match intAt k vs off with
          | some m => (ret (putCells vs off [.int k (IK.add k m n)])).bind fun vs' => .set c (.cells vs') (.pure (.one (.int k (IK.add k m n))))
          | none => .fail
        | .cellsA vs t N y ws => match Nat.ble (vs.length + N) off with
          | true => match intAt k ws (off - (vs.length + N)) with
            | some m => (ret (putCells ws (off - (vs.length + N)) [.int k (IK.add k m n)])).bind fun ws' => .set c (.cellsA vs t N y ws') (.pure (.one (.int k (IK.add k m n))))
            | none => .fail
          | false => .fail
        | _ => .fail
      | _, _ => .fail
    | _ => .fail
  | .load k => match args with
    | [.one x] => match locP x with
      | some (c, off) => .get c fun
        | .cells vs => match intAt k vs off with
          | some m => .pure (.one (.int k m))
          | none => .fail
        | .cellsA vs _ N _ ws => match Nat.ble (vs.length + N) off with
          | true => match intAt k ws (off - (vs.length + N)) with
            | some m => .pure (.one (.int k m))
            | none => .fail
          | false => .fail
        | _ => .fail
      | none => .fail
    | _ => .fail
def plen : PTys → Nat
  | .nil => 0
  | .cons _ ts => plen ts + 1
def callF (g : Fun) (args : List SV) (fresh : Nat) : Prog SV :=
  match Nat.ble (psize g.sig.rs) stride && lendOK g.sig.ps args with
  | true => (takePs g.sig.ps args).bind fun x => .bindO (g.F x) fun r =>
    newAll (giveOuts g.sig.ps args r.2) (newAll (giveR g.sig.rs r.1 fresh).2 (.pure (giveV (giveR g.sig.rs r.1 fresh).1)))
  | false => .fail
/-- sync.Once's Do, of a method that is bound to the struct with the Once ahead: its signature is a mark (which method: how many bools). -/
@[reducible] def onceSig (e : CTs) (p : OTs) (t : CT) (n : Nat) (q : OTs) : Sig := ⟨.cons (.one (.c (.ro e))) (.cons (.oagg .nil) (.cons (.one (.ptrA p t n q)) .nil)), .nil⟩
def onceOf (g : Fun) : Option (Nat × Fun) :=
  match g with
  | ⟨d, ⟨.cons (.one (.c (.ro e))) (.cons (.oagg .nil) (.cons (.one (.ptrA p t n q)) .nil)), .nil⟩, F⟩ => some (e.size, ⟨d, ⟨.cons (.one (.ptrA p t n q)) .nil, .nil⟩, fun x => F ([], (), x)⟩)
  | _ => none
def isOnce : Sig → Bool
  | ⟨.cons (.one (.c (.ro _))) (.cons (.oagg .nil) (.cons (.one (.ptrA _ _ _ _)) .nil)), .nil⟩ => true
  | _ => false
/-- A function whose last parameter is a method that is bound to a pointer: its signature is a mark (which method: how many types), and then as if the pointer itself were handed in. -/
@[reducible] def bndSig (e : CTs) (p : PTy) (ps : PTys) (rs : PTys) : Sig := ⟨.cons (.one (.c (.ro e))) (.cons (.oagg .nil) (.cons (.oagg .nil) (.cons p ps))), rs⟩
def bndOf (g : Fun) : Option (Nat × Fun) :=
  match g with
  | ⟨d, ⟨.cons (.one (.c (.ro e))) (.cons (.oagg .nil) (.cons (.oagg .nil) (.cons p ps))), rs⟩, F⟩ => some (e.size, ⟨d, ⟨.cons p ps, rs⟩, fun x => F ([], (), (), x)⟩)
  | _ => none
def isBnd : Sig → Bool
  | ⟨.cons (.one (.c (.ro _))) (.cons (.oagg .nil) (.cons (.oagg .nil) (.cons _ _))), _⟩ => true
  | _ => false
/-- A function that turns a row of one's own by way of a closure, which reads a map: the closure's variable holds a pointer to a struct, whose first field the map is. Its signature is a mark (which closure: how many types), then the row and the map. -/
@[reducible] def srtSig (e r : CTs) (k v : VT) : Sig := ⟨.cons (.one (.c (.ro e))) (.cons (.oagg .nil) (.cons (.one (.row r)) (.cons (.one (.map k v)) .nil))), .nil⟩
structure Srt where
  g : Nat
  r : CTs
  k : VT
  v : VT
  F : List r.T → List (k.T × v.T) → Option (List r.T)
def srtOf (g : Fun) : Option Srt :=
  match g with
  | ⟨_, ⟨.cons (.one (.c (.ro e))) (.cons (.oagg .nil) (.cons (.one (.row r)) (.cons (.one (.map k v)) .nil))), .nil⟩, F⟩ => some ⟨e.size, r, k, v, fun xs m => obind (F ([], (), xs, m)) fun y => some y.2⟩
  | _ => none
def isSrt : Sig → Bool
  | ⟨.cons (.one (.c (.ro _))) (.cons (.oagg .nil) (.cons (.one (.row _)) (.cons (.one (.map _ _)) .nil))), .nil⟩ => true
  | _ => false
/-- Is a signature no mark? -/
def plainSig (s : Sig) : Bool := (atomOf s).isNone && (!isOnce s && (!isBnd s && !isSrt s))
def mapIn (vs : List S1) : Option Nat := match vs with | .own m :: _ => some m | _ => none
def srtM (s : Srt) (c : Nat) (xs : List s.r.T) (vs : List S1) : Prog SV := match mapIn vs with
  | some m => .get m fun
    | .map k v ents => match OT.eq? (.map k v) (.map s.k s.v) with
      | some ⟨h⟩ => .bindO (s.F xs (castM h ents)) fun ys => .set c (.row s.r ys) (.pure (.tup []))
      | none => .fail
    | _ => .fail
  | none => .fail
def srtP (s : Srt) (args : List SV) : Prog SV :=
  match args with
  | [.one (.own c), .one (.bnd f' d)] => match Nat.beq f' (s.g + 300) with
    | true => .get c fun
      | .row e xs => match CTs.eq? e s.r with
        | some ⟨h⟩ => .get d fun
          | .cells bs => match mapIn bs with
            | some c0 => .get c0 fun
              | .cells vs => srtM s c (h ▸ xs) vs
              | .cellsA vs _ _ _ _ => srtM s c (h ▸ xs) vs
              | _ => .fail
            | none => .fail
          | _ => .fail
        | none => .fail
      | _ => .fail
    | false => .fail
  | _ => .fail
/-- What is handed in, with the bound method's pointer in its place. -/
def unbnd (f : Nat) : List SV → Option (List SV)
  | [.one (.bnd f' d)] => match Nat.beq f' f with
    | true => some [.one (.own d)]
    | false => none
  | s :: r => (unbnd f r).map (s :: ·)
  | [] => none
def bndArgs (f : Nat) : List Value → List Value
  | [v] => [bndVal f v]
  | v :: r => v :: bndArgs f r
  | [] => []
def onceP (f : Nat) (g : Fun) (args : List SV) (fresh : Nat) : Prog SV :=
  match args with
  | [.one (.own c), .one (.bnd f' d)] => match Nat.beq f' f, Nat.beq d c with
    | true, true => callF g [.one (.own c)] fresh
    | _, _ => .fail
  | _ => .fail
def callP (g : Fun) (args : List SV) (fresh : Nat) : Prog SV := match atomOf g.sig with
  | some a => atomP a args fresh
  | none => match onceOf g with
    | some (f, g) => onceP f g args fresh
    | none => match bndOf g with
      | some (f, g) => match unbnd f args with
        | some as => callF g as fresh
        | none => .fail
      | none => match srtOf g with
        | some s => srtP s args
        | none => callF g args fresh

/-- A function, by its number; where it has more than one signature, by what is handed in. -/
def findFun : List Fun → Nat → List SV → Option Fun
  | [], _, _ => none
  | g :: r, f, as => match Nat.beq g.f f with
    | true => match r with
      | [] => some g
      | h :: _ => match Nat.beq h.f f with
        | true => match lendOK g.sig.ps as with
          | true => some g
          | false => findFun r f as
        | false => some g
    | false => findFun r f as

end Go.Sx
