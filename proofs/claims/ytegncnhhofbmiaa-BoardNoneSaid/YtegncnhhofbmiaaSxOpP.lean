/- A walk of Go code by plain functions is sound. -/
import Derived.Test.YtegncnhhofbmiaaSxOps
namespace Go.Sx

@[reducible] def u8s : CTs := .cons (.int .u8) .nil
def maxCells : Nat := 4294967296
/-- The elements that an 'append' lays behind. -/
def takeSrc (e : CTs) (s : S1) : Prog (List e.T) :=
  match s with
  | .nils => .pure []
  | .ro e' xs => match CTs.eq? e' e with | some ⟨h⟩ => .pure (h ▸ xs) | none => .fail
  | .own c => .get c fun
      | .row e' xs => match CTs.eq? e' e with | some ⟨h⟩ => .pure (h ▸ xs) | none => .fail
      | .sealed e' xs => match CTs.eq? e' e with | some ⟨h⟩ => .pure (h ▸ xs) | none => .fail
      | _ => .fail
  | .view c z off len => .get c fun
      | .row e' xs => match Nat.beq e'.size z, CTs.eq? e' e with | true, some ⟨h⟩ => .pure (h ▸ ((xs.drop off).take len)) | _, _ => .fail
      | .sealed e' xs => match Nat.beq e'.size z, CTs.eq? e' e with | true, some ⟨h⟩ => .pure (h ▸ ((xs.drop off).take len)) | _, _ => .fail
      | _ => .fail
  | .str b => match e with
      | .cons (.int .u8) .nil => .pure b
      | _ => .fail
  | .aview c n => match e with
      | .cons ct .nil => .get c fun
        | .cells vs => match ofSL ct vs with
          | some y => match Nat.beq y.length n with
            | true => .pure y
            | false => .fail
          | none => .fail
        | _ => .fail
      | _ => .fail
  | _ => .fail
def appendFin (e : CTs) (fresh : Nat) (xs ys : List e.T) : Prog SV :=
  .ite (Nat.ble (xs.length + ys.length) maxCells) (.new fresh (.row e (xs ++ ys)) (.pure (.one (.own fresh)))) .fail
/-- Are two lists the same? -/
noncomputable def sameL {α : Type} (x y : List α) : Bool := open Classical in decide (x = y)
theorem sameL_eq {α : Type} {x y : List α} : sameL x y = true ↔ x = y := by simp [sameL]
noncomputable def appendP (e : CTs) (bytes : Nat) (base src : S1) (fresh : Nat) : Prog SV :=
  match Nat.ble bytes 16384 with
  | false => .fail
  | true => (takeSrc e src).bind fun ys => match base with
    | .nils => appendFin e fresh [] ys
    | .own c => .get c fun
        | .row e' xs => match CTs.eq? e' e with | some ⟨h⟩ => .set c (.pre fresh e (h ▸ xs)) (appendFin e fresh (h ▸ xs) ys) | none => .fail
        | .pre d e' xs => match CTs.eq? e' e with
          | some ⟨h⟩ => .get d fun
            | .row e'' zs => match CTs.eq? e'' e with
              | some ⟨h'⟩ => .ite (sameL ((h' ▸ zs : List e.T).take xs.length) (h ▸ xs)) (.del d (.set c (.pre fresh e (h ▸ xs)) (appendFin e fresh (h ▸ xs) ys))) .fail
              | none => .fail
            | _ => .fail
          | none => .fail
        | _ => .fail
    | .view c z off len => match off with
        | 0 => .get c fun
          | .row e' xs => match Nat.beq e'.size z, CTs.eq? e' e with | true, some ⟨h⟩ => .ite (Nat.ble len xs.length) (.del c (appendFin e fresh (h ▸ (xs.take len)) ys)) .fail | _, _ => .fail
          | _ => .fail
        | _ + 1 => .fail
    | _ => .fail
def goLen (n : Nat) : SV := .one (.int .i64 (IK.ofInt .i64 n))
def lenP (s : S1) : Prog SV :=
  match s with
  | .str b => .pure (goLen b.length)
  | .nils => .pure (goLen 0)
  | .ro _ xs => .pure (goLen xs.length)
  | .view _ _ _ len => .pure (goLen len)
  | .aview _ n => .pure (goLen n)
  | .rs1 _ _ k => .pure (goLen k)
  | .own c => .get c fun
      | .row _ xs => .pure (goLen xs.length)
      | .sealed _ xs => .pure (goLen xs.length)
      | _ => .fail
  | _ => .fail
def IK.minI (k : IntKind) (x y : IK k) : IK k := match IK.ltb k y x with | true => y | false => x
def IK.maxI (k : IntKind) (x y : IK k) : IK k := match IK.ltb k x y with | true => y | false => x
def minmaxP (isMax : Bool) (x y : SV) : Prog SV :=
  match x, y with
  | .one (.int k a), .one (.int k' b) => match kindEq k' k with
    | some ⟨h⟩ => .pure (.one (.int k (match isMax with | true => IK.maxI k a (h ▸ b) | false => IK.minI k a (h ▸ b))))
    | none => .fail
  | _, _ => .fail
/-- A bound of a slice: as a number, if it lies within. -/
def boundP (x : Option SV) (dflt : Nat) : Option (Option Int × Nat) :=
  match x with
  | none => some (none, dflt)
  | some (.one (.int k n)) => some (some (IK.toInt k n), (IK.toInt k n).toNat)
  | _ => none
def within (x : Option Int × Nat) (hi : Nat) : Bool :=
  match x.1 with
  | none => true
  | some n => decide (0 ≤ n) && Nat.ble x.2 hi
def goSl (lo hi : Option SV) (len : Nat) (k : Nat → Nat → Prog SV) : Prog SV :=
  match boundP hi len, boundP lo 0 with
  | some h, some l => .ite (within h len && within l h.2) (k l.2 h.2) .fail
  | _, _ => .fail
def sliceP (size : Nat) (s : SV) (lo hi mx : Option SV) : Prog SV :=
  match mx with
  | some m =>
    -- 'l[:0:0]'; of a row of one's own 'l[:h:m]'
    match lo, hi, m with
    | none, some (.one (.int k h)), .one (.int k' m) =>
      .ite (decide (IK.toInt k h = 0) && decide (IK.toInt k' m = 0))
      (match s with
        | .one (.ro _ _) => .pure (.one .nils)
        | .one .nils => .pure (.one .nils)
        | .one (.own c) => .get c fun
          | .row _ _ => .pure (.one .nils)
          | .sealed _ _ => .pure (.one .nils)
          | _ => .fail
        | _ => .fail)
      (match s with
        | .one (.own c) => .get c fun
          | .row e xs => match Nat.beq e.size size with
            | true => .ite (decide (0 ≤ IK.toInt k h) && decide (IK.toInt k h ≤ IK.toInt k' m) && Nat.ble (IK.toInt k' m).toNat xs.length) (.pure (.one (.view c size 0 (IK.toInt k h).toNat))) .fail
            | false => .fail
          | _ => .fail
        | _ => .fail)
    | _, _, _ => .fail
  | none =>
    match s with
    | .one (.str b) => goSl lo hi b.length fun l h => .pure (.one (.str ((b.take h).drop l)))
    | .one (.ro e xs) => match Nat.beq e.size size with
      | true => goSl lo hi xs.length fun l h => .pure (.one (.ro e ((xs.take h).drop l)))
      | false => .fail
    | .one (.own c) => .get c fun
      | .row e xs => match Nat.beq e.size size with
        | true => match hi, lo with
          | none, none => .pure (.one (.own c))
          | _, _ => goSl lo hi xs.length fun l h => .pure (.one (.view c size l (h - l)))
        | false => .fail
      | .sealed e xs => match Nat.beq e.size size with
        | true => goSl lo hi xs.length fun l h => .pure (.one (.ro e ((xs.take h).drop l)))
        | false => .fail
      | _ => .fail
    | .one (.view c z o len) => match Nat.beq z size with
      | true => goSl lo hi len fun l h => .pure (.one (.view c z (o + l) (h - l)))
      | false => .fail
    | .one .nils => goSl lo hi 0 fun _ _ => .pure (.one .nils)
    | _ => .fail
/-- An array of one's own as a slice. -/
def sliceArrP (n : Nat) (x : S1) : Prog SV :=
  match x with
  | .own c => .get c fun
    | .cells _ => match Nat.ble n 65536 with
      | true => .pure (.one (.aview c n))
      | false => .fail
    | _ => .fail
  | _ => .fail
def indexAddrP (size : Nat) (x : S1) (ix : Int) : Prog SV :=
  match x with
  | .ro e xs => match Nat.beq e.size size with | true => .bindO (at? xs ix) fun y => .pure (.one (.pro e y)) | false => .fail
  | .own c => .get c fun
      | .row e xs => match Nat.beq e.size size with
        | true => .ite (decide (0 ≤ ix) && Nat.blt ix.toNat xs.length) (.pure (.one (.pelem c size ix.toNat 0))) .fail
        | false => .fail
      | .sealed e xs => match Nat.beq e.size size with | true => .bindO (at? xs ix) fun y => .pure (.one (.pro e y)) | false => .fail
      | _ => .fail
  | .view c z off len => .get c fun
      | .row e _ => match Nat.beq e.size size && Nat.beq z size with
        | true => .ite (decide (0 ≤ ix) && Nat.blt ix.toNat len) (.pure (.one (.pelem c size (off + ix.toNat) 0))) .fail
        | false => .fail
      | _ => .fail
  | .rs1 off c k => .ite (decide (ix = 0) && Nat.beq k 1) (.pure (.one (.rp1 off c))) .fail
  | _ => .fail
def tkind (tt : TT) (t : Nat) : TK := match tt.get t with | some d => d.kind | none => .other
/-- Is the pointer nil? -/
def isNilP (c fresh : Nat) : Prog Bool := .get c fun
  | .cells _ => .pure false
  | .cellsA _ _ _ _ _ => .pure false
  | .foldA p t n q m => match Nat.ble (p.size + q.size) stride with
    | true => .elim m (.set c (.foldA p t n q none) (.pure true)) fun x => .set c (.cellsA (unfoldCells p x.1 fresh).1 t n x.2.1 (unfoldCells q x.2.2 (fresh + p.size)).1)
        (newAll ((unfoldCells p x.1 fresh).2 ++ (unfoldCells q x.2.2 (fresh + p.size)).2) (.pure false))
    | false => .fail
  | .fold e m => match Nat.ble e.size stride with
    | true => .elim m (.set c (.fold e none) (.pure true)) fun x => .set c (.cells (unfoldCells e x fresh).1) (newAll (unfoldCells e x fresh).2 (.pure false))
    | false => .fail
  | _ => .fail
def eqAggP (tt : TT) (t : Nat) (a b : List S1) : Prog Bool :=
  match tt.get t with
  | some d => match d.odd, d.agg with
    | false, true => match eqT tt 6 t a b with
      | some r => .pure r
      | none => .fail
    | _, _ => .fail
  | none => .fail
def eqP (tt : TT) (t : Nat) (x y : SV) (fresh : Nat) : Prog Bool :=
  match tkind tt t, x, y with
  | .bool, .one (.bool a), .one (.bool b) => .pure (a == b)
  | .ptr _, .one .nilp, .one .nilp => .pure true
  | .ptr _, .one (.own c), .one .nilp => isNilP c fresh
  | .ptr _, .one .nilp, .one (.own c) => isNilP c fresh
  | .ptr _, .one (.rop _ m), .one .nilp => .pure m.isNone
  | .ptr _, .one .nilp, .one (.rop _ m) => .pure m.isNone
  | .ptr _, .one (.pro _ _), .one .nilp => .pure false
  | _, .aggA [] c n y [], .aggA [] c' n' y' [] => .bindO (firstN c n y) fun z => .bindO (firstN c' n' y') fun z' => eqAggP tt t ((repCT c n).toS z) ((repCT c' n').toS z')
  | _, .agg a, .agg b => (match tt.get t with | some d => (match d.odd, d.agg with | false, true => (match eqT tt 6 t a b with | some r => .pure r | none => .fail) | _, _ => .fail) | none => .fail)
  | _, _, _ => .fail
def strCmp (op : BinOp) (a b : List UInt8) : Prog SV :=
  match op with
  | .add => .ite (Nat.ble (a.length + b.length) maxCells) (.pure (.one (.str (a ++ b)))) .fail
  | .eql => .pure (.one (.bool (a == b)))
  | .neq => .pure (.one (.bool (!(a == b))))
  | .lss => .pure (.one (.bool (bytesLt a b)))
  | .leq => .pure (.one (.bool (bytesLt a b || a == b)))
  | .gtr => .pure (.one (.bool (!(bytesLt a b || a == b))))
  | .geq => .pure (.one (.bool (!(bytesLt a b))))
  | _ => .fail
def binP (tt : TT) (op : BinOp) (t : Nat) (x y : SV) (yo : Operand) (fresh : Nat) : Prog SV :=
  match x, y with
  | .one (.int k a), .one (.int k' b) =>
    match op with
    | .shl => shift k' b (.pure (.one (.int k (IK.shl k a (IK.toInt k' b)))))
    | .shr => shift k' b (.pure (.one (.int k (IK.shr k a (IK.toInt k' b)))))
    | op => match kindEq k' k with
      | some ⟨h⟩ => match yo with
        | .const (.int _ n) => match binDiv op k a n with
          | some z => .pure (.one (.int k z))
          | none => binInt op k a (h ▸ b)
        | _ => binInt op k a (h ▸ b)
      | none => .fail
  | .one (.str a), .one (.str b) => strCmp op a b
  | x, y => match op with
    | .eql => (eqP tt t x y fresh).bind fun r => .pure (.one (.bool r))
    | .neq => (eqP tt t x y fresh).bind fun r => .pure (.one (.bool (!r)))
    | _ => .fail
where
  shift (k' : IntKind) (b : IK k') (z : Prog SV) : Prog SV :=
    match k'.signed, yo with
    | false, _ => z
    | true, .const (.int _ n) => match decide (0 ≤ k'.wrap n) with | true => z | false => .fail
    | true, _ => .ite (decide (0 ≤ IK.toInt k' b)) z .fail
def unP (op : UnOp) (x : SV) : Prog SV :=
  match op, x with
  | .not, .one (.bool b) => .pure (.one (.bool (!b)))
  | .neg, .one (.int k n) => .pure (.one (.int k (IK.neg k n)))
  | .xor, .one (.int k n) => .pure (.one (.int k (IK.com k n)))
  | _, _ => .fail
def convP (tt : TT) (src dst : Nat) (x : SV) (fresh : Nat) : Prog SV :=
  match tt.get src, tt.get dst with
  | some s, some d => match s.kind, d.kind, x with
    | .int _, .int k', .one (.int k n) => .pure (.one (.int k' (IK.conv k k' n)))
    | .str, .str, .one (.str b) => .pure (.one (.str b))
    | .slice e, .str, .one v => match tt.get e with
      | some ed => match ed.kind with
        | .int .u8 => (takeSrc u8s v).bind fun b => match v with
            | .str _ => .fail
            | _ => .pure (.one (.str b))
        | _ => .fail
      | none => .fail
    | .slice e, .slice e', .one (.own c) => match Nat.beq src dst, Nat.beq e e', tt.get e with
      | true, true, some ed => match ed.kind with
        | .int .u8 => .get c fun
          | .row e xs => .ite (Nat.blt 0 xs.length) (.set c (.row e xs) (.pure (.one (.own c)))) .fail
          | _ => .fail
        | _ => .fail
      | _, _, _ => .fail
    | .str, .slice e, .one (.str b) => match tt.get e with
      | some ed => match ed.kind with
        | .int .u8 => .new fresh (.row u8s b) (.pure (.one (.own fresh)))
        | _ => .fail
      | none => .fail
    | _, _, _ => .fail
  | _, _ => .fail
/-- The cells of a struct, part by part. -/
def fillS (place : Nat → Option (Nat × Nat)) (cells : List S1) : List (Nat × SV) → Option (List S1)
  | [] => some cells
  | (i, v) :: rest => match place i with
    | none => none
    | some (off, size) => match v.cells? with
      | none => none
      | some vs => match Nat.beq vs.length size with
        | false => none
        | true => match putCells cells off vs with
          | some cells => fillS place cells rest
          | none => none
def cellsOfV (v : Value) : List S1 := v.cells.toList.map constS
def placesOf (tt : TT) : List (Nat × Nat × Bool) → Option (List (Nat × Nat))
  | [] => some []
  | f :: r => match tt.get f.2.1, placesOf tt r with
    | some d, some l => some ((f.1, d.size) :: l)
    | _, _ => none
/-- Where a great array lies in a type: its cells' kind, how many. -/
def bigTy (tt : TT) (t : Nat) : Option (CT × Nat) :=
  match tt.get t with
  | some d => match d.kind with
    | .arr k _ => match Nat.ble 4 k, cellTy tt 8 t with
      | true, some (.cons c _) => some (c, d.size)
      | _, _ => none
    | _ => none
  | none => none
def bigField (tt : TT) : List (Nat × Nat × Bool) → Option (Nat × CT × Nat)
  | [] => none
  | f :: r => match bigTy tt f.2.1 with
    | some x => some (f.1, x)
    | none => bigField tt r
def bigAt (tt : TT) (t : Nat) : Option (Nat × CT × Nat) :=
  match tt.get t with
  | some d => match d.kind with
    | .struct fs => bigField tt fs
    | .arr _ _ => match bigTy tt t with | some x => some (0, x) | none => none
    | _ => none
  | none => none
def fillA (place : Nat → Option (Nat × Nat)) (t : CT) (n : Nat) : List S1 → List t.T → List S1 → List (Nat × SV) → Option (List S1 × List t.T × List S1)
  | vs, y, ws, [] => some (vs, y, ws)
  | vs, y, ws, (i, v) :: rest => match place i with
    | none => none
    | some (off, size) => match Nat.beq v.len size with
      | false => none
      | true => match putA t n vs y ws off v with
        | some (vs, y, ws) => fillA place t n vs y ws rest
        | none => none
def buildAP (tt : TT) (d : TD) (z : Value) (off : Nat) (ct : CT) (n : Nat) (parts : List (Nat × SV)) : Prog SV :=
  match zeroA z off ct n, d.kind with
  | some (vs, ws), .struct fs => match placesOf tt fs with
    | none => .fail
    | some pl => match fillA (nth pl) ct n vs (List.replicate n (zCT ct)) ws parts with
      | some (vs, y, ws) => .pure (.aggA vs ct n y ws)
      | none => .fail
  | some (vs, ws), .arr _ e => match tt.get e, parts with
    | some _, [] => .pure (.aggA vs ct n (List.replicate n (zCT ct)) ws)
    | _, _ => .fail
  | _, _ => .fail
def bigParts (tt : TT) (t : Nat) (d : TD) (parts : List (Nat × SV)) : Option (Nat × CT × Nat) :=
  match d.kind, parts with
  | .arr _ _, _ :: _ => none
  | _, _ => bigAt tt t
def buildP (tt : TT) (t : Nat) (parts : List (Nat × SV)) : Prog SV :=
  match tt.get t with
  | none => .fail
  | some d => match d.zero with
    | none => .fail
    | some z => match bigParts tt t d parts with
     | some (off, ct, n) => buildAP tt d z off ct n parts
     | none => match d.kind with
      | .struct fs => match placesOf tt fs with
        | none => .fail
        | some pl => match fillS (nth pl) (cellsOfV z) parts with
          | some cs => .pure (.agg cs)
          | none => .fail
      | .arr _ e => match tt.get e with
        | some ed => match fillS (fun i => some (i * ed.size, ed.size)) (cellsOfV z) parts with
          | some cs => .pure (.agg cs)
          | none => .fail
        | none => .fail
      | _ => .fail
def ofGroups (e : CTs) : Nat → List S1 → Option (List e.T)
  | 0, [] => some []
  | n + 1, l => match e.ofS (l.take e.size), ofGroups e n (l.drop e.size) with
    | some x, some xs => some (x :: xs)
    | _, _ => none
  | _, _ => none
def repL {α : Type} : Nat → List α → List α
  | 0, _ => []
  | n + 1, l => l ++ repL n l
def buildSliceP (tt : TT) (t n : Nat) (parts : List (Nat × SV)) (fresh : Nat) : Prog SV :=
  match tt.get t with
  | none => .fail
  | some d => match d.kind with
    | .slice e => match n with
     | 0 => (match parts, tt.get e with | [], some _ => .pure (.one .nils) | _, _ => .fail)
     | n + 1 => match tt.get e, cellTy tt 8 e with
      | some ed, some c => match ed.zero with
        | none => .fail
        | some z => match Nat.beq c.size ed.size && (Nat.ble 1 ed.size && (Nat.ble ((n + 1) * ed.size) 65536 && Nat.beq z.cells.size ed.size)) with
          | false => .fail
          | true => match fillS (fun i => some (i * ed.size, ed.size)) (repL (n + 1) (cellsOfV z)) parts with
            | some cs => match ofGroups c (n + 1) cs with
              | some xs => .new fresh (.row c xs) (.pure (.one (.own fresh)))
              | none => (takeGroups c (n + 1) cs).bind fun xs => .new fresh (.row c xs) (.pure (.one (.own fresh)))
            | none => .fail
      | _, _ => .fail
    | _ => .fail
/-- A slice of nought values. -/
def makeSliceP (tt : TT) (t : Nat) (n m : Int) (fresh : Nat) : Prog SV :=
  match tt.get t with
  | none => .fail
  | some d => match d.kind with
    | .slice e => match tt.get e, cellTy tt 8 e with
      | some ed, some c => match ed.zero with
        | none => .fail
        | some z => match Nat.beq c.size ed.size && (Nat.ble 1 ed.size && (Nat.ble ed.bytes 16384 && Nat.beq z.cells.size ed.size)), c.ofS (cellsOfV z) with
          | true, some x => .ite (decide (0 ≤ n) && (decide (n ≤ m) && decide (m ≤ 4294967296))) (.new fresh (.row c (List.replicate n.toNat x)) (.pure (.one (.own fresh)))) .fail
          | _, _ => .fail
      | _, _ => .fail
    | _ => .fail
def intOf? : SV → Option Int
  | .one (.int k n) => some (IK.toInt k n)
  | _ => none
def isStr : SV → Bool
  | .one (.str _) => true
  | _ => false
def ofOne : SV → S1
  | .one s => s
  | _ => .dead

/-- What a map's key, a map's value look like. -/
def baseCT (tt : TT) (t : Nat) : Option CT :=
  match tt.get t with
  | some d => match d.kind with
    | .int k => match Nat.beq d.size 1 with | true => some (.int k) | false => none
    | .bool => match Nat.beq d.size 1 with | true => some .bool | false => none
    | .str => match Nat.beq d.size 1 with | true => some .str | false => none
    | _ => none
  | none => none
def baseFs (tt : TT) : List (Nat × Nat × Bool) → Nat → Option CTs
  | [], _ => some .nil
  | f :: r, i => match Nat.beq f.1 i, f.2.2 with
    | true, false => match baseCT tt f.2.1, baseFs tt r (i + 1) with
      | some c, some cs => some (.cons c cs)
      | _, _ => none
    | _, _ => none
def repC (c : CT) : Nat → CTs
  | 0 => .nil
  | n + 1 => .cons c (repC c n)
def keyVT (tt : TT) (t : Nat) : Option VT :=
  match tt.get t with
  | some d => match d.kind with
    | .arr n e => match baseCT tt e with
      | some c => some (.agg (repC c n))
      | none => none
    | .struct fs => match d.odd with
      | true => none
      | false => match baseFs tt fs 0 with
        | some cs => some (.agg cs)
        | none => none
    | _ => match baseCT tt t with
      | some c => some (.one c)
      | none => none
  | none => none
def valVT (tt : TT) (t : Nat) : Option VT :=
  match tt.get t, cellTy tt 8 t with
  | some d, some e => match Nat.beq e.size d.size with
    | true => match d.agg with
      | true => some (.agg e)
      | false => match e with
        | .cons c .nil => some (.one c)
        | _ => none
    | false => none
  | _, _ => none
/-- A map's type: its keys, its values, the nought value. -/
structure MapTy where
  k : VT
  v : VT
  zero : v.T
def mapTy (tt : TT) (t : Nat) : Option MapTy :=
  match tkind tt t with
  | .map ke ve => match keyVT tt ke, valVT tt ve, tt.get ve with
    | some k, some v, some vd => match vd.zero with
      | some z => match VT.ofS v (constV z) with
        | some z0 => some ⟨k, v, z0⟩
        | none => none
      | none => none
    | _, _, _ => none
  | _ => none
def vtV (x : S1 ⊕ List S1) : SV := match x with | .inl s => .one s | .inr ss => .agg ss
def lookV (ok : Bool) (v : VT) (m : Option v.T) (z : v.T) : SV :=
  match ok with
  | true => .tup [v.toS (m.getD z), .inl (.bool m.isSome)]
  | false => vtV (v.toS (m.getD z))
/-- The entries of a map, at its type. -/
def withMap {β : Type} (m : MapTy) (c : Nat) (K : List (m.k.T × m.v.T) → Prog β) : Prog β :=
  .get c fun
    | .map k v xs => match OT.eq? (.map k v) (.map m.k m.v) with
      | some ⟨h⟩ => K (castM h xs)
      | none => .fail
    | _ => .fail
/-- The same, to look at alone. -/
def withMapR {β : Type} (m : MapTy) (c : Nat) (K : List (m.k.T × m.v.T) → Prog β) : Prog β :=
  .get c fun
    | .map k v xs => match OT.eq? (.map k v) (.map m.k m.v) with
      | some ⟨h⟩ => K (castM h xs)
      | none => .fail
    | .sealedM k v xs => match OT.eq? (.map (.agg k) (.agg v)) (.map m.k m.v) with
      | some ⟨h⟩ => K (castM h xs)
      | none => .fail
    | _ => .fail
/-- What a map has at a key: where it has none, a slice is nil. -/
def lookR (ok : Bool) (v : VT) (m : Option v.T) (z : v.T) : Prog SV :=
  match ok, v, m, z with
  | false, .one (.ro e), m, _ => .elim m (.pure (.one .nils)) fun y => .pure (.one (.ro e y))
  | ok, v, m, z => .pure (lookV ok v m z)
def zeroNil (v : VT) (z : v.T) : Bool := match v, z with | .one (.ro _), [] => true | .one (.ro _), _ :: _ => false | _, _ => true
def lookupP (tt : TT) (t : Nat) (x : S1) (ix : SV) (ok : Bool) : Prog SV :=
  match mapTy tt t with
  | some m => match m.k.ofS ix with
    | some key => match x with
      | .own c => withMapR m c fun xs => lookR ok m.v (mget m.k m.v key xs) m.zero
      | .rom k v xs => match OT.eq? (.map (.agg k) (.agg v)) (.map m.k m.v) with
        | some ⟨h⟩ => lookR ok m.v (mget m.k m.v key (castM h xs)) m.zero
        | none => .fail
      | .const (.map none) => .pure (lookV ok m.v none m.zero)
      | _ => .fail
    | none => .fail
  | none => .fail
/-- A store at the entry that came last, in a range over the map. -/
def mapUpdateI (m : MapTy) (c d : Nat) (key : m.k.T) (y : m.v.T) : Prog SV :=
  .get d fun
    | .miter c' k v xs rest _ => match OT.eq? (.map k v) (.map m.k m.v), Nat.beq c' c with
      | some ⟨h⟩, true => .ite ((mget m.k m.v key (castM h xs)).isSome && (mget m.k m.v key (castM h rest)).isNone)
          (.set d (.miter c m.k m.v (mput m.k m.v key y (castM h xs)) (castM h rest) none) (.pure (.one .dead))) .fail
      | _, _ => .fail
    | _ => .fail
def mapUpdateP (tt : TT) (t : Nat) (x : S1) (ix val : SV) : Prog SV :=
  match mapTy tt t with
  | some m => match m.k.ofS ix with
    | some key => match x with
      | .own c => (takeVT m.v val).bind fun y => .get c fun
        | .ranged d => mapUpdateI m c d key y
        | _ => withMap m c fun xs => .set c (.map m.k m.v (mput m.k m.v key y xs)) (.pure (.one .dead))
      | _ => .fail
    | none => .fail
  | none => .fail
/-- A map's entry comes into hand: what it holds; it is to be stored. -/
def entryV (e : VT) (m : Option e.T) (z : e.T) (d : Nat) : Prog SV :=
  match e, m, z with
  | .one (.ro e), m, _ => .elim m (.pure (.tup [.inl .nils, .inl (.own d)])) fun y => .pure (.tup [.inl (.ro e y), .inl (.own d)])
  | e, m, z => .pure (.tup [e.toS (m.getD z), .inl (.own d)])
def mapEntryP (tt : TT) (t : Nat) (x : S1) (ix : SV) (fresh : Nat) : Prog SV :=
  match mapTy tt t with
  | some m => match m.k.ofS ix with
    | some key => match x with
      | .own c => withMap m c fun xs => .ite (VT.eqb m.k key key) (.del c (.new fresh (.mapO c m.k m.v (mput m.k m.v key ((mget m.k m.v key xs).getD m.zero) xs) key) (entryV m.v (mget m.k m.v key xs) m.zero fresh))) .fail
      | _ => .fail
    | none => .fail
  | none => .fail
def entryStoreP (x st : S1) (val : SV) : Prog SV :=
  match x, st with
  | .own c, .own d => .get d fun
    | .mapO c' k v xs key => match Nat.beq c' c with
      | true => .del d ((takeVT v val).bind fun y => .set c (.map k v (mput k v key y xs)) (.pure (.one .dead)))
      | false => .fail
    | _ => .fail
  | _, _ => .fail
def mapDeleteP (tt : TT) (t : Nat) (x : S1) (ix : SV) : Prog SV :=
  match mapTy tt t with
  | some m => match m.k.ofS ix with
    | some key => match x with
      | .own c => withMap m c fun xs => .set c (.map m.k m.v (mdel m.k m.v key xs)) (.pure (.one .dead))
      | _ => .fail
    | none => .fail
  | none => .fail
def mapClearP (tt : TT) (t : Nat) (x : S1) : Prog SV :=
  match mapTy tt t with
  | some m => match x with
    | .own c => withMap m c fun _ => .set c (.map m.k m.v []) (.pure (.one .dead))
    | _ => .fail
  | none => .fail
/-- An array's element: its number is written out, or of few. -/
def constIx : Operand → Option Int
  | .const (.int _ i) => some i
  | _ => none
def arrP (size : Nat) (y : S1) (i : Int) : Nat → Nat → Prog SV
  | 0, _ => .fail
  | m + 1, j => .ite (decide (i = (j : Int))) (.pure (.one (offP y (j * size)))) (arrP size y i m (j + 1))
def arrIx (size n : Nat) (y : S1) (c v : Option Int) : Prog SV :=
  match c with
  | some i => match decide (0 ≤ i), Nat.blt i.toNat n with
    | true, true => .pure (.one (offP y (i.toNat * size)))
    | _, _ => .fail
  | none => match v, Nat.ble n 4 with
    | some i, true => arrP size y i n 0
    | _, _ => .fail
/-- Arrays of more cells: a struct's cells are parted where the array lies. -/
def arrBig (c off i size n : Nat) (ct : CT) : Prog SV :=
  .get c fun
    | .cellsA vs _ m _ _ => match Nat.beq off vs.length, Nat.beq (n * size) m with
      | true, true => .ite (Nat.blt i n) (.pure (.one (.parr c off (i * size)))) .fail
      | _, _ => .fail
    | .cells vs => match ofSL ct ((vs.drop off).take (n * size)) with
      | some y => match Nat.beq y.length (n * size) with
        | true => .ite (Nat.blt i n) (.set c (.cellsA (vs.take off) ct (n * size) y (vs.drop (off + n * size))) (.pure (.one (.parr c off (i * size))))) .fail
        | false => .fail
      | none => .fail
    | _ => .fail
/-- The rune that begins at a byte, and how many bytes it takes. -/
def runeAt (b : List UInt8) (i : Nat) : Nat := (Utf8.decode ⟨b.toArray⟩ i).1
def runeLen (b : List UInt8) (i : Nat) : Nat := (Utf8.decode ⟨b.toArray⟩ i).2

/-- A range over a map: it is in hand till the range is over. -/
def rangeMapP (m : MapTy) (c fresh : Nat) : Prog SV :=
  .get c fun
    | .map k v xs => match OT.eq? (.map k v) (.map m.k m.v) with
      | some ⟨h⟩ => .set c (.ranged fresh) (.new fresh (.miter c m.k m.v (castM h xs) (castM h xs) none) (.pure (.one (.own fresh))))
      | none => .fail
    | .sealedM k v xs => .new fresh (.riter k v xs none) (.pure (.one (.own fresh)))
    | _ => .fail
/-- Which function a value is, written out. -/
def fnOf (v : Value) : Option Nat := match v with
  | .func (.func g) a b => match Nat.beq a.size 0 && Nat.beq b.size 0 with | true => some g | false => none
  | _ => none
/-- One operation. -/
noncomputable def opP (tt : TT) (fs : List Fun) (s : Slots) (o : Oper) (fresh : Nat) : Prog SV :=
  match o.op with
  | .move x => .pure (ev s x)
  | .assign x => .pure (ev s x)
  | .pick c a b => match ev s c with
    | .one (.bool g) => match ev s a, ev s b with
      | .one (.bool x), .one (.bool y) => .pure (.one (.bool (match g with | true => x | false => y)))
      | x, y => .ite g (.pure x) (.pure y)
    | _ => .fail
  | .alloc t => match tt.get t with
    | some d => match d.zero with
      | some z => match bigAt tt t with
        | some (off, ct, n) => match zeroA z off ct n with
          | some (vs, ws) => .new fresh (.cellsA vs ct n (List.replicate n (zCT ct)) ws) (.pure (.one (.own fresh)))
          | none => .fail
        | none => match (constV z).cells? with
          | some cs => .new fresh (.cells cs) (.pure (.one (.own fresh)))
          | none => .fail
      | none => .fail
    | none => .fail
  | .box bt x => match ev s x with
    | .aggA vs t n y ws => .new fresh (.cellsA vs t n y ws) (.pure (.one (.own fresh)))
    | v => match v.cells? with
      | some cs => match bigAt tt bt with
        | some (off, ct, n) => match ofSL ct ((cs.drop off).take n) with
          | some y => match Nat.beq y.length n with
            | true => .new fresh (.cellsA (cs.take off) ct n y ((cs.drop off).drop n)) (.pure (.one (.own fresh)))
            | false => .fail
          | none => .fail
        | none => .new fresh (.cells cs) (.pure (.one (.own fresh)))
      | none => .fail
  | .build t parts => buildP tt t (parts.toList.map fun p => (p.1, ev s p.2))
  | .buildSlice t n parts => buildSliceP tt t n (parts.toList.map fun p => (p.1, ev s p.2)) fresh
  | .load t a => loadP tt t (ofOne (ev s a))
  | .store t a x => match tt.get t, ev s x, (ev s x).cells? with
    | some d, .aggA vs t n y ws, _ => storeAP d.size (ofOne (ev s a)) vs t n y ws
    | some d, _, some cs => match Nat.beq cs.length d.size with
      | true => match sealable cs with
        | true => match ofOne (ev s a) with
          | .pelem c z i off => storeElemP c z i off cs
          | y => storeP y cs
        | false => storeP (ofOne (ev s a)) cs
      | false => .fail
    | _, _, _ => .fail
  | .nilCheck x => match ev s x with
    | .one (.own c) => openP c fresh fun _ => .pure (.one (.own c))
    | .one (.rop e m) => .bindO m fun y => .pure (.one (.pro e y))
    | .one a => match pcellOK a with | true => .pure (.one a) | false => .fail
    | _ => .fail
  | .binOp op t x y _ => binP tt op t (ownV (ev s x)) (ownV (ev s y)) y fresh
  | .unOp op _ x => unP op (ev s x)
  | .convert src dst x => convP tt src dst (ev s x) fresh
  | .slice t x lo hi mx => match tt.get t with
    | some d => match d.kind with
      | .str => match isStr (ev s x) with
        | true => sliceP 1 (ev s x) (lo.map (ev s)) (hi.map (ev s)) (mx.map (ev s))
        | false => .fail
      | .slice e => match tt.get e, isStr (ev s x) with
        | some ed, false => sliceP ed.size (ev s x) (lo.map (ev s)) (hi.map (ev s)) (mx.map (ev s))
        | _, _ => .fail
      | .arr n e => match tt.get e, cellTy tt 8 e, lo, hi, mx with
        | some ed, some (.cons _ .nil), none, none, none => match Nat.beq ed.size 1 with
          | true => sliceArrP n (ofOne (ev s x))
          | false => .fail
        | _, _, _, _, _ => .fail
      | _ => .fail
    | none => .fail
  | .fieldAddr t x f => match tt.get t with
    | some d => match d.kind with
      | .struct fs => match nth fs f with
        | some p => match tt.get p.2.1 with
          | some fd => match Nat.ble 1 fd.size, pcellOK (ofOne (ev s x)) with
            | true, true => match ofOne (ev s x) with
              | .own c => .get c fun
                | .cells _ => .pure (.one (offP (.own c) p.1))
                | .cellsA _ _ _ _ _ => .pure (.one (offP (.own c) p.1))
                | _ => .fail
              | y => .pure (.one (offP y p.1))
            | _, _ => .fail
          | none => .fail
        | none => .fail
      | _ => .fail
    | none => .fail
  | .field t x f => match tt.get t, ev s x with
    | some d, .agg vs => match d.kind with
      | .struct fs => match nth fs f with
        | some p => match tt.get p.2.1 with
          | some fd => ret (partS fd vs p.1)
          | none => .fail
        | none => .fail
      | _ => .fail
    | some d, .aggA vs ct n y ws => match d.kind with
      | .struct fs => match nth fs f with
        | some p => match tt.get p.2.1 with
          | some fd => ret (partA fd vs ct n y ws p.1)
          | none => .fail
        | none => .fail
      | _ => .fail
    | _, _ => .fail
  | .indexAddr t x ix => match tt.get t with
    | some d => match d.kind with
      | .slice e => match tt.get e, intOf? (ev s ix) with
        | some ed, some i => indexAddrP ed.size (ofOne (ev s x)) i
        | _, _ => .fail
      | .arr n e => match tt.get e with
        | some ed => match Nat.ble 4 n && (constIx ix).isNone, intOf? (ev s ix), cellTy tt 8 e with
          | true, some i, some (.cons ct _) => (match ofOne (ev s x) with
            | .own c => .ite (decide (0 ≤ i)) (arrBig c 0 i.toNat ed.size n ct) .fail
            | .pcell c off => .ite (decide (0 ≤ i)) (.ite (Nat.blt i.toNat n) (.pure (.one (.parr c off (i.toNat * ed.size)))) .fail) .fail
            | .parr c off j => match Nat.beq ed.size 1 with
              | true => .ite (decide (0 ≤ i) && Nat.blt i.toNat n) (.pure (.one (.parr c off (j + i.toNat)))) .fail
              | false => .fail
            | _ => .fail)
          | _, _, _ => match pcellOK (ofOne (ev s x)) with
          | true => match ofOne (ev s x) with
            | .own c => .get c fun
              | .cells _ => arrIx ed.size n (.own c) (constIx ix) (intOf? (ev s ix))
              | _ => .fail
            | y => arrIx ed.size n y (constIx ix) (intOf? (ev s ix))
          | false => .fail
        | none => .fail
      | _ => .fail
    | none => .fail
  | .index t x ix => match tkind tt t, ev s x, intOf? (ev s ix) with
    | .str, .one (.str b), some i => .bindO (at? b i) fun c => .pure (.one (.int .u8 c))
    | .arr n e, .aggA [] ct m y [], some i => match tt.get e with
      | some ed => match Nat.beq ed.size 1 && !ed.agg && Nat.beq m n with
        | true => .bindO (at? y i) fun z => .pure (.one (CT.toS ct z))
        | false => .fail
      | none => .fail
    | .arr n e, .agg vs, some i => match tt.get e with
      | some ed => match Nat.beq ed.size 1 && !ed.agg && Nat.beq vs.length n with
        | true => match constIx ix with
          | some j => match at? vs j with
            | some x => .pure (.one x)
            | none => .fail
          | none => match cellTy tt 8 e with
            | some (.cons ct .nil) => match ofSL ct vs with
              | some y => .bindO (at? y i) fun z => .pure (.one (CT.toS ct z))
              | none => .fail
            | _ => .fail
        | false => .fail
      | none => .fail
    | _, _, _ => .fail
  | .makeSlice t l c => match intOf? (ev s l), intOf? (ev s c) with
    | some n, some m => makeSliceP tt t n m fresh
    | _, _ => .fail
  | .makeMap t r => match mapTy tt t, r with
    | some m, none => .new fresh (.map m.k m.v []) (.pure (.one (.own fresh)))
    | some m, some r => match intOf? (ev s r) with
      | some _ => .new fresh (.map m.k m.v []) (.pure (.one (.own fresh)))
      | none => .fail
    | none, _ => .fail
  | .lookup t x ix ok => lookupP tt t (ofOne (ev s x)) (ev s ix) ok
  | .mapUpdate t x ix y => mapUpdateP tt t (ofOne (ev s x)) (ev s ix) (ev s y)
  | .mapEntry t x ix => mapEntryP tt t (ofOne (ev s x)) (ev s ix) fresh
  | .entryStore _ x st y => entryStoreP (ofOne (ev s x)) (ofOne (ev s st)) (ev s y)
  | .extract t i => match ev s t with
    | .tup vs => match nth vs i with
      | some (.inl v) => .pure (.one v)
      | some (.inr vs) => .pure (.agg vs)
      | none => .fail
    | _ => .fail
  | .range t x => match tkind tt t, ev s x with
    | .str, .one (.str b) => .new fresh (.iter b 0) (.pure (.one (.own fresh)))
    | .map _ _, .one (.own c) => match mapTy tt t with
      | some m => rangeMapP m c fresh
      | none => .fail
    | .map _ _, .one (.rom k v xs) => .new fresh (.riter k v xs none) (.pure (.one (.own fresh)))
    | _, _ => .fail
  | .entry it => match ev s it with
    | .one (.own c) => .get c fun
      | .miter _ k v _ _ cur => match cur with
        | some p => .pure (.tup [k.toS p.1, v.toS p.2])
        | none => .fail
      | .riter k v _ cur => match cur with
        | some p => .pure (.tup [VT.toS (.agg k) p.1, VT.toS (.agg v) p.2])
        | none => .fail
      | _ => .fail
    | _ => .fail
  | .next it str => match str, ev s it with
    | true, .one (.own c) => .get c fun
      | .iter b p => .ite (Nat.blt p b.length)
          (.set c (.iter b (p + runeLen b p)) (.pure (.tup [.inl (.bool true), .inl (.int .i64 (IK.ofInt .i64 p)), .inl (.int .i32 (IK.ofInt .i32 (runeAt b p)))])))
          (.pure (.tup [.inl (.bool false)]))
      | _ => .fail
    | _, _ => .fail
  | .makeFunc fn first captured => match fn, first.toList, captured.toList with
    | .func f, [x], [] => match ownV (ev s x), Nat.ble 300 f with
      | .one (.own d), false => .pure (.one (.bnd f d))
      | _, _ => .fail
    | .func f, [], [x] => match ownV (ev s x) with
      | .one (.own d) => .pure (.one (.bnd (f + 300) d))
      | _ => .fail
    | _, _, _ => .fail
  | .sliceToArrayPointer t x => match tt.get t, ofOne (ev s x) with
    | some d, .ro (.cons c .nil) xs => match d.kind with
      | .arr n _ => match Nat.ble 1 n with
        | true => .bindO (firstN c n xs) fun y => .pure (.one (.pro (repCT c n) y))
        | false => .fail
      | _ => .fail
    | _, _ => .fail
  | .call c => match c.callee with
    | .builtin .len => match c.args.toList, c.argTypes.toList with
      | [x], [t] => match tkind tt t, isStr (ev s x) with
        | .str, true => lenP (ofOne (ev s x))
        | .slice _, false => lenP (ofOne (ev s x))
        | .map _ _, false => match mapTy tt t, ofOne (ev s x) with
          | some m, .own c => withMapR m c fun xs => .ite (Nat.ble xs.length maxCells) (.pure (goLen xs.length)) .fail
          | some m, .rom k v xs => match OT.eq? (.map (.agg k) (.agg v)) (.map m.k m.v) with
            | some _ => .ite (Nat.ble xs.length maxCells) (.pure (goLen xs.length)) .fail
            | none => .fail
          | _, _ => .fail
        | _, _ => .fail
      | _, _ => .fail
    | .builtin .delete => match c.args.toList, c.argTypes.toList with
      | [x, y], [t, _] => mapDeleteP tt t (ofOne (ev s x)) (ev s y)
      | _, _ => .fail
    | .builtin .clear => match c.args.toList, c.argTypes.toList with
      | [x], [t] => match tkind tt t with
        | .map _ _ => mapClearP tt t (ofOne (ev s x))
        | _ => .fail
      | _, _ => .fail
    | .builtin .min => match c.args.toList with
      | [x, y] => minmaxP false (ev s x) (ev s y)
      | _ => .fail
    | .builtin .max => match c.args.toList with
      | [x, y] => minmaxP true (ev s x) (ev s y)
      | _ => .fail
    | .builtin .append => match c.args.toList, c.argTypes.toList with
      | [x, y], [t, u] => match tt.get t, tt.get u with
        | some d, some ud => match d.kind, ud.kind with
          | .slice _, .int _ => .fail
          | .slice e, _ => match tt.get e, cellTy tt 8 e with
            | some ed, some c => match ed.zero, Nat.beq c.size ed.size && Nat.ble 1 ed.size with
              | some z, true => match Nat.beq z.cells.size ed.size with
                | true => appendP c ed.bytes (ofOne (ev s x)) (ofOne (ev s y)) fresh
                | false => .fail
              | _, _ => .fail
            | _, _ => .fail
          | _, _ => .fail
        | _, _ => .fail
      | _, _ => .fail
    | .value (.func f) => match findFun fs f (c.args.toList.map fun x => ownV (ev s x)) with
      | some g => callP g (c.args.toList.map fun x => ownV (ev s x)) fresh
      | none => .fail
    | .value (.tmp t) => match ev s (.tmp t) with
      | .one (.bnd f d) => match Nat.ble 300 f, findFun fs f (.one (.own d) :: c.args.toList.map fun x => ownV (ev s x)) with
        | false, some g => callP g (.one (.own d) :: c.args.toList.map fun x => ownV (ev s x)) fresh
        | _, _ => .fail
      | .one (.const v) => match fnOf v with
        | some f => match findFun fs f (c.args.toList.map fun x => ownV (ev s x)) with
          | some g => callP g (c.args.toList.map fun x => ownV (ev s x)) fresh
          | none => .fail
        | none => .fail
      | _ => .fail
    | _ => .fail
  | _ => .fail

end Go.Sx
