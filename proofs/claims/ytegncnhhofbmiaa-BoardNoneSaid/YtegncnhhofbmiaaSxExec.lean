/- A walk of Go code by plain functions is sound. -/
import Derived.Test.YtegncnhhofbmiaaSxOpP
namespace Go.Sx

structure St where
  slots : Slots
  tab : Tab
  next : Nat

/-! ### Writing a state out: what the walk hands on has been worked out -/
section
variable {R : Type}
def natF (n : Nat) (k : Nat → R) : R := match n with | 0 => k 0 | m + 1 => k (m + 1)
def s1F (s : S1) (k : S1 → R) : R :=
  match s with
  | .own c => natF c fun c => k (.own c)
  | .pcell c off => natF c fun c => natF off fun off => k (.pcell c off)
  | .pelem c z i off => natF c fun c => natF z fun z => natF off fun off => k (.pelem c z i off)
  | .parr c off i => natF c fun c => natF off fun off => k (.parr c off i)
  | .bnd f c => natF c fun c => k (.bnd f c)
  | .aview c n => natF c fun c => k (.aview c n)
  | .rs1 off c n => natF off fun off => natF c fun c => k (.rs1 off c n)
  | .rp1 off c => natF off fun off => natF c fun c => k (.rp1 off c)
  | .view c z off len => natF c fun c => natF z fun z => k (.view c z off len)
  | .dead => k .dead
  | .int kd x => k (.int kd x)
  | .bool b => k (.bool b)
  | .str b => k (.str b)
  | .ro e xs => k (.ro e xs)
  | .rop e m => k (.rop e m)
  | .rom a b xs => k (.rom a b xs)
  | .nilp => k .nilp
  | .nils => k .nils
  | .pro e x => k (.pro e x)
  | .const v => k (.const v)
def s1sF : List S1 → (List S1 → R) → R
  | [], k => k []
  | s :: r, k => s1F s fun s => s1sF r fun r => k (s :: r)
def sumF : List (S1 ⊕ List S1) → (List (S1 ⊕ List S1) → R) → R
  | [], k => k []
  | .inl s :: r, k => s1F s fun s => sumF r fun r => k (.inl s :: r)
  | .inr s :: r, k => s1sF s fun s => sumF r fun r => k (.inr s :: r)
def svF (s : SV) (k : SV → R) : R :=
  match s with
  | .one s => s1F s fun s => k (.one s)
  | .agg l => s1sF l fun l => k (.agg l)
  | .tup l => sumF l fun l => k (.tup l)
  | .aggA vs t n y ws => s1sF vs fun vs => natF n fun n => s1sF ws fun ws => k (.aggA vs t n y ws)
def chunkF (x : Chunk) (k : Chunk → R) : R :=
  match x with
  | .cells vs => s1sF vs fun vs => k (.cells vs)
  | .row e xs => k (.row e xs)
  | .fold e m => k (.fold e m)
  | .sealed e xs => k (.sealed e xs)
  | .iter s p => k (.iter s p)
  | .map kt v xs => k (.map kt v xs)
  | .foldA p t n q m => k (.foldA p t n q m)
  | .cellsA vs t n y ws => s1sF vs fun vs => natF n fun n => s1sF ws fun ws => k (.cellsA vs t n y ws)
  | .pre d e xs => natF d fun d => k (.pre d e xs)
  | .miter c kt v xs rest cur => natF c fun c => k (.miter c kt v xs rest cur)
  | .sealedM a b xs => k (.sealedM a b xs)
  | .mapO c a b xs key => natF c fun c => k (.mapO c a b xs key)
  | .riter a b rest cur => k (.riter a b rest cur)
  | .ranged d => natF d fun d => k (.ranged d)
def slotsF : Slots → (Slots → R) → R
  | [], k => k []
  | (n, v) :: r, k => natF n fun n => svF v fun v => slotsF r fun r => k ((n, v) :: r)
def tabF : Tab → (Tab → R) → R
  | [], k => k []
  | (n, v) :: r, k => natF n fun n => chunkF v fun v => tabF r fun r => k ((n, v) :: r)
def stF (st : St) (k : St → R) : R :=
  match st with
  | ⟨s, t, n⟩ => slotsF s fun s => tabF t fun t => natF n fun n => k ⟨s, t, n⟩
/-- What an operation has turned is written out; the rest was. -/
def turnF (w : List Nat) (t : Tab) (k : Tab → R) : R := match w with | [] => k t | _ :: _ => tabF t k
theorem natF_eq (n : Nat) (k : Nat → R) : natF n k = k n := by cases n <;> rfl
theorem s1F_eq (s : S1) (k : S1 → R) : s1F s k = k s := by cases s <;> simp [s1F, natF_eq]
theorem s1sF_eq : ∀ (l : List S1) (k : List S1 → R), s1sF l k = k l
  | [], _ => rfl
  | s :: r, k => by simp [s1sF, s1F_eq, s1sF_eq r]
theorem sumF_eq : ∀ (l : List (S1 ⊕ List S1)) (k : List (S1 ⊕ List S1) → R), sumF l k = k l
  | [], _ => rfl
  | .inl s :: r, k => by simp [sumF, s1F_eq, sumF_eq r]
  | .inr s :: r, k => by simp [sumF, s1sF_eq, sumF_eq r]
theorem svF_eq (s : SV) (k : SV → R) : svF s k = k s := by cases s <;> simp [svF, s1F_eq, s1sF_eq, sumF_eq, natF_eq]
theorem chunkF_eq (s : Chunk) (k : Chunk → R) : chunkF s k = k s := by cases s <;> simp [chunkF, s1sF_eq, natF_eq]
theorem slotsF_eq : ∀ (l : Slots) (k : Slots → R), slotsF l k = k l
  | [], _ => rfl
  | (n, v) :: r, k => by simp [slotsF, natF_eq, svF_eq, slotsF_eq r]
theorem tabF_eq : ∀ (l : Tab) (k : Tab → R), tabF l k = k l
  | [], _ => rfl
  | (n, v) :: r, k => by simp [tabF, natF_eq, chunkF_eq, tabF_eq r]
theorem turnF_eq (w : List Nat) (t : Tab) (k : Tab → R) : turnF w t k = k t := by cases w <;> simp [turnF, tabF_eq]
theorem stF_eq (st : St) (k : St → R) : stF st k = k st := by cases st; simp [stF, natF_eq, slotsF_eq, tabF_eq]
end

/-! ### The shape of a state, and what fills it -/
inductive PT where
  | int (k : IntKind) | bool | bytes | list (e : CTs) | nat | opt (e : OTs) | ents (k v : VT) | optA (p : OTs) (t : CT) (q : OTs) | list1 (t : CT) | optC (e : CTs)
@[reducible] def PT.T : PT → Type
  | .int k => IK k
  | .bool => Bool
  | .bytes => List UInt8
  | .list e => List e.T
  | .nat => Nat
  | .opt e => Option e.T
  | .ents k v => List (k.T × v.T)
  | .optA p t q => Option (p.T × List t.T × q.T)
  | .list1 t => List t.T
  | .optC e => Option e.T
@[reducible] def HL : List PT → Type
  | [] => Unit
  | t :: ts => t.T × HL ts
@[reducible] def Arr : List PT → Type → Type
  | [], β => β
  | t :: ts, β => t.T → Arr ts β
def Arr.app {β : Type} : (ts : List PT) → Arr ts β → HL ts → β
  | [], f, _ => f
  | _ :: ts, f, x => match x with | (a, b) => Arr.app ts (f a) b
def Arr.lam {β : Type} : (ts : List PT) → (HL ts → β) → Arr ts β
  | [], f => f ()
  | _ :: ts, f => fun x => Arr.lam ts fun y => f (x, y)
theorem Arr.app_lam {β : Type} : ∀ (ts : List PT) (f : HL ts → β) (x : HL ts), Arr.app ts (Arr.lam ts f) x = f x
  | [], _, _ => rfl
  | _ :: ts, f, x => by simp only [Arr.lam, Arr.app]; exact Arr.app_lam ts _ x.2
def Arr.const {β : Type} (b : β) : (ts : List PT) → Arr ts β
  | [] => b
  | _ :: ts => fun _ => Arr.const b ts
theorem Arr.app_const {β : Type} (b : β) : ∀ (ts : List PT) (x : HL ts), Arr.app ts (Arr.const b ts) x = b
  | [], _ => rfl
  | _ :: ts, x => Arr.app_const b ts x.2

inductive K1 where
  | int (k : IntKind) | bool | str | ro (e : CTs) | nilp | nils
  | own (c : Nat) | pcell (c off : Nat) | pelem (c z off : Nat) | view (c z : Nat) | pro (e : CTs) | dead | bnd (f c : Nat) | rs1 (off c : Nat) | rop (e : CTs) | rom (k v : CTs) | fn (f : Nat)
inductive KV where
  | one (k : K1) | agg (ks : List K1) | aggA (ks : List K1) (t : CT) (n : Nat) (ls : List K1)
inductive KC where
  | cells (ks : List K1) | row (e : CTs) | fold (e : OTs) | sealed (e : CTs) | iter | map (k v : VT) | foldA (p : OTs) (t : CT) (n : Nat) (q : OTs) | cellsA (ks : List K1) (t : CT) (n : Nat) (ls : List K1)
  | pre (d : Nat) (e : CTs) | miter (c : Nat) (k v : VT) | sealedM (k v : CTs) | riter (k v : CTs) | ranged (d : Nat)
structure Skel where
  slots : List (Nat × KV)
  chunks : List (Nat × KC)      -- the number in the skeleton; each is named ahead
  next : Nat

@[reducible] def K1.pts : K1 → List PT
  | .int k => [.int k] | .bool => [.bool] | .str => [.bytes] | .ro e => [.list e]
  | .pelem _ _ _ => [.nat] | .view _ _ => [.nat, .nat] | .rs1 _ _ => [.nat] | .pro e => [.list e] | .rop e => [.optC e] | .rom k v => [.ents (.agg k) (.agg v)] | _ => []
@[reducible] def K1s.pts : List K1 → List PT
  | [] => []
  | k :: ks => k.pts ++ K1s.pts ks
@[reducible] def KV.pts : KV → List PT
  | .one k => k.pts
  | .agg ks => K1s.pts ks
  | .aggA ks t _ ls => .list1 t :: (K1s.pts ks ++ K1s.pts ls)
@[reducible] def KC.pts : KC → List PT
  | .cells ks => K1s.pts ks
  | .row e => [.list e]
  | .fold e => [.opt e]
  | .sealed e => [.list e]
  | .iter => [.bytes, .nat]
  | .map k v => [.ents k v]
  | .foldA p t _ q => [.optA p t q]
  | .cellsA ks t _ ls => .list1 t :: (K1s.pts ks ++ K1s.pts ls)
  | .pre _ e => [.list e]
  | .miter _ k v => [.ents k v, .ents k v]
  | .sealedM k v => [.ents (.agg k) (.agg v)]
  | .riter k v => [.ents (.agg k) (.agg v)]
  | .ranged _ => []
@[reducible] def slotPts : List (Nat × KV) → List PT
  | [] => []
  | p :: r => p.2.pts ++ slotPts r
@[reducible] def chunkPts : List (Nat × KC) → List PT
  | [] => []
  | p :: r => p.2.pts ++ chunkPts r
@[reducible] def Skel.pts (s : Skel) : List PT := slotPts s.slots ++ chunkPts s.chunks

def HL.app : (a b : List PT) → HL a → HL b → HL (a ++ b)
  | [], _, _, y => y
  | _ :: a, b, x, y => (x.1, HL.app a b x.2 y)
def HL.fst : (a b : List PT) → HL (a ++ b) → HL a
  | [], _, _ => ()
  | _ :: a, b, x => (x.1, HL.fst a b x.2)
def HL.snd : (a b : List PT) → HL (a ++ b) → HL b
  | [], _, x => x
  | _ :: a, b, x => HL.snd a b x.2
theorem HL.fst_app : ∀ (a b : List PT) (x : HL a) (y : HL b), HL.fst a b (HL.app a b x y) = x
  | [], _, _, _ => rfl
  | _ :: a, b, x, y => by simp only [HL.app, HL.fst, HL.fst_app a b]
theorem HL.snd_app : ∀ (a b : List PT) (x : HL a) (y : HL b), HL.snd a b (HL.app a b x y) = y
  | [], _, _, _ => rfl
  | _ :: a, b, x, y => by simp only [HL.app, HL.snd, HL.snd_app a b]

/-- Which number a skeleton's piece has in the state. -/
abbrev Names := Map Nat
def bindName (m : Names) (c d : Nat) : Option Names :=
  match Map.get m c with
  | some d' => match Nat.beq d' d with | true => some m | false => none
  | none => match m.any fun p => Nat.beq p.2 d with | true => none | false => some (Map.set m c d)
def ext1 (k : K1) (s : S1) (m : Names) : Option (HL k.pts × Names) :=
  match k, s with
  | .dead, _ => some ((), m)
  | .int k, .int k' x => match kindEq k' k with | some ⟨h⟩ => some ((h ▸ x, ()), m) | none => none
  | .bool, .bool b => some ((b, ()), m)
  | .str, .str b => some ((b, ()), m)
  | .ro e, .ro e' xs => match CTs.eq? e' e with | some ⟨h⟩ => some ((h ▸ xs, ()), m) | none => none
  | .ro _, .nils => some (([], ()), m)
  | .rop e, .rop e' x => match CTs.eq? e' e with | some ⟨h⟩ => some ((h ▸ x, ()), m) | none => none
  | .rop e, .pro e' x => match CTs.eq? e' e with | some ⟨h⟩ => some ((some (h ▸ x), ()), m) | none => none
  | .rop _, .nilp => some ((none, ()), m)
  | .rom k v, .rom k' v' xs => match CT.eq? (.rom k' v') (.rom k v) with | some ⟨h⟩ => some ((castCT h xs, ()), m) | none => none
  | .rom _ _, .const v => match v with | .map none => some (([], ()), m) | _ => none
  | .fn f, .const v => match isFn f v with | true => some ((), m) | false => none
  | .nilp, .nilp => some ((), m)
  | .nils, .nils => some ((), m)
  | .own c, .own d => match bindName m c d with | some m => some ((), m) | none => none
  | .pcell c off, .pcell d off' => match Nat.beq off off', bindName m c d with | true, some m => some ((), m) | _, _ => none
  | .bnd f c, .bnd f' d => match Nat.beq f f', bindName m c d with | true, some m => some ((), m) | _, _ => none
  | .pelem c z off, .pelem d z' i off' => match Nat.beq off off' && Nat.beq z z', bindName m c d with | true, some m => some ((i, ()), m) | _, _ => none
  | .rs1 off c, .rs1 off' d k' => match Nat.beq off off', bindName m c d with | true, some m => some ((k', ()), m) | _, _ => none
  | .view c z, .view d z' off len => match Nat.beq z z', bindName m c d with | true, some m => some ((off, len, ()), m) | _, _ => none
  | _, _ => none
def ext1s : (ks : List K1) → List S1 → Names → Option (HL (K1s.pts ks) × Names)
  | [], [], m => some ((), m)
  | k :: ks, s :: ss, m => match ext1 k s m with
    | some (x, m) => match ext1s ks ss m with
      | some (y, m) => some (HL.app k.pts _ x y, m)
      | none => none
    | none => none
  | _, _, _ => none
def extV (k : KV) (s : SV) (m : Names) : Option (HL k.pts × Names) :=
  match k, s with
  | .one k, .one s => ext1 k s m
  | .agg ks, .agg ss => ext1s ks ss m
  | .aggA ks t n ls, .aggA vs t' n' y ws => match CT.eq? t' t, Nat.beq n' n with
    | some ⟨h⟩, true => match ext1s ks vs m with
      | some (x, m) => match ext1s ls ws m with
        | some (z, m) => some ((h ▸ y, HL.app _ _ x z), m)
        | none => none
      | none => none
    | _, _ => none
  | _, _ => none
def extC (k : KC) (x : Chunk) (m : Names) : Option (HL k.pts × Names) :=
  match k, x with
  | .cells ks, .cells ss => ext1s ks ss m
  | .row e, .row e' xs => match CTs.eq? e' e with | some ⟨h⟩ => some ((h ▸ xs, ()), m) | none => none
  | .sealed e, .sealed e' xs => match CTs.eq? e' e with | some ⟨h⟩ => some ((h ▸ xs, ()), m) | none => none
  | .fold e, .fold e' x => match OTs.eq? e' e with | some ⟨h⟩ => some ((h ▸ x, ()), m) | none => none
  | .iter, .iter s p => some ((s, p, ()), m)
  | .map k v, .map k' v' xs => match OT.eq? (.map k' v') (.map k v) with | some ⟨h⟩ => some ((castM h xs, ()), m) | none => none
  | .foldA p t n q, .foldA p' t' n' q' x => match OT.eq? (.ptrA p' t' n' q') (.ptrA p t n q) with | some ⟨h⟩ => some ((castM h x, ()), m) | none => none
  | .cellsA ks t n ls, .cellsA vs t' n' y ws => match CT.eq? t' t, Nat.beq n' n with
    | some ⟨h⟩, true => match ext1s ks vs m with
      | some (x, m) => match ext1s ls ws m with
        | some (z, m) => some ((h ▸ y, HL.app _ _ x z), m)
        | none => none
      | none => none
    | _, _ => none
  | .pre d e, .pre d' e' xs => match CTs.eq? e' e, bindName m d d' with | some ⟨h⟩, some m => some ((h ▸ xs, ()), m) | _, _ => none
  | .sealedM k v, .sealedM k' v' xs => match CT.eq? (.rom k' v') (.rom k v) with | some ⟨h⟩ => some ((castCT h xs, ()), m) | none => none
  | .ranged d, .ranged d' => match bindName m d d' with | some m => some ((), m) | none => none
  | .riter k v, .riter k' v' rest _ => match CT.eq? (.rom k' v') (.rom k v) with | some ⟨h⟩ => some ((castCT h rest, ()), m) | none => none
  | .miter c k v, .miter d k' v' xs rest _ => match OT.eq? (.map k' v') (.map k v), bindName m c d with | some ⟨h⟩, some m => some ((castM h xs, castM h rest, ()), m) | _, _ => none
  | _, _ => none
def extSlots (s : Slots) : (l : List (Nat × KV)) → Names → Option (HL (slotPts l) × Names)
  | [], m => some ((), m)
  | (t, k) :: r, m => match extV k (s.at t) m with
    | some (x, m) => match extSlots s r m with
      | some (y, m) => some (HL.app k.pts _ x y, m)
      | none => none
    | none => none
def extChunks (tab : Tab) : (l : List (Nat × KC)) → Names → Option (HL (chunkPts l) × Names)
  | [], m => some ((), m)
  | (c, k) :: r, m => match Map.get m c with
    | none => none
    | some d => match tab.get d with
      | none => none
      | some x => match extC k x m with
        | some (x, m) => match extChunks tab r m with
          | some (y, m) => some (HL.app k.pts _ x y, m)
          | none => none
        | none => none
def pinned : List Nat → Names
  | [] => []
  | c :: r => (c, c) :: pinned r
def extract (pins : List Nat) (k : Skel) (st : St) : Option (HL k.pts) :=
  match extSlots st.slots k.slots (pinned pins) with
  | some (x, m) => match extChunks st.tab k.chunks m with
    | some (y, m) => match m.all fun p => Nat.blt p.1 k.next with
      | true => some (HL.app _ _ x y)
      | false => none
    | none => none
  | none => none
def conc1 : (k : K1) → HL k.pts → S1
  | .dead, _ => .dead
  | .int k, x => .int k x.1
  | .bool, x => .bool x.1
  | .str, x => .str x.1
  | .ro e, x => .ro e x.1
  | .nilp, _ => .nilp
  | .nils, _ => .nils
  | .own c, _ => .own c
  | .pcell c off, _ => .pcell c off
  | .bnd f c, _ => .bnd f c
  | .pelem c z off, x => .pelem c z x.1 off
  | .view c z, x => .view c z x.1 x.2.1
  | .rs1 off c, x => .rs1 off c x.1
  | .pro _, _ => .dead
  | .rop e, x => .rop e x.1
  | .rom k v, x => .rom k v x.1
  | .fn f, _ => .const (.func (.func f) #[] #[])
def conc1s : (ks : List K1) → HL (K1s.pts ks) → List S1
  | [], _ => []
  | k :: ks, x => conc1 k (HL.fst k.pts _ x) :: conc1s ks (HL.snd k.pts _ x)
def concV : (k : KV) → HL k.pts → SV
  | .one k, x => .one (conc1 k x)
  | .agg ks, x => .agg (conc1s ks x)
  | .aggA ks t n ls, x => .aggA (conc1s ks (HL.fst _ _ x.2)) t n x.1 (conc1s ls (HL.snd _ _ x.2))
def concC : (k : KC) → HL k.pts → Chunk
  | .cells ks, x => .cells (conc1s ks x)
  | .row e, x => .row e x.1
  | .fold e, x => .fold e x.1
  | .sealed e, x => .sealed e x.1
  | .iter, x => .iter x.1 x.2.1
  | .map k v, x => .map k v x.1
  | .foldA p t n q, x => .foldA p t n q x.1
  | .cellsA ks t n ls, x => .cellsA (conc1s ks (HL.fst _ _ x.2)) t n x.1 (conc1s ls (HL.snd _ _ x.2))
  | .pre d e, x => .pre d e x.1
  | .miter c k v, x => .miter c k v x.1 x.2.1 none
  | .sealedM k v, x => .sealedM k v x.1
  | .riter k v, x => .riter k v x.1 none
  | .ranged d, _ => .ranged d
def concSlots : (l : List (Nat × KV)) → HL (slotPts l) → Slots
  | [], _ => []
  | (t, k) :: r, x => (t, concV k (HL.fst k.pts _ x)) :: concSlots r (HL.snd k.pts _ x)
def concChunks : (l : List (Nat × KC)) → HL (chunkPts l) → Tab
  | [], _ => []
  | (c, k) :: r, x => (c, concC k (HL.fst k.pts _ x)) :: concChunks r (HL.snd k.pts _ x)
def conc (k : Skel) (x : HL k.pts) : St :=
  { slots := concSlots k.slots (HL.fst _ _ x), tab := concChunks k.chunks (HL.snd _ _ x), next := k.next }

/-! ### What doesn't look as the skeleton has it is turned first, where memory allows it -/
def adjL (g : K1 → S1 → Nat → Prog (S1 × Nat)) : List K1 → List S1 → Nat → Prog (List S1 × Nat)
  | k :: ks, s :: ss, n => (g k s n).bind fun r => (adjL g ks ss r.2).bind fun q => .pure (r.1 :: q.1, q.2)
  | [], ss, n => .pure (ss, n)
  | _ :: _, [], n => .pure ([], n)
def adj1 (kc : Map KC) : Nat → K1 → S1 → Nat → Prog (S1 × Nat)
  | 0, _, s, n => .pure (s, n)
  | f + 1, k, s, n => match k, s with
    | .own c, .nils => match Map.get kc c with
      | some (.row e) => .new n (.row e []) (.pure (.own n, n + 1))
      | _ => .pure (s, n)
    | .own c, .nilp => match Map.get kc c with
      | some (.fold e) => .new n (.fold e none) (.pure (.own n, n + 1))
      | some (.foldA p t m q) => .new n (.foldA p t m q none) (.pure (.own n, n + 1))
      | _ => .pure (s, n)
    | .own c, .view d z off len => match Map.get kc c with
      | some (.row _) => .get d fun
        | .row e xs => match Nat.beq e.size z with
          | true => .del d (.new n (.row e ((xs.drop off).take len)) (.pure (.own n, n + 1)))
          | false => .pure (s, n)
        | _ => .pure (s, n)
      | _ => .pure (s, n)
    | .own c, .own d => match Map.get kc c with
      | some (.fold e) => .get d fun
        | .cells vs => .del d ((takeOs e vs).bind fun x => .new d (.fold e (some x)) (.pure (.own d, n)))
        | _ => .pure (s, n)
      | some (.cells ks) => .get d fun
        | .cells ss => (adjL (adj1 kc f) ks ss n).bind fun r => .get d fun
          | .cells _ => .set d (.cells r.1) (.pure (.own d, r.2))
          | _ => .fail
        | _ => .pure (s, n)
      | some (.sealed e) => (takeC (.ro e) (.own d)).bind fun _ => .pure (.own d, n)
      | some (.sealedM a b) => (takeC (.rom a b) (.own d)).bind fun _ => .pure (.own d, n)
      | some (.foldA p t m q) => .get d fun
        | .cellsA _ _ _ _ _ => (takeO (.ptrA p t m q) (.own d)).bind fun x => .new d (.foldA p t m q x) (.pure (.own d, n))
        | .cells _ => (takeO (.ptrA p t m q) (.own d)).bind fun x => .new d (.foldA p t m q x) (.pure (.own d, n))
        | _ => .pure (s, n)
      | some (.cellsA ks _ _ ls) => .get d fun
        | .cellsA vs _ m _ ws => (adjL (adj1 kc f) ks vs n).bind fun r => (adjL (adj1 kc f) ls ws r.2).bind fun r2 => .get d fun
          | .cellsA vs' t m' y _ => match Nat.beq vs'.length r.1.length, Nat.beq m' m with
            | true, true => .set d (.cellsA r.1 t m' y r2.1) (.pure (.own d, r2.2))
            | _, _ => .fail
          | _ => .fail
        | _ => .pure (s, n)
      | _ => .pure (s, n)
    | .ro e, .own d => (takeC (.ro e) (.own d)).bind fun xs => .pure (.ro e xs, n)
    | .ro e, .view d z off len => (takeC (.ro e) (.view d z off len)).bind fun xs => .pure (.ro e xs, n)
    | .rop e, .own d => (takeC (.rop e) (.own d)).bind fun m => .pure (.rop e m, n)
    | .rom a b, .own d => (takeC (.rom a b) (.own d)).bind fun xs => .pure (.rom a b xs, n)
    | _, _ => .pure (s, n)
def adjDepth : Nat := 8
def adjV (kc : Map KC) (k : KV) (s : SV) (n : Nat) : Prog (SV × Nat) :=
  match k, s with
  | .one k, .one s => (adj1 kc adjDepth k s n).bind fun r => .pure (.one r.1, r.2)
  | .agg ks, .agg ss => (adjL (adj1 kc adjDepth) ks ss n).bind fun r => .pure (.agg r.1, r.2)
  | .aggA ks _ _ ls, .aggA vs t m y ws => (adjL (adj1 kc adjDepth) ks vs n).bind fun r => (adjL (adj1 kc adjDepth) ls ws r.2).bind fun r2 => .pure (.aggA r.1 t m y r2.1, r2.2)
  | _, s => .pure (s, n)
def adjSlots (kc : Map KC) : List (Nat × KV) → Slots → Nat → Prog (Slots × Nat)
  | [], s, n => .pure (s, n)
  | (t, k) :: l, s, n => (adjV kc k (s.at t) n).bind fun r => adjSlots kc l (Map.set s t r.1) r.2
def adjPins (kc : Map KC) : List Nat → Nat → Prog Nat
  | [], n => .pure n
  | c :: r, n => (adj1 kc adjDepth (.own c) (.own c) n).bind fun x => adjPins kc r x.2
def adjP (pins : List Nat) (k : Skel) (st : St) : Prog (Slots × Nat) :=
  (adjSlots k.chunks k.slots st.slots st.next).bind fun r => (adjPins k.chunks pins r.2).bind fun n => .pure (r.1, n)

/-! ### The walk -/
section
variable {R : Type}
/-- Into a skeleton. -/
def intoK (pins : List Nat) (k : Skel) (st : St) (K : HL k.pts → Option R) : Option R :=
  (adjP pins k st).runK st.tab fun r tab => match extract pins k ⟨r.1, tab, r.2⟩ with
    | some x => K x
    | none => none
/-- (Low in the order in which the kernel unfolds: a join's other side is then never copied ahead of time.) -/
def ojoinG {A B : Type} (body : A → B) (J : A) : B := body J
abbrev ojoinA (_place : Nat) (ps : List PT) (body : Arr ps (Option R) → Option R) (J : Arr ps (Option R)) : Option R := ojoinG body J
def ofixA (place : Nat) (ps : List PT) (F : Arr ps (Option R) → Arr ps (Option R)) : Nat → Arr ps (Option R)
  | 0 => Arr.const none ps
  | n + 1 => F (ofixA place ps F n)

def putS (s : Slots) (dst : Option Nat) (v : SV) : Slots := match dst with | some d => Map.set s d v | none => s
def slotsIn (n : Nat) (dst : Option Nat) : Bool := match dst with | some d => Nat.blt d n | none => true

inductive Want where
  | yes | no | ask (d : Nat) (b : Bool) (want : Bool) | bad
def wantS (ops : List Oper) (s : Slots) (g : Option (Nat × Bool)) : Want :=
  match g with
  | none => .yes
  | some (j, want) => match nth ops j with
    | some oj => match oj.dst with
      | some d => match s.at d with
        | .one (.bool b) => .ask d b want
        | .one (.const v) => match v with | .tuple _ => .no | _ => .bad
        | _ => .bad
      | none => .no
    | none => .no

/-- What an operation touched, by its number. -/
abbrev Trace := List (Nat × List Nat × List Nat)

noncomputable def regionK (tt : TT) (fs : List Fun) (n : Nat) (ops : List Oper) : List (Nat × Oper) → St → Trace → (St → Trace → Option R) → Option R
  | [], st, tr, K => K st tr
  | (i, o) :: rest, st, tr, K =>
    let run (s : Slots) : Option R := (opP tt fs s o st.next).runT st.tab [] [] fun sv tab' r w =>
      svF sv fun sv => turnF w tab' fun tab' => natF (st.next + stride) fun nx =>
      match slotsIn n o.dst with
      | true => regionK tt fs n ops rest ⟨putS s o.dst sv, tab', nx⟩ ((i, r, w) :: tr) K
      | false => none
    let skip (s : Slots) : Option R := match slotsIn n o.dst with
      | true => natF (st.next + stride) fun nx => regionK tt fs n ops rest ⟨putS s o.dst (.one (.const (.tuple #[]))), st.tab, nx⟩ ((i, [], []) :: tr) K
      | false => none
    match wantS ops st.slots o.guard with
    | .yes => run st.slots
    | .no => skip st.slots
    | .ask d b want => oite b
        (match want with | true => run (Map.set st.slots d (.one (.bool true))) | false => skip (Map.set st.slots d (.one (.bool true))))
        (match want with | true => skip (Map.set st.slots d (.one (.bool false))) | false => run (Map.set st.slots d (.one (.bool false))))
    | .bad => none

/-- The operations that come surely ahead of each, by number. -/
def mem (x : Nat) : List Nat → Bool
  | [] => false
  | y :: r => match Nat.beq y x with | true => true | false => mem x r
def insN (x : Nat) (l : List Nat) : List Nat := match mem x l with | true => l | false => x :: l
def uniN : List Nat → List Nat → List Nat
  | [], l => l
  | x :: r, l => uniN r (insN x l)
def ancs (ops : List Oper) : List (List Nat) :=
  ops.foldl (fun acc o => acc ++ [o.after.toList.foldl (fun l e => match Region.binds .any e with | true => insN e.on (uniN (match nth acc e.on with | some a => a | none => []) l) | false => l) []]) []
def opTmps (o : Oper) : List Nat := o.op.operands.toList.filterMap fun | .tmp t => some t | _ => none
def looks (ops : List Oper) (o : Oper) : List Nat :=
  match o.guard with
  | some (j, _) => match nth ops j with
    | some oj => match oj.dst with
      | some d => d :: opTmps o
      | none => opTmps o
    | none => opTmps o
  | none => opTmps o
def dstL (o : Oper) : List Nat := match o.dst with | some d => [d] | none => []
/-- Two operations whose order is open have nothing to do with one another. -/
def apartS (ops : List Oper) (x y : Oper) : Bool := disj (dstL x) (looks ops y) && disj (dstL x) (dstL y) && disj (looks ops x) (dstL y)
def number {α : Type} : Nat → List α → List (Nat × α)
  | _, [] => []
  | n, x :: r => (n, x) :: number (n + 1) r
/-- What an operation waits for stands ahead of it. -/
def backS (ops : List Oper) : Bool :=
  (number 0 ops).all fun p => p.2.after.toList.all fun e => match Region.binds .any e with | true => Nat.blt e.on p.1 | false => true
def pairsS (ops : List Oper) (tr : Trace) : Bool :=
  let a := ancs ops
  tr.all fun p => tr.all fun q => match Nat.blt p.1 q.1 with
    | false => true
    | true => match mem p.1 (match nth a q.1 with | some l => l | none => []) with
      | true => true
      | false => indep p.2 q.2 && (match nth ops p.1, nth ops q.1 with | some x, some y => apartS ops x y | _, _ => false)
def orderFree (ops : List Oper) (tr : Trace) : Bool := backS ops && pairsS ops tr

/-! ### Where a region whose order is open looks into one struct more than once, it is opened ahead -/
def nilAsks : List Oper → Slots → List Nat
  | [], _ => []
  | o :: r, s => match o.op with
    | .move x => nilAsks r (putS s o.dst (ev s x))
    | .nilCheck x => match o.guard, ev s x with
      | none, .one (.own c) => c :: nilAsks r (putS s o.dst (.one (.own c)))
      | _, _ => nilAsks r s
    | _ => nilAsks r s
def twice : List Nat → List Nat
  | [] => []
  | c :: r => match mem c r with | true => c :: twice r | false => twice r
def preNames (draw : Bool) (ops : List Oper) (s : Slots) : List Nat := match draw with | true => twice (nilAsks ops s) | false => []
def preOpen : List Nat → Nat → Prog Nat
  | [], n => .pure n
  | c :: r, n => .get c fun
    | .fold e m => match Nat.ble e.size stride with
      | true => .bindO m fun x => .set c (.cells (unfoldCells e x n).1) (newAll (unfoldCells e x n).2 (preOpen r (n + stride)))
      | false => preOpen r n
    | .foldA p t k q m => match Nat.ble (p.size + q.size) stride with
      | true => .bindO m fun x => .set c (.cellsA (unfoldCells p x.1 n).1 t k x.2.1 (unfoldCells q x.2.2 (n + p.size)).1)
          (newAll ((unfoldCells p x.1 n).2 ++ (unfoldCells q x.2.2 (n + p.size)).2) (preOpen r (n + stride)))
      | false => preOpen r n
    | _ => preOpen r n
/-- The pointers to what was opened are pointers to its first cell, while the region runs. -/
def pcV (names : List Nat) (tab : Tab) (v : SV) : SV := match v with
  | .one (.own c) => match mem c names with
    | true => match tab.get c with
      | some (.cells _) => .one (.pcell c 0)
      | some (.cellsA _ _ _ _ _) => .one (.pcell c 0)
      | _ => .one (.own c)
    | false => .one (.own c)
  | v => v
def mapSlots (g : SV → SV) : Slots → Slots
  | [] => []
  | (t, v) :: r => (t, g v) :: mapSlots g r
def pcSlots (names : List Nat) (tab : Tab) (s : Slots) : Slots := match names with | [] => s | n :: r => mapSlots (pcV (n :: r) tab) s
def slotsG {R : Type} (names : List Nat) (s : Slots) (k : Slots → R) : R := match names with | [] => k s | _ :: _ => slotsF s k
theorem slotsG_eq {R : Type} (names : List Nat) (s : Slots) (k : Slots → R) : slotsG names s k = k s := by
  cases names with
  | nil => rfl
  | cons _ _ => exact slotsF_eq s k
def owSlots (names : List Nat) (s : Slots) : Slots := match names with | [] => s | _ :: _ => mapSlots ownV s

inductive X where
  | normal | exit (id : Nat) | ret

structure Hints where
  joins : Map Skel
  loops : Map Skel

structure Env where
  tt : TT
  fs : List Fun
  ntmps : Nat
  pins : List Nat
  hints : Hints
  fuel : Nat

/-- A range over a map comes to its next entry: the region that begins so. -/
structure MIter where
  d : Nat
  c : Option Nat      -- none: a map that is only read
  k : VT
  v : VT
  xs : List (k.T × v.T)
  rest : List (k.T × v.T)
def mapNext (draw : Bool) (ops : List Oper) (slots : Slots) (tab : Tab) : Option (Option Nat × MIter) :=
  match draw, ops with
  | false, o :: _ => match o.op, o.guard with
    | .next it false, none => match ev slots it with
      | .one (.own d) => match tab.get d with
        | some (.miter c k v xs rest _) => some (o.dst, ⟨d, some c, k, v, xs, rest⟩)
        | some (.riter k v rest _) => some (o.dst, ⟨d, none, .agg k, .agg v, [], rest⟩)
        | _ => none
      | _ => none
    | _, _ => none
  | _, _ => none
def riterOf (k v : VT) (rest : List (k.T × v.T)) (cur : Option (k.T × v.T)) : Chunk := match k, v, rest, cur with
  | .agg k, .agg v, rest, cur => .riter k v rest cur
  | _, _, _, _ => .cells []
def MIter.chunk (it : MIter) (rest : List (it.k.T × it.v.T)) (cur : Option (it.k.T × it.v.T)) : Chunk := match it.c with
  | some c => .miter c it.k it.v it.xs rest cur
  | none => riterOf it.k it.v rest cur
def MIter.over (it : MIter) (tab : Tab) : Tab := match it.c with
  | some c => Map.set (tab.del it.d) c (.map it.k it.v it.xs)
  | none => tab.del it.d
def nextIn (st : St) (dst : Option Nat) (it : MIter) (p : it.k.T × it.v.T) (j : Nat) : St :=
  ⟨putS st.slots dst (.tup [.inl (.bool true), it.k.toS p.1, it.v.toS p.2]), st.tab.set it.d (it.chunk (it.rest.eraseIdx j) (some p)), st.next + stride⟩
def nextOver (st : St) (dst : Option Nat) (it : MIter) : St :=
  ⟨putS st.slots dst (.tup [.inl (.bool false)]), it.over st.tab, st.next + stride⟩

noncomputable def sx (E : Env) : Code → Nat → St → (X → St → Option R) → Option R
  | .skip, _, st, K => K .normal st
  | .region _ ops draw, _, st, K => match mapNext draw ops.toList st.slots st.tab with
   | some (dst, it) => match slotsIn E.ntmps dst with
    | true => oite (Nat.blt 0 it.rest.length)
        (oallN it.rest.length fun j => obind (it.rest[j]?) fun p => stF (nextIn st dst it p j) fun st1 =>
          regionK E.tt E.fs E.ntmps ops.toList (number 1 (ops.toList.drop 1)) st1 [] fun st' _ => K .normal st')
        (stF (nextOver st dst it) fun st1 => regionK E.tt E.fs E.ntmps ops.toList (number 1 (ops.toList.drop 1)) st1 [] fun st' _ => K .normal st')
    | false => none
   | none =>
    (preOpen (preNames draw ops.toList st.slots) st.next).runK st.tab fun nx tab =>
    slotsG (preNames draw ops.toList st.slots) (pcSlots (preNames draw ops.toList st.slots) tab st.slots) fun s0 =>
    regionK E.tt E.fs E.ntmps ops.toList (number 0 ops.toList) { slots := s0, tab := tab, next := nx } [] fun st' tr => match draw with
      | false => slotsG (preNames draw ops.toList st.slots) (owSlots (preNames draw ops.toList st.slots) st'.slots) fun s1 => K .normal { slots := s1, tab := st'.tab, next := st'.next }
      | true => match orderFree ops.toList tr with
        | true => slotsG (preNames draw ops.toList st.slots) (owSlots (preNames draw ops.toList st.slots) st'.slots) fun s1 => K .normal { slots := s1, tab := st'.tab, next := st'.next }
        | false => none
  | .seq a b, p, st, K => match E.hints.joins.get p with
    | none => sx E a (2 * p) st fun e st' => match e with | .normal => sx E b (2 * p + 1) st' K | .exit i => K (.exit i) st' | .ret => K .ret st'
    | some k => ojoinA p k.pts (fun J => sx E a (2 * p) st fun e st' => match e with
          | .normal => intoK E.pins k st' (Arr.app k.pts J)
          | .exit i => K (.exit i) st' | .ret => K .ret st')
        (Arr.lam k.pts fun x => stF (conc k x) fun st' => sx E b (2 * p + 1) st' K)
  | .cond c x y, p, st, K => match ev st.slots c with
    | .one (.bool b) => oite b (sx E x (2 * p) st K) (sx E y (2 * p + 1) st K)
    | _ => none
  | .block id c, p, st, K => sx E c p st fun e st' => match e with
    | .normal => K .normal st'
    | .exit i => match Nat.beq i id with | true => K .normal st' | false => K (.exit i) st'
    | .ret => K .ret st'
  | .loop c, p, st, K => match E.hints.loops.get p with
    | none => none
    | some k => intoK E.pins k st fun x0 => Arr.app k.pts (ofixA p k.pts (fun rec => Arr.lam k.pts fun x => stF (conc k x) fun st1 => sx E c (2 * p) st1 fun e st' => match e with
          | .normal => intoK E.pins k st' (Arr.app k.pts rec)
          | .exit i => K (.exit i) st' | .ret => K .ret st') E.fuel) x0
  | .exit id, _, st, K => K (.exit id) st
  | .ret, _, st, K => K .ret st
  | _, _, _, _ => none
end

/-! ### A whole function -/
def enterS : List (S1 ⊕ List S1) → Nat → Slots
  | [], _ => []
  | .inl s :: r, i => (i, .one s) :: enterS r (i + 1)
  | .inr ss :: r, i => (i, .agg ss) :: enterS r (i + 1)
/-- The numbers of the pointers among the parameters. -/
def lendPins : OTs → Nat → List Nat
  | .nil, _ => []
  | .cons (.row _) ts, c => c :: lendPins ts (c + 1)
  | .cons (.c _) ts, c => lendPins ts (c + 1)
  | .cons (.ptr _) ts, c => lendPins ts (c + 1)
  | .cons (.map _ _) ts, c => lendPins ts (c + 1)
  | .cons (.ptrA _ _ _ _) ts, c => lendPins ts (c + 1)
def ptrPins : PTys → Nat → List Nat
  | .nil, _ => []
  | .cons (.one (.ptr _)) ts, c => c :: ptrPins ts (c + 1)
  | .cons (.one (.c _)) ts, c => ptrPins ts (c + 1)
  | .cons (.one (.row _)) ts, c => c :: ptrPins ts (c + 1)
  | .cons (.one (.map _ _)) ts, c => ptrPins ts (c + 1)
  | .cons (.one (.ptrA _ _ _ _)) ts, c => c :: ptrPins ts (c + 1)
  | .cons (.agg _) ts, c => ptrPins ts (c + 1)
  | .cons (.oagg e) ts, c => lendPins e c ++ ptrPins ts (c + (e.size + 1))
  | .cons (.mv e) ts, c => ptrPins ts (c + (e.size + 1))
  | .cons (.mvr _) ts, c => ptrPins ts (c + 1)
  | .cons (.rs _ _) ts, c => ptrPins ts (c + 1)
/-- What was lent, at the end. -/
def takeLend : (e : OTs) → Nat → (r : OTs) → Prog r.T → Prog (lendT e r).T
  | .nil, _, _, k => k
  | .cons (.row e) ts, c, r, k => (takeO (.row e) (.own c)).bind fun x => (takeLend ts (c + 1) r k).bind fun y => .pure (OTs.mk (.row e) (lendT ts r) x y)
  | .cons (.c _) ts, c, r, k => takeLend ts (c + 1) r k
  | .cons (.ptr _) ts, c, r, k => takeLend ts (c + 1) r k
  | .cons (.map _ _) ts, c, r, k => takeLend ts (c + 1) r k
  | .cons (.ptrA _ _ _ _) ts, c, r, k => takeLend ts (c + 1) r k
/-- What stands behind the pointers at the end. -/
def takeOuts : (ps : PTys) → Nat → Prog ps.outs.T
  | .nil, _ => .pure ()
  | .cons (.one (.ptr e)) ts, c => (takeO (.ptr e) (.own c)).bind fun x => (takeOuts ts (c + 1)).bind fun y => .pure (OTs.mk (.ptr e) ts.outs x y)
  | .cons (.one (.c _)) ts, c => takeOuts ts (c + 1)
  | .cons (.one (.row e)) ts, c => (takeO (.row e) (.own c)).bind fun x => (takeOuts ts (c + 1)).bind fun y => .pure (OTs.mk (.row e) ts.outs x y)
  | .cons (.one (.map _ _)) ts, c => takeOuts ts (c + 1)
  | .cons (.one (.ptrA p t n q)) ts, c => (takeO (.ptrA p t n q) (.own c)).bind fun x => (takeOuts ts (c + 1)).bind fun y => .pure (OTs.mk (.ptrA p t n q) ts.outs x y)
  | .cons (.agg _) ts, c => takeOuts ts (c + 1)
  | .cons (.oagg e) ts, c => takeLend e c ts.outs (takeOuts ts (c + (e.size + 1)))
  | .cons (.mv e) ts, c => takeOuts ts (c + (e.size + 1))
  | .cons (.mvr _) ts, c => takeOuts ts (c + 1)
  | .cons (.rs _ _) ts, c => takeOuts ts (c + 1)
def resultsP (tt : TT) (s : Slots) : List ResultVar → Prog (List SV)
  | [] => .pure []
  | .tmp t :: r => (resultsP tt s r).bind fun l => .pure (s.at t :: l)
  | .cell a t :: r => match s.at a with
    | .one x => (loadP tt t x).bind fun v => (resultsP tt s r).bind fun l => .pure (v :: l)
    | _ => .fail
def leaveP (E : Env) (sig : Sig) (rs : List ResultVar) (s : Slots) : Prog sig.Out :=
  (resultsP E.tt s rs).bind fun vs => (takePs sig.rs vs).bind fun r => (takeOuts sig.ps 0).bind fun y => .pure ((r, y) : sig.Out)
def leaveK (E : Env) (sig : Sig) (rs : List ResultVar) (st : St) : Option sig.Out :=
  (leaveP E sig rs st.slots).runK st.tab fun r _ => some r
noncomputable def sxFun (E : Env) (sig : Sig) (c : Code) (rs : List ResultVar) (x : sig.In) : Option sig.Out :=
  let q := giveR sig.ps x 0
  stF { slots := enterS q.1 0, tab := q.2, next := psize sig.ps } fun st0 => sx E c 1 st0 fun e st => match e with
    | .normal => leaveK E sig rs st
    | .ret => leaveK E sig rs st
    | .exit _ => none
/-- The last parameter is a method that is bound to what is handed in. -/
def bndOne (f : Nat) : S1 ⊕ List S1 → S1 ⊕ List S1
  | .inl (.own d) => .inl (.bnd f d)
  | _ => .inl .dead
def bndLast (f : Nat) : List (S1 ⊕ List S1) → List (S1 ⊕ List S1)
  | [s] => [bndOne f s]
  | s :: r => s :: bndLast f r
  | [] => []
noncomputable def sxFunB (f : Nat) (E : Env) (sig : Sig) (c : Code) (rs : List ResultVar) (x : sig.In) : Option sig.Out :=
  let q := giveR sig.ps x 0
  stF { slots := enterS (bndLast f q.1) 0, tab := q.2, next := psize sig.ps } fun st0 => sx E c 1 st0 fun e st => match e with
    | .normal => leaveK E sig rs st
    | .ret => leaveK E sig rs st
    | .exit _ => none

end Go.Sx
