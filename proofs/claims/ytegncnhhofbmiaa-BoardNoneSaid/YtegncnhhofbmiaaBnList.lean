/- List, where one alert is known: what it answers is new memory. -/
import Derived.Test.YtegncnhhofbmiaaBnRun
import Derived.Test.YtegncnhhofbmiaaBdSortOk
import Derived.Test.YtegncnhhofbmiaaBdOrd
import Derived.Test.YtegncnhhofbmiaaSxClone
open Go Go.Sx
namespace Go.Proofs.Ytegncnhhofbmiaa
set_option maxRecDepth 100000
set_option linter.unusedVariables false
-- slices.Clone[[]watchfire/api.Pair,watchfire/api.Pair]
def sig22 : Sig := ⟨(.cons (.one (.c (.ro (.cons .str (.cons .str .nil))))) .nil), (.cons (.one (.row (.cons .str (.cons .str .nil)))) .nil)⟩
def F22 (n : Nat) (xs : List (CTs.T (.cons .str (.cons .str .nil)))) : Option (List (CTs.T (.cons .str (.cons .str .nil))) × Unit) := cloneF (.cons .str (.cons .str .nil)) xs
theorem ok22 (n : Nat) : FunOK Try.prog ⟨22, sig22, F22 n⟩ :=
 clone_ok (c := Try.f22.body.getD .skip) (rs := Try.f22.results.toList) tt_ok mix Try.func22 (by kernel_rfl) rfl (by kernel_rfl) rfl rfl ⟨rfl, rfl, rfl⟩ ⟨rfl, rfl, rfl⟩ ⟨rfl, rfl, rfl⟩ (by kernel_rfl) (by kernel_rfl) (fun xs => by kernel_rfl)

abbrev Brd := Option (List (Key × Alert) × List UInt64 × Unit)
def sig9 : Sig := ⟨.cons (.one (.ptrA (.cons (.map (.agg keyE) (.agg alertE)) .nil) (.int .u64) 32 .nil)) .nil, .cons (.rs 2 (.cons .str (.cons .str .nil))) .nil⟩
abbrev OutL := (Nat × List Pair) × Brd
def F9 (n : Nat) (x : Brd) : Option OutL :=
  match x with
  | none => some ((0, []), none)
  | some ([(k, a)], gaps, ()) => oite (Nat.ble 30 n && Nat.ble (List.length a.2.2.1) 20) (some ((1, a.2.2.1), some ([(k, a)], gaps, ()))) none
  | some _ => none
def cFst : Code → Code | .seq a _ => a | c => c
def cSnd : Code → Code | .seq _ b => b | c => c
def cIn : Code → Code | .block _ c => c | .loop c => c | c => c
noncomputable def c9 : Code := Try.f9.body.getD .skip
noncomputable def r0 := cFst c9
noncomputable def s6 := cFst (cSnd c9)
noncomputable def c7 := cSnd (cSnd c9)
noncomputable def r3 := cFst c7
noncomputable def s30 := cFst (cSnd c7)
noncomputable def c31 := cSnd (cSnd c7)
noncomputable def r8 := cFst c31
noncomputable def r9 := cFst (cSnd c31)
noncomputable def c127 := cSnd (cSnd c31)
noncomputable def r10 := cFst (cFst c127)
noncomputable def s255 := cSnd c127
noncomputable def body := cIn (cIn (cSnd (cFst c127)))
noncomputable def r11 := cFst body
noncomputable def cnd := cFst (cSnd body)
noncomputable def b4075 := cSnd (cSnd body)
noncomputable def b3 := cIn (cFst b4075)
noncomputable def r12 := cFst b3
noncomputable def r13 := cFst (cSnd b3)
noncomputable def r14 := cFst (cSnd (cSnd b3))
noncomputable def r15 := cSnd (cSnd (cSnd b3))
noncomputable def r16 := cSnd b4075
theorem c9_eq : c9 = .seq r0 (.seq s6 (.seq r3 (.seq s30 (.seq r8 (.seq r9 (.seq (.seq r10 (.block 2 (.loop body))) s255)))))) := by kernel_rfl
theorem body_eq : body = .seq r11 (.seq cnd (.seq (.block 3 (.seq r12 (.seq r13 (.seq r14 r15)))) r16)) := by kernel_rfl
abbrev pE : CTs := .cons .str (.cons .str .nil)
def k61 : Skel := ⟨[(1, .one (.own 1)), (3, .one (.own 2)), (15, .one (.own 3))], [(0, .cellsA [.own 4] (.int .u64) 32 []), (1, .cells [.own 0]), (2, .row keyE), (3, .miter 4 (.agg keyE) (.agg alertE)), (4, .ranged 3)], 5⟩
def kB : Skel := ⟨[(1, .one (.own 1)), (5, .one .nils), (27, .one (.own 3)), (28, .one (.int .i64)), (29, .one (.int .i64))], [(0, .cellsA [.own 4] (.int .u64) 32 []), (1, .cells [.own 0]), (3, .row keyE), (4, .map (.agg keyE) (.agg alertE))], 5⟩
def kC : Skel := ⟨[(1, .one (.own 1)), (5, .one .nils), (8, .one (.own 5)), (27, .one (.own 3)), (28, .one (.int .i64)), (29, .one (.int .i64))], [(0, .cellsA [.own 4] (.int .u64) 32 []), (1, .cells [.own 0]), (3, .row keyE), (4, .map (.agg keyE) (.agg alertE)), (5, .cells [.int .u8, .str, .own 6, .int .u8, .int .u64, .int .u8, .int .i64]), (6, .row pE)], 7⟩
noncomputable def E9 (n : Nat) : Env := ⟨tt, [⟨23, sig23, F23 n⟩, ⟨22, sig22, F22 n⟩], 49, [0], ⟨[], [(61, k61)]⟩, n⟩
def FC (y : Int64 × Int64 × List UInt64 × List Key × List (Key × Alert) × UInt8 × List UInt8 × UInt8 × UInt64 × UInt8 × Int64 × List Pair × Unit) : Option OutL :=
  oite (decide (y.1 = 1) && decide (y.2.1 = 0)) (some ((1, y.2.2.2.2.2.2.2.2.2.2.2.1), some (y.2.2.2.2.1, y.2.2.1, ()))) none
def FB (y : Int64 × Int64 × List UInt64 × List Key × List (Key × Alert) × Unit) : Option OutL :=
  match y.2.2.2.1, y.2.2.2.2.1 with
  | [k], [e] => oite (decide (y.1 = 1) && (decide (y.2.1 = 0) && (decide (k = e.1) && Nat.ble (List.length e.2.2.2.1) 20))) (some ((1, e.2.2.2.1), some ([e], y.2.2.1, ()))) none
  | _, _ => none
noncomputable def FA_L61 : Nat →
 Arr
 [PT.list1 (CT.int IntKind.u64),
 PT.list
 (CTs.cons (CT.int IntKind.u8) (CTs.cons CT.str (CTs.cons CT.str (CTs.cons (CT.int IntKind.u8) CTs.nil)))),
 PT.ents
 (VT.agg
 (CTs.cons (CT.int IntKind.u8) (CTs.cons CT.str (CTs.cons CT.str (CTs.cons (CT.int IntKind.u8) CTs.nil)))))
 (VT.agg
 (CTs.cons (CT.int IntKind.u8)
 (CTs.cons CT.str
 (CTs.cons (CT.ro (CTs.cons CT.str (CTs.cons CT.str CTs.nil)))
 (CTs.cons (CT.int IntKind.u8)
 (CTs.cons (CT.int IntKind.u64)
 (CTs.cons (CT.int IntKind.u8) (CTs.cons (CT.int IntKind.i64) CTs.nil)))))))),
 PT.ents
 (VT.agg
 (CTs.cons (CT.int IntKind.u8) (CTs.cons CT.str (CTs.cons CT.str (CTs.cons (CT.int IntKind.u8) CTs.nil)))))
 (VT.agg
 (CTs.cons (CT.int IntKind.u8)
 (CTs.cons CT.str
 (CTs.cons (CT.ro (CTs.cons CT.str (CTs.cons CT.str CTs.nil)))
 (CTs.cons (CT.int IntKind.u8)
 (CTs.cons (CT.int IntKind.u64)
 (CTs.cons (CT.int IntKind.u8) (CTs.cons (CT.int IntKind.i64) CTs.nil))))))))]
 (Option
 ((Nat × List (List UInt8 × List UInt8)) ×
 Option
 (List
 ((UInt8 × List UInt8 × List UInt8 × UInt8) ×
 UInt8 × List UInt8 × List (List UInt8 × List UInt8) × UInt8 × UInt64 × UInt8 × Int64) ×
 List UInt64 × Unit))) →
 List UInt64 →
 List (UInt8 × List UInt8 × List UInt8 × UInt8) →
 List
 ((UInt8 × List UInt8 × List UInt8 × UInt8) ×
 UInt8 × List UInt8 × List (List UInt8 × List UInt8) × UInt8 × UInt64 × UInt8 × Int64) →
 List
 ((UInt8 × List UInt8 × List UInt8 × UInt8) ×
 UInt8 × List UInt8 × List (List UInt8 × List UInt8) × UInt8 × UInt64 × UInt8 × Int64) →
 Option
 ((Nat × List (List UInt8 × List UInt8)) ×
 Option
 (List
 ((UInt8 × List UInt8 × List UInt8 × UInt8) ×
 UInt8 × List UInt8 × List (List UInt8 × List UInt8) × UInt8 × UInt64 × UInt8 × Int64) ×
 List UInt64 × Unit)) := fun (n : Nat)
 (rec :
 Arr
 [PT.list1 (CT.int IntKind.u64),
 PT.list
 (CTs.cons (CT.int IntKind.u8) (CTs.cons CT.str (CTs.cons CT.str (CTs.cons (CT.int IntKind.u8) CTs.nil)))),
 PT.ents
 (VT.agg
 (CTs.cons (CT.int IntKind.u8) (CTs.cons CT.str (CTs.cons CT.str (CTs.cons (CT.int IntKind.u8) CTs.nil)))))
 (VT.agg
 (CTs.cons (CT.int IntKind.u8)
 (CTs.cons CT.str
 (CTs.cons (CT.ro (CTs.cons CT.str (CTs.cons CT.str CTs.nil)))
 (CTs.cons (CT.int IntKind.u8)
 (CTs.cons (CT.int IntKind.u64)
 (CTs.cons (CT.int IntKind.u8) (CTs.cons (CT.int IntKind.i64) CTs.nil)))))))),
 PT.ents
 (VT.agg
 (CTs.cons (CT.int IntKind.u8) (CTs.cons CT.str (CTs.cons CT.str (CTs.cons (CT.int IntKind.u8) CTs.nil)))))
 (VT.agg
 (CTs.cons (CT.int IntKind.u8)
 (CTs.cons CT.str
 (CTs.cons (CT.ro (CTs.cons CT.str (CTs.cons CT.str CTs.nil)))
 (CTs.cons (CT.int IntKind.u8)
 (CTs.cons (CT.int IntKind.u64)
 (CTs.cons (CT.int IntKind.u8) (CTs.cons (CT.int IntKind.i64) CTs.nil))))))))]
 (Option
 ((Nat × List (List UInt8 × List UInt8)) ×
 Option
 (List
 ((UInt8 × List UInt8 × List UInt8 × UInt8) ×
 UInt8 × List UInt8 × List (List UInt8 × List UInt8) × UInt8 × UInt64 × UInt8 × Int64) ×
 List UInt64 × Unit))))
 (bla : List UInt64) (keys : List (UInt8 × List UInt8 × List UInt8 × UInt8))
 (tm tr :
 List
 ((UInt8 × List UInt8 × List UInt8 × UInt8) ×
 UInt8 × List UInt8 × List (List UInt8 × List UInt8) × UInt8 × UInt64 × UInt8 × Int64)) =>
 oite (Nat.blt (0 : Nat) (List.length tr))
 (oallN (List.length tr) fun (j : Nat) =>
 obind tr[j]?
 fun
 (p :
 (UInt8 × List UInt8 × List UInt8 × UInt8) ×
 UInt8 × List UInt8 × List (List UInt8 × List UInt8) × UInt8 × UInt64 × UInt8 × Int64) =>
 oite
 (Nat.ble
 (List.length keys +
 List.length
 [(Prod.fst (Prod.fst p), Prod.fst (Prod.snd (Prod.fst p)), Prod.fst (Prod.snd (Prod.snd (Prod.fst p))),
 Prod.snd (Prod.snd (Prod.snd (Prod.fst p))))])
 (4294967296 : Nat))
 (rec bla
 (keys ++
 [(Prod.fst (Prod.fst p), Prod.fst (Prod.snd (Prod.fst p)), Prod.fst (Prod.snd (Prod.snd (Prod.fst p))),
 Prod.snd (Prod.snd (Prod.snd (Prod.fst p))))])
 tm (List.eraseIdx tr j))
 none)
 (obind
 (obind
 (F23 n
 (@List.nil
 (Bool ×
 Bool ×
 Bool ×
 Bool ×
 Bool ×
 Bool ×
 Bool ×
 Bool ×
 Bool ×
 Bool ×
 Bool ×
 Bool ×
 Bool ×
 Bool × Bool × Bool × Bool × Bool × Bool × Bool × Bool × Bool × Bool × Bool),
 (), keys, tm))
 fun
 (y : Unit × List (UInt8 × List UInt8 × List UInt8 × UInt8)) =>
 some (Prod.snd y))
 fun (x_2 : List (UInt8 × List UInt8 × List UInt8 × UInt8)) =>
 FB (Int64.ofInt ↑(List.length x_2), (0 : Int64), bla, x_2, tm, ()))
noncomputable def FA_R61 : Nat →
 Nat →
 PT.T (PT.list1 (CT.int IntKind.u64)) →
 List (UInt8 × List UInt8 × List UInt8 × UInt8) →
 List
 ((UInt8 × List UInt8 × List UInt8 × UInt8) ×
 UInt8 × List UInt8 × List (List UInt8 × List UInt8) × UInt8 × UInt64 × UInt8 × Int64) →
 List
 ((UInt8 × List UInt8 × List UInt8 × UInt8) ×
 UInt8 × List UInt8 × List (List UInt8 × List UInt8) × UInt8 × UInt64 × UInt8 × Int64) →
 Option
 ((Nat × List (List UInt8 × List UInt8)) ×
 Option
 (List
 ((UInt8 × List UInt8 × List UInt8 × UInt8) ×
 UInt8 × List UInt8 × List (List UInt8 × List UInt8) × UInt8 × UInt64 × UInt8 × Int64) ×
 List UInt64 × Unit)) := fun (n : Nat) =>
 ofixA (61 : Nat)
 [PT.list1 (CT.int IntKind.u64),
 PT.list (CTs.cons (CT.int IntKind.u8) (CTs.cons CT.str (CTs.cons CT.str (CTs.cons (CT.int IntKind.u8) CTs.nil)))),
 PT.ents
 (VT.agg
 (CTs.cons (CT.int IntKind.u8) (CTs.cons CT.str (CTs.cons CT.str (CTs.cons (CT.int IntKind.u8) CTs.nil)))))
 (VT.agg
 (CTs.cons (CT.int IntKind.u8)
 (CTs.cons CT.str
 (CTs.cons (CT.ro (CTs.cons CT.str (CTs.cons CT.str CTs.nil)))
 (CTs.cons (CT.int IntKind.u8)
 (CTs.cons (CT.int IntKind.u64)
 (CTs.cons (CT.int IntKind.u8) (CTs.cons (CT.int IntKind.i64) CTs.nil)))))))),
 PT.ents
 (VT.agg
 (CTs.cons (CT.int IntKind.u8) (CTs.cons CT.str (CTs.cons CT.str (CTs.cons (CT.int IntKind.u8) CTs.nil)))))
 (VT.agg
 (CTs.cons (CT.int IntKind.u8)
 (CTs.cons CT.str
 (CTs.cons (CT.ro (CTs.cons CT.str (CTs.cons CT.str CTs.nil)))
 (CTs.cons (CT.int IntKind.u8)
 (CTs.cons (CT.int IntKind.u64)
 (CTs.cons (CT.int IntKind.u8) (CTs.cons (CT.int IntKind.i64) CTs.nil))))))))]
 (FA_L61 n)
theorem FA_R61_s (n : Nat) (m_ : Nat) : FA_R61 n (m_ + 1) = FA_L61 n (FA_R61 n m_) := rfl
def KB (st : St) : Option OutL := intoK [0] kB st FB
def KC (st : St) : Option OutL := intoK [0] kC st FC
def st0 (x : Brd) : St := ⟨enterS (giveR sig9.ps x 0).1 0, (giveR sig9.ps x 0).2, psize sig9.ps⟩
noncomputable def sA (n : Nat) (x : Brd) : Option OutL :=
  stF (st0 x) fun st => sx (E9 n) r0 2 st (nxt fun st => sx (E9 n) s6 6 st (nxt fun st => sx (E9 n) r3 14 st (nxt fun st => sx (E9 n) s30 30 st (nxt fun st => sx (E9 n) r8 62 st (nxt fun st => sx (E9 n) r9 126 st (nxt fun st => sx (E9 n) r10 508 st (nxt KB)))))))
theorem sA_eq (n : Nat) : sA n = fun x => oelim x none fun x_1 => FA_R61 n n x_1.2.1 [] x_1.1 x_1.1 := by kernel_rfl
noncomputable def sB (n : Nat) (gaps : List UInt64) (k : Key) (a : Alert) : Option OutL :=
  stF (conc kB ((1 : Int64), (0 : Int64), gaps, [k], [(k, a)], ())) fun st => sx (E9 n) r11 2036 st (nxt fun st => sx (E9 n) cnd 4074 st (nxt fun st => sx (E9 n) r12 16300 st (nxt fun st => sx (E9 n) r13 32602 st (nxt fun st => sx (E9 n) r14 65206 st (nxt KC)))))
abbrev lookA (k : Key) (a : Alert) : Alert := Option.getD (mget (.agg keyE) (.agg alertE) (k.1, k.2.1, k.2.2.1, k.2.2.2) [(k, a)]) ((0 : UInt8), [], [], (0 : UInt8), (0 : UInt64), (0 : UInt8), (0 : Int64))
theorem sB_eq (n : Nat) (gaps : List UInt64) (k : Key) (a : Alert) : sB n gaps k a = obind (F22 n (lookA k a).2.2.1) fun x =>
    FC ((1 : Int64), (0 : Int64), gaps, [k], [(k, a)], (lookA k a).1, (lookA k a).2.1, (lookA k a).2.2.2.1, (lookA k a).2.2.2.2.1, (lookA k a).2.2.2.2.2.1, (lookA k a).2.2.2.2.2.2, x.1, ()) := by kernel_rfl
noncomputable def KE (n : Nat) : X → St → Option OutL := fun e st => match e with
  | .exit i => (match Nat.beq i 2 with | true => sx (E9 n) s255 255 st (lastK (E9 n) sig9 Try.f9.results.toList) | false => none)
  | _ => none
abbrev yC (gaps : List UInt64) (keys : List Key) (ents : List (Key × Alert)) (c0 : UInt8) (c1 : List UInt8) (c3 : UInt8) (c4 : UInt64) (c5 : UInt8) (c6 : Int64) (l : List Pair) : HL kC.pts := ((1 : Int64), (0 : Int64), gaps, keys, ents, c0, c1, c3, c4, c5, c6, l, ())
abbrev vsC (c0 : UInt8) (c1 : List UInt8) (c3 : UInt8) (c4 : UInt64) (c5 : UInt8) (c6 : Int64) : List S1 := [.int .u8 c0, .str c1, .own 6, .int .u8 c3, .int .u64 c4, .int .u8 c5, .int .i64 c6]
abbrev stE (gaps : List UInt64) (keys : List Key) (ents : List (Key × Alert)) (c0 : UInt8) (c1 : List UInt8) (c3 : UInt8) (c4 : UInt64) (c5 : UInt8) (c6 : Int64) (l : List Pair) : St :=
  ⟨putS (putS (putS (putS (putS (conc kC (yC gaps keys ents c0 c1 c3 c4 c5 c6 l)).slots (some 43) (.one .nils)) (some 44) (.agg (vsC c0 c1 c3 c4 c5 c6))) (some 45) (.one .dead)) (some 46) (.one (.rs1 2 6 1))) (some 5) (.one (.rs1 2 6 1)),
    (conc kC (yC gaps keys ents c0 c1 c3 c4 c5 c6 l)).tab, (conc kC (yC gaps keys ents c0 c1 c3 c4 c5 c6 l)).next⟩
theorem sE_eq (n : Nat) (gaps : List UInt64) (keys : List Key) (ents : List (Key × Alert)) (c0 : UInt8) (c1 : List UInt8) (c3 : UInt8) (c4 : UInt64) (c5 : UInt8) (c6 : Int64) (l : List Pair) :
    sx (E9 n) r16 8151 (stE gaps keys ents c0 c1 c3 c4 c5 c6 l) (nxt fun st => sx (E9 n) r11 2036 st (nxt fun st => sx (E9 n) cnd 4074 st (KE n))) = some ((1, l), some (ents, gaps, ())) := by kernel_rfl
theorem mget_one (k : Key) (a : Alert) : mget KV AV k [(k, a)] = some a := by
  rw [mget, keqb, dec_t rfl]
theorem sort_one (n : Nat) (k : Key) (a : Alert) (hl : a.2.2.1.length ≤ 20) : SortOK (n + 30) [(k, a)] [k] := by
  have hlook : look k [(k, a)] = a := by
    show (mget KV AV k [(k, a)]).getD zA = a
    rw [mget_one]; rfl
  have h24 := f24 n [(k, a)] k k (by rw [hlook]; exact hl) (by rw [hlook]; exact hl)
  have hz : or3 (cA (core (look k [(k, a)])) (core (look k [(k, a)]))) (Int64.ofInt (k.2.2.2.toNat : Int) - Int64.ofInt (k.2.2.2.toNat : Int)) = 0 := by
    unfold or3
    rw [if_pos (cA_ord.refl _), Int64.sub_self]
  rw [hz] at h24
  have hlt : ltC (cfK (n + 30) [(k, a)]) k k = false := by
    unfold ltC cfK
    rw [h24]; rfl
  refine ⟨by simp, fun x hx y hy => ?_, ⟨?_, ?_, ?_⟩, fun x hx y hy _ _ => ?_⟩
  · simp only [List.mem_singleton] at hx hy
    subst hx; subst hy
    rw [h24]; rfl
  · rintro ⟨x, hx⟩
    simp only [List.mem_singleton] at hx
    subst hx; exact hlt
  · rintro ⟨x, hx⟩ ⟨y, hy⟩ _ h _
    simp only [List.mem_singleton] at hx hy
    have h : ltC (cfK (n + 30) [(k, a)]) x y = true := h
    rw [hx, hy, hlt] at h; cases h
  · rintro ⟨x, hx⟩ _ ⟨z, hz⟩ _ _
    simp only [List.mem_singleton] at hx hz
    subst hx; subst hz
    exact hlt
  · simp only [List.mem_singleton] at hx hy
    rw [hx, hy]
theorem fA (n : Nat) (k : Key) (a : Alert) (gaps : List UInt64) (hn : 30 ≤ n) (hl : a.2.2.1.length ≤ 20) : FA_R61 n n gaps [] [(k, a)] [(k, a)] = some ((1, a.2.2.1), some ([(k, a)], gaps, ())) := by
  obtain ⟨m, rfl⟩ : ∃ m, n = m + 30 := ⟨n - 30, by omega⟩
  show FA_R61 (m + 30) (m + 29 + 1) _ _ _ _ = _
  rw [FA_R61_s]
  unfold FA_L61
  rw [show Nat.blt 0 (List.length [(k, a)]) = true from rfl, oite_t]
  refine oallN_mk (by simp) fun j hj => ?_
  have hj0 : j = 0 := by simp at hj; omega
  subst hj0
  rw [show ([(k, a)] : List (Key × Alert))[0]? = some (k, a) from rfl, obind_s]
  rw [show Nat.ble (List.length ([] : List Key) + List.length [((k, a) : Key × Alert).1]) 4294967296 = true from rfl, oite_t]
  show FA_R61 (m + 30) (m + 28 + 1) gaps [k] [(k, a)] [] = _
  rw [FA_R61_s]
  unfold FA_L61
  rw [show Nat.blt 0 (List.length ([] : List (Key × Alert))) = false from rfl, oite_f]
  have e1 : F23 (m + 30) ([], (), [k], [(k, a)]) = some ((), sortK (m + 30) [(k, a)] [k]) := F23_eq (sort_one m k a hl)
  have e2 : sortK (m + 30) [(k, a)] [k] = [k] := by unfold sortK; rw [List.mergeSort_singleton]
  rw [e2] at e1
  refine (congrArg (fun z => obind (obind z fun y => some y.2) fun x_2 => FB (Int64.ofInt ↑(List.length x_2), (0 : Int64), gaps, x_2, [(k, a)], ())) e1).trans ?_
  show FB ((1 : Int64), (0 : Int64), gaps, [k], [(k, a)], ()) = _
  show oite (decide ((1 : Int64) = 1) && (decide ((0 : Int64) = 0) && (decide (k = k) && Nat.ble (List.length a.2.2.1) 20))) _ none = _
  rw [show decide ((1 : Int64) = 1) = true from rfl, show decide ((0 : Int64) = 0) = true from rfl, dec_t (p := k = k) rfl, ble_t hl]
  rfl
theorem fB (n : Nat) (k : Key) (a : Alert) (gaps : List UInt64) (hl : a.2.2.1.length ≤ 20) : sB n gaps k a = some ((1, a.2.2.1), some ([(k, a)], gaps, ())) := by
  have hlook : lookA k a = a := by
    show (mget KV AV k [(k, a)]).getD zA = a
    rw [mget_one]; rfl
  have h22 : F22 n a.2.2.1 = some (a.2.2.1, ()) := by
    unfold F22 cloneF
    rw [ble_t (by show a.2.2.1.length ≤ 4294967296; omega)]; rfl
  rw [sB_eq, hlook, h22]
  rfl
theorem FB_inv {y : HL kB.pts} {r : OutL} (h : FB y = some r) : ∃ gaps k a, y = ((1 : Int64), (0 : Int64), gaps, [k], [(k, a)], ()) ∧ a.2.2.1.length ≤ 20 ∧ r = ((1, a.2.2.1), some ([(k, a)], gaps, ())) := by
  obtain ⟨t28, t29, gaps, keys, ents, u⟩ := y
  unfold FB at h
  simp only at h
  match keys, ents, h with
  | [], _, h => cases h
  | _ :: _ :: _, _, h => cases h
  | [k], [], h => cases h
  | [k], _ :: _ :: _, h => cases h
  | [k], [e], h =>
    obtain ⟨k', a⟩ := e
    simp only at h
    cases hb : (decide (t28 = 1) && (decide (t29 = 0) && (decide (k = k') && Nat.ble (List.length a.2.2.1) 20))) with
    | false => rw [hb] at h; cases h
    | true =>
      rw [hb] at h
      rw [Bool.and_eq_true, Bool.and_eq_true, Bool.and_eq_true, decide_eq_true_eq, decide_eq_true_eq, decide_eq_true_eq] at hb
      obtain ⟨h1, h2, h3, h4⟩ := hb
      subst h1; subst h2; subst h3
      exact ⟨gaps, k, a, rfl, Nat.le_of_ble_eq_true h4, (Option.some.inj h).symm⟩
theorem FC_inv {y : HL kC.pts} {r : OutL} (h : FC y = some r) : ∃ gaps keys ents c0 c1 c3 c4 c5 c6 l, y = yC gaps keys ents c0 c1 c3 c4 c5 c6 l ∧ r = ((1, l), some (ents, gaps, ())) := by
  obtain ⟨t28, t29, gaps, keys, ents, c0, c1, c3, c4, c5, c6, l, u⟩ := y
  unfold FC at h
  simp only at h
  cases hb : (decide (t28 = 1) && decide (t29 = 0)) with
  | false => rw [hb] at h; cases h
  | true =>
    rw [hb] at h
    rw [Bool.and_eq_true, decide_eq_true_eq, decide_eq_true_eq] at hb
    obtain ⟨h1, h2⟩ := hb
    subst h1; subst h2
    exact ⟨gaps, keys, ents, c0, c1, c3, c4, c5, c6, l, rfl, (Option.some.inj h).symm⟩
theorem hE9 (n : Nat) : EnvOK Try.prog (E9 n) false := ⟨tt_ok, FsOK.cons (ok23 n) (FsOK.cons (ok22 n) FsOK.nil), mix⟩
section
variable {cx : Cx} {P : PHeap} {ε : HMap} {φ : Nat → List Nat} {W : World}
noncomputable def opAt (i : Nat) : Oper := match r15 with | .region _ ops _ => ops.toList.getD i ⟨none, .move (.tmp 0), 0, default, #[], none⟩ | _ => ⟨none, .move (.tmp 0), 0, default, #[], none⟩
theorem r15_ops : ∃ p0 p1 p2 p3 p4 : Oper, r15 = .region 15 #[p0, p1, p2, p3, p4] false ∧
    (p0.op = .move (.tmp 5) ∧ p0.dst = some 43 ∧ p0.guard = none) ∧ (p1.op = .load 47 (.tmp 8) ∧ p1.dst = some 44 ∧ p1.guard = none) ∧
    (p2.op = .buildSlice 43 1 #[(0, .tmp 44)] ∧ p2.dst = some 45 ∧ p2.guard = none) ∧
    (p3.op = .call { callee := .builtin .append, args := #[.tmp 43, .tmp 45], argTypes := #[43, 43] } ∧ p3.dst = some 46 ∧ p3.guard = none) ∧
    (p4.op = .assign (.tmp 46) ∧ p4.dst = some 5 ∧ p4.guard = none) := ⟨opAt 0, opAt 1, opAt 2, opAt 3, opAt 4, by kernel_rfl, ⟨by kernel_rfl, by kernel_rfl, by kernel_rfl⟩, ⟨by kernel_rfl, by kernel_rfl, by kernel_rfl⟩, ⟨by kernel_rfl, by kernel_rfl, by kernel_rfl⟩, ⟨by kernel_rfl, by kernel_rfl, by kernel_rfl⟩, by kernel_rfl, by kernel_rfl, by kernel_rfl⟩
theorem loop_ok {n : Nat} (htd : cx.td = false) (hgl : Glob Try.prog cx.P0) (hpin : ∀ c v, cx.pins c = some v → c ∈ (E9 n).pins) (hpin' : ∀ c ∈ (E9 n).pins, ∃ v, cx.pins c = some v) {gaps : List UInt64} {k : Key} {a : Alert} (hl : a.2.2.1.length ≤ 20) {act : Act}
    (M : Match cx (E9 n).ntmps P ε φ (conc kB ((1 : Int64), (0 : Int64), gaps, [k], [(k, a)], ())).slots (conc kB ((1 : Int64), (0 : Int64), gaps, [k], [(k, a)], ())).tab act W) (hf : FreeFrom ε (conc kB ((1 : Int64), (0 : Int64), gaps, [k], [(k, a)], ())).next)
    {r : OutL} (hr : r = ((1, a.2.2.1), some ([(k, a)], gaps, ()))) {Q : Exit → Act → World → Prop} (hQ : Go.Sx.Ends cx (E9 n).ntmps (lastK (E9 n) sig9 Try.f9.results.toList) r Q) :
    (Code.block 2 (.loop body)).wp Try.prog (Exit.then (s255.wp Try.prog Q) Q) act W := by
  have hE : EnvOK Try.prog (E9 n) cx.td := by rw [htd]; exact hE9 n
  refine wp_block (wp_loop_rounds 2 ?_)
  rw [rounds_succ, body_eq]
  have hB := fB n k a gaps hl
  unfold sB at hB
  rw [stF_eq, ← hr] at hB
  refine seq_sx hE hgl hpin hpin' hB M hf ?_
  intro st1 a1 W1 P1 ε1 φ1 h1 M1 f1
  refine seq_sx hE hgl hpin hpin' h1 M1 f1 ?_
  intro st2 a2 W2 P2 ε2 φ2 h2 M2 f2
  refine wp_seq (wp_block ?_)
  refine seq_sx hE hgl hpin hpin' h2 M2 f2 ?_
  intro st3 a3 W3 P3 ε3 φ3 h3 M3 f3
  refine seq_sx hE hgl hpin hpin' h3 M3 f3 ?_
  intro st4 a4 W4 P4 ε4 φ4 h4 M4 f4
  refine seq_sx hE hgl hpin hpin' h4 M4 f4 ?_
  intro st5 a5 W5 P5 ε5 φ5 h5 M5 f5
  obtain ⟨y, P6, ε6, φ6, hy, M6, f6⟩ := intoK_sound hpin hpin' h5 M5 f5
  obtain ⟨gaps', keys, ents, c0, c1, c3, c4, c5, c6, l, rfl, hr'⟩ := FC_inv hy
  obtain ⟨p0, p1, p2, p3, p4, hops, o0, o1, o2, o3, o4⟩ := r15_ops
  rw [hops]
  refine region_rs tt_ok M6 o0 o1 o2 o3 o4 (by decide) ⟨by show 43 < 49; omega, by show 44 < 49; omega, by show 45 < 49; omega, by show 46 < 49; omega, by show 5 < 49; omega⟩ (tt_ok 43 _ rfl) rfl (tt_ok 43 _ rfl) (fun k h => by cases h) (tt_ok 47 _ rfl) rfl rfl (by decide) (by decide) (by decide) rfl (y8 := .own 5) rfl
    (vs := vsC c0 c1 c3 c4 c5 c6) (by kernel_rfl) (r := vsC c0 c1 c3 c4 c5 c6) (by kernel_rfl) rfl (off := 2) (c := 6) rfl ?_
  intro a7 W7 P7 hle M7
  show r16.wp Try.prog _ a7 W7
  have hEq := sE_eq n gaps' keys ents c0 c1 c3 c4 c5 c6 l
  rw [← hr'] at hEq
  refine sx_sound hE hgl hpin hpin' r16 8151 _ _ r hEq P7 ε6 φ6 a7 W7 M7 f6 _ ?_
  intro e st8 a8 W8 P8 ε8 φ8 h8 M8 f8
  cases e with
  | exit i => cases h8
  | ret => cases h8
  | normal =>
  show Code.rounds Try.prog _ _ (0 + 1) a8 W8
  rw [rounds_succ]
  refine seq_sx hE hgl hpin hpin' (show sx (E9 n) r11 2036 st8 _ = some r from h8) M8 f8 ?_
  intro st9 a9 W9 P9 ε9 φ9 h9 M9 f9
  refine wp_seq (sx_sound hE hgl hpin hpin' cnd 4074 st9 (KE n) r h9 P9 ε9 φ9 a9 W9 M9 f9 _ ?_)
  intro e st10 a10 W10 P10 ε10 φ10 h10 M10 f10
  cases e with
  | normal => cases h10
  | ret => cases h10
  | exit i =>
    have h10 : (match Nat.beq i 2 with | true => sx (E9 n) s255 255 st10 (lastK (E9 n) sig9 Try.f9.results.toList) | false => none) = some r := h10
    cases hb : Nat.beq i 2 with
    | false => rw [hb] at h10; cases h10
    | true =>
      rw [hb] at h10
      have hi := nbeq_true hb
      subst hi
      simp only [X.exitOf, Exit.then, Exit.inBlock, if_true]
      exact sx_sound hE hgl hpin hpin' s255 255 st10 _ r h10 P10 ε10 φ10 a10 W10 M10 f10 Q hQ
end
theorem sN_eq (n : Nat) : sx (E9 n) c9 1 (st0 none) (lastK (E9 n) sig9 Try.f9.results.toList) = some ((0, []), none) := by kernel_rfl
theorem ok9 (n : Nat) : FunOK Try.prog ⟨9, sig9, F9 n⟩ := by
  refine ⟨CallOK.of (fun_sound_wp (hE9 n) (sig := sig9) (F := F9 n) (c := c9) Try.func9 (by kernel_rfl) (by kernel_rfl) (by rfl) fun x r hx cx htd hgl hp1 hp2 P ε φ a W M hfr Q hQ => ?_) rfl, Try.f9, Try.func9, by kernel_rfl, by kernel_rfl⟩
  have hE : EnvOK Try.prog (E9 n) cx.td := by rw [htd]; exact hE9 n
  have hpin : ∀ c v, cx.pins c = some v → c ∈ (E9 n).pins := hp1
  have hpin' : ∀ c ∈ (E9 n).pins, ∃ v, cx.pins c = some v := hp2
  change Brd at x
  match x, hx, M with
  | none, hx, M =>
    have hr : some (((0, []), none) : OutL) = some r := hx
    have h := sN_eq n
    rw [hr] at h
    exact sx_sound hE hgl hpin hpin' c9 1 (st0 none) _ r h P ε φ a W M hfr Q hQ
  | some ([], _, _), hx, M => cases hx
  | some (_ :: _ :: _, _, _), hx, M => cases hx
  | some ([(k, al)], gaps, ()), hx, M =>
    have hx : oite (Nat.ble 30 n && Nat.ble (List.length al.2.2.1) 20) (some ((1, al.2.2.1), some ([(k, al)], gaps, ()))) none = some r := hx
    cases hb : (Nat.ble 30 n && Nat.ble (List.length al.2.2.1) 20) with
    | false => rw [hb] at hx; cases hx
    | true =>
      rw [hb] at hx
      have hr : ((1, al.2.2.1), some ([(k, al)], gaps, ())) = r := Option.some.inj hx
      rw [Bool.and_eq_true] at hb
      have hn := Nat.le_of_ble_eq_true hb.1
      have hl := Nat.le_of_ble_eq_true hb.2
      have hA : sA n (some ([(k, al)], gaps, ())) = some r := by
        rw [sA_eq]
        show FA_R61 n n gaps [] [(k, al)] [(k, al)] = _
        exact (fA n k al gaps hn hl).trans (congrArg some hr)
      unfold sA at hA
      rw [stF_eq] at hA
      rw [c9_eq]
      refine seq_sx hE hgl hpin hpin' hA M hfr ?_
      intro st1 a1 W1 P1 ε1 φ1 h1 M1 f1
      refine seq_sx hE hgl hpin hpin' h1 M1 f1 ?_
      intro st2 a2 W2 P2 ε2 φ2 h2 M2 f2
      refine seq_sx hE hgl hpin hpin' h2 M2 f2 ?_
      intro st3 a3 W3 P3 ε3 φ3 h3 M3 f3
      refine seq_sx hE hgl hpin hpin' h3 M3 f3 ?_
      intro st4 a4 W4 P4 ε4 φ4 h4 M4 f4
      refine seq_sx hE hgl hpin hpin' h4 M4 f4 ?_
      intro st5 a5 W5 P5 ε5 φ5 h5 M5 f5
      refine seq_sx hE hgl hpin hpin' h5 M5 f5 ?_
      intro st6 a6 W6 P6 ε6 φ6 h6 M6 f6
      refine wp_seq (seq_sx hE hgl hpin hpin' h6 M6 f6 ?_)
      intro st7 a7 W7 P7 ε7 φ7 h7 M7 f7
      obtain ⟨y, P8, ε8, φ8, hy, M8, f8⟩ := intoK_sound hpin hpin' h7 M7 f7
      obtain ⟨gaps', k', a', rfl, hl', hr'⟩ := FB_inv hy
      exact loop_ok htd hgl hpin hpin' hl' M8 f8 hr' hQ
end Go.Proofs.Ytegncnhhofbmiaa
