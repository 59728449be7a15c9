/- What the functions of this seat compute, found by walking their code symbolically: each F is what the walk finds, each ok says that the Go function keeps it as a contract. Printed by a program of this repo's. -/
import Derived.Test.YtcfckkmiaeegpaaFns1
open Go Go.Sx
namespace Go.Proofs.Ytcfckkmiaeegpaa
set_option maxRecDepth 100000
set_option linter.unusedVariables false
-- slices.pdqsortCmpFunc[watchfire/group.key]
def sig62 : Sig := ⟨(.cons (.one (.row zc15)) (.cons (.one (.c (.int .i64))) (.cons (.one (.c (.int .i64))) (.cons (.one (.c (.int .i64))) (.cons (.one (.c (.fn 48))) .nil))))), .nil⟩
def G62_L7 : Nat →
 Arr
 [PT.int IntKind.i64, PT.int IntKind.i64, PT.int IntKind.i64, PT.bool, PT.bool,
 PT.list zc9]
 (Option (Unit × List (Int64 × List UInt8))) →
 Int64 → Int64 → Int64 → Bool → Bool → List (Int64 × List UInt8) → Option (Unit × List (Int64 × List UInt8)) := fun (n : Nat)
 (rec :
 Arr
 [PT.int IntKind.i64, PT.int IntKind.i64, PT.int IntKind.i64, PT.bool, PT.bool,
 PT.list zc9]
 (Option (Unit × List (Int64 × List UInt8))))
 (a b limit : Int64) (wasBalanced wasPartitioned : Bool) (data : List (Int64 × List UInt8)) =>
 oite (decide (b - a ≤ (12 : Int64)))
 (obind (F73 n (data, a, b, ())) fun (x_1 : Unit × List (Int64 × List UInt8)) =>
 some ((), x_1.2))
 (oite (decide (limit = (0 : Int64))) none (oite (!wasBalanced) none none))
def G62_R7 : Nat →
 Nat →
 PT.T (PT.int IntKind.i64) →
 Int64 → Int64 → Bool → Bool → List (Int64 × List UInt8) → Option (Unit × List (Int64 × List UInt8)) := fun (n : Nat) =>
 ofixA (7 : Nat)
 [PT.int IntKind.i64, PT.int IntKind.i64, PT.int IntKind.i64, PT.bool, PT.bool,
 PT.list zc9]
 (G62_L7 n)
def G62 : Nat →
 (List (Int64 × List UInt8) × Int64 × Int64 × Int64 × Unit → Option (Unit × List (Int64 × List UInt8))) →
 List (Int64 × List UInt8) × Int64 × Int64 × Int64 × Unit → Option (Unit × List (Int64 × List UInt8)) := fun (n : Nat)
 (rc : List (Int64 × List UInt8) × Int64 × Int64 × Int64 × Unit → Option (Unit × List (Int64 × List UInt8)))
 (x : List (Int64 × List UInt8) × Int64 × Int64 × Int64 × Unit) =>
 G62_R7 n n x.2.1 x.2.2.1 x.2.2.2.1
 true true x.1
theorem G62_R7_s (n : Nat) (m_ : Nat) : G62_R7 n (m_ + 1) = G62_L7 n (G62_R7 n m_) := rfl
theorem okG62 (n : Nat) (rc : sig62.In → Option sig62.Out) (h : FunOK Try.prog ⟨62, sig62, rc⟩) : FunOK Try.prog ⟨62, sig62, G62 n rc⟩ :=
 fun_ok (hints := ⟨[], [(7, ⟨[(0, .one (.own 0)), (1, .one (.int .i64)), (2, .one (.int .i64)), (3, .one (.int .i64)), (4, .one (.fn 48)), (10, .one (.bool)), (11, .one (.bool))], [(0, .row zc15)], 5⟩)]⟩) (fuel := n) (c := Try.f62.body.getD .skip) (rs := Try.f62.results.toList) tt_ok mix (FsOK.cons (ok73 n) (FsOK.cons (ok48 n) (FsOK.cons h (FsOK.nil)))) Try.func62 (by kernel_rfl) (by kernel_rfl) rfl (by kernel_rfl) rfl rfl (by kernel_rfl)
def F62 (n : Nat) : List (Int64 × List UInt8) × Int64 × Int64 × Int64 × Unit → Option (Unit × List (Int64 × List UInt8)) := selfN (sig := sig62) (G62 n) n
theorem ok62 (n : Nat) : FunOK Try.prog ⟨62, sig62, F62 n⟩ :=
 self_ok (c := Try.f62.body.getD .skip) Try.func62 (by kernel_rfl) (by kernel_rfl) (fun F h => okG62 n F h) rfl n
-- slices.SortFunc[[]watchfire/group.key,watchfire/group.key]
def sig47 : Sig := ⟨(.cons (.one (.row zc15)) (.cons (.one (.c (.fn 48))) .nil)), .nil⟩
def F47 : Nat → List (Int64 × List UInt8) × Unit → Option (Unit × List (Int64 × List UInt8)) := fun (n : Nat) (x : List (Int64 × List UInt8) × Unit) =>
 obind (F63 n (UInt64.ofInt (Int64.toInt (Int64.ofInt ↑(List.length x.1))))) fun (x_1 : Int64 × Unit) =>
 obind (F62 n (x.1, (0 : Int64), Int64.ofInt ↑(List.length x.1), x_1.1, ()))
 fun (x_2 : Unit × List (Int64 × List UInt8)) => some ((), x_2.2)
theorem ok47 (n : Nat) : FunOK Try.prog ⟨47, sig47, F47 n⟩ :=
 fun_ok (hints := ⟨[], []⟩) (fuel := n) (c := Try.f47.body.getD .skip) (rs := Try.f47.results.toList) tt_ok mix (FsOK.cons (ok63 n) (FsOK.cons (ok62 n) (FsOK.cons (ok48 n) (FsOK.nil)))) Try.func47 (by kernel_rfl) (by kernel_rfl) rfl (by kernel_rfl) rfl rfl (by kernel_rfl)
-- (*watchfire/group.Groups).keys
def sig32 : Sig := ⟨(.cons (.one (.ptr (.cons (.c (.rop (.cons (.ro zc8) .nil))) (.cons (.map (.agg zc15) (.agg (.cons (.ro zc12) (.cons (.int .u64) (.cons .bool (.cons (.int .u64) (.cons (.rom (.cons (.int .u8) zc12) zc4) .nil))))))) (.cons (.c (.int .u64)) .nil))))) .nil), (.cons (.one (.c (.ro zc15))) .nil)⟩
noncomputable def F32_L29 : Nat →
 Arr
 [PT.optC
 (CTs.cons
 (CT.ro
 zc2)
 CTs.nil),
 PT.int IntKind.u64, PT.list zc9,
 PT.ents (VT.agg zc9)
 (VT.agg
 (CTs.cons (CT.ro zc6)
 (CTs.cons (CT.int IntKind.u64)
 (CTs.cons CT.bool
 (CTs.cons (CT.int IntKind.u64)
 (CTs.cons
 (CT.rom (CTs.cons (CT.int IntKind.u8) zc6)
 zc0)
 CTs.nil)))))),
 PT.ents (VT.agg zc9)
 (VT.agg
 (CTs.cons (CT.ro zc6)
 (CTs.cons (CT.int IntKind.u64)
 (CTs.cons CT.bool
 (CTs.cons (CT.int IntKind.u64)
 (CTs.cons
 (CT.rom (CTs.cons (CT.int IntKind.u8) zc6)
 zc0)
 CTs.nil))))))]
 (Option
 (List (Int64 × List UInt8) ×
 Option
 zt1)) →
 Option
 (List
 zt5) →
 UInt64 →
 List (Int64 × List UInt8) →
 List
 ((Int64 × List UInt8) ×
 List zt10 ×
 UInt64 ×
 Bool ×
 UInt64 ×
 List
 zt7) →
 List
 ((Int64 × List UInt8) ×
 List zt10 ×
 UInt64 ×
 Bool ×
 UInt64 ×
 List
 zt7) →
 Option
 (List (Int64 × List UInt8) ×
 Option
 zt1) := fun (n : Nat)
 (rec :
 Arr
 [PT.optC
 (CTs.cons
 (CT.ro
 zc2)
 CTs.nil),
 PT.int IntKind.u64, PT.list zc9,
 PT.ents (VT.agg zc9)
 (VT.agg
 (CTs.cons (CT.ro zc6)
 (CTs.cons (CT.int IntKind.u64)
 (CTs.cons CT.bool
 (CTs.cons (CT.int IntKind.u64)
 (CTs.cons
 (CT.rom (CTs.cons (CT.int IntKind.u8) zc6)
 zc0)
 CTs.nil)))))),
 PT.ents (VT.agg zc9)
 (VT.agg
 (CTs.cons (CT.ro zc6)
 (CTs.cons (CT.int IntKind.u64)
 (CTs.cons CT.bool
 (CTs.cons (CT.int IntKind.u64)
 (CTs.cons
 (CT.rom (CTs.cons (CT.int IntKind.u8) zc6)
 zc0)
 CTs.nil))))))]
 (Option
 (List (Int64 × List UInt8) ×
 Option
 zt1)))
 (c00 :
 Option
 (List
 zt5))
 (c02 : UInt64) (out : List (Int64 × List UInt8))
 (tm tr :
 List
 ((Int64 × List UInt8) ×
 List zt10 ×
 UInt64 ×
 Bool ×
 UInt64 ×
 List
 zt7)) =>
 oite (Nat.blt (0 : Nat) (List.length tr))
 (oallN (List.length tr) fun (j : Nat) =>
 obind tr[j]?
 fun
 (p :
 (Int64 × List UInt8) ×
 List zt10 ×
 UInt64 ×
 Bool ×
 UInt64 ×
 List
 zt7) =>
 oite
 (Nat.ble (List.length out + List.length [(p.1.1, p.1.2)]) (4294967296 : Nat))
 (rec c00 c02 (out ++ [(p.1.1, p.1.2)]) tm (List.eraseIdx tr j)) none)
 (obind (F47 n (out, ())) fun (x_2 : Unit × List (Int64 × List UInt8)) =>
 some (x_2.2, some (c00, tm, c02)))
noncomputable def F32_R29 : Nat →
 Nat →
 PT.T
 (PT.optC
 (CTs.cons
 (CT.ro
 zc2)
 CTs.nil)) →
 UInt64 →
 List (Int64 × List UInt8) →
 List
 ((Int64 × List UInt8) ×
 List zt10 ×
 UInt64 ×
 Bool ×
 UInt64 ×
 List
 zt7) →
 List
 ((Int64 × List UInt8) ×
 List zt10 ×
 UInt64 ×
 Bool ×
 UInt64 ×
 List
 zt7) →
 Option
 (List (Int64 × List UInt8) ×
 Option
 zt1) := fun (n : Nat) =>
 ofixA (29 : Nat)
 [PT.optC
 (CTs.cons
 (CT.ro
 zc2)
 CTs.nil),
 PT.int IntKind.u64, PT.list zc9,
 PT.ents (VT.agg zc9)
 (VT.agg
 (CTs.cons (CT.ro zc6)
 (CTs.cons (CT.int IntKind.u64)
 (CTs.cons CT.bool
 (CTs.cons (CT.int IntKind.u64)
 (CTs.cons
 (CT.rom (CTs.cons (CT.int IntKind.u8) zc6)
 zc0)
 CTs.nil)))))),
 PT.ents (VT.agg zc9)
 (VT.agg
 (CTs.cons (CT.ro zc6)
 (CTs.cons (CT.int IntKind.u64)
 (CTs.cons CT.bool
 (CTs.cons (CT.int IntKind.u64)
 (CTs.cons
 (CT.rom (CTs.cons (CT.int IntKind.u8) zc6)
 zc0)
 CTs.nil))))))]
 (F32_L29 n)
noncomputable def F32 : Nat →
 Option
 zt1 →
 Option
 (List (Int64 × List UInt8) ×
 Option
 zt1) := fun (n : Nat)
 (x :
 Option
 zt1) =>
 obind x
 fun
 (x_1 :
 Option
 (List
 zt5) ×
 List
 ((Int64 × List UInt8) ×
 List zt10 ×
 UInt64 ×
 Bool ×
 UInt64 ×
 List
 zt7) ×
 UInt64) =>
 F32_R29 n n x_1.1 x_1.2.2 [] x_1.2.1 x_1.2.1
theorem F32_R29_s (n : Nat) (m_ : Nat) : F32_R29 n (m_ + 1) = F32_L29 n (F32_R29 n m_) := rfl
theorem ok32 (n : Nat) : FunOK Try.prog ⟨32, sig32, F32 n⟩ :=
 fun_ok (hints := ⟨[], [(29, ⟨[(3, .one (.own 1)), (9, .one (.own 2))], [(0, .cells [.rop (.cons (.ro zc8) .nil), .own 3, .int .u64]), (1, .row zc15), (2, .miter 3 (.agg zc15) (.agg (.cons (.ro zc12) (.cons (.int .u64) (.cons .bool (.cons (.int .u64) (.cons (.rom (.cons (.int .u8) zc12) zc4) .nil)))))))], 4⟩)]⟩) (fuel := n) (c := Try.f32.body.getD .skip) (rs := Try.f32.results.toList) tt_ok mix (FsOK.cons (ok47 n) (FsOK.cons (ok48 n) (FsOK.nil))) Try.func32 (by kernel_rfl) (by kernel_rfl) rfl (by kernel_rfl) rfl rfl (by kernel_rfl)
-- slices.Clone[[]watchfire/api.Alert,watchfire/api.Alert]
def sig65 : Sig := ⟨(.cons (.one (.c (.ro zc4))) .nil), (.cons (.one (.row zc4)) .nil)⟩
def F65 (n : Nat) (xs : List (CTs.T zc4)) : Option (List (CTs.T zc4) × Unit) := cloneF zc4 xs
theorem ok65 (n : Nat) : FunOK Try.prog ⟨65, sig65, F65 n⟩ :=
 clone_ok (c := Try.f65.body.getD .skip) (rs := Try.f65.results.toList) tt_ok mix Try.func65 (by kernel_rfl) rfl (by kernel_rfl) rfl rfl ⟨rfl, rfl, rfl⟩ ⟨rfl, rfl, rfl⟩ ⟨rfl, rfl, rfl⟩ (by kernel_rfl) (by kernel_rfl) (fun xs => by kernel_rfl)
-- cmp.isNaN[uint8]
def sig35 : Sig := ⟨(.cons (.one (.c (.int .u8))) .nil), (.cons (.one (.c .bool)) .nil)⟩
def F35 : Nat → UInt8 → Option (Bool × Unit) := fun (n : Nat) (x : UInt8) => some (!decide (x = x), ())
theorem ok35 (n : Nat) : FunOK Try.prog ⟨35, sig35, F35 n⟩ :=
 fun_ok (hints := ⟨[], []⟩) (fuel := n) (c := Try.f35.body.getD .skip) (rs := Try.f35.results.toList) tt_ok mix (FsOK.nil) Try.func35 (by kernel_rfl) (by kernel_rfl) rfl (by kernel_rfl) rfl rfl (by kernel_rfl)
-- cmp.Compare[uint8]
def sig19 : Sig := ⟨(.cons (.one (.c (.int .u8))) (.cons (.one (.c (.int .u8))) .nil)), (.cons (.one (.c (.int .i64))) .nil)⟩
def F19 : Nat → UInt8 × UInt8 → Option (Int64 × Unit) := fun (n : Nat) (x : UInt8 × UInt8) =>
 obind (F35 n x.1) fun (x_1 : Bool × Unit) =>
 obind (F35 n x.2) fun (x_2 : Bool × Unit) =>
 oite x_1.1 (oite x_2.1 (some ((0 : Int64), ())) (some ((-1 : Int64), ())))
 (oite x_2.1 (some ((1 : Int64), ()))
 (oite (decide (x.1 < x.2)) (some ((-1 : Int64), ()))
 (oite (decide (x.2 < x.1)) (some ((1 : Int64), ()))
 (some ((0 : Int64), ())))))
theorem ok19 (n : Nat) : FunOK Try.prog ⟨19, sig19, F19 n⟩ :=
 fun_ok (hints := ⟨[], []⟩) (fuel := n) (c := Try.f19.body.getD .skip) (rs := Try.f19.results.toList) tt_ok mix (FsOK.cons (ok35 n) (FsOK.nil)) Try.func19 (by kernel_rfl) (by kernel_rfl) rfl (by kernel_rfl) rfl rfl (by kernel_rfl)
-- watchfire/lab.Compare$1
def sig38 : Sig := ⟨(.cons (.agg zc12) (.cons (.agg zc12) .nil)), (.cons (.one (.c (.int .i64))) .nil)⟩
def F38 : Nat → zt10 × List UInt8 × List UInt8 → Option (Int64 × Unit) := fun (n : Nat) (x : zt10 × List UInt8 × List UInt8) =>
 obind (F20 n (x.1.1, x.2.1)) fun (x_1 : Int64 × Unit) =>
 obind (F20 n (x.1.2, x.2.2)) fun (x_2 : Int64 × Unit) =>
 obind (F18 n [x_1.1, x_2.1]) fun (x_3 : Int64 × Unit) => some (x_3.1, ())
theorem ok38 (n : Nat) : FunOK Try.prog ⟨38, sig38, F38 n⟩ :=
 fun_ok (hints := ⟨[], []⟩) (fuel := n) (c := Try.f38.body.getD .skip) (rs := Try.f38.results.toList) tt_ok mix (FsOK.cons (ok20 n) (FsOK.cons (ok18 n) (FsOK.nil))) Try.func38 (by kernel_rfl) (by kernel_rfl) rfl (by kernel_rfl) rfl rfl (by kernel_rfl)
-- slices.CompareFunc[[]watchfire/api.Pair,[]watchfire/api.Pair,watchfire/api.Pair,watchfire/api.Pair]
def sig37 : Sig := ⟨(.cons (.one (.c (.ro zc12))) (.cons (.one (.c (.ro zc12))) (.cons (.one (.c (.fn 38))) .nil))), (.cons (.one (.c (.int .i64))) .nil)⟩
def F37_L13 : Nat →
 Arr
 [PT.list zc6, PT.list zc6,
 PT.list zc6, PT.int IntKind.i64, PT.int IntKind.i64]
 (Option (Int64 × Unit)) →
 List zt10 →
 List zt10 → List zt10 → Int64 → Int64 → Option (Int64 × Unit) := fun (n : Nat)
 (rec :
 Arr
 [PT.list zc6, PT.list zc6,
 PT.list zc6, PT.int IntKind.i64, PT.int IntKind.i64]
 (Option (Int64 × Unit)))
 (s1 s2 t : List zt10) (t_1 t_2 : Int64) =>
 oite (decide (t_2 < t_1))
 (obind (at? t (Int64.toInt t_2)) fun (x_1 : List UInt8 × List UInt8) =>
 oite (decide (Int64.ofInt ↑(List.length s2) ≤ t_2)) (some ((1 : Int64), ()))
 (obind (at? s2 (Int64.toInt t_2)) fun (x_2 : List UInt8 × List UInt8) =>
 obind (F38 n ((x_1.1, x_1.2), x_2.1, x_2.2)) fun (x_3 : Int64 × Unit) =>
 oite (!decide (x_3.1 = (0 : Int64))) (some (x_3.1, ()))
 (rec s1 s2 t t_1 (t_2 + (1 : Int64)))))
 (oite (decide (Int64.ofInt ↑(List.length s1) < Int64.ofInt ↑(List.length s2))) (some ((-1 : Int64), ()))
 (some ((0 : Int64), ())))
def F37_R13 : Nat →
 Nat →
 PT.T (PT.list zc6) →
 List zt10 → List zt10 → Int64 → Int64 → Option (Int64 × Unit) := fun (n : Nat) =>
 ofixA (13 : Nat)
 [PT.list zc6, PT.list zc6,
 PT.list zc6, PT.int IntKind.i64, PT.int IntKind.i64]
 (F37_L13 n)
def F37 : Nat → List zt10 × List zt10 × Unit → Option (Int64 × Unit) := fun (n : Nat) (x : List zt10 × List zt10 × Unit) =>
 F37_R13 n n x.1 x.2.1 x.1 (Int64.ofInt ↑(List.length x.1)) (0 : Int64)
theorem F37_R13_s (n : Nat) (m_ : Nat) : F37_R13 n (m_ + 1) = F37_L13 n (F37_R13 n m_) := rfl
theorem ok37 (n : Nat) : FunOK Try.prog ⟨37, sig37, F37 n⟩ :=
 fun_ok (hints := ⟨[], [(13, ⟨[(0, .one (.ro zc12)), (1, .one (.ro zc12)), (2, .one (.fn 38)), (11, .one (.ro zc12)), (12, .one (.int .i64)), (13, .one (.int .i64))], [], 3⟩)]⟩) (fuel := n) (c := Try.f37.body.getD .skip) (rs := Try.f37.results.toList) tt_ok mix (FsOK.cons (ok38 n) (FsOK.nil)) Try.func37 (by kernel_rfl) (by kernel_rfl) rfl (by kernel_rfl) rfl rfl (by kernel_rfl)
-- watchfire/lab.Compare
def sig21 : Sig := ⟨(.cons (.one (.c (.ro zc12))) (.cons (.one (.c (.ro zc12))) .nil)), (.cons (.one (.c (.int .i64))) .nil)⟩
def F21 : Nat → List zt10 × List zt10 → Option (Int64 × Unit) := fun (n : Nat) (x : List zt10 × List zt10) =>
 obind (F37 n (x.1, x.2, ())) fun (x_1 : Int64 × Unit) => some (x_1.1, ())
theorem ok21 (n : Nat) : FunOK Try.prog ⟨21, sig21, F21 n⟩ :=
 fun_ok (hints := ⟨[], []⟩) (fuel := n) (c := Try.f21.body.getD .skip) (rs := Try.f21.results.toList) tt_ok mix (FsOK.cons (ok37 n) (FsOK.cons (ok38 n) (FsOK.nil))) Try.func21 (by kernel_rfl) (by kernel_rfl) rfl (by kernel_rfl) rfl rfl (by kernel_rfl)
-- watchfire/group.Compare
def sig8 : Sig := ⟨(.cons (.agg zc4) (.cons (.agg zc4) .nil)), (.cons (.one (.c (.int .i64))) .nil)⟩
def F8 : Nat →
 zt3 ×
 UInt8 × List UInt8 × List zt10 × UInt8 × UInt64 × UInt8 × Int64 →
 Option (Int64 × Unit) := fun (n : Nat)
 (x :
 zt3 ×
 UInt8 × List UInt8 × List zt10 × UInt8 × UInt64 × UInt8 × Int64) =>
 obind (F19 n (x.1.1, x.2.1)) fun (x_1 : Int64 × Unit) =>
 obind (F20 n (x.1.2.1, x.2.2.1)) fun (x_2 : Int64 × Unit) =>
 obind (F21 n (x.1.2.2.1, x.2.2.2.1))
 fun (x_3 : Int64 × Unit) =>
 obind (F18 n [x_1.1, x_2.1, x_3.1]) fun (x_4 : Int64 × Unit) =>
 some (x_4.1, ())
theorem ok8 (n : Nat) : FunOK Try.prog ⟨8, sig8, F8 n⟩ :=
 fun_ok (hints := ⟨[], []⟩) (fuel := n) (c := Try.f8.body.getD .skip) (rs := Try.f8.results.toList) tt_ok mix (FsOK.cons (ok19 n) (FsOK.cons (ok20 n) (FsOK.cons (ok21 n) (FsOK.cons (ok18 n) (FsOK.nil))))) Try.func8 (by kernel_rfl) (by kernel_rfl) rfl (by kernel_rfl) rfl rfl (by kernel_rfl)
-- slices.insertionSortCmpFunc[watchfire/api.Alert]
def sig92 : Sig := ⟨(.cons (.one (.row zc4)) (.cons (.one (.c (.int .i64))) (.cons (.one (.c (.int .i64))) (.cons (.one (.c (.fn 8))) .nil)))), .nil⟩
def F92_L53 : Nat →
 Arr
 [PT.int IntKind.i64, PT.int IntKind.i64, PT.int IntKind.i64,
 PT.list
 zc0]
 (Option (Unit × List zt3)) →
 Arr
 [PT.int IntKind.i64, PT.int IntKind.i64, PT.int IntKind.i64, PT.int IntKind.i64,
 PT.list
 zc0]
 (Option (Unit × List zt3)) →
 Int64 →
 Int64 →
 Int64 →
 Int64 →
 List zt3 →
 Option
 (Unit × List zt3) := fun (n : Nat)
 (rec :
 Arr
 [PT.int IntKind.i64, PT.int IntKind.i64, PT.int IntKind.i64,
 PT.list
 zc0]
 (Option (Unit × List zt3)))
 (rec_1 :
 Arr
 [PT.int IntKind.i64, PT.int IntKind.i64, PT.int IntKind.i64, PT.int IntKind.i64,
 PT.list
 zc0]
 (Option (Unit × List zt3)))
 (a_1 b_1 i_1 j : Int64)
 (data_1 : List zt3) =>
 oite (decide (a_1 < j))
 (oite (decide ((0 : Int) ≤ Int64.toInt j) && Nat.blt (Int.toNat (Int64.toInt j)) (List.length data_1))
 (obind data_1[Int.toNat (Int64.toInt j)]?
 fun (x_1 : UInt8 × List UInt8 × List zt10 × UInt8 × UInt64 × UInt8 × Int64) =>
 oite
 (decide ((0 : Int) ≤ Int64.toInt (j - (1 : Int64))) &&
 Nat.blt (Int.toNat (Int64.toInt (j - (1 : Int64)))) (List.length data_1))
 (obind data_1[Int.toNat (Int64.toInt (j - (1 : Int64)))]?
 fun (x_2 : UInt8 × List UInt8 × List zt10 × UInt8 × UInt64 × UInt8 × Int64) =>
 obind
 (F8 n
 ((x_1.1, x_1.2.1, x_1.2.2.1,
 x_1.2.2.2.1,
 x_1.2.2.2.2.1,
 x_1.2.2.2.2.2.1,
 x_1.2.2.2.2.2.2),
 x_2.1, x_2.2.1, x_2.2.2.1,
 x_2.2.2.2.1,
 x_2.2.2.2.2.1,
 x_2.2.2.2.2.2.1,
 x_2.2.2.2.2.2.2))
 fun (x_3 : Int64 × Unit) =>
 oite (decide (x_3.1 < (0 : Int64)))
 (oite
 (decide ((0 : Int) ≤ Int64.toInt (j - (1 : Int64))) &&
 Nat.blt (Int.toNat (Int64.toInt (j - (1 : Int64)))) (List.length data_1))
 (obind data_1[Int.toNat (Int64.toInt (j - (1 : Int64)))]?
 fun (x_4 : UInt8 × List UInt8 × List zt10 × UInt8 × UInt64 × UInt8 × Int64) =>
 oite
 (decide ((0 : Int) ≤ Int64.toInt j) && Nat.blt (Int.toNat (Int64.toInt j)) (List.length data_1))
 (obind data_1[Int.toNat (Int64.toInt j)]?
 fun
 (x_5 :
 UInt8 × List UInt8 × List zt10 × UInt8 × UInt64 × UInt8 × Int64) =>
 oite
 (decide ((0 : Int) ≤ Int64.toInt j) &&
 Nat.blt (Int.toNat (Int64.toInt j)) (List.length data_1))
 (obind data_1[Int.toNat (Int64.toInt j)]?
 fun
 (x_6 :
 UInt8 × List UInt8 × List zt10 × UInt8 × UInt64 × UInt8 × Int64) =>
 oite
 (decide ((0 : Int) ≤ Int64.toInt (j - (1 : Int64))) &&
 Nat.blt (Int.toNat (Int64.toInt (j - (1 : Int64))))
 (List.length
 (List.set data_1 (Int.toNat (Int64.toInt j))
 (x_4.1, x_4.2.1, x_4.2.2.1,
 x_4.2.2.2.1,
 x_4.2.2.2.2.1,
 x_4.2.2.2.2.2.1,
 x_4.2.2.2.2.2.2))))
 (obind
 (List.set data_1 (Int.toNat (Int64.toInt j))
 (x_4.1, x_4.2.1, x_4.2.2.1,
 x_4.2.2.2.1,
 x_4.2.2.2.2.1,
 x_4.2.2.2.2.2.1,
 x_4.2.2.2.2.2.2))[Int.toNat (Int64.toInt (j - (1 : Int64)))]?
 fun
 (x_7 :
 UInt8 ×
 List UInt8 × List zt10 × UInt8 × UInt64 × UInt8 × Int64) =>
 rec_1 a_1 b_1 i_1 (j - (1 : Int64))
 (List.set
 (List.set data_1 (Int.toNat (Int64.toInt j))
 (x_4.1, x_4.2.1, x_4.2.2.1,
 x_4.2.2.2.1,
 x_4.2.2.2.2.1,
 x_4.2.2.2.2.2.1,
 x_4.2.2.2.2.2.2))
 (Int.toNat (Int64.toInt (j - (1 : Int64))))
 (x_5.1, x_5.2.1, x_5.2.2.1,
 x_5.2.2.2.1,
 x_5.2.2.2.2.1,
 x_5.2.2.2.2.2.1,
 x_5.2.2.2.2.2.2)))
 none)
 none)
 none)
 none)
 (rec a_1 b_1 (i_1 + (1 : Int64)) data_1))
 none)
 none)
 (rec a_1 b_1 (i_1 + (1 : Int64)) data_1)
def F92_R53 : Nat →
 Arr
 [PT.int IntKind.i64, PT.int IntKind.i64, PT.int IntKind.i64,
 PT.list
 zc0]
 (Option (Unit × List zt3)) →
 Nat →
 PT.T (PT.int IntKind.i64) →
 Int64 →
 Int64 →
 Int64 →
 List zt3 →
 Option
 (Unit × List zt3) := fun (n : Nat)
 (rec :
 Arr
 [PT.int IntKind.i64, PT.int IntKind.i64, PT.int IntKind.i64,
 PT.list
 zc0]
 (Option
 (Unit × List zt3))) =>
 ofixA (53 : Nat)
 [PT.int IntKind.i64, PT.int IntKind.i64, PT.int IntKind.i64, PT.int IntKind.i64,
 PT.list
 zc0]
 (F92_L53 n rec)
def F92_L3 : Nat →
 Arr
 [PT.int IntKind.i64, PT.int IntKind.i64, PT.int IntKind.i64,
 PT.list
 zc0]
 (Option (Unit × List zt3)) →
 Int64 →
 Int64 →
 Int64 →
 List zt3 →
 Option (Unit × List zt3) := fun (n : Nat)
 (rec :
 Arr
 [PT.int IntKind.i64, PT.int IntKind.i64, PT.int IntKind.i64,
 PT.list
 zc0]
 (Option (Unit × List zt3)))
 (a b i : Int64)
 (data : List zt3) =>
 oite (decide (i < b)) (F92_R53 n rec n a b i i data) (some ((), data))
def F92_R3 : Nat →
 Nat →
 PT.T (PT.int IntKind.i64) →
 Int64 →
 Int64 →
 List zt3 →
 Option (Unit × List zt3) := fun (n : Nat) =>
 ofixA (3 : Nat)
 [PT.int IntKind.i64, PT.int IntKind.i64, PT.int IntKind.i64,
 PT.list
 zc0]
 (F92_L3 n)
def F92 : Nat →
 List zt3 × Int64 × Int64 × Unit →
 Option (Unit × List zt3) := fun (n : Nat)
 (x :
 List zt3 ×
 Int64 × Int64 × Unit) =>
 F92_R3 n n x.2.1 x.2.2.1 (x.2.1 + (1 : Int64))
 x.1
theorem F92_R53_s (n : Nat) (rec : Arr [PT.int IntKind.i64, PT.int IntKind.i64, PT.int IntKind.i64, PT.list zc0] (Option (Unit × List zt3))) (m_ : Nat) : F92_R53 n rec (m_ + 1) = F92_L53 n rec (F92_R53 n rec m_) := rfl
theorem F92_R3_s (n : Nat) (m_ : Nat) : F92_R3 n (m_ + 1) = F92_L3 n (F92_R3 n m_) := rfl
theorem ok92 (n : Nat) : FunOK Try.prog ⟨92, sig92, F92 n⟩ :=
 fun_ok (hints := ⟨[], [(3, ⟨[(0, .one (.own 0)), (1, .one (.int .i64)), (2, .one (.int .i64)), (3, .one (.fn 8)), (8, .one (.int .i64))], [(0, .row zc4)], 4⟩), (53, ⟨[(0, .one (.own 0)), (1, .one (.int .i64)), (2, .one (.int .i64)), (3, .one (.fn 8)), (8, .one (.int .i64)), (9, .one (.int .i64))], [(0, .row zc4)], 4⟩)]⟩) (fuel := n) (c := Try.f92.body.getD .skip) (rs := Try.f92.results.toList) tt_ok mix (FsOK.cons (ok8 n) (FsOK.nil)) Try.func92 (by kernel_rfl) (by kernel_rfl) rfl (by kernel_rfl) rfl rfl (by kernel_rfl)
-- slices.stableCmpFunc[watchfire/api.Alert]
def sig83 : Sig := ⟨(.cons (.one (.row zc4)) (.cons (.one (.c (.int .i64))) (.cons (.one (.c (.fn 8))) .nil))), .nil⟩
def F83_L502 : Arr
 [PT.int IntKind.i64, PT.int IntKind.i64,
 PT.list
 zc0]
 (Option (Unit × List zt3)) →
 Arr
 [PT.int IntKind.i64, PT.int IntKind.i64, PT.int IntKind.i64, PT.int IntKind.i64,
 PT.list
 zc0]
 (Option (Unit × List zt3)) →
 Int64 →
 Int64 →
 Int64 →
 Int64 →
 List zt3 →
 Option
 (Unit × List zt3) := fun
 (rec_1 :
 Arr
 [PT.int IntKind.i64, PT.int IntKind.i64,
 PT.list
 zc0]
 (Option (Unit × List zt3)))
 (rec_2 :
 Arr
 [PT.int IntKind.i64, PT.int IntKind.i64, PT.int IntKind.i64, PT.int IntKind.i64,
 PT.list
 zc0]
 (Option (Unit × List zt3)))
 (n__2 blockSize_2 a_1 b_1 : Int64)
 (data_2 : List zt3) =>
 oite (decide (b_1 ≤ n__2)) none
 (oite (decide (a_1 + blockSize_2 < n__2)) none (rec_1 n__2 (blockSize_2 * (2 : Int64)) data_2))
def F83_R502 : Arr
 [PT.int IntKind.i64, PT.int IntKind.i64,
 PT.list
 zc0]
 (Option (Unit × List zt3)) →
 Nat →
 PT.T (PT.int IntKind.i64) →
 Int64 →
 Int64 →
 Int64 →
 List zt3 →
 Option
 (Unit × List zt3) := fun
 (rec_1 :
 Arr
 [PT.int IntKind.i64, PT.int IntKind.i64,
 PT.list
 zc0]
 (Option
 (Unit × List zt3))) =>
 ofixA (502 : Nat)
 [PT.int IntKind.i64, PT.int IntKind.i64, PT.int IntKind.i64, PT.int IntKind.i64,
 PT.list
 zc0]
 (F83_L502 rec_1)
def F83_L31 : Nat →
 Arr
 [PT.int IntKind.i64, PT.int IntKind.i64,
 PT.list
 zc0]
 (Option (Unit × List zt3)) →
 Int64 →
 Int64 →
 List zt3 →
 Option (Unit × List zt3) := fun (n : Nat)
 (rec_1 :
 Arr
 [PT.int IntKind.i64, PT.int IntKind.i64,
 PT.list
 zc0]
 (Option (Unit × List zt3)))
 (n__1 blockSize_1 : Int64)
 (data_1 : List zt3) =>
 oite (decide (blockSize_1 < n__1)) (F83_R502 rec_1 n n__1 blockSize_1 (0 : Int64) ((2 : Int64) * blockSize_1) data_1)
 (some ((), data_1))
def F83_R31 : Nat →
 Nat →
 PT.T (PT.int IntKind.i64) →
 Int64 →
 List zt3 →
 Option (Unit × List zt3) := fun (n : Nat) =>
 ofixA (31 : Nat)
 [PT.int IntKind.i64, PT.int IntKind.i64,
 PT.list
 zc0]
 (F83_L31 n)
def F83_L14 : Nat →
 Arr
 [PT.int IntKind.i64, PT.int IntKind.i64, PT.int IntKind.i64, PT.int IntKind.i64,
 PT.list
 zc0]
 (Option (Unit × List zt3)) →
 Int64 →
 Int64 →
 Int64 →
 Int64 →
 List zt3 →
 Option
 (Unit × List zt3) := fun (n : Nat)
 (rec :
 Arr
 [PT.int IntKind.i64, PT.int IntKind.i64, PT.int IntKind.i64, PT.int IntKind.i64,
 PT.list
 zc0]
 (Option (Unit × List zt3)))
 (n_ blockSize a b : Int64)
 (data : List zt3) =>
 oite (decide (b ≤ n_))
 (obind (F92 n (data, a, b, ()))
 fun (x_1 : Unit × List zt3) =>
 rec n_ blockSize b (b + blockSize) x_1.2)
 (obind (F92 n (data, a, n_, ()))
 fun (x_1 : Unit × List zt3) =>
 F83_R31 n n n_ blockSize x_1.2)
def F83_R14 : Nat →
 Nat →
 PT.T (PT.int IntKind.i64) →
 Int64 →
 Int64 →
 Int64 →
 List zt3 →
 Option
 (Unit × List zt3) := fun (n : Nat) =>
 ofixA (14 : Nat)
 [PT.int IntKind.i64, PT.int IntKind.i64, PT.int IntKind.i64, PT.int IntKind.i64,
 PT.list
 zc0]
 (F83_L14 n)
def F83 : Nat →
 List zt3 × Int64 × Unit →
 Option (Unit × List zt3) := fun (n : Nat)
 (x : List zt3 × Int64 × Unit) =>
 F83_R14 n n x.2.1 (20 : Int64) (0 : Int64) (20 : Int64) x.1
theorem F83_R502_s (rec_1 : Arr [PT.int IntKind.i64, PT.int IntKind.i64, PT.list zc0] (Option (Unit × List zt3))) (m_ : Nat) : F83_R502 rec_1 (m_ + 1) = F83_L502 rec_1 (F83_R502 rec_1 m_) := rfl
theorem F83_R31_s (n : Nat) (m_ : Nat) : F83_R31 n (m_ + 1) = F83_L31 n (F83_R31 n m_) := rfl
theorem F83_R14_s (n : Nat) (m_ : Nat) : F83_R14 n (m_ + 1) = F83_L14 n (F83_R14 n m_) := rfl
theorem ok83 (n : Nat) : FunOK Try.prog ⟨83, sig83, F83 n⟩ :=
 fun_ok (hints := ⟨[], [(14, ⟨[(0, .one (.own 0)), (1, .one (.int .i64)), (2, .one (.fn 8)), (6, .one (.int .i64)), (7, .one (.int .i64)), (8, .one (.int .i64))], [(0, .row zc4)], 3⟩), (31, ⟨[(0, .one (.own 0)), (1, .one (.int .i64)), (2, .one (.fn 8)), (6, .one (.int .i64))], [(0, .row zc4)], 3⟩), (502, ⟨[(0, .one (.own 0)), (1, .one (.int .i64)), (2, .one (.fn 8)), (6, .one (.int .i64)), (7, .one (.int .i64)), (8, .one (.int .i64))], [(0, .row zc4)], 3⟩)]⟩) (fuel := n) (c := Try.f83.body.getD .skip) (rs := Try.f83.results.toList) tt_ok mix (FsOK.cons (ok92 n) (FsOK.cons (ok8 n) (FsOK.nil))) Try.func83 (by kernel_rfl) (by kernel_rfl) rfl (by kernel_rfl) rfl rfl (by kernel_rfl)
-- slices.SortStableFunc[[]watchfire/api.Alert,watchfire/api.Alert]
def sig66 : Sig := ⟨(.cons (.one (.row zc4)) (.cons (.one (.c (.fn 8))) .nil)), .nil⟩
def F66 : Nat →
 List zt3 × Unit →
 Option (Unit × List zt3) := fun (n : Nat)
 (x : List zt3 × Unit) =>
 obind (F83 n (x.1, Int64.ofInt ↑(List.length x.1), ()))
 fun (x_1 : Unit × List zt3) =>
 some ((), x_1.2)
theorem ok66 (n : Nat) : FunOK Try.prog ⟨66, sig66, F66 n⟩ :=
 fun_ok (hints := ⟨[], []⟩) (fuel := n) (c := Try.f66.body.getD .skip) (rs := Try.f66.results.toList) tt_ok mix (FsOK.cons (ok83 n) (FsOK.cons (ok8 n) (FsOK.nil))) Try.func66 (by kernel_rfl) (by kernel_rfl) rfl (by kernel_rfl) rfl rfl (by kernel_rfl)
-- (watchfire/group.state).content
def sig50 : Sig := ⟨(.cons (.agg (.cons (.ro zc12) (.cons (.int .u64) (.cons .bool (.cons (.int .u64) (.cons (.rom (.cons (.int .u8) zc12) zc4) .nil)))))) (.cons (.one (.c (.ro zc4))) (.cons (.one (.c (.rom (.cons (.int .u8) zc12) zc4))) .nil))), (.cons (.one (.c (.ro zc4))) (.cons (.one (.c .bool)) .nil))⟩
noncomputable def F50_J4015 : Arr
 [PT.ents (VT.agg (CTs.cons (CT.int IntKind.u8) zc6))
 (VT.agg
 zc0),
 PT.bool,
 PT.list
 zc0,
 PT.ents (VT.agg (CTs.cons (CT.int IntKind.u8) zc6))
 (VT.agg
 zc0)]
 (Option
 ((List zt3 × Bool) × Unit)) →
 List
 zt7 →
 Bool →
 Bool →
 Bool →
 List zt3 →
 UInt8 →
 List UInt8 →
 List zt10 →
 UInt8 →
 UInt64 →
 UInt8 →
 Int64 →
 UInt8 →
 List UInt8 →
 List zt10 →
 UInt8 →
 UInt64 →
 UInt8 →
 Int64 →
 List
 zt7 →
 Option
 ((List
 zt3 ×
 Bool) ×
 Unit) := fun
 (rec_1 :
 Arr
 [PT.ents (VT.agg (CTs.cons (CT.int IntKind.u8) zc6))
 (VT.agg
 zc0),
 PT.bool,
 PT.list
 zc0,
 PT.ents (VT.agg (CTs.cons (CT.int IntKind.u8) zc6))
 (VT.agg
 zc0)]
 (Option
 ((List zt3 × Bool) ×
 Unit)))
 (states_2 :
 List
 zt7)
 (changed_2 is_ t_3 : Bool)
 (tell_2 : List zt3)
 (old0 : UInt8) (old1 : List UInt8) (old2 : List zt10) (old3 : UInt8) (old4 : UInt64)
 (old5 : UInt8) (old6 : Int64) (a0 : UInt8) (a1 : List UInt8) (a2 : List zt10) (a3 : UInt8)
 (a4 : UInt64) (a5 : UInt8) (a6 : Int64)
 (tr_1 :
 List
 zt7) =>
 oite t_3
 (oite (!is_)
 (oite
 (Nat.ble (List.length tell_2 + List.length [(old0, old1, old2, (0 : UInt8), old4, old5, old6)])
 (4294967296 : Nat))
 (rec_1 states_2 true (tell_2 ++ [(old0, old1, old2, (0 : UInt8), old4, old5, old6)]) tr_1) none)
 (oite (Nat.ble (List.length tell_2 + List.length [(a0, a1, a2, a3, a4, a5, a6)]) (4294967296 : Nat))
 (rec_1 states_2 true (tell_2 ++ [(a0, a1, a2, a3, a4, a5, a6)]) tr_1) none))
 (rec_1 states_2 changed_2 tell_2 tr_1)
noncomputable def F50_L125 : Nat →
 Arr
 [PT.ents (VT.agg (CTs.cons (CT.int IntKind.u8) zc6))
 (VT.agg
 zc0),
 PT.bool,
 PT.list
 zc0,
 PT.ents (VT.agg (CTs.cons (CT.int IntKind.u8) zc6))
 (VT.agg
 zc0)]
 (Option
 ((List zt3 × Bool) ×
 Unit)) →
 List
 zt7 →
 Bool →
 List zt3 →
 List
 zt7 →
 Option
 ((List zt3 × Bool) ×
 Unit) := fun (n : Nat)
 (rec_1 :
 Arr
 [PT.ents (VT.agg (CTs.cons (CT.int IntKind.u8) zc6))
 (VT.agg
 zc0),
 PT.bool,
 PT.list
 zc0,
 PT.ents (VT.agg (CTs.cons (CT.int IntKind.u8) zc6))
 (VT.agg
 zc0)]
 (Option
 ((List zt3 × Bool) ×
 Unit)))
 (states_1 :
 List
 zt7)
 (changed_1 : Bool)
 (tell_1 : List zt3)
 (tr :
 List
 zt7) =>
 oite (Nat.blt (0 : Nat) (List.length tr))
 (oallN (List.length tr) fun (j : Nat) =>
 obind tr[j]?
 fun
 (p :
 (UInt8 × List UInt8 × List UInt8) ×
 UInt8 × List UInt8 × List zt10 × UInt8 × UInt64 × UInt8 × Int64) =>
 ojoinA (4015 : Nat)
 [PT.ents (VT.agg (CTs.cons (CT.int IntKind.u8) zc6))
 (VT.agg
 zc0),
 PT.bool, PT.bool, PT.bool,
 PT.list
 zc0,
 PT.int IntKind.u8, PT.bytes, PT.list zc6, PT.int IntKind.u8,
 PT.int IntKind.u64, PT.int IntKind.u8, PT.int IntKind.i64, PT.int IntKind.u8, PT.bytes,
 PT.list zc6, PT.int IntKind.u8, PT.int IntKind.u64,
 PT.int IntKind.u8, PT.int IntKind.i64,
 PT.ents (VT.agg (CTs.cons (CT.int IntKind.u8) zc6))
 (VT.agg
 zc0)]
 (fun
 (J :
 Arr
 [PT.ents (VT.agg (CTs.cons (CT.int IntKind.u8) zc6))
 (VT.agg
 zc0),
 PT.bool, PT.bool, PT.bool,
 PT.list
 zc0,
 PT.int IntKind.u8, PT.bytes, PT.list zc6, PT.int IntKind.u8,
 PT.int IntKind.u64, PT.int IntKind.u8, PT.int IntKind.i64, PT.int IntKind.u8, PT.bytes,
 PT.list zc6, PT.int IntKind.u8, PT.int IntKind.u64,
 PT.int IntKind.u8, PT.int IntKind.i64,
 PT.ents (VT.agg (CTs.cons (CT.int IntKind.u8) zc6))
 (VT.agg
 zc0)]
 (Option
 ((List zt3 ×
 Bool) ×
 Unit))) =>
 oite
 (!Option.isSome
 (mget (VT.agg (CTs.cons (CT.int IntKind.u8) zc6))
 (VT.agg
 zc0)
 (p.1.1, p.1.2.1, p.1.2.2)
 states_1))
 (J states_1 changed_1
 (Option.isSome
 (mget (VT.agg (CTs.cons (CT.int IntKind.u8) zc6))
 (VT.agg
 zc0)
 (p.1.1, p.1.2.1, p.1.2.2)
 states_1))
 true tell_1 p.2.1 p.2.2.1
 p.2.2.2.1 p.2.2.2.2.1
 p.2.2.2.2.2.1
 p.2.2.2.2.2.2.1
 p.2.2.2.2.2.2.2
 (Prod.fst (Option.getD
 (mget (VT.agg (CTs.cons (CT.int IntKind.u8) zc6))
 (VT.agg
 zc0)
 (p.1.1, p.1.2.1, p.1.2.2)
 states_1)
 ((0 : UInt8), @List.nil UInt8, @List.nil zt10, (0 : UInt8), (0 : UInt64),
 (0 : UInt8), (0 : Int64))))
 (Prod.fst (Prod.snd (Option.getD
 (mget (VT.agg (CTs.cons (CT.int IntKind.u8) zc6))
 (VT.agg
 zc0)
 (p.1.1, p.1.2.1, p.1.2.2)
 states_1)
 ((0 : UInt8), @List.nil UInt8, @List.nil zt10, (0 : UInt8), (0 : UInt64),
 (0 : UInt8), (0 : Int64)))))
 (Prod.fst (Prod.snd (Prod.snd (Option.getD
 (mget (VT.agg (CTs.cons (CT.int IntKind.u8) zc6))
 (VT.agg
 zc0)
 (p.1.1, p.1.2.1, p.1.2.2)
 states_1)
 ((0 : UInt8), @List.nil UInt8, @List.nil zt10, (0 : UInt8), (0 : UInt64),
 (0 : UInt8), (0 : Int64))))))
 (Prod.fst (Prod.snd (Prod.snd (Prod.snd (Option.getD
 (mget (VT.agg (CTs.cons (CT.int IntKind.u8) zc6))
 (VT.agg
 zc0)
 (p.1.1, p.1.2.1, p.1.2.2)
 states_1)
 ((0 : UInt8), @List.nil UInt8, @List.nil zt10, (0 : UInt8), (0 : UInt64),
 (0 : UInt8), (0 : Int64)))))))
 (Prod.fst (Prod.snd (Prod.snd (Prod.snd (Prod.snd (Option.getD
 (mget (VT.agg (CTs.cons (CT.int IntKind.u8) zc6))
 (VT.agg
 zc0)
 (p.1.1, p.1.2.1,
 p.1.2.2)
 states_1)
 ((0 : UInt8), @List.nil UInt8, @List.nil zt10, (0 : UInt8),
 (0 : UInt64), (0 : UInt8), (0 : Int64))))))))
 (Prod.fst (Prod.snd (Prod.snd (Prod.snd (Prod.snd (Prod.snd (Option.getD
 (mget (VT.agg (CTs.cons (CT.int IntKind.u8) zc6))
 (VT.agg
 zc0)
 (p.1.1, p.1.2.1,
 p.1.2.2)
 states_1)
 ((0 : UInt8), @List.nil UInt8, @List.nil zt10, (0 : UInt8),
 (0 : UInt64), (0 : UInt8), (0 : Int64)))))))))
 (Prod.snd (Prod.snd (Prod.snd (Prod.snd (Prod.snd (Prod.snd (Option.getD
 (mget (VT.agg (CTs.cons (CT.int IntKind.u8) zc6))
 (VT.agg
 zc0)
 (p.1.1, p.1.2.1,
 p.1.2.2)
 states_1)
 ((0 : UInt8), @List.nil UInt8, @List.nil zt10, (0 : UInt8),
 (0 : UInt64), (0 : UInt8), (0 : Int64)))))))))
 (List.eraseIdx tr j))
 (J states_1 changed_1
 (Option.isSome
 (mget (VT.agg (CTs.cons (CT.int IntKind.u8) zc6))
 (VT.agg
 zc0)
 (p.1.1, p.1.2.1, p.1.2.2)
 states_1))
 (decide
 (Prod.fst (Prod.snd (Prod.snd (Prod.snd (Option.getD
 (mget (VT.agg (CTs.cons (CT.int IntKind.u8) zc6))
 (VT.agg
 zc0)
 (p.1.1, p.1.2.1,
 p.1.2.2)
 states_1)
 ((0 : UInt8), @List.nil UInt8, @List.nil zt10, (0 : UInt8),
 (0 : UInt64), (0 : UInt8), (0 : Int64)))))) =
 (0 : UInt8)))
 tell_1 p.2.1 p.2.2.1
 p.2.2.2.1 p.2.2.2.2.1
 p.2.2.2.2.2.1
 p.2.2.2.2.2.2.1
 p.2.2.2.2.2.2.2
 (Prod.fst (Option.getD
 (mget (VT.agg (CTs.cons (CT.int IntKind.u8) zc6))
 (VT.agg
 zc0)
 (p.1.1, p.1.2.1, p.1.2.2)
 states_1)
 ((0 : UInt8), @List.nil UInt8, @List.nil zt10, (0 : UInt8), (0 : UInt64),
 (0 : UInt8), (0 : Int64))))
 (Prod.fst (Prod.snd (Option.getD
 (mget (VT.agg (CTs.cons (CT.int IntKind.u8) zc6))
 (VT.agg
 zc0)
 (p.1.1, p.1.2.1, p.1.2.2)
 states_1)
 ((0 : UInt8), @List.nil UInt8, @List.nil zt10, (0 : UInt8), (0 : UInt64),
 (0 : UInt8), (0 : Int64)))))
 (Prod.fst (Prod.snd (Prod.snd (Option.getD
 (mget (VT.agg (CTs.cons (CT.int IntKind.u8) zc6))
 (VT.agg
 zc0)
 (p.1.1, p.1.2.1, p.1.2.2)
 states_1)
 ((0 : UInt8), @List.nil UInt8, @List.nil zt10, (0 : UInt8), (0 : UInt64),
 (0 : UInt8), (0 : Int64))))))
 (Prod.fst (Prod.snd (Prod.snd (Prod.snd (Option.getD
 (mget (VT.agg (CTs.cons (CT.int IntKind.u8) zc6))
 (VT.agg
 zc0)
 (p.1.1, p.1.2.1, p.1.2.2)
 states_1)
 ((0 : UInt8), @List.nil UInt8, @List.nil zt10, (0 : UInt8), (0 : UInt64),
 (0 : UInt8), (0 : Int64)))))))
 (Prod.fst (Prod.snd (Prod.snd (Prod.snd (Prod.snd (Option.getD
 (mget (VT.agg (CTs.cons (CT.int IntKind.u8) zc6))
 (VT.agg
 zc0)
 (p.1.1, p.1.2.1,
 p.1.2.2)
 states_1)
 ((0 : UInt8), @List.nil UInt8, @List.nil zt10, (0 : UInt8),
 (0 : UInt64), (0 : UInt8), (0 : Int64))))))))
 (Prod.fst (Prod.snd (Prod.snd (Prod.snd (Prod.snd (Prod.snd (Option.getD
 (mget (VT.agg (CTs.cons (CT.int IntKind.u8) zc6))
 (VT.agg
 zc0)
 (p.1.1, p.1.2.1,
 p.1.2.2)
 states_1)
 ((0 : UInt8), @List.nil UInt8, @List.nil zt10, (0 : UInt8),
 (0 : UInt64), (0 : UInt8), (0 : Int64)))))))))
 (Prod.snd (Prod.snd (Prod.snd (Prod.snd (Prod.snd (Prod.snd (Option.getD
 (mget (VT.agg (CTs.cons (CT.int IntKind.u8) zc6))
 (VT.agg
 zc0)
 (p.1.1, p.1.2.1,
 p.1.2.2)
 states_1)
 ((0 : UInt8), @List.nil UInt8, @List.nil zt10, (0 : UInt8),
 (0 : UInt64), (0 : UInt8), (0 : Int64)))))))))
 (List.eraseIdx tr j)))
 (F50_J4015 rec_1))
 (obind (F66 n (tell_1, ()))
 fun (x_2 : Unit × List zt3) =>
 some ((x_2.2, changed_1), ()))
noncomputable def F50_R125 : Nat →
 Nat →
 PT.T
 (PT.ents (VT.agg (CTs.cons (CT.int IntKind.u8) zc6))
 (VT.agg
 zc0)) →
 Bool →
 List zt3 →
 List
 zt7 →
 Option
 ((List zt3 × Bool) ×
 Unit) := fun (n : Nat) =>
 ofixA (125 : Nat)
 [PT.ents (VT.agg (CTs.cons (CT.int IntKind.u8) zc6))
 (VT.agg
 zc0),
 PT.bool,
 PT.list
 zc0,
 PT.ents (VT.agg (CTs.cons (CT.int IntKind.u8) zc6))
 (VT.agg
 zc0)]
 (F50_L125 n)
noncomputable def F50_L61 : Nat →
 Arr
 [PT.ents (VT.agg (CTs.cons (CT.int IntKind.u8) zc6))
 (VT.agg
 zc0),
 PT.bool,
 PT.list
 zc0,
 PT.int IntKind.i64, PT.int IntKind.i64, PT.list zc6, PT.int IntKind.u64,
 PT.bool, PT.int IntKind.u64,
 PT.ents (VT.agg (CTs.cons (CT.int IntKind.u8) zc6))
 (VT.agg
 zc0),
 PT.list
 zc0]
 (Option
 ((List zt3 × Bool) ×
 Unit)) →
 List
 zt7 →
 Bool →
 List zt3 →
 Int64 →
 Int64 →
 List zt10 →
 UInt64 →
 Bool →
 UInt64 →
 List
 zt7 →
 List zt3 →
 Option
 ((List
 zt3 ×
 Bool) ×
 Unit) := fun (n : Nat)
 (rec :
 Arr
 [PT.ents (VT.agg (CTs.cons (CT.int IntKind.u8) zc6))
 (VT.agg
 zc0),
 PT.bool,
 PT.list
 zc0,
 PT.int IntKind.i64, PT.int IntKind.i64, PT.list zc6,
 PT.int IntKind.u64, PT.bool, PT.int IntKind.u64,
 PT.ents (VT.agg (CTs.cons (CT.int IntKind.u8) zc6))
 (VT.agg
 zc0),
 PT.list
 zc0]
 (Option
 ((List zt3 × Bool) ×
 Unit)))
 (states :
 List
 zt7)
 (changed : Bool) (t : List zt3)
 (t_1 t_2 : Int64) (s0 : List zt10) (s1 : UInt64) (s2 : Bool) (s3 : UInt64)
 (s4 :
 List
 zt7)
 (tell : List zt3) =>
 oite (decide (t_2 < t_1))
 (obind (at? t (Int64.toInt t_2))
 fun (x_2 : UInt8 × List UInt8 × List zt10 × UInt8 × UInt64 × UInt8 × Int64) =>
 obind
 (F31 n
 (x_2.1, x_2.2.1, x_2.2.2.1,
 x_2.2.2.2.1, x_2.2.2.2.2.1,
 x_2.2.2.2.2.2.1,
 x_2.2.2.2.2.2.2))
 fun (x_3 : (UInt8 × List UInt8 × List UInt8) × Unit) =>
 oite changed (rec states true t t_1 (t_2 + (1 : Int64)) s0 s1 s2 s3 s4 tell)
 (oite
 (!Option.isSome
 (mget (VT.agg (CTs.cons (CT.int IntKind.u8) zc6))
 (VT.agg
 zc0)
 (x_3.1.1, x_3.1.2.1, x_3.1.2.2) s4))
 (rec states true t t_1 (t_2 + (1 : Int64)) s0 s1 s2 s3 s4 tell)
 (rec states
 (!decide
 (Prod.fst (Prod.snd (Prod.snd (Prod.snd (Option.getD
 (mget (VT.agg (CTs.cons (CT.int IntKind.u8) zc6))
 (VT.agg
 zc0)
 (x_3.1.1, x_3.1.2.1,
 x_3.1.2.2)
 s4)
 ((0 : UInt8), @List.nil UInt8, @List.nil zt10, (0 : UInt8),
 (0 : UInt64), (0 : UInt8), (0 : Int64)))))) =
 x_2.2.2.2.1))
 t t_1 (t_2 + (1 : Int64)) s0 s1 s2 s3 s4 tell)))
 (F50_R125 n n states changed tell s4)
noncomputable def F50_R61 : Nat →
 Nat →
 PT.T
 (PT.ents (VT.agg (CTs.cons (CT.int IntKind.u8) zc6))
 (VT.agg
 zc0)) →
 Bool →
 List zt3 →
 Int64 →
 Int64 →
 List zt10 →
 UInt64 →
 Bool →
 UInt64 →
 List
 zt7 →
 List zt3 →
 Option
 ((List
 zt3 ×
 Bool) ×
 Unit) := fun (n : Nat) =>
 ofixA (61 : Nat)
 [PT.ents (VT.agg (CTs.cons (CT.int IntKind.u8) zc6))
 (VT.agg
 zc0),
 PT.bool,
 PT.list
 zc0,
 PT.int IntKind.i64, PT.int IntKind.i64, PT.list zc6, PT.int IntKind.u64,
 PT.bool, PT.int IntKind.u64,
 PT.ents (VT.agg (CTs.cons (CT.int IntKind.u8) zc6))
 (VT.agg
 zc0),
 PT.list
 zc0]
 (F50_L61 n)
noncomputable def F50 : Nat →
 (List zt10 ×
 UInt64 ×
 Bool ×
 UInt64 ×
 List
 zt7) ×
 List zt3 ×
 List
 zt7 →
 Option
 ((List zt3 × Bool) × Unit) := fun (n : Nat)
 (x :
 (List zt10 ×
 UInt64 ×
 Bool ×
 UInt64 ×
 List
 zt7) ×
 List zt3 ×
 List
 zt7) =>
 obind (F65 n x.2.1)
 fun (x_1 : List zt3 × Unit) =>
 F50_R61 n n x.2.2 false x.2.1
 (Int64.ofInt ↑(List.length x.2.1)) (0 : Int64) x.1.1
 x.1.2.1 x.1.2.2.1
 x.1.2.2.2.1 x.1.2.2.2.2
 x_1.1
theorem F50_R125_s (n : Nat) (m_ : Nat) : F50_R125 n (m_ + 1) = F50_L125 n (F50_R125 n m_) := rfl
theorem F50_R61_s (n : Nat) (m_ : Nat) : F50_R61 n (m_ + 1) = F50_L61 n (F50_R61 n m_) := rfl
theorem ok50 (n : Nat) : FunOK Try.prog ⟨50, sig50, F50 n⟩ :=
 fun_ok (hints := ⟨[(4015, ⟨[(2, .one (.rom (.cons (.int .u8) zc12) zc4)), (8, .one (.bool)), (9, .one (.own 3)), (15, .one (.own 4)), (16, .one (.own 5)), (17, .one (.bool)), (49, .one (.own 6)), (67, .one (.bool))], [(3, .row zc4), (4, .cells [.int .u8, .str, .ro zc12, .int .u8, .int .u64, .int .u8, .int .i64]), (5, .cells [.int .u8, .str, .ro zc12, .int .u8, .int .u64, .int .u8, .int .i64]), (6, .riter (.cons (.int .u8) zc12) zc4)], 7⟩)], [(61, ⟨[(2, .one (.rom (.cons (.int .u8) zc12) zc4)), (3, .one (.own 3)), (8, .one (.bool)), (9, .one (.own 4)), (20, .one (.ro zc4)), (21, .one (.int .i64)), (22, .one (.int .i64))], [(3, .cells [.ro zc12, .int .u64, .bool, .int .u64, .rom (.cons (.int .u8) zc12) zc4]), (4, .row zc4)], 5⟩), (125, ⟨[(2, .one (.rom (.cons (.int .u8) zc12) zc4)), (8, .one (.bool)), (9, .one (.own 3)), (49, .one (.own 4))], [(3, .row zc4), (4, .riter (.cons (.int .u8) zc12) zc4)], 5⟩)]⟩) (fuel := n) (c := Try.f50.body.getD .skip) (rs := Try.f50.results.toList) tt_ok mix (FsOK.cons (ok65 n) (FsOK.cons (ok31 n) (FsOK.cons (ok66 n) (FsOK.cons (ok8 n) (FsOK.nil))))) Try.func50 (by kernel_rfl) (by kernel_rfl) rfl (by kernel_rfl) rfl rfl (by kernel_rfl)
-- (watchfire/group.state).silent
def sig51 : Sig := ⟨(.cons (.agg (.cons (.ro zc12) (.cons (.int .u64) (.cons .bool (.cons (.int .u64) (.cons (.rom (.cons (.int .u8) zc12) zc4) .nil)))))) (.cons (.one (.c (.rom (.cons (.int .u8) zc12) zc4))) .nil)), (.cons (.one (.c .bool)) .nil)⟩
noncomputable def F51_L13 : Arr
 [PT.ents (VT.agg (CTs.cons (CT.int IntKind.u8) zc6))
 (VT.agg
 zc0),
 PT.ents (VT.agg (CTs.cons (CT.int IntKind.u8) zc6))
 (VT.agg
 zc0)]
 (Option (Bool × Unit)) →
 List
 zt7 →
 List
 zt7 →
 Option (Bool × Unit) := fun
 (rec :
 Arr
 [PT.ents (VT.agg (CTs.cons (CT.int IntKind.u8) zc6))
 (VT.agg
 zc0),
 PT.ents (VT.agg (CTs.cons (CT.int IntKind.u8) zc6))
 (VT.agg
 zc0)]
 (Option (Bool × Unit)))
 (states tr :
 List
 zt7) =>
 oite (Nat.blt (0 : Nat) (List.length tr))
 (oallN (List.length tr) fun (j : Nat) =>
 obind tr[j]?
 fun
 (p :
 (UInt8 × List UInt8 × List UInt8) ×
 UInt8 × List UInt8 × List zt10 × UInt8 × UInt64 × UInt8 × Int64) =>
 oite
 (Option.isSome
 (mget (VT.agg (CTs.cons (CT.int IntKind.u8) zc6))
 (VT.agg
 zc0)
 (p.1.1, p.1.2.1, p.1.2.2) states))
 (oite
 (!decide
 (Prod.fst (Prod.snd (Prod.snd (Prod.snd (Option.getD
 (mget (VT.agg (CTs.cons (CT.int IntKind.u8) zc6))
 (VT.agg
 zc0)
 (p.1.1, p.1.2.1,
 p.1.2.2)
 states)
 ((0 : UInt8), @List.nil UInt8, @List.nil zt10, (0 : UInt8),
 (0 : UInt64), (0 : UInt8), (0 : Int64)))))) =
 (0 : UInt8)))
 (some (false, ())) (rec states (List.eraseIdx tr j)))
 (rec states (List.eraseIdx tr j)))
 (some (true, ()))
noncomputable def F51_R13 : Nat →
 PT.T
 (PT.ents (VT.agg (CTs.cons (CT.int IntKind.u8) zc6))
 (VT.agg
 zc0)) →
 List
 zt7 →
 Option (Bool × Unit) := ofixA (13 : Nat)
 [PT.ents (VT.agg (CTs.cons (CT.int IntKind.u8) zc6))
 (VT.agg
 zc0),
 PT.ents (VT.agg (CTs.cons (CT.int IntKind.u8) zc6))
 (VT.agg
 zc0)]
 F51_L13
noncomputable def F51 : Nat →
 (List zt10 ×
 UInt64 ×
 Bool ×
 UInt64 ×
 List
 zt7) ×
 List
 zt7 →
 Option (Bool × Unit) := fun (n : Nat)
 (x :
 (List zt10 ×
 UInt64 ×
 Bool ×
 UInt64 ×
 List
 zt7) ×
 List
 zt7) =>
 F51_R13 n x.2 x.1.2.2.2.2
theorem F51_R13_s  (m_ : Nat) : F51_R13  (m_ + 1) = F51_L13  (F51_R13  m_) := rfl
theorem ok51 (n : Nat) : FunOK Try.prog ⟨51, sig51, F51 n⟩ :=
 fun_ok (hints := ⟨[], [(13, ⟨[(1, .one (.rom (.cons (.int .u8) zc12) zc4)), (10, .one (.own 2))], [(2, .riter (.cons (.int .u8) zc12) zc4)], 3⟩)]⟩) (fuel := n) (c := Try.f51.body.getD .skip) (rs := Try.f51.results.toList) tt_ok mix (FsOK.nil) Try.func51 (by kernel_rfl) (by kernel_rfl) rfl (by kernel_rfl) rfl rfl (by kernel_rfl)
-- slices.Clone[[]watchfire/api.Pair,watchfire/api.Pair]
def sig52 : Sig := ⟨(.cons (.one (.c (.ro zc12))) .nil), (.cons (.one (.row zc12)) .nil)⟩
def F52 (n : Nat) (xs : List (CTs.T zc12)) : Option (List (CTs.T zc12) × Unit) := cloneF zc12 xs
theorem ok52 (n : Nat) : FunOK Try.prog ⟨52, sig52, F52 n⟩ :=
 clone_ok (c := Try.f52.body.getD .skip) (rs := Try.f52.results.toList) tt_ok mix Try.func52 (by kernel_rfl) rfl (by kernel_rfl) rfl rfl ⟨rfl, rfl, rfl⟩ ⟨rfl, rfl, rfl⟩ ⟨rfl, rfl, rfl⟩ (by kernel_rfl) (by kernel_rfl) (fun xs => by kernel_rfl)
end Go.Proofs.Ytcfckkmiaeegpaa
