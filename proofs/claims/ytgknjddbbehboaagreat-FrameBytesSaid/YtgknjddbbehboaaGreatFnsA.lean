/- What the functions of this seat compute, found by walking their code symbolically: each F is what the walk finds, each ok says that the Go function keeps it as a contract. Printed by a program of this repo's. -/
import Derived.Test.YtgknjddbbehboaaGreatOnceC
import Derived.Test.YtgknjddbbehboaaGreatSxClone
import Derived.Test.YtgknjddbbehboaaGreatAtom
open Go Go.Sx
namespace Go.Proofs.YtgknjddbbehboaaGreat
set_option maxRecDepth 100000
set_option linter.unusedVariables false
-- watchfire/crc.New
def sig5 : Sig := ⟨.nil, (.cons (.one (.ptrA (.cons (.c (.int .u32)) (.cons (.c (.int .i32)) (.cons (.c (.int .u32)) .nil))) (.int .u32) 256 (.cons (.c (.int .u64)) (.cons (.c (.int .u64)) .nil)))) .nil)⟩
def F5 : Nat → Unit → Option (Option ((UInt32 × Int32 × UInt32) × List UInt32 × UInt64 × UInt64) × Unit) := fun (n : Nat) (x : Unit) =>
 some
 (some
 (((0 : UInt32), (0 : Int32), (0 : UInt32)), List.replicate (256 : Nat) (0 : UInt32), (0 : UInt64),
 (0 : UInt64)),
 ())
theorem ok5 (n : Nat) : FunOK Tryz.prog ⟨5, sig5, F5 n⟩ :=
 fun_ok (hints := ⟨[], []⟩) (fuel := n) (c := Tryz.f5.body.getD .skip) (rs := Tryz.f5.results.toList) tt_ok mix (FsOK.nil) Tryz.func5 (by kernel_rfl) (by kernel_rfl) rfl (by kernel_rfl) rfl rfl (by kernel_rfl)
-- watchfire/item.number
def sig72 : Sig := ⟨(.cons (.one (.c (.int .u64))) .nil), (.cons (.one (.c .bool)) .nil)⟩
def F72 : Nat → UInt64 → Option (Bool × Unit) := fun (n : Nat) (x : UInt64) => some (decide (x ≤ (1099511627776 : UInt64)), ())
theorem ok72 (n : Nat) : FunOK Tryz.prog ⟨72, sig72, F72 n⟩ :=
 fun_ok (hints := ⟨[], []⟩) (fuel := n) (c := Tryz.f72.body.getD .skip) (rs := Tryz.f72.results.toList) tt_ok mix (FsOK.nil) Tryz.func72 (by kernel_rfl) (by kernel_rfl) rfl (by kernel_rfl) rfl rfl (by kernel_rfl)
-- watchfire/item.gap
def sig64 : Sig := ⟨(.cons (.agg (.cons (.int .u8) (.cons (.int .u64) (.cons (.int .u64) .nil)))) .nil), (.cons (.one (.c (.int .i64))) .nil)⟩
def F64 : Nat → UInt8 × UInt64 × UInt64 → Option (Int64 × Unit) := fun (n : Nat) (x : UInt8 × UInt64 × UInt64) =>
 oite (decide ((32 : UInt8) ≤ Prod.fst x)) (some ((6 : Int64), ()))
 (oite (decide (Prod.fst (Prod.snd x) < (1 : UInt64))) (some ((6 : Int64), ()))
 (oite (decide (Prod.snd (Prod.snd x) < Prod.fst (Prod.snd x))) (some ((6 : Int64), ()))
 (obind (F72 n (Prod.snd (Prod.snd x))) fun (x_1 : Bool × Unit) =>
 oite (!Prod.fst x_1) (some ((6 : Int64), ())) (some ((0 : Int64), ())))))
theorem ok64 (n : Nat) : FunOK Tryz.prog ⟨64, sig64, F64 n⟩ :=
 fun_ok (hints := ⟨[], []⟩) (fuel := n) (c := Tryz.f64.body.getD .skip) (rs := Tryz.f64.results.toList) tt_ok mix (FsOK.cons (ok72 n) (FsOK.nil)) Tryz.func64 (by kernel_rfl) (by kernel_rfl) rfl (by kernel_rfl) rfl rfl (by kernel_rfl)
-- watchfire/lab.word
def sig80 : Sig := ⟨(.cons (.one (.c .str)) (.cons (.one (.c (.int .i64))) (.cons (.one (.c .bool)) .nil))), (.cons (.one (.c .bool)) .nil)⟩
def F80_J471 : Arr [PT.bool, PT.bytes, PT.nat] (Option (Bool × Unit)) → Bool → Int32 → Bool → List UInt8 → Nat → Option (Bool × Unit) := fun (rec : Arr [PT.bool, PT.bytes, PT.nat] (Option (Bool × Unit))) (also_1 : Bool) (c : Int32) (t_1 : Bool)
 (t_1_1 : List UInt8) (x_2 : Nat) =>
 oite t_1 (rec also_1 t_1_1 x_2)
 (oite also_1
 (oite (decide ((48 : Int32) ≤ c))
 (oite (decide (c ≤ (57 : Int32))) (rec also_1 t_1_1 x_2)
 (oite (decide (c = (46 : Int32))) (rec also_1 t_1_1 x_2)
 (oite (decide (c = (95 : Int32))) (rec also_1 t_1_1 x_2)
 (oite (decide (c = (45 : Int32))) (rec also_1 t_1_1 x_2) (some (false, ()))))))
 (oite (decide (c = (46 : Int32))) (rec also_1 t_1_1 x_2)
 (oite (decide (c = (95 : Int32))) (rec also_1 t_1_1 x_2)
 (oite (decide (c = (45 : Int32))) (rec also_1 t_1_1 x_2) (some (false, ()))))))
 (some (false, ())))
def F80_L29 : Arr [PT.bool, PT.bytes, PT.nat] (Option (Bool × Unit)) → Bool → List UInt8 → Nat → Option (Bool × Unit) := fun (rec : Arr [PT.bool, PT.bytes, PT.nat] (Option (Bool × Unit))) (also : Bool) (t : List UInt8) (x_1 : Nat) =>
 oite (Nat.blt x_1 (List.length t))
 (ojoinA (471 : Nat) [PT.bool, PT.int IntKind.i32, PT.bool, PT.bytes, PT.nat]
 (fun (J : Arr [PT.bool, PT.int IntKind.i32, PT.bool, PT.bytes, PT.nat] (Option (Bool × Unit))) =>
 oite (decide ((97 : Int32) ≤ Int32.ofInt ↑(runeAt t x_1)))
 (J also (Int32.ofInt ↑(runeAt t x_1)) (decide (Int32.ofInt ↑(runeAt t x_1) ≤ (122 : Int32))) t
 (x_1 + runeLen t x_1))
 (J also (Int32.ofInt ↑(runeAt t x_1)) false t (x_1 + runeLen t x_1)))
 (F80_J471 rec))
 (some (true, ()))
def F80_R29 : Nat → PT.T PT.bool → List UInt8 → Nat → Option (Bool × Unit) := ofixA (29 : Nat) [PT.bool, PT.bytes, PT.nat] F80_L29
def F80 : Nat → List UInt8 × Int64 × Bool → Option (Bool × Unit) := fun (n : Nat) (x : List UInt8 × Int64 × Bool) =>
 oite (decide (Int64.ofInt ↑(List.length (Prod.fst x)) < (1 : Int64))) (some (false, ()))
 (oite (decide (Prod.fst (Prod.snd x) < Int64.ofInt ↑(List.length (Prod.fst x)))) (some (false, ()))
 (F80_R29 n (Prod.snd (Prod.snd x)) (Prod.fst x) (0 : Nat)))
theorem F80_R29_s  (m_ : Nat) : F80_R29  (m_ + 1) = F80_L29  (F80_R29  m_) := rfl
theorem ok80 (n : Nat) : FunOK Tryz.prog ⟨80, sig80, F80 n⟩ :=
 fun_ok (hints := ⟨[(471, ⟨[(2, .one (.bool)), (8, .one (.int .i32)), (19, .one (.own 3)), (23, .one (.bool))], [(3, .iter)], 4⟩)], [(29, ⟨[(2, .one (.bool)), (19, .one (.own 3))], [(3, .iter)], 4⟩)]⟩) (fuel := n) (c := Tryz.f80.body.getD .skip) (rs := Tryz.f80.results.toList) tt_ok mix (FsOK.nil) Tryz.func80 (by kernel_rfl) (by kernel_rfl) rfl (by kernel_rfl) rfl rfl (by kernel_rfl)
-- watchfire/lab.Name
def sig73 : Sig := ⟨(.cons (.one (.c .str)) .nil), (.cons (.one (.c .bool)) .nil)⟩
def F73 : Nat → List UInt8 → Option (Bool × Unit) := fun (n : Nat) (x : List UInt8) =>
 obind (F80 n (x, (12 : Int64), true)) fun (x_1 : Bool × Unit) =>
 oite (Prod.fst x_1)
 (obind (at? x (Int64.toInt (0 : Int64))) fun (x_2 : UInt8) =>
 oite (decide ((97 : UInt8) ≤ x_2))
 (obind (at? x (Int64.toInt (0 : Int64))) fun (x_3 : UInt8) => some (decide (x_3 ≤ (122 : UInt8)), ()))
 (some (false, ())))
 (some (false, ()))
theorem ok73 (n : Nat) : FunOK Tryz.prog ⟨73, sig73, F73 n⟩ :=
 fun_ok (hints := ⟨[], []⟩) (fuel := n) (c := Tryz.f73.body.getD .skip) (rs := Tryz.f73.results.toList) tt_ok mix (FsOK.cons (ok80 n) (FsOK.nil)) Tryz.func73 (by kernel_rfl) (by kernel_rfl) rfl (by kernel_rfl) rfl rfl (by kernel_rfl)
-- internal/stringslite.HasPrefix
def sig88 : Sig := ⟨(.cons (.one (.c .str)) (.cons (.one (.c .str)) .nil)), (.cons (.one (.c .bool)) .nil)⟩
def F88 : Nat → List UInt8 × List UInt8 → Option (Bool × Unit) := fun (n : Nat) (x : List UInt8 × List UInt8) =>
 oite (decide (Int64.ofInt ↑(List.length (Prod.snd x)) ≤ Int64.ofInt ↑(List.length (Prod.fst x))))
 (oite
 (decide ((0 : Int) ≤ Int64.toInt (Int64.ofInt ↑(List.length (Prod.snd x)))) &&
 Nat.ble (Int.toNat (Int64.toInt (Int64.ofInt ↑(List.length (Prod.snd x))))) (List.length (Prod.fst x)) &&
 true)
 (some
 (List.drop (0 : Nat)
 (List.take (Int.toNat (Int64.toInt (Int64.ofInt ↑(List.length (Prod.snd x))))) (Prod.fst x)) ==
 Prod.snd x,
 ()))
 none)
 (some (false, ()))
theorem ok88 (n : Nat) : FunOK Tryz.prog ⟨88, sig88, F88 n⟩ :=
 fun_ok (hints := ⟨[], []⟩) (fuel := n) (c := Tryz.f88.body.getD .skip) (rs := Tryz.f88.results.toList) tt_ok mix (FsOK.nil) Tryz.func88 (by kernel_rfl) (by kernel_rfl) rfl (by kernel_rfl) rfl rfl (by kernel_rfl)
-- strings.HasPrefix
def sig81 : Sig := ⟨(.cons (.one (.c .str)) (.cons (.one (.c .str)) .nil)), (.cons (.one (.c .bool)) .nil)⟩
def F81 : Nat → List UInt8 × List UInt8 → Option (Bool × Unit) := fun (n : Nat) (x : List UInt8 × List UInt8) =>
 obind (F88 n (Prod.fst x, Prod.snd x)) fun (x_1 : Bool × Unit) => some (Prod.fst x_1, ())
theorem ok81 (n : Nat) : FunOK Tryz.prog ⟨81, sig81, F81 n⟩ :=
 fun_ok (hints := ⟨[], []⟩) (fuel := n) (c := Tryz.f81.body.getD .skip) (rs := Tryz.f81.results.toList) tt_ok mix (FsOK.cons (ok88 n) (FsOK.nil)) Tryz.func81 (by kernel_rfl) (by kernel_rfl) rfl (by kernel_rfl) rfl rfl (by kernel_rfl)
-- watchfire/item.Own
def sig74 : Sig := ⟨(.cons (.one (.c .str)) .nil), (.cons (.one (.c .bool)) .nil)⟩
def F74 : Nat → List UInt8 → Option (Bool × Unit) := fun (n : Nat) (x : List UInt8) =>
 obind (F81 n (x, [(111 : UInt8), (119 : UInt8), (110 : UInt8), (46 : UInt8)])) fun (x_1 : Bool × Unit) =>
 some (Prod.fst x_1, ())
theorem ok74 (n : Nat) : FunOK Tryz.prog ⟨74, sig74, F74 n⟩ :=
 fun_ok (hints := ⟨[], []⟩) (fuel := n) (c := Tryz.f74.body.getD .skip) (rs := Tryz.f74.results.toList) tt_ok mix (FsOK.cons (ok81 n) (FsOK.nil)) Tryz.func74 (by kernel_rfl) (by kernel_rfl) rfl (by kernel_rfl) rfl rfl (by kernel_rfl)
-- watchfire/lab.Key
def sig82 : Sig := ⟨(.cons (.one (.c .str)) .nil), (.cons (.one (.c .bool)) .nil)⟩
def F82 : Nat → List UInt8 → Option (Bool × Unit) := fun (n : Nat) (x : List UInt8) =>
 obind (F80 n (x, (8 : Int64), false)) fun (x_1 : Bool × Unit) => some (Prod.fst x_1, ())
theorem ok82 (n : Nat) : FunOK Tryz.prog ⟨82, sig82, F82 n⟩ :=
 fun_ok (hints := ⟨[], []⟩) (fuel := n) (c := Tryz.f82.body.getD .skip) (rs := Tryz.f82.results.toList) tt_ok mix (FsOK.cons (ok80 n) (FsOK.nil)) Tryz.func82 (by kernel_rfl) (by kernel_rfl) rfl (by kernel_rfl) rfl rfl (by kernel_rfl)
-- watchfire/lab.Value
def sig83 : Sig := ⟨(.cons (.one (.c .str)) .nil), (.cons (.one (.c .bool)) .nil)⟩
def F83 : Nat → List UInt8 → Option (Bool × Unit) := fun (n : Nat) (x : List UInt8) =>
 obind (F80 n (x, (16 : Int64), true)) fun (x_1 : Bool × Unit) => some (Prod.fst x_1, ())
theorem ok83 (n : Nat) : FunOK Tryz.prog ⟨83, sig83, F83 n⟩ :=
 fun_ok (hints := ⟨[], []⟩) (fuel := n) (c := Tryz.f83.body.getD .skip) (rs := Tryz.f83.results.toList) tt_ok mix (FsOK.cons (ok80 n) (FsOK.nil)) Tryz.func83 (by kernel_rfl) (by kernel_rfl) rfl (by kernel_rfl) rfl rfl (by kernel_rfl)
-- watchfire/lab.Check
def sig75 : Sig := ⟨(.cons (.one (.c (.ro (.cons .str (.cons .str .nil))))) .nil), (.cons (.one (.c (.int .i64))) .nil)⟩
def F75_J3767 : Arr
 [PT.list (CTs.cons CT.str (CTs.cons CT.str CTs.nil)), PT.list (CTs.cons CT.str (CTs.cons CT.str CTs.nil)),
 PT.int IntKind.i64, PT.int IntKind.i64]
 (Option (Int64 × Unit)) →
 List (List UInt8 × List UInt8) →
 Int64 → List (List UInt8 × List UInt8) → Int64 → Int64 → Bool → List UInt8 → List UInt8 → Option (Int64 × Unit) := fun
 (rec :
 Arr
 [PT.list (CTs.cons CT.str (CTs.cons CT.str CTs.nil)), PT.list (CTs.cons CT.str (CTs.cons CT.str CTs.nil)),
 PT.int IntKind.i64, PT.int IntKind.i64]
 (Option (Int64 × Unit)))
 (l_1 : List (List UInt8 × List UInt8)) (i : Int64) (t_3 : List (List UInt8 × List UInt8)) (t_1_1 t_2_1 : Int64)
 (t_3_1 : Bool) (p0 p1 : List UInt8) =>
 oite t_3_1 (some ((7 : Int64), ()))
 (oite (decide ((0 : Int64) < i))
 (obind (at? l_1 (Int64.toInt (i - (1 : Int64)))) fun (x_4 : List UInt8 × List UInt8) =>
 oite (!(bytesLt (Prod.fst x_4) p0 || Prod.fst x_4 == p0)) (some ((9 : Int64), ()))
 (rec l_1 t_3 t_1_1 (t_2_1 + (1 : Int64))))
 (rec l_1 t_3 t_1_1 (t_2_1 + (1 : Int64))))
def F75_L29 : Nat →
 Arr
 [PT.list (CTs.cons CT.str (CTs.cons CT.str CTs.nil)), PT.list (CTs.cons CT.str (CTs.cons CT.str CTs.nil)),
 PT.int IntKind.i64, PT.int IntKind.i64]
 (Option (Int64 × Unit)) →
 List (List UInt8 × List UInt8) → List (List UInt8 × List UInt8) → Int64 → Int64 → Option (Int64 × Unit) := fun (n : Nat)
 (rec :
 Arr
 [PT.list (CTs.cons CT.str (CTs.cons CT.str CTs.nil)), PT.list (CTs.cons CT.str (CTs.cons CT.str CTs.nil)),
 PT.int IntKind.i64, PT.int IntKind.i64]
 (Option (Int64 × Unit)))
 (l t : List (List UInt8 × List UInt8)) (t_1 t_2 : Int64) =>
 oite (decide (t_2 < t_1))
 (obind (at? t (Int64.toInt t_2)) fun (x_1 : List UInt8 × List UInt8) =>
 obind (F82 n (Prod.fst x_1)) fun (x_2 : Bool × Unit) =>
 oite (!Prod.fst x_2) (some ((8 : Int64), ()))
 (obind (F83 n (Prod.snd x_1)) fun (x_3 : Bool × Unit) =>
 oite (!Prod.fst x_3) (some ((8 : Int64), ()))
 (ojoinA (3767 : Nat)
 [PT.list (CTs.cons CT.str (CTs.cons CT.str CTs.nil)), PT.int IntKind.i64,
 PT.list (CTs.cons CT.str (CTs.cons CT.str CTs.nil)), PT.int IntKind.i64, PT.int IntKind.i64, PT.bool,
 PT.bytes, PT.bytes]
 (fun
 (J :
 Arr
 [PT.list (CTs.cons CT.str (CTs.cons CT.str CTs.nil)), PT.int IntKind.i64,
 PT.list (CTs.cons CT.str (CTs.cons CT.str CTs.nil)), PT.int IntKind.i64, PT.int IntKind.i64,
 PT.bool, PT.bytes, PT.bytes]
 (Option (Int64 × Unit))) =>
 oite (decide ((0 : Int64) < t_2))
 (obind (at? l (Int64.toInt (t_2 - (1 : Int64)))) fun (x_4 : List UInt8 × List UInt8) =>
 J l t_2 t t_1 t_2 (Prod.fst x_4 == Prod.fst x_1) (Prod.fst x_1) (Prod.snd x_1))
 (J l t_2 t t_1 t_2 false (Prod.fst x_1) (Prod.snd x_1)))
 (F75_J3767 rec))))
 (some ((0 : Int64), ()))
def F75_R29 : Nat →
 Nat →
 PT.T (PT.list (CTs.cons CT.str (CTs.cons CT.str CTs.nil))) →
 List (List UInt8 × List UInt8) → Int64 → Int64 → Option (Int64 × Unit) := fun (n : Nat) =>
 ofixA (29 : Nat)
 [PT.list (CTs.cons CT.str (CTs.cons CT.str CTs.nil)), PT.list (CTs.cons CT.str (CTs.cons CT.str CTs.nil)),
 PT.int IntKind.i64, PT.int IntKind.i64]
 (F75_L29 n)
def F75 : Nat → List (List UInt8 × List UInt8) → Option (Int64 × Unit) := fun (n : Nat) (x : List (List UInt8 × List UInt8)) =>
 oite (decide ((8 : Int64) < Int64.ofInt ↑(List.length x))) (some ((5 : Int64), ()))
 (F75_R29 n n x x (Int64.ofInt ↑(List.length x)) (0 : Int64))
theorem F75_R29_s (n : Nat) (m_ : Nat) : F75_R29 n (m_ + 1) = F75_L29 n (F75_R29 n m_) := rfl
theorem ok75 (n : Nat) : FunOK Tryz.prog ⟨75, sig75, F75 n⟩ :=
 fun_ok (hints := ⟨[(3767, ⟨[(0, .one (.ro (.cons .str (.cons .str .nil)))), (3, .one (.int .i64)), (4, .one (.own 1)), (8, .one (.ro (.cons .str (.cons .str .nil)))), (9, .one (.int .i64)), (10, .one (.int .i64)), (26, .one (.bool))], [(1, .cells [.str, .str])], 2⟩)], [(29, ⟨[(0, .one (.ro (.cons .str (.cons .str .nil)))), (8, .one (.ro (.cons .str (.cons .str .nil)))), (9, .one (.int .i64)), (10, .one (.int .i64))], [], 1⟩)]⟩) (fuel := n) (c := Tryz.f75.body.getD .skip) (rs := Tryz.f75.results.toList) tt_ok mix (FsOK.cons (ok82 n) (FsOK.cons (ok83 n) (FsOK.nil))) Tryz.func75 (by kernel_rfl) (by kernel_rfl) rfl (by kernel_rfl) rfl rfl (by kernel_rfl)
-- watchfire/item.event
def sig65 : Sig := ⟨(.cons (.agg (.cons (.int .u8) (.cons (.int .u64) (.cons (.int .u64) (.cons .str (.cons (.ro (.cons .str (.cons .str .nil))) (.cons (.int .u8) (.cons (.int .u8) (.cons (.int .i64) (.cons (.int .u8) .nil)))))))))) .nil), (.cons (.one (.c (.int .i64))) .nil)⟩
def F65_J111 : Nat →
 Bool →
 UInt8 →
 UInt64 →
 UInt64 → List UInt8 → List (List UInt8 × List UInt8) → UInt8 → UInt8 → Int64 → UInt8 → Option (Int64 × Unit) := fun (n : Nat) (t : Bool) (v0 : UInt8) (v1 v2 : UInt64) (v3 : List UInt8) (v4 : List (List UInt8 × List UInt8))
 (v5 v6 : UInt8) (v7 : Int64) (v8 : UInt8) =>
 oite t (some ((12 : Int64), ()))
 (obind (F74 n v3) fun (x_4 : Bool × Unit) =>
 oite (!(!decide (v8 = (0 : UInt8))) == Prod.fst x_4) (some ((27 : Int64), ()))
 (obind (F75 n v4) fun (x_5 : Int64 × Unit) => some (Prod.fst x_5, ())))
def F65 : Nat →
 UInt8 × UInt64 × UInt64 × List UInt8 × List (List UInt8 × List UInt8) × UInt8 × UInt8 × Int64 × UInt8 →
 Option (Int64 × Unit) := fun (n : Nat)
 (x : UInt8 × UInt64 × UInt64 × List UInt8 × List (List UInt8 × List UInt8) × UInt8 × UInt8 × Int64 × UInt8) =>
 oite (decide ((32 : UInt8) ≤ Prod.fst x)) (some ((6 : Int64), ()))
 (oite (decide (Prod.fst (Prod.snd x) < (1 : UInt64))) (some ((6 : Int64), ()))
 (obind (F72 n (Prod.fst (Prod.snd x))) fun (x_1 : Bool × Unit) =>
 oite (!Prod.fst x_1) (some ((6 : Int64), ()))
 (obind (F72 n (Prod.fst (Prod.snd (Prod.snd x)))) fun (x_2 : Bool × Unit) =>
 oite (!Prod.fst x_2) (some ((6 : Int64), ()))
 (oite
 (decide ((7 : UInt8) < Prod.fst (Prod.snd (Prod.snd (Prod.snd (Prod.snd (Prod.snd (Prod.snd x))))))))
 (some ((6 : Int64), ()))
 (obind (F73 n (Prod.fst (Prod.snd (Prod.snd (Prod.snd x))))) fun (x_3 : Bool × Unit) =>
 oite (!Prod.fst x_3) (some ((8 : Int64), ()))
 (ojoinA (111 : Nat)
 [PT.bool, PT.int IntKind.u8, PT.int IntKind.u64, PT.int IntKind.u64, PT.bytes,
 PT.list (CTs.cons CT.str (CTs.cons CT.str CTs.nil)), PT.int IntKind.u8, PT.int IntKind.u8,
 PT.int IntKind.i64, PT.int IntKind.u8]
 (fun
 (J :
 Arr
 [PT.bool, PT.int IntKind.u8, PT.int IntKind.u64, PT.int IntKind.u64, PT.bytes,
 PT.list (CTs.cons CT.str (CTs.cons CT.str CTs.nil)), PT.int IntKind.u8,
 PT.int IntKind.u8, PT.int IntKind.i64, PT.int IntKind.u8]
 (Option (Int64 × Unit))) =>
 oite (!decide (Prod.fst (Prod.snd (Prod.snd (Prod.snd (Prod.snd (Prod.snd x))))) = (0 : UInt8)))
 (oite
 (!decide (Prod.fst (Prod.snd (Prod.snd (Prod.snd (Prod.snd (Prod.snd x))))) = (2 : UInt8)))
 (J true (Prod.fst x) (Prod.fst (Prod.snd x)) (Prod.fst (Prod.snd (Prod.snd x)))
 (Prod.fst (Prod.snd (Prod.snd (Prod.snd x))))
 (Prod.fst (Prod.snd (Prod.snd (Prod.snd (Prod.snd x)))))
 (Prod.fst (Prod.snd (Prod.snd (Prod.snd (Prod.snd (Prod.snd x))))))
 (Prod.fst (Prod.snd (Prod.snd (Prod.snd (Prod.snd (Prod.snd (Prod.snd x)))))))
 (Prod.fst (Prod.snd (Prod.snd (Prod.snd (Prod.snd (Prod.snd (Prod.snd (Prod.snd x))))))))
 (Prod.snd (Prod.snd (Prod.snd (Prod.snd (Prod.snd (Prod.snd (Prod.snd (Prod.snd x)))))))))
 (J
 (decide
 ((2 : UInt8) <
 Prod.snd
 (Prod.snd (Prod.snd (Prod.snd (Prod.snd (Prod.snd (Prod.snd (Prod.snd x)))))))))
 (Prod.fst x) (Prod.fst (Prod.snd x)) (Prod.fst (Prod.snd (Prod.snd x)))
 (Prod.fst (Prod.snd (Prod.snd (Prod.snd x))))
 (Prod.fst (Prod.snd (Prod.snd (Prod.snd (Prod.snd x)))))
 (Prod.fst (Prod.snd (Prod.snd (Prod.snd (Prod.snd (Prod.snd x))))))
 (Prod.fst (Prod.snd (Prod.snd (Prod.snd (Prod.snd (Prod.snd (Prod.snd x)))))))
 (Prod.fst (Prod.snd (Prod.snd (Prod.snd (Prod.snd (Prod.snd (Prod.snd (Prod.snd x))))))))
 (Prod.snd
 (Prod.snd (Prod.snd (Prod.snd (Prod.snd (Prod.snd (Prod.snd (Prod.snd x))))))))))
 (J
 (decide
 ((2 : UInt8) <
 Prod.snd
 (Prod.snd (Prod.snd (Prod.snd (Prod.snd (Prod.snd (Prod.snd (Prod.snd x)))))))))
 (Prod.fst x) (Prod.fst (Prod.snd x)) (Prod.fst (Prod.snd (Prod.snd x)))
 (Prod.fst (Prod.snd (Prod.snd (Prod.snd x))))
 (Prod.fst (Prod.snd (Prod.snd (Prod.snd (Prod.snd x)))))
 (Prod.fst (Prod.snd (Prod.snd (Prod.snd (Prod.snd (Prod.snd x))))))
 (Prod.fst (Prod.snd (Prod.snd (Prod.snd (Prod.snd (Prod.snd (Prod.snd x)))))))
 (Prod.fst (Prod.snd (Prod.snd (Prod.snd (Prod.snd (Prod.snd (Prod.snd (Prod.snd x))))))))
 (Prod.snd (Prod.snd (Prod.snd (Prod.snd (Prod.snd (Prod.snd (Prod.snd (Prod.snd x))))))))))
 (F65_J111 n)))))))
theorem ok65 (n : Nat) : FunOK Tryz.prog ⟨65, sig65, F65 n⟩ :=
 fun_ok (hints := ⟨[(111, ⟨[(1, .one (.own 1)), (34, .one (.bool))], [(1, .cells [.int .u8, .int .u64, .int .u64, .str, .ro (.cons .str (.cons .str .nil)), .int .u8, .int .u8, .int .i64, .int .u8])], 2⟩)], []⟩) (fuel := n) (c := Tryz.f65.body.getD .skip) (rs := Tryz.f65.results.toList) tt_ok mix (FsOK.cons (ok72 n) (FsOK.cons (ok73 n) (FsOK.cons (ok74 n) (FsOK.cons (ok75 n) (FsOK.nil))))) Tryz.func65 (by kernel_rfl) (by kernel_rfl) rfl (by kernel_rfl) rfl rfl (by kernel_rfl)
-- watchfire/item.Check
def sig46 : Sig := ⟨(.cons (.agg (.cons .bool (.cons (.int .u8) (.cons (.int .u64) (.cons (.int .u64) (.cons .str (.cons (.ro (.cons .str (.cons .str .nil))) (.cons (.int .u8) (.cons (.int .u8) (.cons (.int .i64) (.cons (.int .u8) (.cons (.int .u8) (.cons (.int .u64) (.cons (.int .u64) .nil)))))))))))))) .nil), (.cons (.one (.c (.int .i64))) .nil)⟩
def F46 : Nat →
 Bool ×
 UInt8 ×
 UInt64 ×
 UInt64 ×
 List UInt8 × List (List UInt8 × List UInt8) × UInt8 × UInt8 × Int64 × UInt8 × UInt8 × UInt64 × UInt64 →
 Option (Int64 × Unit) := fun (n : Nat)
 (x :
 Bool ×
 UInt8 ×
 UInt64 ×
 UInt64 ×
 List UInt8 × List (List UInt8 × List UInt8) × UInt8 × UInt8 × Int64 × UInt8 × UInt8 × UInt64 × UInt64) =>
 oite (Prod.fst x)
 (obind
 (F64 n
 (Prod.fst
 (Prod.snd
 (Prod.snd (Prod.snd (Prod.snd (Prod.snd (Prod.snd (Prod.snd (Prod.snd (Prod.snd (Prod.snd x)))))))))),
 Prod.fst
 (Prod.snd
 (Prod.snd
 (Prod.snd (Prod.snd (Prod.snd (Prod.snd (Prod.snd (Prod.snd (Prod.snd (Prod.snd (Prod.snd x))))))))))),
 Prod.snd
 (Prod.snd
 (Prod.snd
 (Prod.snd (Prod.snd (Prod.snd (Prod.snd (Prod.snd (Prod.snd (Prod.snd (Prod.snd (Prod.snd x)))))))))))))
 fun (x_1 : Int64 × Unit) => some (Prod.fst x_1, ()))
 (obind
 (F65 n
 (Prod.fst (Prod.snd x), Prod.fst (Prod.snd (Prod.snd x)), Prod.fst (Prod.snd (Prod.snd (Prod.snd x))),
 Prod.fst (Prod.snd (Prod.snd (Prod.snd (Prod.snd x)))),
 Prod.fst (Prod.snd (Prod.snd (Prod.snd (Prod.snd (Prod.snd x))))),
 Prod.fst (Prod.snd (Prod.snd (Prod.snd (Prod.snd (Prod.snd (Prod.snd x)))))),
 Prod.fst (Prod.snd (Prod.snd (Prod.snd (Prod.snd (Prod.snd (Prod.snd (Prod.snd x))))))),
 Prod.fst (Prod.snd (Prod.snd (Prod.snd (Prod.snd (Prod.snd (Prod.snd (Prod.snd (Prod.snd x)))))))),
 Prod.fst
 (Prod.snd (Prod.snd (Prod.snd (Prod.snd (Prod.snd (Prod.snd (Prod.snd (Prod.snd (Prod.snd x)))))))))))
 fun (x_1 : Int64 × Unit) => some (Prod.fst x_1, ()))
theorem ok46 (n : Nat) : FunOK Tryz.prog ⟨46, sig46, F46 n⟩ :=
 fun_ok (hints := ⟨[], []⟩) (fuel := n) (c := Tryz.f46.body.getD .skip) (rs := Tryz.f46.results.toList) tt_ok mix (FsOK.cons (ok64 n) (FsOK.cons (ok65 n) (FsOK.nil))) Tryz.func46 (by kernel_rfl) (by kernel_rfl) rfl (by kernel_rfl) rfl rfl (by kernel_rfl)
-- slices.Equal[[]watchfire/api.Pair,watchfire/api.Pair]
def sig69 : Sig := ⟨(.cons (.one (.c (.ro (.cons .str (.cons .str .nil))))) (.cons (.one (.c (.ro (.cons .str (.cons .str .nil))))) .nil)), (.cons (.one (.c .bool)) .nil)⟩
def F69_L29 : Arr
 [PT.list (CTs.cons CT.str (CTs.cons CT.str CTs.nil)), PT.list (CTs.cons CT.str (CTs.cons CT.str CTs.nil)),
 PT.int IntKind.i64, PT.int IntKind.i64]
 (Option (Bool × Unit)) →
 List (List UInt8 × List UInt8) → List (List UInt8 × List UInt8) → Int64 → Int64 → Option (Bool × Unit) := fun
 (rec :
 Arr
 [PT.list (CTs.cons CT.str (CTs.cons CT.str CTs.nil)), PT.list (CTs.cons CT.str (CTs.cons CT.str CTs.nil)),
 PT.int IntKind.i64, PT.int IntKind.i64]
 (Option (Bool × Unit)))
 (s1 s2 : List (List UInt8 × List UInt8)) (t t_1 : Int64) =>
 oite (decide (t_1 < t))
 (obind (at? s1 (Int64.toInt t_1)) fun (x_1 : List UInt8 × List UInt8) =>
 obind (at? s2 (Int64.toInt t_1)) fun (x_2 : List UInt8 × List UInt8) =>
 oite (!(Prod.fst x_1 == Prod.fst x_2 && (Prod.snd x_1 == Prod.snd x_2 && true))) (some (false, ()))
 (rec s1 s2 t (t_1 + (1 : Int64))))
 (some (true, ()))
def F69_R29 : Nat →
 PT.T (PT.list (CTs.cons CT.str (CTs.cons CT.str CTs.nil))) →
 List (List UInt8 × List UInt8) → Int64 → Int64 → Option (Bool × Unit) := ofixA (29 : Nat)
 [PT.list (CTs.cons CT.str (CTs.cons CT.str CTs.nil)), PT.list (CTs.cons CT.str (CTs.cons CT.str CTs.nil)),
 PT.int IntKind.i64, PT.int IntKind.i64]
 F69_L29
def F69 : Nat → List (List UInt8 × List UInt8) × List (List UInt8 × List UInt8) → Option (Bool × Unit) := fun (n : Nat) (x : List (List UInt8 × List UInt8) × List (List UInt8 × List UInt8)) =>
 oite (!decide (Int64.ofInt ↑(List.length (Prod.fst x)) = Int64.ofInt ↑(List.length (Prod.snd x))))
 (some (false, ()))
 (F69_R29 n (Prod.fst x) (Prod.snd x) (Int64.ofInt ↑(List.length (Prod.fst x))) (0 : Int64))
theorem F69_R29_s  (m_ : Nat) : F69_R29  (m_ + 1) = F69_L29  (F69_R29  m_) := rfl
theorem ok69 (n : Nat) : FunOK Tryz.prog ⟨69, sig69, F69 n⟩ :=
 fun_ok (hints := ⟨[], [(29, ⟨[(0, .one (.ro (.cons .str (.cons .str .nil)))), (1, .one (.ro (.cons .str (.cons .str .nil)))), (12, .one (.int .i64)), (13, .one (.int .i64))], [], 2⟩)]⟩) (fuel := n) (c := Tryz.f69.body.getD .skip) (rs := Tryz.f69.results.toList) tt_ok mix (FsOK.nil) Tryz.func69 (by kernel_rfl) (by kernel_rfl) rfl (by kernel_rfl) rfl rfl (by kernel_rfl)
-- watchfire/lab.Same
def sig54 : Sig := ⟨(.cons (.one (.c (.ro (.cons .str (.cons .str .nil))))) (.cons (.one (.c (.ro (.cons .str (.cons .str .nil))))) .nil)), (.cons (.one (.c .bool)) .nil)⟩
def F54 : Nat → List (List UInt8 × List UInt8) × List (List UInt8 × List UInt8) → Option (Bool × Unit) := fun (n : Nat) (x : List (List UInt8 × List UInt8) × List (List UInt8 × List UInt8)) =>
 obind (F69 n (Prod.fst x, Prod.snd x)) fun (x_1 : Bool × Unit) => some (Prod.fst x_1, ())
theorem ok54 (n : Nat) : FunOK Tryz.prog ⟨54, sig54, F54 n⟩ :=
 fun_ok (hints := ⟨[], []⟩) (fuel := n) (c := Tryz.f54.body.getD .skip) (rs := Tryz.f54.results.toList) tt_ok mix (FsOK.cons (ok69 n) (FsOK.nil)) Tryz.func54 (by kernel_rfl) (by kernel_rfl) rfl (by kernel_rfl) rfl rfl (by kernel_rfl)
-- watchfire/item.Same
def sig29 : Sig := ⟨(.cons (.agg (.cons .bool (.cons (.int .u8) (.cons (.int .u64) (.cons (.int .u64) (.cons .str (.cons (.ro (.cons .str (.cons .str .nil))) (.cons (.int .u8) (.cons (.int .u8) (.cons (.int .i64) (.cons (.int .u8) (.cons (.int .u8) (.cons (.int .u64) (.cons (.int .u64) .nil)))))))))))))) (.cons (.agg (.cons .bool (.cons (.int .u8) (.cons (.int .u64) (.cons (.int .u64) (.cons .str (.cons (.ro (.cons .str (.cons .str .nil))) (.cons (.int .u8) (.cons (.int .u8) (.cons (.int .i64) (.cons (.int .u8) (.cons (.int .u8) (.cons (.int .u64) (.cons (.int .u64) .nil)))))))))))))) .nil)), (.cons (.one (.c .bool)) .nil)⟩
def F29_J14 : Nat →
 Bool →
 Bool →
 UInt8 →
 UInt64 →
 UInt64 →
 List UInt8 →
 List (List UInt8 × List UInt8) →
 UInt8 →
 UInt8 →
 Int64 →
 UInt8 →
 UInt8 →
 UInt64 →
 UInt64 →
 Bool →
 UInt8 →
 UInt64 →
 UInt64 →
 List UInt8 →
 List (List UInt8 × List UInt8) →
 UInt8 →
 UInt8 →
 Int64 →
 UInt8 →
 UInt8 →
 UInt64 →
 UInt64 →
 UInt8 →
 UInt64 →
 UInt64 →
 List UInt8 →
 List (List UInt8 × List UInt8) →
 UInt8 →
 UInt8 →
 Int64 →
 UInt8 →
 UInt8 →
 UInt64 →
 UInt64 →
 List UInt8 →
 List (List UInt8 × List UInt8) →
 UInt8 →
 UInt8 →
 Int64 →
 UInt8 → Option (Bool × Unit) := fun (n : Nat) (t a0 : Bool) (a1 : UInt8) (a2 a3 : UInt64) (a4 : List UInt8) (a5 : List (List UInt8 × List UInt8))
 (a6 a7 : UInt8) (a8 : Int64) (a9 a10 : UInt8) (a11 a12 : UInt64) (b0 : Bool) (b1 : UInt8) (b2 b3 : UInt64)
 (b4 : List UInt8) (b5 : List (List UInt8 × List UInt8)) (b6 b7 : UInt8) (b8 : Int64) (b9 b10 : UInt8)
 (b11 b12 : UInt64) (x0 : UInt8) (x1 x2 : UInt64) (x3 : List UInt8) (x4 : List (List UInt8 × List UInt8))
 (x5 x6 : UInt8) (x7 : Int64) (x8 y0 : UInt8) (y1 y2 : UInt64) (y3 : List UInt8)
 (y4 : List (List UInt8 × List UInt8)) (y5 y6 : UInt8) (y7 : Int64) (y8 : UInt8) =>
 oite t
 (oite (a0 == b0) (some (decide (a10 = b10) && (decide (a11 = b11) && (decide (a12 = b12) && true)), ()))
 (some (false, ())))
 (oite (decide (x0 = y0))
 (oite (decide (x1 = y1))
 (oite (decide (x2 = y2))
 (oite (x3 == y3)
 (oite (decide (x5 = y5))
 (oite (decide (x6 = y6))
 (oite (decide (x7 = y7))
 (oite (decide (x8 = y8))
 (obind (F54 n (x4, y4)) fun (x_1 : Bool × Unit) => some (Prod.fst x_1, ()))
 (some (false, ())))
 (some (false, ())))
 (some (false, ())))
 (some (false, ())))
 (some (false, ())))
 (some (false, ())))
 (some (false, ())))
 (some (false, ())))
def F29 : Nat →
 (Bool ×
 UInt8 ×
 UInt64 ×
 UInt64 ×
 List UInt8 × List (List UInt8 × List UInt8) × UInt8 × UInt8 × Int64 × UInt8 × UInt8 × UInt64 × UInt64) ×
 Bool ×
 UInt8 ×
 UInt64 ×
 UInt64 ×
 List UInt8 × List (List UInt8 × List UInt8) × UInt8 × UInt8 × Int64 × UInt8 × UInt8 × UInt64 × UInt64 →
 Option (Bool × Unit) := fun (n : Nat)
 (x :
 (Bool ×
 UInt8 ×
 UInt64 ×
 UInt64 ×
 List UInt8 × List (List UInt8 × List UInt8) × UInt8 × UInt8 × Int64 × UInt8 × UInt8 × UInt64 × UInt64) ×
 Bool ×
 UInt8 ×
 UInt64 ×
 UInt64 ×
 List UInt8 ×
 List (List UInt8 × List UInt8) × UInt8 × UInt8 × Int64 × UInt8 × UInt8 × UInt64 × UInt64) =>
 ojoinA (14 : Nat)
 [PT.bool, PT.bool, PT.int IntKind.u8, PT.int IntKind.u64, PT.int IntKind.u64, PT.bytes,
 PT.list (CTs.cons CT.str (CTs.cons CT.str CTs.nil)), PT.int IntKind.u8, PT.int IntKind.u8, PT.int IntKind.i64,
 PT.int IntKind.u8, PT.int IntKind.u8, PT.int IntKind.u64, PT.int IntKind.u64, PT.bool, PT.int IntKind.u8,
 PT.int IntKind.u64, PT.int IntKind.u64, PT.bytes, PT.list (CTs.cons CT.str (CTs.cons CT.str CTs.nil)),
 PT.int IntKind.u8, PT.int IntKind.u8, PT.int IntKind.i64, PT.int IntKind.u8, PT.int IntKind.u8,
 PT.int IntKind.u64, PT.int IntKind.u64, PT.int IntKind.u8, PT.int IntKind.u64, PT.int IntKind.u64, PT.bytes,
 PT.list (CTs.cons CT.str (CTs.cons CT.str CTs.nil)), PT.int IntKind.u8, PT.int IntKind.u8, PT.int IntKind.i64,
 PT.int IntKind.u8, PT.int IntKind.u8, PT.int IntKind.u64, PT.int IntKind.u64, PT.bytes,
 PT.list (CTs.cons CT.str (CTs.cons CT.str CTs.nil)), PT.int IntKind.u8, PT.int IntKind.u8, PT.int IntKind.i64,
 PT.int IntKind.u8]
 (fun
 (J :
 Arr
 [PT.bool, PT.bool, PT.int IntKind.u8, PT.int IntKind.u64, PT.int IntKind.u64, PT.bytes,
 PT.list (CTs.cons CT.str (CTs.cons CT.str CTs.nil)), PT.int IntKind.u8, PT.int IntKind.u8,
 PT.int IntKind.i64, PT.int IntKind.u8, PT.int IntKind.u8, PT.int IntKind.u64, PT.int IntKind.u64, PT.bool,
 PT.int IntKind.u8, PT.int IntKind.u64, PT.int IntKind.u64, PT.bytes,
 PT.list (CTs.cons CT.str (CTs.cons CT.str CTs.nil)), PT.int IntKind.u8, PT.int IntKind.u8,
 PT.int IntKind.i64, PT.int IntKind.u8, PT.int IntKind.u8, PT.int IntKind.u64, PT.int IntKind.u64,
 PT.int IntKind.u8, PT.int IntKind.u64, PT.int IntKind.u64, PT.bytes,
 PT.list (CTs.cons CT.str (CTs.cons CT.str CTs.nil)), PT.int IntKind.u8, PT.int IntKind.u8,
 PT.int IntKind.i64, PT.int IntKind.u8, PT.int IntKind.u8, PT.int IntKind.u64, PT.int IntKind.u64,
 PT.bytes, PT.list (CTs.cons CT.str (CTs.cons CT.str CTs.nil)), PT.int IntKind.u8, PT.int IntKind.u8,
 PT.int IntKind.i64, PT.int IntKind.u8]
 (Option (Bool × Unit))) =>
 oite (Prod.fst (Prod.fst x))
 (J true (Prod.fst (Prod.fst x)) (Prod.fst (Prod.snd (Prod.fst x))) (Prod.fst (Prod.snd (Prod.snd (Prod.fst x))))
 (Prod.fst (Prod.snd (Prod.snd (Prod.snd (Prod.fst x)))))
 (Prod.fst (Prod.snd (Prod.snd (Prod.snd (Prod.snd (Prod.fst x))))))
 (Prod.fst (Prod.snd (Prod.snd (Prod.snd (Prod.snd (Prod.snd (Prod.fst x)))))))
 (Prod.fst (Prod.snd (Prod.snd (Prod.snd (Prod.snd (Prod.snd (Prod.snd (Prod.fst x))))))))
 (Prod.fst (Prod.snd (Prod.snd (Prod.snd (Prod.snd (Prod.snd (Prod.snd (Prod.snd (Prod.fst x)))))))))
 (Prod.fst
 (Prod.snd (Prod.snd (Prod.snd (Prod.snd (Prod.snd (Prod.snd (Prod.snd (Prod.snd (Prod.fst x))))))))))
 (Prod.fst
 (Prod.snd
 (Prod.snd (Prod.snd (Prod.snd (Prod.snd (Prod.snd (Prod.snd (Prod.snd (Prod.snd (Prod.fst x)))))))))))
 (Prod.fst
 (Prod.snd
 (Prod.snd
 (Prod.snd (Prod.snd (Prod.snd (Prod.snd (Prod.snd (Prod.snd (Prod.snd (Prod.snd (Prod.fst x))))))))))))
 (Prod.fst
 (Prod.snd
 (Prod.snd
 (Prod.snd
 (Prod.snd
 (Prod.snd (Prod.snd (Prod.snd (Prod.snd (Prod.snd (Prod.snd (Prod.snd (Prod.fst x)))))))))))))
 (Prod.snd
 (Prod.snd
 (Prod.snd
 (Prod.snd
 (Prod.snd
 (Prod.snd (Prod.snd (Prod.snd (Prod.snd (Prod.snd (Prod.snd (Prod.snd (Prod.fst x)))))))))))))
 (Prod.fst (Prod.snd x)) (Prod.fst (Prod.snd (Prod.snd x))) (Prod.fst (Prod.snd (Prod.snd (Prod.snd x))))
 (Prod.fst (Prod.snd (Prod.snd (Prod.snd (Prod.snd x)))))
 (Prod.fst (Prod.snd (Prod.snd (Prod.snd (Prod.snd (Prod.snd x))))))
 (Prod.fst (Prod.snd (Prod.snd (Prod.snd (Prod.snd (Prod.snd (Prod.snd x)))))))
 (Prod.fst (Prod.snd (Prod.snd (Prod.snd (Prod.snd (Prod.snd (Prod.snd (Prod.snd x))))))))
 (Prod.fst (Prod.snd (Prod.snd (Prod.snd (Prod.snd (Prod.snd (Prod.snd (Prod.snd (Prod.snd x)))))))))
 (Prod.fst
 (Prod.snd (Prod.snd (Prod.snd (Prod.snd (Prod.snd (Prod.snd (Prod.snd (Prod.snd (Prod.snd x))))))))))
 (Prod.fst
 (Prod.snd
 (Prod.snd (Prod.snd (Prod.snd (Prod.snd (Prod.snd (Prod.snd (Prod.snd (Prod.snd (Prod.snd x)))))))))))
 (Prod.fst
 (Prod.snd
 (Prod.snd
 (Prod.snd (Prod.snd (Prod.snd (Prod.snd (Prod.snd (Prod.snd (Prod.snd (Prod.snd (Prod.snd x))))))))))))
 (Prod.fst
 (Prod.snd
 (Prod.snd
 (Prod.snd
 (Prod.snd
 (Prod.snd (Prod.snd (Prod.snd (Prod.snd (Prod.snd (Prod.snd (Prod.snd (Prod.snd x)))))))))))))
 (Prod.snd
 (Prod.snd
 (Prod.snd
 (Prod.snd
 (Prod.snd
 (Prod.snd (Prod.snd (Prod.snd (Prod.snd (Prod.snd (Prod.snd (Prod.snd (Prod.snd x)))))))))))))
 (Prod.fst (Prod.snd (Prod.fst x))) (Prod.fst (Prod.snd (Prod.snd (Prod.fst x))))
 (Prod.fst (Prod.snd (Prod.snd (Prod.snd (Prod.fst x)))))
 (Prod.fst (Prod.snd (Prod.snd (Prod.snd (Prod.snd (Prod.fst x))))))
 (Prod.fst (Prod.snd (Prod.snd (Prod.snd (Prod.snd (Prod.snd (Prod.fst x)))))))
 (Prod.fst (Prod.snd (Prod.snd (Prod.snd (Prod.snd (Prod.snd (Prod.snd (Prod.fst x))))))))
 (Prod.fst (Prod.snd (Prod.snd (Prod.snd (Prod.snd (Prod.snd (Prod.snd (Prod.snd (Prod.fst x)))))))))
 (Prod.fst
 (Prod.snd (Prod.snd (Prod.snd (Prod.snd (Prod.snd (Prod.snd (Prod.snd (Prod.snd (Prod.fst x))))))))))
 (Prod.fst
 (Prod.snd
 (Prod.snd (Prod.snd (Prod.snd (Prod.snd (Prod.snd (Prod.snd (Prod.snd (Prod.snd (Prod.fst x)))))))))))
 (Prod.fst (Prod.snd (Prod.snd x))) (Prod.fst (Prod.snd (Prod.snd (Prod.snd x))))
 (Prod.fst (Prod.snd (Prod.snd (Prod.snd (Prod.snd x)))))
 (Prod.fst (Prod.snd (Prod.snd (Prod.snd (Prod.snd (Prod.snd x))))))
 (Prod.fst (Prod.snd (Prod.snd (Prod.snd (Prod.snd (Prod.snd (Prod.snd x)))))))
 (Prod.fst (Prod.snd (Prod.snd (Prod.snd (Prod.snd (Prod.snd (Prod.snd (Prod.snd x))))))))
 (Prod.fst (Prod.snd (Prod.snd (Prod.snd (Prod.snd (Prod.snd (Prod.snd (Prod.snd (Prod.snd x)))))))))
 (Prod.fst
 (Prod.snd (Prod.snd (Prod.snd (Prod.snd (Prod.snd (Prod.snd (Prod.snd (Prod.snd (Prod.snd x))))))))))
 (Prod.fst
 (Prod.snd
 (Prod.snd (Prod.snd (Prod.snd (Prod.snd (Prod.snd (Prod.snd (Prod.snd (Prod.snd (Prod.snd x))))))))))))
 (J (Prod.fst (Prod.snd x)) (Prod.fst (Prod.fst x)) (Prod.fst (Prod.snd (Prod.fst x)))
 (Prod.fst (Prod.snd (Prod.snd (Prod.fst x)))) (Prod.fst (Prod.snd (Prod.snd (Prod.snd (Prod.fst x)))))
 (Prod.fst (Prod.snd (Prod.snd (Prod.snd (Prod.snd (Prod.fst x))))))
 (Prod.fst (Prod.snd (Prod.snd (Prod.snd (Prod.snd (Prod.snd (Prod.fst x)))))))
 (Prod.fst (Prod.snd (Prod.snd (Prod.snd (Prod.snd (Prod.snd (Prod.snd (Prod.fst x))))))))
 (Prod.fst (Prod.snd (Prod.snd (Prod.snd (Prod.snd (Prod.snd (Prod.snd (Prod.snd (Prod.fst x)))))))))
 (Prod.fst
 (Prod.snd (Prod.snd (Prod.snd (Prod.snd (Prod.snd (Prod.snd (Prod.snd (Prod.snd (Prod.fst x))))))))))
 (Prod.fst
 (Prod.snd
 (Prod.snd (Prod.snd (Prod.snd (Prod.snd (Prod.snd (Prod.snd (Prod.snd (Prod.snd (Prod.fst x)))))))))))
 (Prod.fst
 (Prod.snd
 (Prod.snd
 (Prod.snd (Prod.snd (Prod.snd (Prod.snd (Prod.snd (Prod.snd (Prod.snd (Prod.snd (Prod.fst x))))))))))))
 (Prod.fst
 (Prod.snd
 (Prod.snd
 (Prod.snd
 (Prod.snd
 (Prod.snd (Prod.snd (Prod.snd (Prod.snd (Prod.snd (Prod.snd (Prod.snd (Prod.fst x)))))))))))))
 (Prod.snd
 (Prod.snd
 (Prod.snd
 (Prod.snd
 (Prod.snd
 (Prod.snd (Prod.snd (Prod.snd (Prod.snd (Prod.snd (Prod.snd (Prod.snd (Prod.fst x)))))))))))))
 (Prod.fst (Prod.snd x)) (Prod.fst (Prod.snd (Prod.snd x))) (Prod.fst (Prod.snd (Prod.snd (Prod.snd x))))
 (Prod.fst (Prod.snd (Prod.snd (Prod.snd (Prod.snd x)))))
 (Prod.fst (Prod.snd (Prod.snd (Prod.snd (Prod.snd (Prod.snd x))))))
 (Prod.fst (Prod.snd (Prod.snd (Prod.snd (Prod.snd (Prod.snd (Prod.snd x)))))))
 (Prod.fst (Prod.snd (Prod.snd (Prod.snd (Prod.snd (Prod.snd (Prod.snd (Prod.snd x))))))))
 (Prod.fst (Prod.snd (Prod.snd (Prod.snd (Prod.snd (Prod.snd (Prod.snd (Prod.snd (Prod.snd x)))))))))
 (Prod.fst
 (Prod.snd (Prod.snd (Prod.snd (Prod.snd (Prod.snd (Prod.snd (Prod.snd (Prod.snd (Prod.snd x))))))))))
 (Prod.fst
 (Prod.snd
 (Prod.snd (Prod.snd (Prod.snd (Prod.snd (Prod.snd (Prod.snd (Prod.snd (Prod.snd (Prod.snd x)))))))))))
 (Prod.fst
 (Prod.snd
 (Prod.snd
 (Prod.snd (Prod.snd (Prod.snd (Prod.snd (Prod.snd (Prod.snd (Prod.snd (Prod.snd (Prod.snd x))))))))))))
 (Prod.fst
 (Prod.snd
 (Prod.snd
 (Prod.snd
 (Prod.snd
 (Prod.snd (Prod.snd (Prod.snd (Prod.snd (Prod.snd (Prod.snd (Prod.snd (Prod.snd x)))))))))))))
 (Prod.snd
 (Prod.snd
 (Prod.snd
 (Prod.snd
 (Prod.snd
 (Prod.snd (Prod.snd (Prod.snd (Prod.snd (Prod.snd (Prod.snd (Prod.snd (Prod.snd x)))))))))))))
 (Prod.fst (Prod.snd (Prod.fst x))) (Prod.fst (Prod.snd (Prod.snd (Prod.fst x))))
 (Prod.fst (Prod.snd (Prod.snd (Prod.snd (Prod.fst x)))))
 (Prod.fst (Prod.snd (Prod.snd (Prod.snd (Prod.snd (Prod.fst x))))))
 (Prod.fst (Prod.snd (Prod.snd (Prod.snd (Prod.snd (Prod.snd (Prod.fst x)))))))
 (Prod.fst (Prod.snd (Prod.snd (Prod.snd (Prod.snd (Prod.snd (Prod.snd (Prod.fst x))))))))
 (Prod.fst (Prod.snd (Prod.snd (Prod.snd (Prod.snd (Prod.snd (Prod.snd (Prod.snd (Prod.fst x)))))))))
 (Prod.fst
 (Prod.snd (Prod.snd (Prod.snd (Prod.snd (Prod.snd (Prod.snd (Prod.snd (Prod.snd (Prod.fst x))))))))))
 (Prod.fst
 (Prod.snd
 (Prod.snd (Prod.snd (Prod.snd (Prod.snd (Prod.snd (Prod.snd (Prod.snd (Prod.snd (Prod.fst x)))))))))))
 (Prod.fst (Prod.snd (Prod.snd x))) (Prod.fst (Prod.snd (Prod.snd (Prod.snd x))))
 (Prod.fst (Prod.snd (Prod.snd (Prod.snd (Prod.snd x)))))
 (Prod.fst (Prod.snd (Prod.snd (Prod.snd (Prod.snd (Prod.snd x))))))
 (Prod.fst (Prod.snd (Prod.snd (Prod.snd (Prod.snd (Prod.snd (Prod.snd x)))))))
 (Prod.fst (Prod.snd (Prod.snd (Prod.snd (Prod.snd (Prod.snd (Prod.snd (Prod.snd x))))))))
 (Prod.fst (Prod.snd (Prod.snd (Prod.snd (Prod.snd (Prod.snd (Prod.snd (Prod.snd (Prod.snd x)))))))))
 (Prod.fst
 (Prod.snd (Prod.snd (Prod.snd (Prod.snd (Prod.snd (Prod.snd (Prod.snd (Prod.snd (Prod.snd x))))))))))
 (Prod.fst
 (Prod.snd
 (Prod.snd (Prod.snd (Prod.snd (Prod.snd (Prod.snd (Prod.snd (Prod.snd (Prod.snd (Prod.snd x)))))))))))))
 (F29_J14 n)
theorem ok29 (n : Nat) : FunOK Tryz.prog ⟨29, sig29, F29 n⟩ :=
 fun_ok (hints := ⟨[(14, ⟨[(2, .one (.own 2)), (3, .one (.own 3)), (5, .one (.own 4)), (6, .one (.own 5)), (16, .one (.bool))], [(2, .cells [.bool, .int .u8, .int .u64, .int .u64, .str, .ro (.cons .str (.cons .str .nil)), .int .u8, .int .u8, .int .i64, .int .u8, .int .u8, .int .u64, .int .u64]), (3, .cells [.bool, .int .u8, .int .u64, .int .u64, .str, .ro (.cons .str (.cons .str .nil)), .int .u8, .int .u8, .int .i64, .int .u8, .int .u8, .int .u64, .int .u64]), (4, .cells [.int .u8, .int .u64, .int .u64, .str, .ro (.cons .str (.cons .str .nil)), .int .u8, .int .u8, .int .i64, .int .u8]), (5, .cells [.int .u8, .int .u64, .int .u64, .str, .ro (.cons .str (.cons .str .nil)), .int .u8, .int .u8, .int .i64, .int .u8])], 6⟩)], []⟩) (fuel := n) (c := Tryz.f29.body.getD .skip) (rs := Tryz.f29.results.toList) tt_ok mix (FsOK.cons (ok54 n) (FsOK.nil)) Tryz.func29 (by kernel_rfl) (by kernel_rfl) rfl (by kernel_rfl) rfl rfl (by kernel_rfl)
-- watchfire/frame.bare
def sig48 : Sig := ⟨(.cons (.agg (.cons .bool (.cons (.int .u8) (.cons (.int .u64) (.cons (.int .u64) (.cons .str (.cons (.ro (.cons .str (.cons .str .nil))) (.cons (.int .u8) (.cons (.int .u8) (.cons (.int .i64) (.cons (.int .u8) (.cons (.int .u8) (.cons (.int .u64) (.cons (.int .u64) .nil)))))))))))))) .nil), (.cons (.one (.c .bool)) .nil)⟩
def F48 : Nat →
 Bool ×
 UInt8 ×
 UInt64 ×
 UInt64 ×
 List UInt8 × List (List UInt8 × List UInt8) × UInt8 × UInt8 × Int64 × UInt8 × UInt8 × UInt64 × UInt64 →
 Option (Bool × Unit) := fun (n : Nat)
 (x :
 Bool ×
 UInt8 ×
 UInt64 ×
 UInt64 ×
 List UInt8 × List (List UInt8 × List UInt8) × UInt8 × UInt8 × Int64 × UInt8 × UInt8 × UInt64 × UInt64) =>
 obind
 (F29 n
 ((Prod.fst x, Prod.fst (Prod.snd x), Prod.fst (Prod.snd (Prod.snd x)),
 Prod.fst (Prod.snd (Prod.snd (Prod.snd x))), Prod.fst (Prod.snd (Prod.snd (Prod.snd (Prod.snd x)))),
 Prod.fst (Prod.snd (Prod.snd (Prod.snd (Prod.snd (Prod.snd x))))),
 Prod.fst (Prod.snd (Prod.snd (Prod.snd (Prod.snd (Prod.snd (Prod.snd x)))))),
 Prod.fst (Prod.snd (Prod.snd (Prod.snd (Prod.snd (Prod.snd (Prod.snd (Prod.snd x))))))),
 Prod.fst (Prod.snd (Prod.snd (Prod.snd (Prod.snd (Prod.snd (Prod.snd (Prod.snd (Prod.snd x)))))))),
 Prod.fst (Prod.snd (Prod.snd (Prod.snd (Prod.snd (Prod.snd (Prod.snd (Prod.snd (Prod.snd (Prod.snd x))))))))),
 Prod.fst
 (Prod.snd
 (Prod.snd (Prod.snd (Prod.snd (Prod.snd (Prod.snd (Prod.snd (Prod.snd (Prod.snd (Prod.snd x)))))))))),
 Prod.fst
 (Prod.snd
 (Prod.snd
 (Prod.snd (Prod.snd (Prod.snd (Prod.snd (Prod.snd (Prod.snd (Prod.snd (Prod.snd (Prod.snd x))))))))))),
 Prod.snd
 (Prod.snd
 (Prod.snd
 (Prod.snd (Prod.snd (Prod.snd (Prod.snd (Prod.snd (Prod.snd (Prod.snd (Prod.snd (Prod.snd x)))))))))))),
 false, (0 : UInt8), (0 : UInt64), (0 : UInt64), [], [], (0 : UInt8), (0 : UInt8), (0 : Int64), (0 : UInt8),
 (0 : UInt8), (0 : UInt64), (0 : UInt64)))
 fun (x_1 : Bool × Unit) => some (Prod.fst x_1, ())
theorem ok48 (n : Nat) : FunOK Tryz.prog ⟨48, sig48, F48 n⟩ :=
 fun_ok (hints := ⟨[], []⟩) (fuel := n) (c := Tryz.f48.body.getD .skip) (rs := Tryz.f48.results.toList) tt_ok mix (FsOK.cons (ok29 n) (FsOK.nil)) Tryz.func48 (by kernel_rfl) (by kernel_rfl) rfl (by kernel_rfl) rfl rfl (by kernel_rfl)
-- watchfire/frame.Check
def sig26 : Sig := ⟨(.cons (.agg (.cons (.int .u8) (.cons (.int .u8) (.cons (.int .u8) (.cons (.int .u64) (.cons (.int .u64) (.cons .bool (.cons (.int .u8) (.cons (.int .u64) (.cons (.int .u64) (.cons .str (.cons (.ro (.cons .str (.cons .str .nil))) (.cons (.int .u8) (.cons (.int .u8) (.cons (.int .i64) (.cons (.int .u8) (.cons (.int .u8) (.cons (.int .u64) (.cons (.int .u64) (.cons (.int .u64) (.cons (.int .u64) (.cons (.int .u64) .nil)))))))))))))))))))))) .nil), (.cons (.one (.c (.int .i64))) .nil)⟩
def F26 : Nat →
 UInt8 ×
 UInt8 ×
 UInt8 ×
 UInt64 ×
 UInt64 ×
 Bool ×
 UInt8 ×
 UInt64 ×
 UInt64 ×
 List UInt8 ×
 List (List UInt8 × List UInt8) ×
 UInt8 × UInt8 × Int64 × UInt8 × UInt8 × UInt64 × UInt64 × UInt64 × UInt64 × UInt64 →
 Option (Int64 × Unit) := fun (n : Nat)
 (x :
 UInt8 ×
 UInt8 ×
 UInt8 ×
 UInt64 ×
 UInt64 ×
 Bool ×
 UInt8 ×
 UInt64 ×
 UInt64 ×
 List UInt8 ×
 List (List UInt8 × List UInt8) ×
 UInt8 × UInt8 × Int64 × UInt8 × UInt8 × UInt64 × UInt64 × UInt64 × UInt64 × UInt64) =>
 oite (decide (Prod.fst x < (1 : UInt8))) (some ((12 : Int64), ()))
 (oite (decide ((3 : UInt8) < Prod.fst x)) (some ((12 : Int64), ()))
 (oite (decide ((32 : UInt8) ≤ Prod.fst (Prod.snd x))) (some ((20 : Int64), ()))
 (oite (decide ((32 : UInt8) ≤ Prod.fst (Prod.snd (Prod.snd x)))) (some ((20 : Int64), ()))
 (oite (decide (Prod.fst (Prod.snd x) = Prod.fst (Prod.snd (Prod.snd x)))) (some ((20 : Int64), ()))
 (oite (decide ((1099511627776 : UInt64) < Prod.fst (Prod.snd (Prod.snd (Prod.snd x)))))
 (some ((6 : Int64), ()))
 (oite (decide ((1099511627776 : UInt64) < Prod.fst (Prod.snd (Prod.snd (Prod.snd (Prod.snd x))))))
 (some ((6 : Int64), ()))
 (oite
 (decide
 ((1099511627776 : UInt64) <
 Prod.fst
 (Prod.snd
 (Prod.snd
 (Prod.snd
 (Prod.snd
 (Prod.snd
 (Prod.snd
 (Prod.snd
 (Prod.snd
 (Prod.snd
 (Prod.snd
 (Prod.snd
 (Prod.snd
 (Prod.snd
 (Prod.snd
 (Prod.snd (Prod.snd (Prod.snd (Prod.snd x))))))))))))))))))))
 (some ((6 : Int64), ()))
 (oite
 (decide
 ((1099511627776 : UInt64) <
 Prod.snd
 (Prod.snd
 (Prod.snd
 (Prod.snd
 (Prod.snd
 (Prod.snd
 (Prod.snd
 (Prod.snd
 (Prod.snd
 (Prod.snd
 (Prod.snd
 (Prod.snd
 (Prod.snd
 (Prod.snd
 (Prod.snd
 (Prod.snd
 (Prod.snd (Prod.snd (Prod.snd (Prod.snd x)))))))))))))))))))))
 (some ((6 : Int64), ()))
 (oite (decide (Prod.fst x = (1 : UInt8)))
 (oite (decide (Prod.fst (Prod.snd (Prod.snd (Prod.snd (Prod.snd x)))) < (1 : UInt64)))
 (some ((6 : Int64), ()))
 (oite (decide (Prod.fst (Prod.snd (Prod.snd (Prod.snd x))) < (1 : UInt64)))
 (some ((6 : Int64), ()))
 (oite
 (!decide
 (Prod.fst
 (Prod.snd
 (Prod.snd
 (Prod.snd
 (Prod.snd
 (Prod.snd
 (Prod.snd
 (Prod.snd
 (Prod.snd
 (Prod.snd
 (Prod.snd
 (Prod.snd
 (Prod.snd
 (Prod.snd
 (Prod.snd
 (Prod.snd
 (Prod.snd (Prod.snd (Prod.snd x)))))))))))))))))) =
 (0 : UInt64)))
 (some ((6 : Int64), ()))
 (oite
 (!decide
 (Prod.fst
 (Prod.snd
 (Prod.snd
 (Prod.snd
 (Prod.snd
 (Prod.snd
 (Prod.snd
 (Prod.snd
 (Prod.snd
 (Prod.snd
 (Prod.snd
 (Prod.snd
 (Prod.snd
 (Prod.snd
 (Prod.snd
 (Prod.snd
 (Prod.snd
 (Prod.snd
 (Prod.snd (Prod.snd x))))))))))))))))))) =
 (0 : UInt64)))
 (some ((6 : Int64), ()))
 (oite
 (!decide
 (Prod.snd
 (Prod.snd
 (Prod.snd
 (Prod.snd
 (Prod.snd
 (Prod.snd
 (Prod.snd
 (Prod.snd
 (Prod.snd
 (Prod.snd
 (Prod.snd
 (Prod.snd
 (Prod.snd
 (Prod.snd
 (Prod.snd
 (Prod.snd
 (Prod.snd
 (Prod.snd
 (Prod.snd (Prod.snd x))))))))))))))))))) =
 (0 : UInt64)))
 (some ((6 : Int64), ()))
 (obind
 (F46 n
 (Prod.fst (Prod.snd (Prod.snd (Prod.snd (Prod.snd (Prod.snd x))))),
 Prod.fst (Prod.snd (Prod.snd (Prod.snd (Prod.snd (Prod.snd (Prod.snd x)))))),
 Prod.fst
 (Prod.snd (Prod.snd (Prod.snd (Prod.snd (Prod.snd (Prod.snd (Prod.snd x))))))),
 Prod.fst
 (Prod.snd
 (Prod.snd
 (Prod.snd (Prod.snd (Prod.snd (Prod.snd (Prod.snd (Prod.snd x)))))))),
 Prod.fst
 (Prod.snd
 (Prod.snd
 (Prod.snd
 (Prod.snd (Prod.snd (Prod.snd (Prod.snd (Prod.snd (Prod.snd x))))))))),
 Prod.fst
 (Prod.snd
 (Prod.snd
 (Prod.snd
 (Prod.snd
 (Prod.snd (Prod.snd (Prod.snd (Prod.snd (Prod.snd (Prod.snd x)))))))))),
 Prod.fst
 (Prod.snd
 (Prod.snd
 (Prod.snd
 (Prod.snd
 (Prod.snd
 (Prod.snd
 (Prod.snd (Prod.snd (Prod.snd (Prod.snd (Prod.snd x))))))))))),
 Prod.fst
 (Prod.snd
 (Prod.snd
 (Prod.snd
 (Prod.snd
 (Prod.snd
 (Prod.snd
 (Prod.snd
 (Prod.snd (Prod.snd (Prod.snd (Prod.snd (Prod.snd x)))))))))))),
 Prod.fst
 (Prod.snd
 (Prod.snd
 (Prod.snd
 (Prod.snd
 (Prod.snd
 (Prod.snd
 (Prod.snd
 (Prod.snd
 (Prod.snd
 (Prod.snd (Prod.snd (Prod.snd (Prod.snd x))))))))))))),
 Prod.fst
 (Prod.snd
 (Prod.snd
 (Prod.snd
 (Prod.snd
 (Prod.snd
 (Prod.snd
 (Prod.snd
 (Prod.snd
 (Prod.snd
 (Prod.snd
 (Prod.snd (Prod.snd (Prod.snd (Prod.snd x)))))))))))))),
 Prod.fst
 (Prod.snd
 (Prod.snd
 (Prod.snd
 (Prod.snd
 (Prod.snd
 (Prod.snd
 (Prod.snd
 (Prod.snd
 (Prod.snd
 (Prod.snd
 (Prod.snd
 (Prod.snd (Prod.snd (Prod.snd (Prod.snd x))))))))))))))),
 Prod.fst
 (Prod.snd
 (Prod.snd
 (Prod.snd
 (Prod.snd
 (Prod.snd
 (Prod.snd
 (Prod.snd
 (Prod.snd
 (Prod.snd
 (Prod.snd
 (Prod.snd
 (Prod.snd
 (Prod.snd
 (Prod.snd (Prod.snd (Prod.snd x)))))))))))))))),
 Prod.fst
 (Prod.snd
 (Prod.snd
 (Prod.snd
 (Prod.snd
 (Prod.snd
 (Prod.snd
 (Prod.snd
 (Prod.snd
 (Prod.snd
 (Prod.snd
 (Prod.snd
 (Prod.snd
 (Prod.snd
 (Prod.snd
 (Prod.snd (Prod.snd (Prod.snd x)))))))))))))))))))
 fun (x_1 : Int64 × Unit) => some (Prod.fst x_1, ())))))))
 (oite (decide (Prod.fst x = (2 : UInt8)))
 (oite (!decide (Prod.fst (Prod.snd (Prod.snd (Prod.snd (Prod.snd x)))) = (0 : UInt64)))
 (some ((6 : Int64), ()))
 (oite (decide (Prod.fst (Prod.snd (Prod.snd (Prod.snd x))) < (1 : UInt64)))
 (some ((6 : Int64), ()))
 (oite
 (decide
 (Prod.snd
 (Prod.snd
 (Prod.snd
 (Prod.snd
 (Prod.snd
 (Prod.snd
 (Prod.snd
 (Prod.snd
 (Prod.snd
 (Prod.snd
 (Prod.snd
 (Prod.snd
 (Prod.snd
 (Prod.snd
 (Prod.snd
 (Prod.snd
 (Prod.snd
 (Prod.snd (Prod.snd (Prod.snd x))))))))))))))))))) <
 (1 : UInt64)))
 (some ((6 : Int64), ()))
 (obind
 (F48 n
 (Prod.fst (Prod.snd (Prod.snd (Prod.snd (Prod.snd (Prod.snd x))))),
 Prod.fst (Prod.snd (Prod.snd (Prod.snd (Prod.snd (Prod.snd (Prod.snd x)))))),
 Prod.fst
 (Prod.snd (Prod.snd (Prod.snd (Prod.snd (Prod.snd (Prod.snd (Prod.snd x))))))),
 Prod.fst
 (Prod.snd
 (Prod.snd (Prod.snd (Prod.snd (Prod.snd (Prod.snd (Prod.snd (Prod.snd x)))))))),
 Prod.fst
 (Prod.snd
 (Prod.snd
 (Prod.snd
 (Prod.snd (Prod.snd (Prod.snd (Prod.snd (Prod.snd (Prod.snd x))))))))),
 Prod.fst
 (Prod.snd
 (Prod.snd
 (Prod.snd
 (Prod.snd
 (Prod.snd (Prod.snd (Prod.snd (Prod.snd (Prod.snd (Prod.snd x)))))))))),
 Prod.fst
 (Prod.snd
 (Prod.snd
 (Prod.snd
 (Prod.snd
 (Prod.snd
 (Prod.snd
 (Prod.snd (Prod.snd (Prod.snd (Prod.snd (Prod.snd x))))))))))),
 Prod.fst
 (Prod.snd
 (Prod.snd
 (Prod.snd
 (Prod.snd
 (Prod.snd
 (Prod.snd
 (Prod.snd
 (Prod.snd (Prod.snd (Prod.snd (Prod.snd (Prod.snd x)))))))))))),
 Prod.fst
 (Prod.snd
 (Prod.snd
 (Prod.snd
 (Prod.snd
 (Prod.snd
 (Prod.snd
 (Prod.snd
 (Prod.snd
 (Prod.snd (Prod.snd (Prod.snd (Prod.snd (Prod.snd x))))))))))))),
 Prod.fst
 (Prod.snd
 (Prod.snd
 (Prod.snd
 (Prod.snd
 (Prod.snd
 (Prod.snd
 (Prod.snd
 (Prod.snd
 (Prod.snd
 (Prod.snd
 (Prod.snd (Prod.snd (Prod.snd (Prod.snd x)))))))))))))),
 Prod.fst
 (Prod.snd
 (Prod.snd
 (Prod.snd
 (Prod.snd
 (Prod.snd
 (Prod.snd
 (Prod.snd
 (Prod.snd
 (Prod.snd
 (Prod.snd
 (Prod.snd
 (Prod.snd (Prod.snd (Prod.snd (Prod.snd x))))))))))))))),
 Prod.fst
 (Prod.snd
 (Prod.snd
 (Prod.snd
 (Prod.snd
 (Prod.snd
 (Prod.snd
 (Prod.snd
 (Prod.snd
 (Prod.snd
 (Prod.snd
 (Prod.snd
 (Prod.snd
 (Prod.snd (Prod.snd (Prod.snd (Prod.snd x)))))))))))))))),
 Prod.fst
 (Prod.snd
 (Prod.snd
 (Prod.snd
 (Prod.snd
 (Prod.snd
 (Prod.snd
 (Prod.snd
 (Prod.snd
 (Prod.snd
 (Prod.snd
 (Prod.snd
 (Prod.snd
 (Prod.snd
 (Prod.snd
 (Prod.snd (Prod.snd (Prod.snd x)))))))))))))))))))
 fun (x_1 : Bool × Unit) =>
 oite (!Prod.fst x_1) (some ((6 : Int64), ()))
 (some ((0 : Int64), ()))))))
 (oite (decide (Prod.fst x = (3 : UInt8)))
 (oite (!decide (Prod.fst (Prod.snd (Prod.snd (Prod.snd (Prod.snd x)))) = (0 : UInt64)))
 (some ((6 : Int64), ()))
 (oite (!decide (Prod.fst (Prod.snd (Prod.snd (Prod.snd x))) = (0 : UInt64)))
 (some ((6 : Int64), ()))
 (oite
 (!decide
 (Prod.fst
 (Prod.snd
 (Prod.snd
 (Prod.snd
 (Prod.snd
 (Prod.snd
 (Prod.snd
 (Prod.snd
 (Prod.snd
 (Prod.snd
 (Prod.snd
 (Prod.snd
 (Prod.snd
 (Prod.snd
 (Prod.snd
 (Prod.snd
 (Prod.snd
 (Prod.snd (Prod.snd x)))))))))))))))))) =
 (0 : UInt64)))
 (some ((6 : Int64), ()))
 (oite
 (!decide
 (Prod.fst
 (Prod.snd
 (Prod.snd
 (Prod.snd
 (Prod.snd
 (Prod.snd
 (Prod.snd
 (Prod.snd
 (Prod.snd
 (Prod.snd
 (Prod.snd
 (Prod.snd
 (Prod.snd
 (Prod.snd
 (Prod.snd
 (Prod.snd
 (Prod.snd
 (Prod.snd
 (Prod.snd (Prod.snd x))))))))))))))))))) =
 (0 : UInt64)))
 (some ((6 : Int64), ()))
 (oite
 (!decide
 (Prod.snd
 (Prod.snd
 (Prod.snd
 (Prod.snd
 (Prod.snd
 (Prod.snd
 (Prod.snd
 (Prod.snd
 (Prod.snd
 (Prod.snd
 (Prod.snd
 (Prod.snd
 (Prod.snd
 (Prod.snd
 (Prod.snd
 (Prod.snd
 (Prod.snd
 (Prod.snd
 (Prod.snd (Prod.snd x))))))))))))))))))) =
 (0 : UInt64)))
 (some ((6 : Int64), ()))
 (obind
 (F48 n
 (Prod.fst (Prod.snd (Prod.snd (Prod.snd (Prod.snd (Prod.snd x))))),
 Prod.fst (Prod.snd (Prod.snd (Prod.snd (Prod.snd (Prod.snd (Prod.snd x)))))),
 Prod.fst
 (Prod.snd
 (Prod.snd (Prod.snd (Prod.snd (Prod.snd (Prod.snd (Prod.snd x))))))),
 Prod.fst
 (Prod.snd
 (Prod.snd
 (Prod.snd (Prod.snd (Prod.snd (Prod.snd (Prod.snd (Prod.snd x)))))))),
 Prod.fst
 (Prod.snd
 (Prod.snd
 (Prod.snd
 (Prod.snd
 (Prod.snd (Prod.snd (Prod.snd (Prod.snd (Prod.snd x))))))))),
 Prod.fst
 (Prod.snd
 (Prod.snd
 (Prod.snd
 (Prod.snd
 (Prod.snd
 (Prod.snd (Prod.snd (Prod.snd (Prod.snd (Prod.snd x)))))))))),
 Prod.fst
 (Prod.snd
 (Prod.snd
 (Prod.snd
 (Prod.snd
 (Prod.snd
 (Prod.snd
 (Prod.snd (Prod.snd (Prod.snd (Prod.snd (Prod.snd x))))))))))),
 Prod.fst
 (Prod.snd
 (Prod.snd
 (Prod.snd
 (Prod.snd
 (Prod.snd
 (Prod.snd
 (Prod.snd
 (Prod.snd
 (Prod.snd (Prod.snd (Prod.snd (Prod.snd x)))))))))))),
 Prod.fst
 (Prod.snd
 (Prod.snd
 (Prod.snd
 (Prod.snd
 (Prod.snd
 (Prod.snd
 (Prod.snd
 (Prod.snd
 (Prod.snd
 (Prod.snd (Prod.snd (Prod.snd (Prod.snd x))))))))))))),
 Prod.fst
 (Prod.snd
 (Prod.snd
 (Prod.snd
 (Prod.snd
 (Prod.snd
 (Prod.snd
 (Prod.snd
 (Prod.snd
 (Prod.snd
 (Prod.snd
 (Prod.snd (Prod.snd (Prod.snd (Prod.snd x)))))))))))))),
 Prod.fst
 (Prod.snd
 (Prod.snd
 (Prod.snd
 (Prod.snd
 (Prod.snd
 (Prod.snd
 (Prod.snd
 (Prod.snd
 (Prod.snd
 (Prod.snd
 (Prod.snd
 (Prod.snd
 (Prod.snd (Prod.snd (Prod.snd x))))))))))))))),
 Prod.fst
 (Prod.snd
 (Prod.snd
 (Prod.snd
 (Prod.snd
 (Prod.snd
 (Prod.snd
 (Prod.snd
 (Prod.snd
 (Prod.snd
 (Prod.snd
 (Prod.snd
 (Prod.snd
 (Prod.snd
 (Prod.snd (Prod.snd (Prod.snd x)))))))))))))))),
 Prod.fst
 (Prod.snd
 (Prod.snd
 (Prod.snd
 (Prod.snd
 (Prod.snd
 (Prod.snd
 (Prod.snd
 (Prod.snd
 (Prod.snd
 (Prod.snd
 (Prod.snd
 (Prod.snd
 (Prod.snd
 (Prod.snd
 (Prod.snd
 (Prod.snd (Prod.snd x)))))))))))))))))))
 fun (x_1 : Bool × Unit) =>
 oite (!Prod.fst x_1) (some ((6 : Int64), ()))
 (some ((0 : Int64), ()))))))))
 (some ((0 : Int64), ())))))))))))))
theorem ok26 (n : Nat) : FunOK Tryz.prog ⟨26, sig26, F26 n⟩ :=
 fun_ok (hints := ⟨[], []⟩) (fuel := n) (c := Tryz.f26.body.getD .skip) (rs := Tryz.f26.results.toList) tt_ok mix (FsOK.cons (ok46 n) (FsOK.cons (ok48 n) (FsOK.nil))) Tryz.func26 (by kernel_rfl) (by kernel_rfl) rfl (by kernel_rfl) rfl rfl (by kernel_rfl)
-- (*watchfire/pack.Writer).Byte
def sig30 : Sig := ⟨(.cons (.one (.ptr (.cons (.row (.cons (.int .u8) .nil)) .nil))) (.cons (.one (.c (.int .u8))) .nil)), .nil⟩
def F30 : Nat → Option (List UInt8) × UInt8 → Option (Unit × Option (List UInt8)) := fun (n : Nat) (x : Option (List UInt8) × UInt8) =>
 oelim (Prod.fst x) (some ((), none)) fun (x_1 : List UInt8) =>
 oite (Nat.ble (List.length x_1 + List.length [Prod.snd x]) (4294967296 : Nat))
 (some ((), some (x_1 ++ [Prod.snd x]))) none
theorem ok30 (n : Nat) : FunOK Tryz.prog ⟨30, sig30, F30 n⟩ :=
 fun_ok (hints := ⟨[], []⟩) (fuel := n) (c := Tryz.f30.body.getD .skip) (rs := Tryz.f30.results.toList) tt_ok mix (FsOK.nil) Tryz.func30 (by kernel_rfl) (by kernel_rfl) rfl (by kernel_rfl) rfl rfl (by kernel_rfl)
-- (*watchfire/pack.Writer).Uint
def sig31 : Sig := ⟨(.cons (.one (.ptr (.cons (.row (.cons (.int .u8) .nil)) .nil))) (.cons (.one (.c (.int .u64))) .nil)), .nil⟩
def F31_L6 : Arr [PT.int IntKind.u64, PT.list (CTs.cons (CT.int IntKind.u8) CTs.nil)] (Option (Unit × Option (List UInt8))) →
 UInt64 → List UInt8 → Option (Unit × Option (List UInt8)) := fun
 (rec :
 Arr [PT.int IntKind.u64, PT.list (CTs.cons (CT.int IntKind.u8) CTs.nil)] (Option (Unit × Option (List UInt8))))
 (n_ : UInt64) (wl : List UInt8) =>
 oite (decide ((128 : UInt64) ≤ n_))
 (oite (Nat.ble (List.length wl + List.length [UInt8.ofInt ↑(UInt64.toNat n_) ||| (128 : UInt8)]) (4294967296 : Nat))
 (rec (IK.shr IntKind.u64 n_ ↑(UInt64.toNat (7 : UInt64)))
 (wl ++ [UInt8.ofInt ↑(UInt64.toNat n_) ||| (128 : UInt8)]))
 none)
 (oite (Nat.ble (List.length wl + List.length [UInt8.ofInt ↑(UInt64.toNat n_)]) (4294967296 : Nat))
 (some ((), some (wl ++ [UInt8.ofInt ↑(UInt64.toNat n_)]))) none)
def F31_R6 : Nat → PT.T (PT.int IntKind.u64) → List UInt8 → Option (Unit × Option (List UInt8)) := ofixA (6 : Nat) [PT.int IntKind.u64, PT.list (CTs.cons (CT.int IntKind.u8) CTs.nil)] F31_L6
def F31 : Nat → Option (List UInt8) × UInt64 → Option (Unit × Option (List UInt8)) := fun (n : Nat) (x : Option (List UInt8) × UInt64) =>
 oelim (Prod.fst x) (some ((), none)) fun (x_1 : List UInt8) => F31_R6 n (Prod.snd x) x_1
theorem F31_R6_s  (m_ : Nat) : F31_R6  (m_ + 1) = F31_L6  (F31_R6  m_) := rfl
theorem ok31 (n : Nat) : FunOK Tryz.prog ⟨31, sig31, F31 n⟩ :=
 fun_ok (hints := ⟨[], [(6, ⟨[(0, .one (.own 0)), (1, .one (.int .u64))], [(0, .cells [.own 2]), (2, .row (.cons (.int .u8) .nil))], 3⟩)]⟩) (fuel := n) (c := Tryz.f31.body.getD .skip) (rs := Tryz.f31.results.toList) tt_ok mix (FsOK.nil) Tryz.func31 (by kernel_rfl) (by kernel_rfl) rfl (by kernel_rfl) rfl rfl (by kernel_rfl)
-- (*watchfire/pack.Writer).Bool
def sig55 : Sig := ⟨(.cons (.one (.ptr (.cons (.row (.cons (.int .u8) .nil)) .nil))) (.cons (.one (.c .bool)) .nil)), .nil⟩
def F55 : Nat → Option (List UInt8) × Bool → Option (Unit × Option (List UInt8)) := fun (n : Nat) (x : Option (List UInt8) × Bool) =>
 oite (Prod.snd x)
 (obind (F30 n (Prod.fst x, (1 : UInt8))) fun (x_1 : Unit × Option (List UInt8)) => some ((), Prod.snd x_1))
 (obind (F30 n (Prod.fst x, (0 : UInt8))) fun (x_1 : Unit × Option (List UInt8)) => some ((), Prod.snd x_1))
theorem ok55 (n : Nat) : FunOK Tryz.prog ⟨55, sig55, F55 n⟩ :=
 fun_ok (hints := ⟨[], []⟩) (fuel := n) (c := Tryz.f55.body.getD .skip) (rs := Tryz.f55.results.toList) tt_ok mix (FsOK.cons (ok30 n) (FsOK.nil)) Tryz.func55 (by kernel_rfl) (by kernel_rfl) rfl (by kernel_rfl) rfl rfl (by kernel_rfl)
-- (*watchfire/pack.Writer).Text
def sig56 : Sig := ⟨(.cons (.one (.ptr (.cons (.row (.cons (.int .u8) .nil)) .nil))) (.cons (.one (.c .str)) .nil)), .nil⟩
def F56 : Nat → Option (List UInt8) × List UInt8 → Option (Unit × Option (List UInt8)) := fun (n : Nat) (x : Option (List UInt8) × List UInt8) =>
 oelim (Prod.fst x) (some ((), none)) fun (x_1 : List UInt8) =>
 obind (F31 n (some x_1, UInt64.ofInt (Int64.toInt (Int64.ofInt ↑(List.length (Prod.snd x))))))
 fun (x_2 : Unit × Option (List UInt8)) =>
 obind (Prod.snd x_2) fun (x_3 : List UInt8) =>
 oite (Nat.ble (List.length x_3 + List.length (Prod.snd x)) (4294967296 : Nat))
 (some ((), some (x_3 ++ Prod.snd x))) none
theorem ok56 (n : Nat) : FunOK Tryz.prog ⟨56, sig56, F56 n⟩ :=
 fun_ok (hints := ⟨[], []⟩) (fuel := n) (c := Tryz.f56.body.getD .skip) (rs := Tryz.f56.results.toList) tt_ok mix (FsOK.cons (ok31 n) (FsOK.nil)) Tryz.func56 (by kernel_rfl) (by kernel_rfl) rfl (by kernel_rfl) rfl rfl (by kernel_rfl)
-- (*watchfire/pack.Writer).Int
def sig57 : Sig := ⟨(.cons (.one (.ptr (.cons (.row (.cons (.int .u8) .nil)) .nil))) (.cons (.one (.c (.int .i64))) .nil)), .nil⟩
def F57 : Nat → Option (List UInt8) × Int64 → Option (Unit × Option (List UInt8)) := fun (n : Nat) (x : Option (List UInt8) × Int64) =>
 obind
 (F31 n
 (Prod.fst x,
 IK.shl IntKind.u64 (UInt64.ofInt (Int64.toInt (Prod.snd x))) ↑(UInt64.toNat (1 : UInt64)) ^^^
 UInt64.ofInt (Int64.toInt (IK.shr IntKind.i64 (Prod.snd x) ↑(UInt64.toNat (63 : UInt64))))))
 fun (x_1 : Unit × Option (List UInt8)) => some ((), Prod.snd x_1)
theorem ok57 (n : Nat) : FunOK Tryz.prog ⟨57, sig57, F57 n⟩ :=
 fun_ok (hints := ⟨[], []⟩) (fuel := n) (c := Tryz.f57.body.getD .skip) (rs := Tryz.f57.results.toList) tt_ok mix (FsOK.cons (ok31 n) (FsOK.nil)) Tryz.func57 (by kernel_rfl) (by kernel_rfl) rfl (by kernel_rfl) rfl rfl (by kernel_rfl)
-- watchfire/item.Put
def sig32 : Sig := ⟨(.cons (.one (.ptr (.cons (.row (.cons (.int .u8) .nil)) .nil))) (.cons (.agg (.cons .bool (.cons (.int .u8) (.cons (.int .u64) (.cons (.int .u64) (.cons .str (.cons (.ro (.cons .str (.cons .str .nil))) (.cons (.int .u8) (.cons (.int .u8) (.cons (.int .i64) (.cons (.int .u8) (.cons (.int .u8) (.cons (.int .u64) (.cons (.int .u64) .nil)))))))))))))) .nil)), .nil⟩
def F32_L4093 : Nat →
 Arr
 [PT.list (CTs.cons CT.str (CTs.cons CT.str CTs.nil)), PT.int IntKind.i64, PT.int IntKind.i64,
 PT.opt (OTs.cons (OT.row (CTs.cons (CT.int IntKind.u8) CTs.nil)) OTs.nil), PT.int IntKind.u8,
 PT.int IntKind.u64, PT.int IntKind.u64, PT.bytes, PT.list (CTs.cons CT.str (CTs.cons CT.str CTs.nil)),
 PT.int IntKind.u8, PT.int IntKind.u8, PT.int IntKind.i64, PT.int IntKind.u8]
 (Option (Unit × Option (List UInt8))) →
 List (List UInt8 × List UInt8) →
 Int64 →
 Int64 →
 Option (List UInt8) →
 UInt8 →
 UInt64 →
 UInt64 →
 List UInt8 →
 List (List UInt8 × List UInt8) →
 UInt8 → UInt8 → Int64 → UInt8 → Option (Unit × Option (List UInt8)) := fun (n : Nat)
 (rec :
 Arr
 [PT.list (CTs.cons CT.str (CTs.cons CT.str CTs.nil)), PT.int IntKind.i64, PT.int IntKind.i64,
 PT.opt (OTs.cons (OT.row (CTs.cons (CT.int IntKind.u8) CTs.nil)) OTs.nil), PT.int IntKind.u8,
 PT.int IntKind.u64, PT.int IntKind.u64, PT.bytes, PT.list (CTs.cons CT.str (CTs.cons CT.str CTs.nil)),
 PT.int IntKind.u8, PT.int IntKind.u8, PT.int IntKind.i64, PT.int IntKind.u8]
 (Option (Unit × Option (List UInt8))))
 (t : List (List UInt8 × List UInt8)) (t_1 t_2 : Int64) (w : Option (List UInt8)) (v0 : UInt8) (v1 v2 : UInt64)
 (v3 : List UInt8) (v4 : List (List UInt8 × List UInt8)) (v5 v6 : UInt8) (v7 : Int64) (v8 : UInt8) =>
 oite (decide (t_2 < t_1))
 (obind (at? t (Int64.toInt t_2)) fun (x_7 : List UInt8 × List UInt8) =>
 obind (F56 n (w, Prod.fst x_7)) fun (x_8 : Unit × Option (List UInt8)) =>
 obind (F56 n (Prod.snd x_8, Prod.snd x_7)) fun (x_9 : Unit × Option (List UInt8)) =>
 rec t t_1 (t_2 + (1 : Int64)) (Prod.snd x_9) v0 v1 v2 v3 v4 v5 v6 v7 v8)
 (obind (F30 n (w, v5)) fun (x_7 : Unit × Option (List UInt8)) =>
 obind (F30 n (Prod.snd x_7, v6)) fun (x_8 : Unit × Option (List UInt8)) =>
 obind (F57 n (Prod.snd x_8, v7)) fun (x_9 : Unit × Option (List UInt8)) =>
 obind (F30 n (Prod.snd x_9, v8)) fun (x_10 : Unit × Option (List UInt8)) => some ((), Prod.snd x_10))
def F32_R4093 : Nat →
 Nat →
 PT.T (PT.list (CTs.cons CT.str (CTs.cons CT.str CTs.nil))) →
 Int64 →
 Int64 →
 Option (List UInt8) →
 UInt8 →
 UInt64 →
 UInt64 →
 List UInt8 →
 List (List UInt8 × List UInt8) →
 UInt8 → UInt8 → Int64 → UInt8 → Option (Unit × Option (List UInt8)) := fun (n : Nat) =>
 ofixA (4093 : Nat)
 [PT.list (CTs.cons CT.str (CTs.cons CT.str CTs.nil)), PT.int IntKind.i64, PT.int IntKind.i64,
 PT.opt (OTs.cons (OT.row (CTs.cons (CT.int IntKind.u8) CTs.nil)) OTs.nil), PT.int IntKind.u8, PT.int IntKind.u64,
 PT.int IntKind.u64, PT.bytes, PT.list (CTs.cons CT.str (CTs.cons CT.str CTs.nil)), PT.int IntKind.u8,
 PT.int IntKind.u8, PT.int IntKind.i64, PT.int IntKind.u8]
 (F32_L4093 n)
def F32 : Nat →
 Option (List UInt8) ×
 Bool ×
 UInt8 ×
 UInt64 ×
 UInt64 ×
 List UInt8 × List (List UInt8 × List UInt8) × UInt8 × UInt8 × Int64 × UInt8 × UInt8 × UInt64 × UInt64 →
 Option (Unit × Option (List UInt8)) := fun (n : Nat)
 (x :
 Option (List UInt8) ×
 Bool ×
 UInt8 ×
 UInt64 ×
 UInt64 ×
 List UInt8 ×
 List (List UInt8 × List UInt8) × UInt8 × UInt8 × Int64 × UInt8 × UInt8 × UInt64 × UInt64) =>
 obind (F55 n (Prod.fst x, Prod.fst (Prod.snd x))) fun (x_1 : Unit × Option (List UInt8)) =>
 oite (Prod.fst (Prod.snd x))
 (obind
 (F30 n
 (Prod.snd x_1,
 Prod.fst
 (Prod.snd
 (Prod.snd
 (Prod.snd
 (Prod.snd (Prod.snd (Prod.snd (Prod.snd (Prod.snd (Prod.snd (Prod.snd (Prod.snd x)))))))))))))
 fun (x_2 : Unit × Option (List UInt8)) =>
 obind
 (F31 n
 (Prod.snd x_2,
 Prod.fst
 (Prod.snd
 (Prod.snd
 (Prod.snd
 (Prod.snd
 (Prod.snd (Prod.snd (Prod.snd (Prod.snd (Prod.snd (Prod.snd (Prod.snd (Prod.snd x))))))))))))))
 fun (x_3 : Unit × Option (List UInt8)) =>
 obind
 (F31 n
 (Prod.snd x_3,
 Prod.snd
 (Prod.snd
 (Prod.snd
 (Prod.snd
 (Prod.snd
 (Prod.snd
 (Prod.snd (Prod.snd (Prod.snd (Prod.snd (Prod.snd (Prod.snd (Prod.snd x))))))))))))))
 fun (x_4 : Unit × Option (List UInt8)) => some ((), Prod.snd x_4))
 (obind (F30 n (Prod.snd x_1, Prod.fst (Prod.snd (Prod.snd x)))) fun (x_2 : Unit × Option (List UInt8)) =>
 obind (F31 n (Prod.snd x_2, Prod.fst (Prod.snd (Prod.snd (Prod.snd x)))))
 fun (x_3 : Unit × Option (List UInt8)) =>
 obind (F31 n (Prod.snd x_3, Prod.fst (Prod.snd (Prod.snd (Prod.snd (Prod.snd x))))))
 fun (x_4 : Unit × Option (List UInt8)) =>
 obind (F56 n (Prod.snd x_4, Prod.fst (Prod.snd (Prod.snd (Prod.snd (Prod.snd (Prod.snd x)))))))
 fun (x_5 : Unit × Option (List UInt8)) =>
 obind
 (F31 n
 (Prod.snd x_5,
 UInt64.ofInt
 (Int64.toInt
 (Int64.ofInt
 ↑(List.length
 (Prod.fst (Prod.snd (Prod.snd (Prod.snd (Prod.snd (Prod.snd (Prod.snd x))))))))))))
 fun (x_6 : Unit × Option (List UInt8)) =>
 F32_R4093 n n (Prod.fst (Prod.snd (Prod.snd (Prod.snd (Prod.snd (Prod.snd (Prod.snd x)))))))
 (Int64.ofInt
 ↑(List.length (Prod.fst (Prod.snd (Prod.snd (Prod.snd (Prod.snd (Prod.snd (Prod.snd x)))))))))
 (0 : Int64) (Prod.snd x_6) (Prod.fst (Prod.snd (Prod.snd x)))
 (Prod.fst (Prod.snd (Prod.snd (Prod.snd x)))) (Prod.fst (Prod.snd (Prod.snd (Prod.snd (Prod.snd x)))))
 (Prod.fst (Prod.snd (Prod.snd (Prod.snd (Prod.snd (Prod.snd x))))))
 (Prod.fst (Prod.snd (Prod.snd (Prod.snd (Prod.snd (Prod.snd (Prod.snd x)))))))
 (Prod.fst (Prod.snd (Prod.snd (Prod.snd (Prod.snd (Prod.snd (Prod.snd (Prod.snd x))))))))
 (Prod.fst (Prod.snd (Prod.snd (Prod.snd (Prod.snd (Prod.snd (Prod.snd (Prod.snd (Prod.snd x)))))))))
 (Prod.fst
 (Prod.snd
 (Prod.snd (Prod.snd (Prod.snd (Prod.snd (Prod.snd (Prod.snd (Prod.snd (Prod.snd x))))))))))
 (Prod.fst
 (Prod.snd
 (Prod.snd
 (Prod.snd (Prod.snd (Prod.snd (Prod.snd (Prod.snd (Prod.snd (Prod.snd (Prod.snd x))))))))))))
theorem F32_R4093_s (n : Nat) (m_ : Nat) : F32_R4093 n (m_ + 1) = F32_L4093 n (F32_R4093 n m_) := rfl
theorem ok32 (n : Nat) : FunOK Tryz.prog ⟨32, sig32, F32 n⟩ :=
 fun_ok (hints := ⟨[], [(4093, ⟨[(0, .one (.own 0)), (4, .one (.own 2)), (53, .one (.ro (.cons .str (.cons .str .nil)))), (54, .one (.int .i64)), (55, .one (.int .i64))], [(0, .fold (.cons (.row (.cons (.int .u8) .nil)) .nil)), (2, .cells [.int .u8, .int .u64, .int .u64, .str, .ro (.cons .str (.cons .str .nil)), .int .u8, .int .u8, .int .i64, .int .u8])], 3⟩)]⟩) (fuel := n) (c := Tryz.f32.body.getD .skip) (rs := Tryz.f32.results.toList) tt_ok mix (FsOK.cons (ok55 n) (FsOK.cons (ok30 n) (FsOK.cons (ok31 n) (FsOK.cons (ok56 n) (FsOK.cons (ok57 n) (FsOK.nil)))))) Tryz.func32 (by kernel_rfl) (by kernel_rfl) rfl (by kernel_rfl) rfl rfl (by kernel_rfl)
-- (*watchfire/pack.Writer).Bytes
def sig33 : Sig := ⟨(.cons (.one (.ptr (.cons (.row (.cons (.int .u8) .nil)) .nil))) .nil), (.cons (.one (.c (.ro (.cons (.int .u8) .nil)))) .nil)⟩
def F33 : Nat → Option (List UInt8) → Option (List UInt8 × Option (List UInt8)) := fun (n : Nat) (x : Option (List UInt8)) =>
 oelim x (some ([], none)) fun (x_1 : List UInt8) =>
 oite (Nat.ble ((0 : Nat) + List.length x_1) (4294967296 : Nat)) (some ([] ++ x_1, some x_1)) none
theorem ok33 (n : Nat) : FunOK Tryz.prog ⟨33, sig33, F33 n⟩ :=
 fun_ok (hints := ⟨[], []⟩) (fuel := n) (c := Tryz.f33.body.getD .skip) (rs := Tryz.f33.results.toList) tt_ok mix (FsOK.nil) Tryz.func33 (by kernel_rfl) (by kernel_rfl) rfl (by kernel_rfl) rfl rfl (by kernel_rfl)
-- (*sync/atomic.Uint64).Add
def sig39 : Sig := ⟨(.cons (.oagg .nil) (.cons (.one (.c (.int .u64))) .nil)), (.cons (.one (.c (.int .u64))) .nil)⟩
def F39 (n : Nat) : sig39.In → Option sig39.Out := fun _ => none
theorem ok39 (n : Nat) : FunOK Tryz.prog ⟨39, sig39, F39 n⟩ := ⟨atom39, _, Tryz.func39, by kernel_rfl, by kernel_rfl⟩
-- (*watchfire/crc.Table).Add
def sig38 : Sig := ⟨(.cons (.one (.ptrA (.cons (.c (.int .u32)) (.cons (.c (.int .i32)) (.cons (.c (.int .u32)) .nil))) (.int .u32) 256 (.cons (.c (.int .u64)) (.cons (.c (.int .u64)) .nil)))) (.cons (.one (.c (.int .u32))) (.cons (.one (.c (.ro (.cons (.int .u8) .nil)))) .nil))), (.cons (.one (.c (.int .u32))) .nil)⟩
def F38_L125 : Arr
 [PT.list (CTs.cons (CT.int IntKind.u8) CTs.nil), PT.int IntKind.u32, PT.list (CTs.cons (CT.int IntKind.u8) CTs.nil),
 PT.int IntKind.i64, PT.int IntKind.i64,
 PT.optA
 (OTs.cons (OT.c (CT.int IntKind.u32))
 (OTs.cons (OT.c (CT.int IntKind.i32)) (OTs.cons (OT.c (CT.int IntKind.u32)) OTs.nil)))
 (CT.int IntKind.u32) (OTs.cons (OT.c (CT.int IntKind.u64)) (OTs.cons (OT.c (CT.int IntKind.u64)) OTs.nil))]
 (Option (UInt32 × Option ((UInt32 × Int32 × UInt32) × List UInt32 × UInt64 × UInt64))) →
 List UInt8 →
 UInt32 →
 List UInt8 →
 Int64 →
 Int64 →
 Option ((UInt32 × Int32 × UInt32) × List UInt32 × UInt64 × UInt64) →
 Option (UInt32 × Option ((UInt32 × Int32 × UInt32) × List UInt32 × UInt64 × UInt64)) := fun
 (rec :
 Arr
 [PT.list (CTs.cons (CT.int IntKind.u8) CTs.nil), PT.int IntKind.u32,
 PT.list (CTs.cons (CT.int IntKind.u8) CTs.nil), PT.int IntKind.i64, PT.int IntKind.i64,
 PT.optA
 (OTs.cons (OT.c (CT.int IntKind.u32))
 (OTs.cons (OT.c (CT.int IntKind.i32)) (OTs.cons (OT.c (CT.int IntKind.u32)) OTs.nil)))
 (CT.int IntKind.u32) (OTs.cons (OT.c (CT.int IntKind.u64)) (OTs.cons (OT.c (CT.int IntKind.u64)) OTs.nil))]
 (Option (UInt32 × Option ((UInt32 × Int32 × UInt32) × List UInt32 × UInt64 × UInt64))))
 (b : List UInt8) (n_ : UInt32) (t : List UInt8) (t_1 t_2 : Int64)
 (t_3 : Option ((UInt32 × Int32 × UInt32) × List UInt32 × UInt64 × UInt64)) =>
 oite (decide (t_2 < t_1))
 (obind (at? t (Int64.toInt t_2)) fun (x_3 : UInt8) =>
 obind t_3 fun (x_4 : (UInt32 × Int32 × UInt32) × List UInt32 × UInt64 × UInt64) =>
 oite (decide ((0 : Int) ≤ ↑(UInt8.toNat (UInt8.ofInt ↑(UInt32.toNat n_) ^^^ x_3))))
 (oite (Nat.blt (Int.toNat ↑(UInt8.toNat (UInt8.ofInt ↑(UInt32.toNat n_) ^^^ x_3))) (256 : Nat))
 (obind
 (Prod.fst (Prod.snd x_4))[Int.toNat ↑(UInt8.toNat (UInt8.ofInt ↑(UInt32.toNat n_) ^^^ x_3)) * (1 : Nat)]?
 fun (x_5 : UInt32) =>
 rec b (x_5 ^^^ IK.shr IntKind.u32 n_ ↑(UInt64.toNat (8 : UInt64))) t t_1 (t_2 + (1 : Int64))
 (some
 ((Prod.fst (Prod.fst x_4), Prod.fst (Prod.snd (Prod.fst x_4)), Prod.snd (Prod.snd (Prod.fst x_4))),
 Prod.fst (Prod.snd x_4), Prod.fst (Prod.snd (Prod.snd x_4)), Prod.snd (Prod.snd (Prod.snd x_4)))))
 none)
 none)
 (obind t_3 fun (x_3 : (UInt32 × Int32 × UInt32) × List UInt32 × UInt64 × UInt64) =>
 some
 (IK.com IntKind.u32 n_,
 some
 ((Prod.fst (Prod.fst x_3), Prod.fst (Prod.snd (Prod.fst x_3)), Prod.snd (Prod.snd (Prod.fst x_3))),
 Prod.fst (Prod.snd x_3), Prod.fst (Prod.snd (Prod.snd x_3)),
 Prod.snd (Prod.snd (Prod.snd x_3)) + UInt64.ofInt (Int64.toInt (Int64.ofInt ↑(List.length b))))))
def F38_R125 : Nat →
 PT.T (PT.list (CTs.cons (CT.int IntKind.u8) CTs.nil)) →
 UInt32 →
 List UInt8 →
 Int64 →
 Int64 →
 Option ((UInt32 × Int32 × UInt32) × List UInt32 × UInt64 × UInt64) →
 Option (UInt32 × Option ((UInt32 × Int32 × UInt32) × List UInt32 × UInt64 × UInt64)) := ofixA (125 : Nat)
 [PT.list (CTs.cons (CT.int IntKind.u8) CTs.nil), PT.int IntKind.u32, PT.list (CTs.cons (CT.int IntKind.u8) CTs.nil),
 PT.int IntKind.i64, PT.int IntKind.i64,
 PT.optA
 (OTs.cons (OT.c (CT.int IntKind.u32))
 (OTs.cons (OT.c (CT.int IntKind.i32)) (OTs.cons (OT.c (CT.int IntKind.u32)) OTs.nil)))
 (CT.int IntKind.u32) (OTs.cons (OT.c (CT.int IntKind.u64)) (OTs.cons (OT.c (CT.int IntKind.u64)) OTs.nil))]
 F38_L125
def F38 : Nat →
 Option ((UInt32 × Int32 × UInt32) × List UInt32 × UInt64 × UInt64) × UInt32 × List UInt8 →
 Option (UInt32 × Option ((UInt32 × Int32 × UInt32) × List UInt32 × UInt64 × UInt64)) := fun (n : Nat) (x : Option ((UInt32 × Int32 × UInt32) × List UInt32 × UInt64 × UInt64) × UInt32 × List UInt8) =>
 oelim (Prod.fst x) (some ((0 : UInt32), none))
 fun (x_1 : (UInt32 × Int32 × UInt32) × List UInt32 × UInt64 × UInt64) =>
 obind
 (F58 n
 ([], (),
 some
 ((Prod.fst (Prod.fst x_1), Prod.fst (Prod.snd (Prod.fst x_1)), Prod.snd (Prod.snd (Prod.fst x_1))),
 Prod.fst (Prod.snd x_1), Prod.fst (Prod.snd (Prod.snd x_1)), Prod.snd (Prod.snd (Prod.snd x_1)))))
 fun (x_2 : Unit × Option ((UInt32 × Int32 × UInt32) × List UInt32 × UInt64 × UInt64)) =>
 F38_R125 n (Prod.snd (Prod.snd x)) (IK.com IntKind.u32 (Prod.fst (Prod.snd x))) (Prod.snd (Prod.snd x))
 (Int64.ofInt ↑(List.length (Prod.snd (Prod.snd x)))) (0 : Int64) (Prod.snd x_2)
theorem F38_R125_s  (m_ : Nat) : F38_R125  (m_ + 1) = F38_L125  (F38_R125  m_) := rfl
theorem ok38 (n : Nat) : FunOK Tryz.prog ⟨38, sig38, F38 n⟩ :=
 fun_ok (hints := ⟨[], [(125, ⟨[(0, .one (.own 0)), (2, .one (.ro (.cons (.int .u8) .nil))), (7, .one (.int .u32)), (20, .one (.ro (.cons (.int .u8) .nil))), (21, .one (.int .i64)), (22, .one (.int .i64))], [(0, .foldA (.cons (.c (.int .u32)) (.cons (.c (.int .i32)) (.cons (.c (.int .u32)) .nil))) (.int .u32) 256 (.cons (.c (.int .u64)) (.cons (.c (.int .u64)) .nil)))], 3⟩)]⟩) (fuel := n) (c := Tryz.f38.body.getD .skip) (rs := Tryz.f38.results.toList) tt_ok mix (FsOK.cons (ok59 n) (FsOK.cons (ok58 n) (FsOK.cons (ok39 n) (FsOK.nil)))) Tryz.func38 (by kernel_rfl) (by kernel_rfl) rfl (by kernel_rfl) rfl rfl (by kernel_rfl)
-- (*watchfire/crc.Table).Sum
def sig19 : Sig := ⟨(.cons (.one (.ptrA (.cons (.c (.int .u32)) (.cons (.c (.int .i32)) (.cons (.c (.int .u32)) .nil))) (.int .u32) 256 (.cons (.c (.int .u64)) (.cons (.c (.int .u64)) .nil)))) (.cons (.one (.c (.ro (.cons (.ro (.cons (.int .u8) .nil)) .nil)))) .nil)), (.cons (.one (.c (.int .u32))) .nil)⟩
def F19_L61 : Nat →
 Arr
 [PT.int IntKind.u32, PT.list (CTs.cons (CT.ro (CTs.cons (CT.int IntKind.u8) CTs.nil)) CTs.nil),
 PT.int IntKind.i64, PT.int IntKind.i64,
 PT.optA
 (OTs.cons (OT.c (CT.int IntKind.u32))
 (OTs.cons (OT.c (CT.int IntKind.i32)) (OTs.cons (OT.c (CT.int IntKind.u32)) OTs.nil)))
 (CT.int IntKind.u32) (OTs.cons (OT.c (CT.int IntKind.u64)) (OTs.cons (OT.c (CT.int IntKind.u64)) OTs.nil))]
 (Option (UInt32 × Option ((UInt32 × Int32 × UInt32) × List UInt32 × UInt64 × UInt64))) →
 UInt32 →
 List (List UInt8) →
 Int64 →
 Int64 →
 Option ((UInt32 × Int32 × UInt32) × List UInt32 × UInt64 × UInt64) →
 Option (UInt32 × Option ((UInt32 × Int32 × UInt32) × List UInt32 × UInt64 × UInt64)) := fun (n : Nat)
 (rec :
 Arr
 [PT.int IntKind.u32, PT.list (CTs.cons (CT.ro (CTs.cons (CT.int IntKind.u8) CTs.nil)) CTs.nil),
 PT.int IntKind.i64, PT.int IntKind.i64,
 PT.optA
 (OTs.cons (OT.c (CT.int IntKind.u32))
 (OTs.cons (OT.c (CT.int IntKind.i32)) (OTs.cons (OT.c (CT.int IntKind.u32)) OTs.nil)))
 (CT.int IntKind.u32) (OTs.cons (OT.c (CT.int IntKind.u64)) (OTs.cons (OT.c (CT.int IntKind.u64)) OTs.nil))]
 (Option (UInt32 × Option ((UInt32 × Int32 × UInt32) × List UInt32 × UInt64 × UInt64))))
 (n_ : UInt32) (t : List (List UInt8)) (t_1 t_2 : Int64)
 (t_3 : Option ((UInt32 × Int32 × UInt32) × List UInt32 × UInt64 × UInt64)) =>
 oite (decide (t_2 < t_1))
 (obind (at? t (Int64.toInt t_2)) fun (x_2 : List UInt8) =>
 obind (F38 n (t_3, n_, x_2))
 fun (x_3 : UInt32 × Option ((UInt32 × Int32 × UInt32) × List UInt32 × UInt64 × UInt64)) =>
 rec (Prod.fst x_3) t t_1 (t_2 + (1 : Int64)) (Prod.snd x_3))
 (obind t_3 fun (x_2 : (UInt32 × Int32 × UInt32) × List UInt32 × UInt64 × UInt64) =>
 some
 (n_,
 some
 ((Prod.fst (Prod.fst x_2), Prod.fst (Prod.snd (Prod.fst x_2)), Prod.snd (Prod.snd (Prod.fst x_2))),
 Prod.fst (Prod.snd x_2), Prod.fst (Prod.snd (Prod.snd x_2)) + (1 : UInt64),
 Prod.snd (Prod.snd (Prod.snd x_2)))))
def F19_R61 : Nat →
 Nat →
 PT.T (PT.int IntKind.u32) →
 List (List UInt8) →
 Int64 →
 Int64 →
 Option ((UInt32 × Int32 × UInt32) × List UInt32 × UInt64 × UInt64) →
 Option (UInt32 × Option ((UInt32 × Int32 × UInt32) × List UInt32 × UInt64 × UInt64)) := fun (n : Nat) =>
 ofixA (61 : Nat)
 [PT.int IntKind.u32, PT.list (CTs.cons (CT.ro (CTs.cons (CT.int IntKind.u8) CTs.nil)) CTs.nil), PT.int IntKind.i64,
 PT.int IntKind.i64,
 PT.optA
 (OTs.cons (OT.c (CT.int IntKind.u32))
 (OTs.cons (OT.c (CT.int IntKind.i32)) (OTs.cons (OT.c (CT.int IntKind.u32)) OTs.nil)))
 (CT.int IntKind.u32) (OTs.cons (OT.c (CT.int IntKind.u64)) (OTs.cons (OT.c (CT.int IntKind.u64)) OTs.nil))]
 (F19_L61 n)
def F19 : Nat →
 Option ((UInt32 × Int32 × UInt32) × List UInt32 × UInt64 × UInt64) × List (List UInt8) →
 Option (UInt32 × Option ((UInt32 × Int32 × UInt32) × List UInt32 × UInt64 × UInt64)) := fun (n : Nat) (x : Option ((UInt32 × Int32 × UInt32) × List UInt32 × UInt64 × UInt64) × List (List UInt8)) =>
 oelim (Prod.fst x) (some ((0 : UInt32), none))
 fun (x_1 : (UInt32 × Int32 × UInt32) × List UInt32 × UInt64 × UInt64) =>
 F19_R61 n n (0 : UInt32) (Prod.snd x) (Int64.ofInt ↑(List.length (Prod.snd x))) (0 : Int64)
 (some
 ((Prod.fst (Prod.fst x_1), Prod.fst (Prod.snd (Prod.fst x_1)), Prod.snd (Prod.snd (Prod.fst x_1))),
 Prod.fst (Prod.snd x_1), Prod.fst (Prod.snd (Prod.snd x_1)), Prod.snd (Prod.snd (Prod.snd x_1))))
theorem F19_R61_s (n : Nat) (m_ : Nat) : F19_R61 n (m_ + 1) = F19_L61 n (F19_R61 n m_) := rfl
theorem ok19 (n : Nat) : FunOK Tryz.prog ⟨19, sig19, F19 n⟩ :=
 fun_ok (hints := ⟨[], [(61, ⟨[(0, .one (.own 0)), (5, .one (.int .u32)), (10, .one (.ro (.cons (.ro (.cons (.int .u8) .nil)) .nil))), (11, .one (.int .i64)), (12, .one (.int .i64))], [(0, .foldA (.cons (.c (.int .u32)) (.cons (.c (.int .i32)) (.cons (.c (.int .u32)) .nil))) (.int .u32) 256 (.cons (.c (.int .u64)) (.cons (.c (.int .u64)) .nil)))], 2⟩)]⟩) (fuel := n) (c := Tryz.f19.body.getD .skip) (rs := Tryz.f19.results.toList) tt_ok mix (FsOK.cons (ok38 n) (FsOK.cons (ok39 n) (FsOK.nil))) Tryz.func19 (by kernel_rfl) (by kernel_rfl) rfl (by kernel_rfl) rfl rfl (by kernel_rfl)
-- watchfire/crc.Put
def sig18 : Sig := ⟨(.cons (.one (.c (.int .u32))) .nil), (.cons (.agg (.cons (.int .u8) (.cons (.int .u8) (.cons (.int .u8) (.cons (.int .u8) .nil))))) .nil)⟩
def F18 : Nat → UInt32 → Option ((UInt8 × UInt8 × UInt8 × UInt8) × Unit) := fun (n : Nat) (x : UInt32) =>
 some
 ((UInt8.ofInt ↑(UInt32.toNat x), UInt8.ofInt ↑(UInt32.toNat (IK.shr IntKind.u32 x ↑(UInt64.toNat (8 : UInt64)))),
 UInt8.ofInt ↑(UInt32.toNat (IK.shr IntKind.u32 x ↑(UInt64.toNat (16 : UInt64)))),
 UInt8.ofInt ↑(UInt32.toNat (IK.shr IntKind.u32 x ↑(UInt64.toNat (24 : UInt64))))),
 ())
theorem ok18 (n : Nat) : FunOK Tryz.prog ⟨18, sig18, F18 n⟩ :=
 fun_ok (hints := ⟨[], []⟩) (fuel := n) (c := Tryz.f18.body.getD .skip) (rs := Tryz.f18.results.toList) tt_ok mix (FsOK.nil) Tryz.func18 (by kernel_rfl) (by kernel_rfl) rfl (by kernel_rfl) rfl rfl (by kernel_rfl)
-- (*watchfire/crc.Table).Seal
def sig8 : Sig := ⟨(.cons (.one (.ptrA (.cons (.c (.int .u32)) (.cons (.c (.int .i32)) (.cons (.c (.int .u32)) .nil))) (.int .u32) 256 (.cons (.c (.int .u64)) (.cons (.c (.int .u64)) .nil)))) (.cons (.one (.c (.ro (.cons (.int .u8) .nil)))) .nil)), (.cons (.one (.row (.cons (.int .u8) .nil))) .nil)⟩
def F8 : Nat →
 Option ((UInt32 × Int32 × UInt32) × List UInt32 × UInt64 × UInt64) × List UInt8 →
 Option (List UInt8 × Option ((UInt32 × Int32 × UInt32) × List UInt32 × UInt64 × UInt64)) := fun (n : Nat) (x : Option ((UInt32 × Int32 × UInt32) × List UInt32 × UInt64 × UInt64) × List UInt8) =>
 obind (F19 n (Prod.fst x, [Prod.snd x]))
 fun (x_1 : UInt32 × Option ((UInt32 × Int32 × UInt32) × List UInt32 × UInt64 × UInt64)) =>
 obind (F18 n (Prod.fst x_1)) fun (x_2 : (UInt8 × UInt8 × UInt8 × UInt8) × Unit) =>
 oite (Nat.ble ((0 : Nat) + List.length (Prod.snd x)) (4294967296 : Nat))
 (oite
 (Nat.ble
 (List.length ([] ++ Prod.snd x) +
 List.length
 [Prod.fst (Prod.fst x_2), Prod.fst (Prod.snd (Prod.fst x_2)),
 Prod.fst (Prod.snd (Prod.snd (Prod.fst x_2))), Prod.snd (Prod.snd (Prod.snd (Prod.fst x_2)))])
 (4294967296 : Nat))
 (some
 ([] ++ Prod.snd x ++
 [Prod.fst (Prod.fst x_2), Prod.fst (Prod.snd (Prod.fst x_2)),
 Prod.fst (Prod.snd (Prod.snd (Prod.fst x_2))), Prod.snd (Prod.snd (Prod.snd (Prod.fst x_2)))],
 Prod.snd x_1))
 none)
 none
theorem ok8 (n : Nat) : FunOK Tryz.prog ⟨8, sig8, F8 n⟩ :=
 fun_ok (hints := ⟨[], []⟩) (fuel := n) (c := Tryz.f8.body.getD .skip) (rs := Tryz.f8.results.toList) tt_ok mix (FsOK.cons (ok19 n) (FsOK.cons (ok18 n) (FsOK.nil))) Tryz.func8 (by kernel_rfl) (by kernel_rfl) rfl (by kernel_rfl) rfl rfl (by kernel_rfl)
-- watchfire/frame.Encode
def sig12 : Sig := ⟨(.cons (.one (.ptrA (.cons (.c (.int .u32)) (.cons (.c (.int .i32)) (.cons (.c (.int .u32)) .nil))) (.int .u32) 256 (.cons (.c (.int .u64)) (.cons (.c (.int .u64)) .nil)))) (.cons (.agg (.cons (.int .u8) (.cons (.int .u8) (.cons (.int .u8) (.cons (.int .u64) (.cons (.int .u64) (.cons .bool (.cons (.int .u8) (.cons (.int .u64) (.cons (.int .u64) (.cons .str (.cons (.ro (.cons .str (.cons .str .nil))) (.cons (.int .u8) (.cons (.int .u8) (.cons (.int .i64) (.cons (.int .u8) (.cons (.int .u8) (.cons (.int .u64) (.cons (.int .u64) (.cons (.int .u64) (.cons (.int .u64) (.cons (.int .u64) .nil)))))))))))))))))))))) .nil)), (.cons (.one (.row (.cons (.int .u8) .nil))) (.cons (.one (.c (.int .i64))) .nil))⟩
def F12_J511 : Nat →
 List UInt32 →
 UInt32 →
 Int32 →
 UInt32 →
 UInt64 →
 UInt64 →
 Option (List UInt8) →
 Option ((List UInt8 × Int64) × Option ((UInt32 × Int32 × UInt32) × List UInt32 × UInt64 × UInt64)) := fun (n : Nat) (ta : List UInt32) (t0 : UInt32) (t1 : Int32) (t2 : UInt32) (t3 t4 : UInt64) (w : Option (List UInt8)) =>
 obind (F33 n w) fun (x_7 : List UInt8 × Option (List UInt8)) =>
 obind (F8 n (some ((t0, t1, t2), ta, t3, t4), Prod.fst x_7))
 fun (x_8 : List UInt8 × Option ((UInt32 × Int32 × UInt32) × List UInt32 × UInt64 × UInt64)) =>
 some ((Prod.fst x_8, (0 : Int64)), Prod.snd x_8)
def F12 : Nat →
 Option ((UInt32 × Int32 × UInt32) × List UInt32 × UInt64 × UInt64) ×
 UInt8 ×
 UInt8 ×
 UInt8 ×
 UInt64 ×
 UInt64 ×
 Bool ×
 UInt8 ×
 UInt64 ×
 UInt64 ×
 List UInt8 ×
 List (List UInt8 × List UInt8) ×
 UInt8 × UInt8 × Int64 × UInt8 × UInt8 × UInt64 × UInt64 × UInt64 × UInt64 × UInt64 →
 Option ((List UInt8 × Int64) × Option ((UInt32 × Int32 × UInt32) × List UInt32 × UInt64 × UInt64)) := fun (n : Nat)
 (x :
 Option ((UInt32 × Int32 × UInt32) × List UInt32 × UInt64 × UInt64) ×
 UInt8 ×
 UInt8 ×
 UInt8 ×
 UInt64 ×
 UInt64 ×
 Bool ×
 UInt8 ×
 UInt64 ×
 UInt64 ×
 List UInt8 ×
 List (List UInt8 × List UInt8) ×
 UInt8 × UInt8 × Int64 × UInt8 × UInt8 × UInt64 × UInt64 × UInt64 × UInt64 × UInt64) =>
 oelim (Prod.fst x) (some (([], (1 : Int64)), none))
 fun (x_1 : (UInt32 × Int32 × UInt32) × List UInt32 × UInt64 × UInt64) =>
 obind
 (F26 n
 (Prod.fst (Prod.snd x), Prod.fst (Prod.snd (Prod.snd x)), Prod.fst (Prod.snd (Prod.snd (Prod.snd x))),
 Prod.fst (Prod.snd (Prod.snd (Prod.snd (Prod.snd x)))),
 Prod.fst (Prod.snd (Prod.snd (Prod.snd (Prod.snd (Prod.snd x))))),
 Prod.fst (Prod.snd (Prod.snd (Prod.snd (Prod.snd (Prod.snd (Prod.snd x)))))),
 Prod.fst (Prod.snd (Prod.snd (Prod.snd (Prod.snd (Prod.snd (Prod.snd (Prod.snd x))))))),
 Prod.fst (Prod.snd (Prod.snd (Prod.snd (Prod.snd (Prod.snd (Prod.snd (Prod.snd (Prod.snd x)))))))),
 Prod.fst (Prod.snd (Prod.snd (Prod.snd (Prod.snd (Prod.snd (Prod.snd (Prod.snd (Prod.snd (Prod.snd x))))))))),
 Prod.fst
 (Prod.snd
 (Prod.snd (Prod.snd (Prod.snd (Prod.snd (Prod.snd (Prod.snd (Prod.snd (Prod.snd (Prod.snd x)))))))))),
 Prod.fst
 (Prod.snd
 (Prod.snd
 (Prod.snd (Prod.snd (Prod.snd (Prod.snd (Prod.snd (Prod.snd (Prod.snd (Prod.snd (Prod.snd x))))))))))),
 Prod.fst
 (Prod.snd
 (Prod.snd
 (Prod.snd
 (Prod.snd
 (Prod.snd (Prod.snd (Prod.snd (Prod.snd (Prod.snd (Prod.snd (Prod.snd (Prod.snd x)))))))))))),
 Prod.fst
 (Prod.snd
 (Prod.snd
 (Prod.snd
 (Prod.snd
 (Prod.snd
 (Prod.snd (Prod.snd (Prod.snd (Prod.snd (Prod.snd (Prod.snd (Prod.snd (Prod.snd x))))))))))))),
 Prod.fst
 (Prod.snd
 (Prod.snd
 (Prod.snd
 (Prod.snd
 (Prod.snd
 (Prod.snd
 (Prod.snd (Prod.snd (Prod.snd (Prod.snd (Prod.snd (Prod.snd (Prod.snd (Prod.snd x)))))))))))))),
 Prod.fst
 (Prod.snd
 (Prod.snd
 (Prod.snd
 (Prod.snd
 (Prod.snd
 (Prod.snd
 (Prod.snd
 (Prod.snd
 (Prod.snd (Prod.snd (Prod.snd (Prod.snd (Prod.snd (Prod.snd (Prod.snd x))))))))))))))),
 Prod.fst
 (Prod.snd
 (Prod.snd
 (Prod.snd
 (Prod.snd
 (Prod.snd
 (Prod.snd
 (Prod.snd
 (Prod.snd
 (Prod.snd
 (Prod.snd (Prod.snd (Prod.snd (Prod.snd (Prod.snd (Prod.snd (Prod.snd x)))))))))))))))),
 Prod.fst
 (Prod.snd
 (Prod.snd
 (Prod.snd
 (Prod.snd
 (Prod.snd
 (Prod.snd
 (Prod.snd
 (Prod.snd
 (Prod.snd
 (Prod.snd
 (Prod.snd
 (Prod.snd (Prod.snd (Prod.snd (Prod.snd (Prod.snd (Prod.snd x))))))))))))))))),
 Prod.fst
 (Prod.snd
 (Prod.snd
 (Prod.snd
 (Prod.snd
 (Prod.snd
 (Prod.snd
 (Prod.snd
 (Prod.snd
 (Prod.snd
 (Prod.snd
 (Prod.snd
 (Prod.snd
 (Prod.snd (Prod.snd (Prod.snd (Prod.snd (Prod.snd (Prod.snd x)))))))))))))))))),
 Prod.fst
 (Prod.snd
 (Prod.snd
 (Prod.snd
 (Prod.snd
 (Prod.snd
 (Prod.snd
 (Prod.snd
 (Prod.snd
 (Prod.snd
 (Prod.snd
 (Prod.snd
 (Prod.snd
 (Prod.snd
 (Prod.snd (Prod.snd (Prod.snd (Prod.snd (Prod.snd (Prod.snd x))))))))))))))))))),
 Prod.fst
 (Prod.snd
 (Prod.snd
 (Prod.snd
 (Prod.snd
 (Prod.snd
 (Prod.snd
 (Prod.snd
 (Prod.snd
 (Prod.snd
 (Prod.snd
 (Prod.snd
 (Prod.snd
 (Prod.snd
 (Prod.snd
 (Prod.snd
 (Prod.snd (Prod.snd (Prod.snd (Prod.snd (Prod.snd x)))))))))))))))))))),
 Prod.snd
 (Prod.snd
 (Prod.snd
 (Prod.snd
 (Prod.snd
 (Prod.snd
 (Prod.snd
 (Prod.snd
 (Prod.snd
 (Prod.snd
 (Prod.snd
 (Prod.snd
 (Prod.snd
 (Prod.snd
 (Prod.snd
 (Prod.snd
 (Prod.snd (Prod.snd (Prod.snd (Prod.snd (Prod.snd x))))))))))))))))))))))
 fun (x_2 : Int64 × Unit) =>
 oite (!decide (Prod.fst x_2 = (0 : Int64)))
 (some
 (([], Prod.fst x_2),
 some
 ((Prod.fst (Prod.fst x_1), Prod.fst (Prod.snd (Prod.fst x_1)), Prod.snd (Prod.snd (Prod.fst x_1))),
 Prod.fst (Prod.snd x_1), Prod.fst (Prod.snd (Prod.snd x_1)), Prod.snd (Prod.snd (Prod.snd x_1)))))
 (obind (F30 n (some [], (183 : UInt8))) fun (x_3 : Unit × Option (List UInt8)) =>
 obind (F30 n (Prod.snd x_3, Prod.fst (Prod.snd x))) fun (x_4 : Unit × Option (List UInt8)) =>
 obind (F30 n (Prod.snd x_4, Prod.fst (Prod.snd (Prod.snd x)))) fun (x_5 : Unit × Option (List UInt8)) =>
 obind (F30 n (Prod.snd x_5, Prod.fst (Prod.snd (Prod.snd (Prod.snd x)))))
 fun (x_6 : Unit × Option (List UInt8)) =>
 ojoinA (511 : Nat)
 [PT.list1 (CT.int IntKind.u32), PT.int IntKind.u32, PT.int IntKind.i32, PT.int IntKind.u32,
 PT.int IntKind.u64, PT.int IntKind.u64,
 PT.opt (OTs.cons (OT.row (CTs.cons (CT.int IntKind.u8) CTs.nil)) OTs.nil)]
 (fun
 (J :
 Arr
 [PT.list1 (CT.int IntKind.u32), PT.int IntKind.u32, PT.int IntKind.i32, PT.int IntKind.u32,
 PT.int IntKind.u64, PT.int IntKind.u64,
 PT.opt (OTs.cons (OT.row (CTs.cons (CT.int IntKind.u8) CTs.nil)) OTs.nil)]
 (Option
 ((List UInt8 × Int64) ×
 Option ((UInt32 × Int32 × UInt32) × List UInt32 × UInt64 × UInt64)))) =>
 oite (decide (Prod.fst (Prod.snd x) = (1 : UInt8)))
 (obind (F31 n (Prod.snd x_6, Prod.fst (Prod.snd (Prod.snd (Prod.snd (Prod.snd x))))))
 fun (x_7 : Unit × Option (List UInt8)) =>
 obind (F31 n (Prod.snd x_7, Prod.fst (Prod.snd (Prod.snd (Prod.snd (Prod.snd (Prod.snd x)))))))
 fun (x_8 : Unit × Option (List UInt8)) =>
 obind
 (F32 n
 (Prod.snd x_8,
 Prod.fst (Prod.snd (Prod.snd (Prod.snd (Prod.snd (Prod.snd (Prod.snd x)))))),
 Prod.fst (Prod.snd (Prod.snd (Prod.snd (Prod.snd (Prod.snd (Prod.snd (Prod.snd x))))))),
 Prod.fst
 (Prod.snd
 (Prod.snd (Prod.snd (Prod.snd (Prod.snd (Prod.snd (Prod.snd (Prod.snd x)))))))),
 Prod.fst
 (Prod.snd
 (Prod.snd
 (Prod.snd (Prod.snd (Prod.snd (Prod.snd (Prod.snd (Prod.snd (Prod.snd x))))))))),
 Prod.fst
 (Prod.snd
 (Prod.snd
 (Prod.snd
 (Prod.snd
 (Prod.snd (Prod.snd (Prod.snd (Prod.snd (Prod.snd (Prod.snd x)))))))))),
 Prod.fst
 (Prod.snd
 (Prod.snd
 (Prod.snd
 (Prod.snd
 (Prod.snd
 (Prod.snd (Prod.snd (Prod.snd (Prod.snd (Prod.snd (Prod.snd x))))))))))),
 Prod.fst
 (Prod.snd
 (Prod.snd
 (Prod.snd
 (Prod.snd
 (Prod.snd
 (Prod.snd
 (Prod.snd (Prod.snd (Prod.snd (Prod.snd (Prod.snd (Prod.snd x)))))))))))),
 Prod.fst
 (Prod.snd
 (Prod.snd
 (Prod.snd
 (Prod.snd
 (Prod.snd
 (Prod.snd
 (Prod.snd
 (Prod.snd
 (Prod.snd (Prod.snd (Prod.snd (Prod.snd (Prod.snd x))))))))))))),
 Prod.fst
 (Prod.snd
 (Prod.snd
 (Prod.snd
 (Prod.snd
 (Prod.snd
 (Prod.snd
 (Prod.snd
 (Prod.snd
 (Prod.snd
 (Prod.snd (Prod.snd (Prod.snd (Prod.snd (Prod.snd x)))))))))))))),
 Prod.fst
 (Prod.snd
 (Prod.snd
 (Prod.snd
 (Prod.snd
 (Prod.snd
 (Prod.snd
 (Prod.snd
 (Prod.snd
 (Prod.snd
 (Prod.snd
 (Prod.snd
 (Prod.snd (Prod.snd (Prod.snd (Prod.snd x))))))))))))))),
 Prod.fst
 (Prod.snd
 (Prod.snd
 (Prod.snd
 (Prod.snd
 (Prod.snd
 (Prod.snd
 (Prod.snd
 (Prod.snd
 (Prod.snd
 (Prod.snd
 (Prod.snd
 (Prod.snd
 (Prod.snd (Prod.snd (Prod.snd (Prod.snd x)))))))))))))))),
 Prod.fst
 (Prod.snd
 (Prod.snd
 (Prod.snd
 (Prod.snd
 (Prod.snd
 (Prod.snd
 (Prod.snd
 (Prod.snd
 (Prod.snd
 (Prod.snd
 (Prod.snd
 (Prod.snd
 (Prod.snd
 (Prod.snd (Prod.snd (Prod.snd (Prod.snd x))))))))))))))))),
 Prod.fst
 (Prod.snd
 (Prod.snd
 (Prod.snd
 (Prod.snd
 (Prod.snd
 (Prod.snd
 (Prod.snd
 (Prod.snd
 (Prod.snd
 (Prod.snd
 (Prod.snd
 (Prod.snd
 (Prod.snd
 (Prod.snd
 (Prod.snd
 (Prod.snd (Prod.snd (Prod.snd x))))))))))))))))))))
 fun (x_9 : Unit × Option (List UInt8)) =>
 J (Prod.fst (Prod.snd x_1)) (Prod.fst (Prod.fst x_1)) (Prod.fst (Prod.snd (Prod.fst x_1)))
 (Prod.snd (Prod.snd (Prod.fst x_1))) (Prod.fst (Prod.snd (Prod.snd x_1)))
 (Prod.snd (Prod.snd (Prod.snd x_1))) (Prod.snd x_9))
 (oite (decide (Prod.fst (Prod.snd x) = (2 : UInt8)))
 (obind (F31 n (Prod.snd x_6, Prod.fst (Prod.snd (Prod.snd (Prod.snd (Prod.snd x))))))
 fun (x_7 : Unit × Option (List UInt8)) =>
 obind
 (F31 n
 (Prod.snd x_7,
 Prod.fst
 (Prod.snd
 (Prod.snd
 (Prod.snd
 (Prod.snd
 (Prod.snd
 (Prod.snd
 (Prod.snd
 (Prod.snd
 (Prod.snd
 (Prod.snd
 (Prod.snd
 (Prod.snd
 (Prod.snd
 (Prod.snd
 (Prod.snd
 (Prod.snd
 (Prod.snd (Prod.snd (Prod.snd x)))))))))))))))))))))
 fun (x_8 : Unit × Option (List UInt8)) =>
 obind
 (F31 n
 (Prod.snd x_8,
 Prod.fst
 (Prod.snd
 (Prod.snd
 (Prod.snd
 (Prod.snd
 (Prod.snd
 (Prod.snd
 (Prod.snd
 (Prod.snd
 (Prod.snd
 (Prod.snd
 (Prod.snd
 (Prod.snd
 (Prod.snd
 (Prod.snd
 (Prod.snd
 (Prod.snd
 (Prod.snd
 (Prod.snd
 (Prod.snd (Prod.snd x))))))))))))))))))))))
 fun (x_9 : Unit × Option (List UInt8)) =>
 obind
 (F31 n
 (Prod.snd x_9,
 Prod.snd
 (Prod.snd
 (Prod.snd
 (Prod.snd
 (Prod.snd
 (Prod.snd
 (Prod.snd
 (Prod.snd
 (Prod.snd
 (Prod.snd
 (Prod.snd
 (Prod.snd
 (Prod.snd
 (Prod.snd
 (Prod.snd
 (Prod.snd
 (Prod.snd
 (Prod.snd
 (Prod.snd
 (Prod.snd (Prod.snd x))))))))))))))))))))))
 fun (x_10 : Unit × Option (List UInt8)) =>
 J (Prod.fst (Prod.snd x_1)) (Prod.fst (Prod.fst x_1))
 (Prod.fst (Prod.snd (Prod.fst x_1))) (Prod.snd (Prod.snd (Prod.fst x_1)))
 (Prod.fst (Prod.snd (Prod.snd x_1))) (Prod.snd (Prod.snd (Prod.snd x_1)))
 (Prod.snd x_10))
 (J (Prod.fst (Prod.snd x_1)) (Prod.fst (Prod.fst x_1)) (Prod.fst (Prod.snd (Prod.fst x_1)))
 (Prod.snd (Prod.snd (Prod.fst x_1))) (Prod.fst (Prod.snd (Prod.snd x_1)))
 (Prod.snd (Prod.snd (Prod.snd x_1))) (Prod.snd x_6))))
 (F12_J511 n))
theorem ok12 (n : Nat) : FunOK Tryz.prog ⟨12, sig12, F12 n⟩ :=
 fun_ok (hints := ⟨[(511, ⟨[(0, .one (.own 0)), (7, .one (.own 2))], [(0, .cellsA [.int .u32, .int .i32, .int .u32] (.int .u32) 256 [.int .u64, .int .u64]), (2, .fold (.cons (.row (.cons (.int .u8) .nil)) .nil))], 3⟩)], []⟩) (fuel := n) (c := Tryz.f12.body.getD .skip) (rs := Tryz.f12.results.toList) tt_ok mix (FsOK.cons (ok26 n) (FsOK.cons (ok30 n) (FsOK.cons (ok31 n) (FsOK.cons (ok32 n) (FsOK.cons (ok33 n) (FsOK.cons (ok8 n) (FsOK.nil))))))) Tryz.func12 (by kernel_rfl) (by kernel_rfl) rfl (by kernel_rfl) rfl rfl (by kernel_rfl)
-- watchfire/watchfirelaw05.Awake
def sig4 : Sig := ⟨.nil, (.cons (.one (.c .bool)) .nil)⟩
def F4 : Nat → Unit → Option (Bool × Unit) := fun (n : Nat) (x : Unit) =>
 obind (F5 n ()) fun (x_1 : Option ((UInt32 × Int32 × UInt32) × List UInt32 × UInt64 × UInt64) × Unit) =>
 obind
 (F12 n
 (Prod.fst x_1, (3 : UInt8), (2 : UInt8), (1 : UInt8), (0 : UInt64), (0 : UInt64), false, (0 : UInt8),
 (0 : UInt64), (0 : UInt64), [], [], (0 : UInt8), (0 : UInt8), (0 : Int64), (0 : UInt8), (0 : UInt8),
 (0 : UInt64), (0 : UInt64), (0 : UInt64), (0 : UInt64), (0 : UInt64)))
 fun (x_2 : (List UInt8 × Int64) × Option ((UInt32 × Int32 × UInt32) × List UInt32 × UInt64 × UInt64)) =>
 oite (decide (Prod.snd (Prod.fst x_2) = (0 : Int64)))
 (oite (decide (Int64.ofInt ↑(List.length (Prod.fst (Prod.fst x_2))) = (8 : Int64)))
 (oite (Nat.ble (Int.toNat (Int64.toInt (4 : Int64))) (List.length (Prod.fst (Prod.fst x_2))) && true)
 (some
 (List.take (Int.toNat (Int64.toInt (4 : Int64)) - (0 : Nat))
 (List.drop (0 : Nat) (Prod.fst (Prod.fst x_2))) ==
 [(183 : UInt8), (3 : UInt8), (2 : UInt8), (1 : UInt8)],
 ()))
 none)
 (some (false, ())))
 (some (false, ()))
theorem ok4 (n : Nat) : FunOK Tryz.prog ⟨4, sig4, F4 n⟩ :=
 fun_ok (hints := ⟨[], []⟩) (fuel := n) (c := Tryz.f4.body.getD .skip) (rs := Tryz.f4.results.toList) tt_ok mix (FsOK.cons (ok5 n) (FsOK.cons (ok12 n) (FsOK.nil))) Tryz.func4 (by kernel_rfl) (by kernel_rfl) rfl (by kernel_rfl) rfl rfl (by kernel_rfl)
-- watchfire/item.Gap
def sig36 : Sig := ⟨(.cons (.one (.c (.int .u8))) (.cons (.one (.c (.int .u64))) (.cons (.one (.c (.int .u64))) .nil))), (.cons (.agg (.cons .bool (.cons (.int .u8) (.cons (.int .u64) (.cons (.int .u64) (.cons .str (.cons (.ro (.cons .str (.cons .str .nil))) (.cons (.int .u8) (.cons (.int .u8) (.cons (.int .i64) (.cons (.int .u8) (.cons (.int .u8) (.cons (.int .u64) (.cons (.int .u64) .nil)))))))))))))) .nil)⟩
def F36 : Nat →
 UInt8 × UInt64 × UInt64 →
 Option
 ((Bool ×
 UInt8 ×
 UInt64 ×
 UInt64 ×
 List UInt8 × List (List UInt8 × List UInt8) × UInt8 × UInt8 × Int64 × UInt8 × UInt8 × UInt64 × UInt64) ×
 Unit) := fun (n : Nat) (x : UInt8 × UInt64 × UInt64) =>
 some
 ((true, (0 : UInt8), (0 : UInt64), (0 : UInt64), [], [], (0 : UInt8), (0 : UInt8), (0 : Int64), (0 : UInt8),
 Prod.fst x, Prod.fst (Prod.snd x), Prod.snd (Prod.snd x)),
 ())
theorem ok36 (n : Nat) : FunOK Tryz.prog ⟨36, sig36, F36 n⟩ :=
 fun_ok (hints := ⟨[], []⟩) (fuel := n) (c := Tryz.f36.body.getD .skip) (rs := Tryz.f36.results.toList) tt_ok mix (FsOK.nil) Tryz.func36 (by kernel_rfl) (by kernel_rfl) rfl (by kernel_rfl) rfl rfl (by kernel_rfl)
-- watchfire/item.Of
def sig37 : Sig := ⟨(.cons (.agg (.cons (.int .u8) (.cons (.int .u64) (.cons (.int .u64) (.cons .str (.cons (.ro (.cons .str (.cons .str .nil))) (.cons (.int .u8) (.cons (.int .u8) (.cons (.int .i64) (.cons (.int .u8) .nil)))))))))) .nil), (.cons (.agg (.cons .bool (.cons (.int .u8) (.cons (.int .u64) (.cons (.int .u64) (.cons .str (.cons (.ro (.cons .str (.cons .str .nil))) (.cons (.int .u8) (.cons (.int .u8) (.cons (.int .i64) (.cons (.int .u8) (.cons (.int .u8) (.cons (.int .u64) (.cons (.int .u64) .nil)))))))))))))) .nil)⟩
def F37 : Nat →
 UInt8 × UInt64 × UInt64 × List UInt8 × List (List UInt8 × List UInt8) × UInt8 × UInt8 × Int64 × UInt8 →
 Option
 ((Bool ×
 UInt8 ×
 UInt64 ×
 UInt64 ×
 List UInt8 × List (List UInt8 × List UInt8) × UInt8 × UInt8 × Int64 × UInt8 × UInt8 × UInt64 × UInt64) ×
 Unit) := fun (n : Nat)
 (x : UInt8 × UInt64 × UInt64 × List UInt8 × List (List UInt8 × List UInt8) × UInt8 × UInt8 × Int64 × UInt8) =>
 some
 ((false, Prod.fst x, Prod.fst (Prod.snd x), Prod.fst (Prod.snd (Prod.snd x)),
 Prod.fst (Prod.snd (Prod.snd (Prod.snd x))), Prod.fst (Prod.snd (Prod.snd (Prod.snd (Prod.snd x)))),
 Prod.fst (Prod.snd (Prod.snd (Prod.snd (Prod.snd (Prod.snd x))))),
 Prod.fst (Prod.snd (Prod.snd (Prod.snd (Prod.snd (Prod.snd (Prod.snd x)))))),
 Prod.fst (Prod.snd (Prod.snd (Prod.snd (Prod.snd (Prod.snd (Prod.snd (Prod.snd x))))))),
 Prod.snd (Prod.snd (Prod.snd (Prod.snd (Prod.snd (Prod.snd (Prod.snd (Prod.snd x))))))), (0 : UInt8),
 (0 : UInt64), (0 : UInt64)),
 ())
theorem ok37 (n : Nat) : FunOK Tryz.prog ⟨37, sig37, F37 n⟩ :=
 fun_ok (hints := ⟨[], []⟩) (fuel := n) (c := Tryz.f37.body.getD .skip) (rs := Tryz.f37.results.toList) tt_ok mix (FsOK.nil) Tryz.func37 (by kernel_rfl) (by kernel_rfl) rfl (by kernel_rfl) rfl rfl (by kernel_rfl)
-- (watchfire/watchfirelaw04.Small).Item
def sig17 : Sig := ⟨(.cons (.agg (.cons .bool (.cons (.int .u8) (.cons (.int .u8) (.cons (.int .u8) (.cons (.int .u16) (.cons (.int .u16) (.cons (.int .u16) (.cons (.int .u8) (.cons (.int .u8) (.cons (.int .u8) (.cons .bool .nil)))))))))))) .nil), (.cons (.agg (.cons .bool (.cons (.int .u8) (.cons (.int .u64) (.cons (.int .u64) (.cons .str (.cons (.ro (.cons .str (.cons .str .nil))) (.cons (.int .u8) (.cons (.int .u8) (.cons (.int .i64) (.cons (.int .u8) (.cons (.int .u8) (.cons (.int .u64) (.cons (.int .u64) .nil)))))))))))))) .nil)⟩
def F17_L1021 : Nat →
 Arr
 [PT.int IntKind.u8, PT.int IntKind.u8, PT.bool, PT.int IntKind.u8, PT.int IntKind.u8, PT.int IntKind.u8,
 PT.int IntKind.u16, PT.int IntKind.u16, PT.int IntKind.u16, PT.int IntKind.u8, PT.int IntKind.u8,
 PT.int IntKind.u8, PT.bool, PT.bool, PT.int IntKind.u8, PT.int IntKind.u64, PT.int IntKind.u64, PT.bytes,
 PT.int IntKind.u8, PT.int IntKind.u8, PT.int IntKind.i64, PT.int IntKind.u8, PT.int IntKind.u8,
 PT.int IntKind.u64, PT.int IntKind.u64, PT.int IntKind.u8, PT.int IntKind.u64, PT.int IntKind.u64, PT.bytes,
 PT.int IntKind.u8, PT.int IntKind.u8, PT.int IntKind.i64, PT.int IntKind.u8,
 PT.list (CTs.cons CT.str (CTs.cons CT.str CTs.nil))]
 (Option
 ((Bool ×
 UInt8 ×
 UInt64 ×
 UInt64 ×
 List UInt8 ×
 List (List UInt8 × List UInt8) × UInt8 × UInt8 × Int64 × UInt8 × UInt8 × UInt64 × UInt64) ×
 Unit)) →
 UInt8 →
 UInt8 →
 Bool →
 UInt8 →
 UInt8 →
 UInt8 →
 UInt16 →
 UInt16 →
 UInt16 →
 UInt8 →
 UInt8 →
 UInt8 →
 Bool →
 Bool →
 UInt8 →
 UInt64 →
 UInt64 →
 List UInt8 →
 UInt8 →
 UInt8 →
 Int64 →
 UInt8 →
 UInt8 →
 UInt64 →
 UInt64 →
 UInt8 →
 UInt64 →
 UInt64 →
 List UInt8 →
 UInt8 →
 UInt8 →
 Int64 →
 UInt8 →
 List (List UInt8 × List UInt8) →
 Option
 ((Bool ×
 UInt8 ×
 UInt64 ×
 UInt64 ×
 List UInt8 ×
 List (List UInt8 × List UInt8) ×
 UInt8 ×
 UInt8 ×
 Int64 ×
 UInt8 ×
 UInt8 ×
 UInt64 × UInt64) ×
 Unit) := fun (n : Nat)
 (rec :
 Arr
 [PT.int IntKind.u8, PT.int IntKind.u8, PT.bool, PT.int IntKind.u8, PT.int IntKind.u8, PT.int IntKind.u8,
 PT.int IntKind.u16, PT.int IntKind.u16, PT.int IntKind.u16, PT.int IntKind.u8, PT.int IntKind.u8,
 PT.int IntKind.u8, PT.bool, PT.bool, PT.int IntKind.u8, PT.int IntKind.u64, PT.int IntKind.u64, PT.bytes,
 PT.int IntKind.u8, PT.int IntKind.u8, PT.int IntKind.i64, PT.int IntKind.u8, PT.int IntKind.u8,
 PT.int IntKind.u64, PT.int IntKind.u64, PT.int IntKind.u8, PT.int IntKind.u64, PT.int IntKind.u64, PT.bytes,
 PT.int IntKind.u8, PT.int IntKind.u8, PT.int IntKind.i64, PT.int IntKind.u8,
 PT.list (CTs.cons CT.str (CTs.cons CT.str CTs.nil))]
 (Option
 ((Bool ×
 UInt8 ×
 UInt64 ×
 UInt64 ×
 List UInt8 ×
 List (List UInt8 × List UInt8) × UInt8 × UInt8 × Int64 × UInt8 × UInt8 × UInt64 × UInt64) ×
 Unit)))
 (t t_1 : UInt8) (s0_2 : Bool) (s1_2 s2_2 s3_2 : UInt8) (s4_2 s5_2 s6_2 : UInt16) (s7_2 s8_2 s9_2 : UInt8)
 (s10_2 t0_2 : Bool) (t1_2 : UInt8) (t2_2 t3_2 : UInt64) (t4_2 : List UInt8) (t6_2 t7_2 : UInt8) (t8_2 : Int64)
 (t9_2 t10_2 : UInt8) (t11_2 t12_2 : UInt64) (v0_2 : UInt8) (v1_2 v2_2 : UInt64) (v3_2 : List UInt8)
 (v5_2 v6_2 : UInt8) (v7_2 : Int64) (v8_2 : UInt8) (vl : List (List UInt8 × List UInt8)) =>
 oite (decide (t_1 < t))
 (oite
 (Nat.ble
 (List.length vl + List.length [([(97 : UInt8) + t_1], [(48 : UInt8) + s8_2 / (4 : UInt8) % (10 : UInt8)])])
 (4294967296 : Nat))
 (rec t (t_1 + (1 : UInt8)) s0_2 s1_2 s2_2 s3_2 s4_2 s5_2 s6_2 s7_2 s8_2 s9_2 s10_2 t0_2 t1_2 t2_2 t3_2 t4_2 t6_2
 t7_2 t8_2 t9_2 t10_2 t11_2 t12_2 v0_2 v1_2 v2_2 v3_2 v5_2 v6_2 v7_2 v8_2
 (vl ++ [([(97 : UInt8) + t_1], [(48 : UInt8) + s8_2 / (4 : UInt8) % (10 : UInt8)])]))
 none)
 (obind (F37 n (v0_2, v1_2, v2_2, v3_2, vl, v5_2, v6_2, v7_2, v8_2))
 fun
 (x_2 :
 (Bool ×
 UInt8 ×
 UInt64 ×
 UInt64 ×
 List UInt8 ×
 List (List UInt8 × List UInt8) × UInt8 × UInt8 × Int64 × UInt8 × UInt8 × UInt64 × UInt64) ×
 Unit) =>
 some
 ((Prod.fst (Prod.fst x_2), Prod.fst (Prod.snd (Prod.fst x_2)), Prod.fst (Prod.snd (Prod.snd (Prod.fst x_2))),
 Prod.fst (Prod.snd (Prod.snd (Prod.snd (Prod.fst x_2)))),
 Prod.fst (Prod.snd (Prod.snd (Prod.snd (Prod.snd (Prod.fst x_2))))),
 Prod.fst (Prod.snd (Prod.snd (Prod.snd (Prod.snd (Prod.snd (Prod.fst x_2)))))),
 Prod.fst (Prod.snd (Prod.snd (Prod.snd (Prod.snd (Prod.snd (Prod.snd (Prod.fst x_2))))))),
 Prod.fst (Prod.snd (Prod.snd (Prod.snd (Prod.snd (Prod.snd (Prod.snd (Prod.snd (Prod.fst x_2)))))))),
 Prod.fst
 (Prod.snd (Prod.snd (Prod.snd (Prod.snd (Prod.snd (Prod.snd (Prod.snd (Prod.snd (Prod.fst x_2))))))))),
 Prod.fst
 (Prod.snd
 (Prod.snd (Prod.snd (Prod.snd (Prod.snd (Prod.snd (Prod.snd (Prod.snd (Prod.snd (Prod.fst x_2)))))))))),
 Prod.fst
 (Prod.snd
 (Prod.snd
 (Prod.snd
 (Prod.snd (Prod.snd (Prod.snd (Prod.snd (Prod.snd (Prod.snd (Prod.snd (Prod.fst x_2))))))))))),
 Prod.fst
 (Prod.snd
 (Prod.snd
 (Prod.snd
 (Prod.snd
 (Prod.snd (Prod.snd (Prod.snd (Prod.snd (Prod.snd (Prod.snd (Prod.snd (Prod.fst x_2)))))))))))),
 Prod.snd
 (Prod.snd
 (Prod.snd
 (Prod.snd
 (Prod.snd
 (Prod.snd (Prod.snd (Prod.snd (Prod.snd (Prod.snd (Prod.snd (Prod.snd (Prod.fst x_2))))))))))))),
 ()))
def F17_R1021 : Nat →
 Nat →
 PT.T (PT.int IntKind.u8) →
 UInt8 →
 Bool →
 UInt8 →
 UInt8 →
 UInt8 →
 UInt16 →
 UInt16 →
 UInt16 →
 UInt8 →
 UInt8 →
 UInt8 →
 Bool →
 Bool →
 UInt8 →
 UInt64 →
 UInt64 →
 List UInt8 →
 UInt8 →
 UInt8 →
 Int64 →
 UInt8 →
 UInt8 →
 UInt64 →
 UInt64 →
 UInt8 →
 UInt64 →
 UInt64 →
 List UInt8 →
 UInt8 →
 UInt8 →
 Int64 →
 UInt8 →
 List (List UInt8 × List UInt8) →
 Option
 ((Bool ×
 UInt8 ×
 UInt64 ×
 UInt64 ×
 List UInt8 ×
 List (List UInt8 × List UInt8) ×
 UInt8 ×
 UInt8 ×
 Int64 ×
 UInt8 ×
 UInt8 ×
 UInt64 × UInt64) ×
 Unit) := fun (n : Nat) =>
 ofixA (1021 : Nat)
 [PT.int IntKind.u8, PT.int IntKind.u8, PT.bool, PT.int IntKind.u8, PT.int IntKind.u8, PT.int IntKind.u8,
 PT.int IntKind.u16, PT.int IntKind.u16, PT.int IntKind.u16, PT.int IntKind.u8, PT.int IntKind.u8,
 PT.int IntKind.u8, PT.bool, PT.bool, PT.int IntKind.u8, PT.int IntKind.u64, PT.int IntKind.u64, PT.bytes,
 PT.int IntKind.u8, PT.int IntKind.u8, PT.int IntKind.i64, PT.int IntKind.u8, PT.int IntKind.u8,
 PT.int IntKind.u64, PT.int IntKind.u64, PT.int IntKind.u8, PT.int IntKind.u64, PT.int IntKind.u64, PT.bytes,
 PT.int IntKind.u8, PT.int IntKind.u8, PT.int IntKind.i64, PT.int IntKind.u8,
 PT.list (CTs.cons CT.str (CTs.cons CT.str CTs.nil))]
 (F17_L1021 n)
def F17_J127 : Nat →
 Bool →
 UInt8 →
 UInt8 →
 UInt8 →
 UInt16 →
 UInt16 →
 UInt16 →
 UInt8 →
 UInt8 →
 UInt8 →
 Bool →
 Bool →
 UInt8 →
 UInt64 →
 UInt64 →
 List UInt8 →
 UInt8 →
 UInt8 →
 Int64 →
 UInt8 →
 UInt8 →
 UInt64 →
 UInt64 →
 UInt8 →
 UInt64 →
 UInt64 →
 List UInt8 →
 UInt8 →
 UInt8 →
 Int64 →
 UInt8 →
 Option
 ((Bool ×
 UInt8 ×
 UInt64 ×
 UInt64 ×
 List UInt8 ×
 List (List UInt8 × List UInt8) ×
 UInt8 ×
 UInt8 ×
 Int64 ×
 UInt8 × UInt8 × UInt64 × UInt64) ×
 Unit) := fun (n : Nat) (s0_1 : Bool) (s1_1 s2_1 s3_1 : UInt8) (s4_1 s5_1 s6_1 : UInt16) (s7_1 s8_1 s9_1 : UInt8)
 (s10_1 t0_1 : Bool) (t1_1 : UInt8) (t2_1 t3_1 : UInt64) (t4_1 : List UInt8) (t6_1 t7_1 : UInt8) (t8_1 : Int64)
 (t9_1 t10_1 : UInt8) (t11_1 t12_1 : UInt64) (v0_1 : UInt8) (v1_1 v2_1 : UInt64) (v3_1 : List UInt8)
 (v5_1 v6_1 : UInt8) (v7_1 : Int64) (v8_1 : UInt8) =>
 F17_R1021 n n (s8_1 % (4 : UInt8)) (0 : UInt8) s0_1 s1_1 s2_1 s3_1 s4_1 s5_1 s6_1 s7_1 s8_1 s9_1 s10_1 t0_1 t1_1 t2_1
 t3_1 t4_1 t6_1 t7_1 t8_1 t9_1 t10_1 t11_1 t12_1 v0_1 v1_1 v2_1 v3_1 v5_1 v6_1 v7_1 v8_1 []
def F17_J63 : Nat →
 Bool →
 UInt8 →
 UInt8 →
 UInt8 →
 UInt16 →
 UInt16 →
 UInt16 →
 UInt8 →
 UInt8 →
 UInt8 →
 Bool →
 Bool →
 UInt8 →
 UInt64 →
 UInt64 →
 List UInt8 →
 UInt8 →
 UInt8 →
 Int64 →
 UInt8 →
 UInt8 →
 UInt64 →
 UInt64 →
 UInt8 →
 UInt64 →
 UInt64 →
 List UInt8 →
 UInt8 →
 UInt8 →
 Int64 →
 UInt8 →
 Option
 ((Bool ×
 UInt8 ×
 UInt64 ×
 UInt64 ×
 List UInt8 ×
 List (List UInt8 × List UInt8) ×
 UInt8 ×
 UInt8 ×
 Int64 ×
 UInt8 × UInt8 × UInt64 × UInt64) ×
 Unit) := fun (n : Nat) (s0 : Bool) (s1 s2 s3 : UInt8) (s4 s5 s6 : UInt16) (s7 s8 s9 : UInt8) (s10 t0 : Bool) (t1 : UInt8)
 (t2 t3 : UInt64) (t4 : List UInt8) (t6 t7 : UInt8) (t8 : Int64) (t9 t10 : UInt8) (t11 t12 : UInt64) (v0 : UInt8)
 (v1 v2 : UInt64) (v3 : List UInt8) (v5 v6 : UInt8) (v7 : Int64) (v8 : UInt8) =>
 ojoinA (127 : Nat)
 [PT.bool, PT.int IntKind.u8, PT.int IntKind.u8, PT.int IntKind.u8, PT.int IntKind.u16, PT.int IntKind.u16,
 PT.int IntKind.u16, PT.int IntKind.u8, PT.int IntKind.u8, PT.int IntKind.u8, PT.bool, PT.bool, PT.int IntKind.u8,
 PT.int IntKind.u64, PT.int IntKind.u64, PT.bytes, PT.int IntKind.u8, PT.int IntKind.u8, PT.int IntKind.i64,
 PT.int IntKind.u8, PT.int IntKind.u8, PT.int IntKind.u64, PT.int IntKind.u64, PT.int IntKind.u8,
 PT.int IntKind.u64, PT.int IntKind.u64, PT.bytes, PT.int IntKind.u8, PT.int IntKind.u8, PT.int IntKind.i64,
 PT.int IntKind.u8]
 (fun
 (J :
 Arr
 [PT.bool, PT.int IntKind.u8, PT.int IntKind.u8, PT.int IntKind.u8, PT.int IntKind.u16, PT.int IntKind.u16,
 PT.int IntKind.u16, PT.int IntKind.u8, PT.int IntKind.u8, PT.int IntKind.u8, PT.bool, PT.bool,
 PT.int IntKind.u8, PT.int IntKind.u64, PT.int IntKind.u64, PT.bytes, PT.int IntKind.u8, PT.int IntKind.u8,
 PT.int IntKind.i64, PT.int IntKind.u8, PT.int IntKind.u8, PT.int IntKind.u64, PT.int IntKind.u64,
 PT.int IntKind.u8, PT.int IntKind.u64, PT.int IntKind.u64, PT.bytes, PT.int IntKind.u8, PT.int IntKind.u8,
 PT.int IntKind.i64, PT.int IntKind.u8]
 (Option
 ((Bool ×
 UInt8 ×
 UInt64 ×
 UInt64 ×
 List UInt8 ×
 List (List UInt8 × List UInt8) × UInt8 × UInt8 × Int64 × UInt8 × UInt8 × UInt64 × UInt64) ×
 Unit))) =>
 oite (decide (s3 % (8 : UInt8) = (7 : UInt8)))
 (J s0 s1 s2 s3 s4 s5 s6 s7 s8 s9 s10 t0 t1 t2 t3 t4 t6 t7 t8 t9 t10 t11 t12 v0 v1 v2
 [(111 : UInt8), (119 : UInt8), (110 : UInt8), (46 : UInt8), (120 : UInt8)] v5 v6 v7
 ((1 : UInt8) + s3 / (8 : UInt8) % (2 : UInt8)))
 (J s0 s1 s2 s3 s4 s5 s6 s7 s8 s9 s10 t0 t1 t2 t3 t4 t6 t7 t8 t9 t10 t11 t12 v0 v1 v2 v3 v5 v6 v7 v8))
 (F17_J127 n)
def F17 : Nat →
 Bool × UInt8 × UInt8 × UInt8 × UInt16 × UInt16 × UInt16 × UInt8 × UInt8 × UInt8 × Bool →
 Option
 ((Bool ×
 UInt8 ×
 UInt64 ×
 UInt64 ×
 List UInt8 × List (List UInt8 × List UInt8) × UInt8 × UInt8 × Int64 × UInt8 × UInt8 × UInt64 × UInt64) ×
 Unit) := fun (n : Nat) (x : Bool × UInt8 × UInt8 × UInt8 × UInt16 × UInt16 × UInt16 × UInt8 × UInt8 × UInt8 × Bool) =>
 oite (Prod.fst x)
 (obind
 (F36 n
 (Prod.fst (Prod.snd x) % (32 : UInt8),
 (1 : UInt64) + UInt64.ofInt ↑(UInt16.toNat (Prod.fst (Prod.snd (Prod.snd (Prod.snd (Prod.snd x)))))),
 (1 : UInt64) + UInt64.ofInt ↑(UInt16.toNat (Prod.fst (Prod.snd (Prod.snd (Prod.snd (Prod.snd x)))))) +
 UInt64.ofInt ↑(UInt16.toNat (Prod.fst (Prod.snd (Prod.snd (Prod.snd (Prod.snd (Prod.snd x)))))))))
 fun
 (x_1 :
 (Bool ×
 UInt8 ×
 UInt64 ×
 UInt64 ×
 List UInt8 ×
 List (List UInt8 × List UInt8) × UInt8 × UInt8 × Int64 × UInt8 × UInt8 × UInt64 × UInt64) ×
 Unit) =>
 some
 ((Prod.fst (Prod.fst x_1), Prod.fst (Prod.snd (Prod.fst x_1)), Prod.fst (Prod.snd (Prod.snd (Prod.fst x_1))),
 Prod.fst (Prod.snd (Prod.snd (Prod.snd (Prod.fst x_1)))),
 Prod.fst (Prod.snd (Prod.snd (Prod.snd (Prod.snd (Prod.fst x_1))))),
 Prod.fst (Prod.snd (Prod.snd (Prod.snd (Prod.snd (Prod.snd (Prod.fst x_1)))))),
 Prod.fst (Prod.snd (Prod.snd (Prod.snd (Prod.snd (Prod.snd (Prod.snd (Prod.fst x_1))))))),
 Prod.fst (Prod.snd (Prod.snd (Prod.snd (Prod.snd (Prod.snd (Prod.snd (Prod.snd (Prod.fst x_1)))))))),
 Prod.fst
 (Prod.snd (Prod.snd (Prod.snd (Prod.snd (Prod.snd (Prod.snd (Prod.snd (Prod.snd (Prod.fst x_1))))))))),
 Prod.fst
 (Prod.snd
 (Prod.snd (Prod.snd (Prod.snd (Prod.snd (Prod.snd (Prod.snd (Prod.snd (Prod.snd (Prod.fst x_1)))))))))),
 Prod.fst
 (Prod.snd
 (Prod.snd
 (Prod.snd
 (Prod.snd (Prod.snd (Prod.snd (Prod.snd (Prod.snd (Prod.snd (Prod.snd (Prod.fst x_1))))))))))),
 Prod.fst
 (Prod.snd
 (Prod.snd
 (Prod.snd
 (Prod.snd
 (Prod.snd (Prod.snd (Prod.snd (Prod.snd (Prod.snd (Prod.snd (Prod.snd (Prod.fst x_1)))))))))))),
 Prod.snd
 (Prod.snd
 (Prod.snd
 (Prod.snd
 (Prod.snd
 (Prod.snd (Prod.snd (Prod.snd (Prod.snd (Prod.snd (Prod.snd (Prod.snd (Prod.fst x_1))))))))))))),
 ()))
 (oite
 (decide
 ((0 : Int) ≤
 ↑(UInt8.toNat
 (Prod.fst (Prod.snd (Prod.snd (Prod.snd (Prod.snd (Prod.snd (Prod.snd (Prod.snd x))))))) %
 (4 : UInt8)))) &&
 Nat.blt
 (Int.toNat
 ↑(UInt8.toNat
 (Prod.fst (Prod.snd (Prod.snd (Prod.snd (Prod.snd (Prod.snd (Prod.snd (Prod.snd x))))))) %
 (4 : UInt8))))
 (List.length
 [[(104 : UInt8), (111 : UInt8), (116 : UInt8)], [(99 : UInt8), (111 : UInt8), (108 : UInt8), (100 : UInt8)],
 [(100 : UInt8), (105 : UInt8), (115 : UInt8), (107 : UInt8), (46 : UInt8), (102 : UInt8), (117 : UInt8),
 (108 : UInt8), (108 : UInt8)],
 [(120 : UInt8)]]))
 (obind
 [[(104 : UInt8), (111 : UInt8), (116 : UInt8)], [(99 : UInt8), (111 : UInt8), (108 : UInt8), (100 : UInt8)],
 [(100 : UInt8), (105 : UInt8), (115 : UInt8), (107 : UInt8), (46 : UInt8), (102 : UInt8), (117 : UInt8),
 (108 : UInt8), (108 : UInt8)],
 [(120 :
 UInt8)]][Int.toNat
 ↑(UInt8.toNat
 (Prod.fst (Prod.snd (Prod.snd (Prod.snd (Prod.snd (Prod.snd (Prod.snd (Prod.snd x))))))) %
 (4 : UInt8)))]?
 fun (x_1 : List UInt8) =>
 ojoinA (63 : Nat)
 [PT.bool, PT.int IntKind.u8, PT.int IntKind.u8, PT.int IntKind.u8, PT.int IntKind.u16, PT.int IntKind.u16,
 PT.int IntKind.u16, PT.int IntKind.u8, PT.int IntKind.u8, PT.int IntKind.u8, PT.bool, PT.bool,
 PT.int IntKind.u8, PT.int IntKind.u64, PT.int IntKind.u64, PT.bytes, PT.int IntKind.u8, PT.int IntKind.u8,
 PT.int IntKind.i64, PT.int IntKind.u8, PT.int IntKind.u8, PT.int IntKind.u64, PT.int IntKind.u64,
 PT.int IntKind.u8, PT.int IntKind.u64, PT.int IntKind.u64, PT.bytes, PT.int IntKind.u8, PT.int IntKind.u8,
 PT.int IntKind.i64, PT.int IntKind.u8]
 (fun
 (J :
 Arr
 [PT.bool, PT.int IntKind.u8, PT.int IntKind.u8, PT.int IntKind.u8, PT.int IntKind.u16,
 PT.int IntKind.u16, PT.int IntKind.u16, PT.int IntKind.u8, PT.int IntKind.u8, PT.int IntKind.u8,
 PT.bool, PT.bool, PT.int IntKind.u8, PT.int IntKind.u64, PT.int IntKind.u64, PT.bytes,
 PT.int IntKind.u8, PT.int IntKind.u8, PT.int IntKind.i64, PT.int IntKind.u8, PT.int IntKind.u8,
 PT.int IntKind.u64, PT.int IntKind.u64, PT.int IntKind.u8, PT.int IntKind.u64, PT.int IntKind.u64,
 PT.bytes, PT.int IntKind.u8, PT.int IntKind.u8, PT.int IntKind.i64, PT.int IntKind.u8]
 (Option
 ((Bool ×
 UInt8 ×
 UInt64 ×
 UInt64 ×
 List UInt8 ×
 List (List UInt8 × List UInt8) ×
 UInt8 × UInt8 × Int64 × UInt8 × UInt8 × UInt64 × UInt64) ×
 Unit))) =>
 oite
 (Prod.snd
 (Prod.snd (Prod.snd (Prod.snd (Prod.snd (Prod.snd (Prod.snd (Prod.snd (Prod.snd (Prod.snd x))))))))))
 (J (Prod.fst x) (Prod.fst (Prod.snd x)) (Prod.fst (Prod.snd (Prod.snd x)))
 (Prod.fst (Prod.snd (Prod.snd (Prod.snd x)))) (Prod.fst (Prod.snd (Prod.snd (Prod.snd (Prod.snd x)))))
 (Prod.fst (Prod.snd (Prod.snd (Prod.snd (Prod.snd (Prod.snd x))))))
 (Prod.fst (Prod.snd (Prod.snd (Prod.snd (Prod.snd (Prod.snd (Prod.snd x)))))))
 (Prod.fst (Prod.snd (Prod.snd (Prod.snd (Prod.snd (Prod.snd (Prod.snd (Prod.snd x))))))))
 (Prod.fst (Prod.snd (Prod.snd (Prod.snd (Prod.snd (Prod.snd (Prod.snd (Prod.snd (Prod.snd x)))))))))
 (Prod.fst
 (Prod.snd (Prod.snd (Prod.snd (Prod.snd (Prod.snd (Prod.snd (Prod.snd (Prod.snd (Prod.snd x))))))))))
 (Prod.snd
 (Prod.snd (Prod.snd (Prod.snd (Prod.snd (Prod.snd (Prod.snd (Prod.snd (Prod.snd (Prod.snd x))))))))))
 false (0 : UInt8) (0 : UInt64) (0 : UInt64) [] (0 : UInt8) (0 : UInt8) (0 : Int64) (0 : UInt8)
 (0 : UInt8) (0 : UInt64) (0 : UInt64) (Prod.fst (Prod.snd x) % (32 : UInt8))
 ((1 : UInt64) + UInt64.ofInt ↑(UInt16.toNat (Prod.fst (Prod.snd (Prod.snd (Prod.snd (Prod.snd x)))))))
 (UInt64.ofInt
 ↑(UInt16.toNat (Prod.fst (Prod.snd (Prod.snd (Prod.snd (Prod.snd (Prod.snd (Prod.snd x)))))))))
 x_1 (2 : UInt8) (Prod.fst (Prod.snd (Prod.snd x)) % (8 : UInt8))
 (Int64.ofInt
 ↑(UInt8.toNat
 (Prod.fst
 (Prod.snd
 (Prod.snd
 (Prod.snd (Prod.snd (Prod.snd (Prod.snd (Prod.snd (Prod.snd (Prod.snd x))))))))))) -
 (100 : Int64))
 (0 : UInt8))
 (J (Prod.fst x) (Prod.fst (Prod.snd x)) (Prod.fst (Prod.snd (Prod.snd x)))
 (Prod.fst (Prod.snd (Prod.snd (Prod.snd x)))) (Prod.fst (Prod.snd (Prod.snd (Prod.snd (Prod.snd x)))))
 (Prod.fst (Prod.snd (Prod.snd (Prod.snd (Prod.snd (Prod.snd x))))))
 (Prod.fst (Prod.snd (Prod.snd (Prod.snd (Prod.snd (Prod.snd (Prod.snd x)))))))
 (Prod.fst (Prod.snd (Prod.snd (Prod.snd (Prod.snd (Prod.snd (Prod.snd (Prod.snd x))))))))
 (Prod.fst (Prod.snd (Prod.snd (Prod.snd (Prod.snd (Prod.snd (Prod.snd (Prod.snd (Prod.snd x)))))))))
 (Prod.fst
 (Prod.snd (Prod.snd (Prod.snd (Prod.snd (Prod.snd (Prod.snd (Prod.snd (Prod.snd (Prod.snd x))))))))))
 (Prod.snd
 (Prod.snd (Prod.snd (Prod.snd (Prod.snd (Prod.snd (Prod.snd (Prod.snd (Prod.snd (Prod.snd x))))))))))
 false (0 : UInt8) (0 : UInt64) (0 : UInt64) [] (0 : UInt8) (0 : UInt8) (0 : Int64) (0 : UInt8)
 (0 : UInt8) (0 : UInt64) (0 : UInt64) (Prod.fst (Prod.snd x) % (32 : UInt8))
 ((1 : UInt64) + UInt64.ofInt ↑(UInt16.toNat (Prod.fst (Prod.snd (Prod.snd (Prod.snd (Prod.snd x)))))))
 (UInt64.ofInt
 ↑(UInt16.toNat (Prod.fst (Prod.snd (Prod.snd (Prod.snd (Prod.snd (Prod.snd (Prod.snd x)))))))))
 x_1 (0 : UInt8) (Prod.fst (Prod.snd (Prod.snd x)) % (8 : UInt8))
 (Int64.ofInt
 ↑(UInt8.toNat
 (Prod.fst
 (Prod.snd
 (Prod.snd
 (Prod.snd (Prod.snd (Prod.snd (Prod.snd (Prod.snd (Prod.snd (Prod.snd x))))))))))) -
 (100 : Int64))
 (0 : UInt8)))
 (F17_J63 n))
 none)
theorem F17_R1021_s (n : Nat) (m_ : Nat) : F17_R1021 n (m_ + 1) = F17_L1021 n (F17_R1021 n m_) := rfl
theorem ok17 (n : Nat) : FunOK Tryz.prog ⟨17, sig17, F17 n⟩ :=
 fun_ok (hints := ⟨[(63, ⟨[(1, .one (.own 1)), (2, .one (.own 2)), (5, .one (.own 3))], [(1, .cells [.bool, .int .u8, .int .u8, .int .u8, .int .u16, .int .u16, .int .u16, .int .u8, .int .u8, .int .u8, .bool]), (2, .cells [.bool, .int .u8, .int .u64, .int .u64, .str, .nils, .int .u8, .int .u8, .int .i64, .int .u8, .int .u8, .int .u64, .int .u64]), (3, .cells [.int .u8, .int .u64, .int .u64, .str, .nils, .int .u8, .int .u8, .int .i64, .int .u8])], 4⟩), (127, ⟨[(1, .one (.own 1)), (2, .one (.own 2)), (5, .one (.own 3))], [(1, .cells [.bool, .int .u8, .int .u8, .int .u8, .int .u16, .int .u16, .int .u16, .int .u8, .int .u8, .int .u8, .bool]), (2, .cells [.bool, .int .u8, .int .u64, .int .u64, .str, .nils, .int .u8, .int .u8, .int .i64, .int .u8, .int .u8, .int .u64, .int .u64]), (3, .cells [.int .u8, .int .u64, .int .u64, .str, .nils, .int .u8, .int .u8, .int .i64, .int .u8])], 4⟩)], [(1021, ⟨[(1, .one (.own 1)), (2, .one (.own 2)), (5, .one (.own 3)), (59, .one (.int .u8)), (60, .one (.int .u8))], [(1, .cells [.bool, .int .u8, .int .u8, .int .u8, .int .u16, .int .u16, .int .u16, .int .u8, .int .u8, .int .u8, .bool]), (2, .cells [.bool, .int .u8, .int .u64, .int .u64, .str, .nils, .int .u8, .int .u8, .int .i64, .int .u8, .int .u8, .int .u64, .int .u64]), (3, .cells [.int .u8, .int .u64, .int .u64, .str, .own 4, .int .u8, .int .u8, .int .i64, .int .u8]), (4, .row (.cons .str (.cons .str .nil)))], 5⟩)]⟩) (fuel := n) (c := Tryz.f17.body.getD .skip) (rs := Tryz.f17.results.toList) tt_ok mix (FsOK.cons (ok36 n) (FsOK.cons (ok37 n) (FsOK.nil))) Tryz.func17 (by kernel_rfl) (by kernel_rfl) rfl (by kernel_rfl) rfl rfl (by kernel_rfl)
end Go.Proofs.YtgknjddbbehboaaGreat
