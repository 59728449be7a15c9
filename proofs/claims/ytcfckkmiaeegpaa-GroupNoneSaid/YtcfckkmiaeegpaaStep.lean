/- group.Step at one alert and one node: what it answers. -/
import Derived.Test.YtcfckkmiaeegpaaFns5
import Derived.Test.YtcfckkmiaeegpaaSxPlain
open Go Go.Sx
namespace Go.Proofs.Ytcfckkmiaeegpaa
abbrev Pair := List UInt8 × List UInt8
abbrev Alert := UInt8 × List UInt8 × List Pair × UInt8 × UInt64 × UInt8 × Int64
abbrev Node := List (List UInt8 × UInt8 × List UInt8) × List UInt8 × List (List UInt8) × UInt64 × UInt64 × UInt64 × Bool × Int64
abbrev Id := UInt8 × List UInt8 × List UInt8
abbrev St := List Pair × UInt64 × Bool × UInt64 × List (Id × Alert)
abbrev Key := Int64 × List UInt8
abbrev Gs := Option (List Node) × List (Key × St) × UInt64
abbrev KT : VT := VT.agg (CTs.cons (CT.int .i64) (CTs.cons CT.str CTs.nil))
abbrev IT : VT := VT.agg (CTs.cons (CT.int .u8) (CTs.cons CT.str (CTs.cons CT.str CTs.nil)))
theorem keyEq (a : Key) : VT.eqb KT a a = true := by simp [VT.eqb, CTs.eqb, CT.eqb, IK.eqb, CTs.hd, CTs.tl]
theorem idEq (a : Id) : VT.eqb IT a a = true := by simp [VT.eqb, CTs.eqb, CT.eqb, IK.eqb, CTs.hd, CTs.tl]
theorem kget (v : VT) (a : Key) (x : v.T) (r : List (Key × v.T)) : mget KT v a ((a, x) :: r) = some x := by simp only [mget, keyEq]
theorem kput (v : VT) (a : Key) (x y : v.T) (r : List (Key × v.T)) : mput KT v a y ((a, x) :: r) = (a, y) :: r := by simp only [mput, keyEq]
theorem kdel (v : VT) (a : Key) (x : v.T) (r : List (Key × v.T)) : mdel KT v a ((a, x) :: r) = r := by simp only [mdel, keyEq]
theorem iget (v : VT) (a : Id) (x : v.T) (r : List (Id × v.T)) : mget IT v a ((a, x) :: r) = some x := by simp only [mget, idEq]
theorem iput (v : VT) (a : Id) (x y : v.T) (r : List (Id × v.T)) : mput IT v a y ((a, x) :: r) = (a, y) :: r := by simp only [mput, idEq]
theorem idel (v : VT) (a : Id) (x : v.T) (r : List (Id × v.T)) : mdel IT v a ((a, x) :: r) = r := by simp only [mdel, idEq]
theorem get0 (k v : VT) (a : k.T) : mget k v a [] = none := rfl
theorem put0 (k v : VT) (a : k.T) (x : v.T) : mput k v a x [] = [(a, x)] := rfl
theorem oall1 {R : Type} (f : Nat → Option R) : oallN 1 f = f 0 := by
  cases h : f 0 with
  | some r => exact oallN_mk (by omega) (fun j hj => by rw [show j = 0 by omega]; exact h)
  | none =>
    cases h' : oallN 1 f with
    | none => rfl
    | some r => have := (oallN_some h').2 0 (by omega); rw [h] at this; cases this
/-- what is asked of a node and an alert: its group's labels, their text, the alert's labels' text -/
structure Env (n : Nat) (nd : Node) (o : UInt8) (r : List UInt8) (l gl : List Pair) (gt lt : List UInt8) : Prop where
  find : ∀ st p v u, F44 n (some [nd], o, r, l, st, p, v, u) = some ([0], ())
  node : F30 n (some [nd], 0) = some ((nd, true), ())
  grp : ∀ st p v u, F45 n (nd, o, r, l, st, p, v, u) = some (gl, ())
  text : F46 n gl = some (gt, ())
  lab : F46 n l = some (lt, ())
  clone : F52 n gl = some (gl, ())
variable {n : Nat} {nd : Node} {o : UInt8} {r : List UInt8} {l gl : List Pair} {gt lt : List UInt8}
theorem of_id (E : Env n nd o r l gl gt lt) (st p v u) : F31 n (o, r, l, st, p, v, u) = some ((o, r, lt), ()) := by
  unfold F31
  simp only [E.lab, obind_s]
theorem sort1 (k : Nat) (a : Alert) : F66 (k + 10) ([a], ()) = some ((), [a]) := by kernel_rfl
theorem clone1 (k : Nat) (a : Alert) : F65 (k + 10) [a] = some ([a], ()) := by kernel_rfl
theorem clone0 (k : Nat) : F65 (k + 10) [] = some ([], ()) := by kernel_rfl
theorem lt01 {α : Type} (a : α) : decide ((0 : Int64) < Int64.ofInt ↑[a].length) = true := rfl
theorem lt11 {α : Type} (a : α) : decide ((0 : Int64) + 1 < Int64.ofInt ↑[a].length) = false := rfl
theorem at0 {α : Type} (a : α) : at? [a] (Int64.toInt 0) = some a := rfl
theorem content1 (k : Nat) (E : Env (k + 10) nd o r l gl gt lt) (st p v u) (due : UInt64) (told : Bool) (last : UInt64) (ss : List (Id × Alert)) :
    F50 (k + 10) ((gl, due, told, last, []), [(o, r, l, st, p, v, u)], ss) = some (([(o, r, l, st, p, v, u)], true), ()) := by
  unfold F50
  rw [clone1]
  simp only [obind_s]
  rw [F50_R61_s]
  unfold F50_L61
  rw [lt01, oite_t, at0]
  simp only [obind_s]
  rw [of_id E]
  simp only [obind_s]
  rw [oite_f, get0]
  rw [show (!(none : Option Alert).isSome) = true from rfl, oite_t, F50_R61_s]
  unfold F50_L61
  rw [lt11, oite_f, F50_R125_s]
  unfold F50_L125
  rw [show Nat.blt 0 ([] : List (Id × Alert)).length = false from rfl, oite_f, sort1]
  rfl
theorem content3 (k : Nat) (_E : Env (k + 10) nd o r l gl gt lt) (st p v u p' v' u') (due : UInt64) (told : Bool) (last : UInt64) :
    F50 (k + 10) ((gl, due, told, last, [((o, r, lt), (o, r, l, st, p', v', u'))]), [], [((o, r, lt), (o, r, l, 0, p, v, u))]) = some (([(o, r, l, 0, p, v, u)], true), ()) := by
  unfold F50
  rw [clone0]
  simp only [obind_s]
  rw [F50_R61_s]
  unfold F50_L61
  rw [show decide ((0 : Int64) < Int64.ofInt ↑([] : List Alert).length) = false from rfl, oite_f]
  rw [F50_R125_s]
  unfold F50_L125
  rw [show ∀ x : Id × Alert, Nat.blt 0 [x].length = true from fun _ => rfl, oite_t]
  rw [show ∀ x : Id × Alert, [x].length = 1 from fun _ => rfl, oall1]
  simp only [List.getElem?_cons_zero, obind_s, List.eraseIdx_cons_zero]
  rw [iget]
  simp only [ojoinA_eq, Option.isSome_some, Bool.not_true, Option.getD_some]
  rw [oite_f, show decide True = true from rfl]
  unfold F50_J4015
  rw [oite_t, show (!true) = false from rfl, oite_f]
  rw [show ∀ x : Alert, Nat.ble (([] : List Alert).length + [x].length) 4294967296 = true from fun _ => rfl, oite_t, F50_R125_s]
  unfold F50_L125
  rw [show Nat.blt 0 ([] : List (Id × Alert)).length = false from rfl, oite_f, List.nil_append, sort1]
  rfl
abbrev NotT := UInt64 × List UInt8 × List Pair × List Alert
theorem look0 (k : Nat) (s : St) (gt : List UInt8) (sent now : UInt64) (al : List Alert) (ss : List (Id × Alert)) (h : now < s.2.1) :
    F33 (k + 10) (some (some [nd], [((0, gt), s)], sent), (0, gt), now, al, ss) = some (((0, [], [], []), false), some (some [nd], [((0, gt), s)], sent)) := by
  unfold F33
  simp only [obind_s]
  rw [kget]
  simp only [Option.getD_some]
  rw [dec_t h]
  rfl
abbrev AT : VT := VT.agg (CTs.cons (CT.int .u8) (CTs.cons CT.str (CTs.cons (CT.ro (CTs.cons CT.str (CTs.cons CT.str CTs.nil))) (CTs.cons (CT.int .u8) (CTs.cons (CT.int .u64) (CTs.cons (CT.int .u8) (CTs.cons (CT.int .i64) CTs.nil)))))))
theorem len1 {α : Type} (a : α) : decide (Int64.ofInt ↑[a].length = 0) = false := rfl
theorem len0 {α : Type} : decide (Int64.ofInt ↑([] : List α).length = 0) = true := rfl
theorem blt1 {α : Type} (a : α) : Nat.blt 0 [a].length = true := rfl
theorem blt0 {α : Type} : Nat.blt 0 ([] : List α).length = false := rfl
/-- behind the copy of what was told: a firing one is told -/
theorem tail_fire (k : Nat) (E : Env (k + 10) nd o r l gl gt lt) (st p v u) (hst : st ≠ 0) (now g2 s1 s3 n3 n4 n5 : UInt64) (t0 t1) (n1 : List UInt8) (g0) (s2) (s4 nx : List (Id × Alert)) (n0 n2 n6 n7) (s : St)
    (hnx : mput IT AT (o, r, lt) (o, r, l, st, p, v, u) nx = [((o, r, lt), (o, r, l, st, p, v, u))]) :
    F33_R16381 (k + 10) (k + 10) now [(o, r, l, st, p, v, u)] [(o, r, l, st, p, v, u)] [(o, r, l, st, p, v, u)] (Int64.ofInt ↑[(o, r, l, st, p, v, u)].length) 0 g0 g2 0 gt t0 t1 gl s1 s2 s3 s4 n0 n1 n2 n3 n4 n5 n6 n7 nx [((0, gt), s)]
      = some (((now, n1, gl, [(o, r, l, st, p, v, u)]), true), some (g0, [((0, gt), (gl, s1, s2, s3, [((o, r, lt), (o, r, l, st, p, v, u))]))], g2)) := by
  rw [F33_R16381_s]
  unfold F33_L16381
  rw [lt01, oite_t, at0]
  simp only [obind_s]
  rw [of_id E]
  simp only [obind_s]
  rw [dec_f hst, oite_f, hnx, F33_R16381_s]
  unfold F33_L16381
  rw [lt11, oite_f]
  simp only [ojoinA_eq]
  rw [len1, oite_f, kput]
  unfold F33_J32767
  rw [E.clone]
  rfl
theorem copy0 (k : Nat) (_E : Env (k + 10) nd o r l gl gt lt) (X : Alert) (now t1 g2 s1 s3 n3 n4 n5) (al : List Alert) (g0 k0 k1 t0 s0 s2 s4 n0 n1 n2 n6 n7 g) :
    F33_R8189 (k + 10) (k + 10) now al [X] g0 g2 k0 k1 t0 t1 s0 s1 s2 s3 s4 n0 n1 n2 n3 n4 n5 n6 n7 [] [] g = F33_R16381 (k + 10) (k + 10) now al [X] [X] (Int64.ofInt ↑[X].length) 0 g0 g2 k0 k1 t0 t1 s0 s1 s2 s3 s4 n0 n1 n2 n3 n4 n5 n6 n7 [] g := by
  rw [F33_R8189_s]
  unfold F33_L8189
  rw [blt0, oite_f]
theorem copy1 (k : Nat) (_E : Env (k + 10) nd o r l gl gt lt) (X X0 : Alert) (i : Id) (now t1 g2 s1 s3 n3 n4 n5) (al : List Alert) (g0 k0 k1 t0 s0 s2 s4 n0 n1 n2 n6 n7 g) :
    F33_R8189 (k + 10) (k + 10) now al [X] g0 g2 k0 k1 t0 t1 s0 s1 s2 s3 s4 n0 n1 n2 n3 n4 n5 n6 n7 [] [(i, X0)] g = F33_R16381 (k + 10) (k + 10) now al [X] [X] (Int64.ofInt ↑[X].length) 0 g0 g2 k0 k1 t0 t1 s0 s1 s2 s3 s4 n0 n1 n2 n3 n4 n5 n6 n7 [(i, X0)] g := by
  rw [F33_R8189_s]
  unfold F33_L8189
  rw [blt1, oite_t, show ∀ x : Id × Alert, [x].length = 1 from fun _ => rfl, oall1]
  simp only [List.getElem?_cons_zero, obind_s, List.eraseIdx_cons_zero]
  rw [put0, F33_R8189_s]
  unfold F33_L8189
  rw [blt0, oite_f]
theorem look_tell (k : Nat) (E : Env (k + 10) nd o r l gl gt lt) (st p v u) (hst : st ≠ 0) (due last sent now : UInt64) (ss : List (Id × Alert)) (h : ¬ now < due) :
    F33 (k + 10) (some (some [nd], [((0, gt), (gl, due, false, last, []))], sent), (0, gt), now, [(o, r, l, st, p, v, u)], ss)
      = some (((now, nd.2.1, gl, [(o, r, l, st, p, v, u)]), true), some (some [nd], [((0, gt), (gl, now + nd.2.2.2.2.1, true, now, [((o, r, lt), (o, r, l, st, p, v, u))]))], sent)) := by
  unfold F33
  simp only [obind_s]
  rw [kget]
  simp only [Option.getD_some]
  rw [dec_f h, oite_f, E.node]
  simp only [obind_s]
  rw [content1 k E]
  simp only [obind_s, ojoinA_eq]
  rw [len1, oite_f]
  unfold F33_J127
  simp only [ojoinA_eq]
  rw [show (!true) = false from rfl, oite_f, len1]
  unfold F33_J510
  rw [oite_f, copy0 k E]
  exact tail_fire k E st p v u hst now sent _ _ _ _ _ _ _ _ _ _ _ _ _ _ _ _ _ rfl
/-- idle by now: that is told, and the group is gone -/
theorem look_idle (k : Nat) (E : Env (k + 10) nd o r l gl gt lt) (st p v u p' v' u') (due last sent now : UInt64) (told : Bool) (h : ¬ now < due) :
    F33 (k + 10) (some (some [nd], [((0, gt), (gl, due, told, last, [((o, r, lt), (o, r, l, st, p', v', u'))]))], sent), (0, gt), now, [], [((o, r, lt), (o, r, l, 0, p, v, u))])
      = some (((now, nd.2.1, gl, [(o, r, l, 0, p, v, u)]), true), some (some [nd], [], sent)) := by
  unfold F33
  simp only [obind_s]
  rw [kget]
  simp only [Option.getD_some]
  rw [dec_f h, oite_f, E.node]
  simp only [obind_s]
  rw [content3 k E]
  simp only [obind_s, ojoinA_eq]
  rw [len0, oite_t, len1, oite_f]
  unfold F33_J127
  simp only [ojoinA_eq]
  rw [show (!true) = false from rfl, oite_f, len1]
  unfold F33_J510
  rw [oite_f, copy1 k E]
  rw [F33_R16381_s]
  unfold F33_L16381
  rw [lt01, oite_t, at0]
  simp only [obind_s]
  rw [of_id E]
  simp only [obind_s]
  rw [show decide True = true from rfl, oite_t]
  rw [iput, idel, F33_R16381_s]
  unfold F33_L16381
  rw [lt11, oite_f]
  simp only [ojoinA_eq]
  rw [len0, oite_t, show Nat.ble ([] : List (Id × Alert)).length 4294967296 = true from rfl, oite_t, len0, oite_t, kput, kdel]
  unfold F33_J32767
  rw [E.clone]
  rfl
theorem mem_idle (k : Nat) (g : Option Gs) (o r l p v u) : F29 (k + 10) (g, [(o, r, l, 0, p, v, u)]) = some ([], g) := by
  unfold F29
  rw [F29_R29_s]
  unfold F29_L29
  rw [lt01, oite_t, at0]
  simp only [obind_s]
  rw [show decide True = true from rfl, oite_t, F29_R29_s]
  unfold F29_L29
  rw [lt11, oite_f]
theorem mem1 (k : Nat) (E : Env (k + 10) nd o r l gl gt lt) (st p v u) (hst : st ≠ 0) (m : List (Key × St)) (sent : UInt64) :
    F29 (k + 10) (some (some [nd], m, sent), [(o, r, l, st, p, v, u)]) = some ([(0, gt, gl, o, r, l, st, p, v, u)], some (some [nd], m, sent)) := by
  unfold F29
  rw [F29_R29_s]
  unfold F29_L29
  rw [lt01, oite_t, at0]
  simp only [obind_s]
  rw [dec_f hst, oite_f, E.find]
  simp only [obind_s]
  rw [F29_R3767_s]
  unfold F29_L3767
  rw [lt01, oite_t, show (decide ((0 : Int) ≤ Int64.toInt 0) && Nat.blt (Int.toNat (Int64.toInt 0)) ([0] : List Int64).length) = true from rfl, oite_t, show ([0] : List Int64)[Int.toNat (Int64.toInt 0)]? = some 0 from rfl]
  simp only [obind_s]
  rw [E.node]
  simp only [obind_s]
  rw [E.grp]
  simp only [obind_s]
  rw [E.text]
  simp only [obind_s]
  rw [show ∀ x : Int64 × List UInt8 × List Pair × Alert, Nat.ble (([] : List (Int64 × List UInt8 × List Pair × Alert)).length + [x].length) 4294967296 = true from fun _ => rfl, oite_t, F29_R3767_s]
  unfold F29_L3767
  rw [lt11, oite_f, F29_R29_s]
  unfold F29_L29
  rw [lt11, oite_f]
  rfl
theorem keys1 (k : Nat) (t : Option (List Node)) (x : Key) (s : St) (sent : UInt64) : F32 (k + 10) (some (t, [(x, s)], sent)) = some ([x], some (t, [(x, s)], sent)) := by
  unfold F32
  simp only [obind_s]
  rw [F32_R29_s]
  unfold F32_L29
  rw [blt1, oite_t, show ∀ x : Key × St, [x].length = 1 from fun _ => rfl, oall1]
  simp only [List.getElem?_cons_zero, obind_s, List.eraseIdx_cons_zero, List.nil_append]
  rw [show ∀ x : Key, Nat.ble (([] : List Key).length + [x].length) 4294967296 = true from fun _ => rfl, oite_t, F32_R29_s]
  unfold F32_L29
  rw [blt0, oite_f, show F47 (k + 10) ([(x.1, x.2)], ()) = some ((), [(x.1, x.2)]) from by kernel_rfl]
  rfl
theorem keys0 (k : Nat) (t : Option (List Node)) (sent : UInt64) : F32 (k + 10) (some (t, [], sent)) = some ([], some (t, [], sent)) := by kernel_rfl
abbrev InT := List (Key × List Alert)
abbrev LV : VT := VT.one (CT.ro (CTs.cons (CT.int .u8) (CTs.cons CT.str (CTs.cons (CT.ro (CTs.cons CT.str (CTs.cons CT.str CTs.nil))) (CTs.cons (CT.int .u8) (CTs.cons (CT.int .u64) (CTs.cons (CT.int .u8) (CTs.cons (CT.int .i64) CTs.nil))))))))
theorem half0 (k : Nat) (E : Env (k + 10) nd o r l gl gt lt) (now sent : UInt64) (st p v u) (t : Option (List Node)) (in_ : InT) :
    F13_R253 (k + 10) (k + 10) now [(o, r, l, st, p, v, u)] (Int64.ofInt ↑[(o, r, l, st, p, v, u)].length) 0 (some (t, [], sent)) in_ [] = some ([], some (t, [], sent)) := by
  rw [F13_R253_s]
  unfold F13_L253
  rw [lt01, oite_t, at0]
  simp only [obind_s]
  rw [of_id E]
  simp only [obind_s]
  rw [put0, F13_R253_s]
  unfold F13_L253
  rw [lt11, oite_f, keys0]
  simp only [obind_s]
  rw [F13_R1021_s]
  unfold F13_L1021
  rw [show decide ((0 : Int64) < Int64.ofInt ↑([] : List Key).length) = false from rfl, oite_f]
theorem half1 (k : Nat) (E : Env (k + 10) nd o r l gl gt lt) (now sent : UInt64) (st p v u) (t : Option (List Node)) (in_ : InT) (s : St) (al : List Alert) (hin : (mget KT LV (0, gt) in_ = none ∧ al = []) ∨ mget KT LV (0, gt) in_ = some al)
    (nt : NotT) (ok : Bool) (t' : Option (List Node)) (m' : List (Key × St)) (sent' : UInt64)
    (hl : F33 (k + 10) (some (t, [((0, gt), s)], sent), (0, gt), now, al, [((o, r, lt), (o, r, l, st, p, v, u))]) = some ((nt, ok), some (t', m', sent'))) :
    F13_R253 (k + 10) (k + 10) now [(o, r, l, st, p, v, u)] (Int64.ofInt ↑[(o, r, l, st, p, v, u)].length) 0 (some (t, [((0, gt), s)], sent)) in_ [] = some (if ok then [nt] else [], some (t', m', if ok then sent' + 1 else sent')) := by
  rw [F13_R253_s]
  unfold F13_L253
  rw [lt01, oite_t, at0]
  simp only [obind_s]
  rw [of_id E]
  simp only [obind_s]
  rw [put0, F13_R253_s]
  unfold F13_L253
  rw [lt11, oite_f, keys1]
  simp only [obind_s]
  rw [F13_R1021_s]
  unfold F13_L1021
  rw [lt01, oite_t, at0]
  simp only [obind_s, ojoinA_eq]
  have fin : ∀ a b c d, F13_J32685 (F13_R1021 (k + 10) (k + 9)) now ok [((0 : Int64), gt)] (Int64.ofInt ↑[((0 : Int64), gt)].length) 0 (some (t', m', sent')) in_ [((o, r, lt), (o, r, l, st, p, v, u))] [] a b c d = some (if ok then [(a, b, c, d)] else [], some (t', m', if ok then sent' + 1 else sent')) := by
    intro a b c d
    unfold F13_J32685
    cases ok with
    | true =>
      rw [oite_t, show ∀ x : NotT, Nat.ble (([] : List NotT).length + [x].length) 4294967296 = true from fun _ => rfl, oite_t]
      simp only [obind_s]
      rw [F13_R1021_s]
      unfold F13_L1021
      rw [lt11, oite_f]
      rfl
    | false =>
      rw [oite_f, F13_R1021_s]
      unfold F13_L1021
      rw [lt11, oite_f]
      rfl
  rcases hin with ⟨h1, rfl⟩ | h1
  · rw [h1, oelim_n, hl]
    simp only [obind_s]
    exact fin _ _ _ _
  · rw [h1, oelim_s, hl]
    simp only [obind_s]
    exact fin _ _ _ _
theorem step_gone (k : Nat) (_E : Env (k + 10) nd o r l gl gt lt) (now sent : UInt64) (hnow : ¬ 1099511627776 < now) (heard : List Alert) (st p v u) (t : Option (List Node)) (m : List (Key × St))
    (hm : F29 (k + 10) (some (t, m, sent), heard) = some ([], some (t, m, sent))) :
    F13 (k + 10) (some (t, m, sent), now, heard, [(o, r, l, st, p, v, u)]) = F13_R253 (k + 10) (k + 10) now [(o, r, l, st, p, v, u)] (Int64.ofInt ↑[(o, r, l, st, p, v, u)].length) 0 (some (t, m, sent)) [] [] := by
  unfold F13
  simp only [oelim_s]
  rw [dec_f hnow, oite_f, hm]
  simp only [obind_s]
  rw [F13_R61_s]
  unfold F13_L61
  rw [show decide ((0 : Int64) < Int64.ofInt ↑([] : List (Int64 × List UInt8 × List Pair × Alert)).length) = false from rfl, oite_f]
theorem step_new (k : Nat) (E : Env (k + 10) nd o r l gl gt lt) (now sent : UInt64) (hnow : ¬ 1099511627776 < now) (st p v u) (hst : st ≠ 0) (all : List Alert) :
    F13 (k + 10) (some (some [nd], [], sent), now, [(o, r, l, st, p, v, u)], all) = F13_R253 (k + 10) (k + 10) now all (Int64.ofInt ↑all.length) 0 (some (some [nd], [((0, gt), (gl, now + nd.2.2.2.1, false, 0, []))], sent)) [((0, gt), [(o, r, l, st, p, v, u)])] [] := by
  unfold F13
  simp only [oelim_s]
  rw [dec_f hnow, oite_f, mem1 k E _ _ _ _ hst]
  simp only [obind_s]
  rw [F13_R61_s]
  unfold F13_L61
  rw [lt01, oite_t, at0]
  simp only [obind_s, ojoinA_eq]
  rw [get0]
  rw [show (!(none : Option St).isSome) = true from rfl, oite_t, show Nat.ble ([] : List (Key × St)).length 4294967296 = true from rfl, oite_t, show decide (Int64.ofInt ↑([] : List (Key × St)).length = 256) = false from rfl, oite_f, E.node]
  simp only [obind_s]
  rw [put0]
  unfold F13_J3931
  rw [show (decide ((0 : Int64) = 0) && (gt == gt && true)) = true from by simp, oite_t, get0, oelim_n]
  rw [show ∀ x : Alert, Nat.ble (0 + [x].length) 4294967296 = true from fun _ => rfl, oite_t]
  rw [List.nil_append, put0, kput, F13_R61_s]
  unfold F13_L61
  rw [lt11, oite_f]
theorem step_old (k : Nat) (E : Env (k + 10) nd o r l gl gt lt) (now sent : UInt64) (hnow : ¬ 1099511627776 < now) (st p v u) (hst : st ≠ 0) (all : List Alert) (s : St) :
    F13 (k + 10) (some (some [nd], [((0, gt), s)], sent), now, [(o, r, l, st, p, v, u)], all) = F13_R253 (k + 10) (k + 10) now all (Int64.ofInt ↑all.length) 0 (some (some [nd], [((0, gt), s)], sent)) [((0, gt), [(o, r, l, st, p, v, u)])] [] := by
  unfold F13
  simp only [oelim_s]
  rw [dec_f hnow, oite_f, mem1 k E _ _ _ _ hst]
  simp only [obind_s]
  rw [F13_R61_s]
  unfold F13_L61
  rw [lt01, oite_t, at0]
  simp only [obind_s, ojoinA_eq]
  rw [kget]
  rw [show ∀ x : St, (!(some x).isSome) = false from fun _ => rfl, oite_f]
  unfold F13_J3931
  rw [show (decide ((0 : Int64) = 0) && (gt == gt && true)) = true from by simp, oite_t, get0, oelim_n]
  rw [show ∀ x : Alert, Nat.ble (0 + [x].length) 4294967296 = true from fun _ => rfl, oite_t]
  rw [List.nil_append, put0, kput, F13_R61_s]
  unfold F13_L61
  rw [lt11, oite_f]
end Go.Proofs.Ytcfckkmiaeegpaa
