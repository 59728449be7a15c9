/- GroupNone: a look at one of many groups, in a tree of many nodes. -/
import Derived.Test.YtcfckkmiaeegpaaSmall
open Go Go.Sx
namespace Go.Proofs.Ytcfckkmiaeegpaa
abbrev SV : VT := VT.agg (CTs.cons (CT.ro (CTs.cons CT.str (CTs.cons CT.str CTs.nil))) (CTs.cons (CT.int .u64) (CTs.cons CT.bool (CTs.cons (CT.int .u64) (CTs.cons (CT.rom (CTs.cons (CT.int .u8) (CTs.cons CT.str (CTs.cons CT.str CTs.nil))) (CTs.cons (CT.int .u8) (CTs.cons CT.str (CTs.cons (CT.ro (CTs.cons CT.str (CTs.cons CT.str CTs.nil))) (CTs.cons (CT.int .u8) (CTs.cons (CT.int .u64) (CTs.cons (CT.int .u8) (CTs.cons (CT.int .i64) CTs.nil)))))))) CTs.nil)))))
structure EnvN (n : Nat) (T : Option (List Node)) (ix : Int64) (nd : Node) (o : UInt8) (r : List UInt8) (l gl : List Pair) (lt : List UInt8) : Prop where
  node : F30 n (T, ix) = some ((nd, true), ())
  lab : F46 n l = some (lt, ())
  clone : F52 n gl = some (gl, ())
variable {n : Nat} {T : Option (List Node)} {ix : Int64} {nd : Node} {o : UInt8} {r : List UInt8} {l gl : List Pair} {gt lt : List UInt8} {m : List (Key × St)}
theorem of_idN (E : EnvN n T ix nd o r l gl lt) (st p v u) : F31 n (o, r, l, st, p, v, u) = some ((o, r, lt), ()) := by
  unfold F31
  simp only [E.lab, obind_s]
theorem content1N (k : Nat) (E : EnvN (k + 10) T ix nd o r l gl lt) (st p v u) (due : UInt64) (told : Bool) (last : UInt64) (ss : List (Id × Alert)) :
    F50 (k + 10) ((gl, due, told, last, []), [(o, r, l, st, p, v, u)], ss) = some (([(o, r, l, st, p, v, u)], true), ()) := by
  unfold F50
  rw [clone1]
  simp only [obind_s]
  rw [F50_R61_s]
  unfold F50_L61
  rw [lt01, oite_t, at0]
  simp only [obind_s]
  rw [of_idN E]
  simp only [obind_s]
  rw [oite_f, get0]
  rw [show (!(none : Option Alert).isSome) = true from rfl, oite_t, F50_R61_s]
  unfold F50_L61
  rw [lt11, oite_f, F50_R125_s]
  unfold F50_L125
  rw [show Nat.blt 0 ([] : List (Id × Alert)).length = false from rfl, oite_f, sort1]
  rfl
theorem content2N (k : Nat) (E : EnvN (k + 10) T ix nd o r l gl lt) (st p v u p' v' u') (hst : st ≠ 0) (due : UInt64) (told : Bool) (last : UInt64) :
    F50 (k + 10) ((gl, due, told, last, [((o, r, lt), (o, r, l, st, p', v', u'))]), [(o, r, l, st, p, v, u)], [((o, r, lt), (o, r, l, st, p, v, u))]) = some (([(o, r, l, st, p, v, u)], false), ()) := by
  unfold F50
  rw [clone1]
  simp only [obind_s]
  rw [F50_R61_s]
  unfold F50_L61
  rw [lt01, oite_t, at0]
  simp only [obind_s]
  rw [of_idN E]
  simp only [obind_s]
  rw [oite_f, iget]
  simp only [Option.isSome_some, Bool.not_true, Option.getD_some]
  rw [oite_f, show (!decide True) = false from rfl, F50_R61_s]
  unfold F50_L61
  rw [lt11, oite_f, F50_R125_s]
  unfold F50_L125
  rw [show ∀ x : Id × Alert, Nat.blt 0 [x].length = true from fun _ => rfl, oite_t]
  rw [show ∀ x : Id × Alert, [x].length = 1 from fun _ => rfl, oall1]
  simp only [List.getElem?_cons_zero, obind_s, List.eraseIdx_cons_zero]
  rw [iget]
  simp only [ojoinA_eq, Option.isSome_some, Bool.not_true, Option.getD_some]
  rw [oite_f, dec_f hst]
  unfold F50_J4015
  rw [oite_f, F50_R125_s]
  unfold F50_L125
  rw [show Nat.blt 0 ([] : List (Id × Alert)).length = false from rfl, oite_f, sort1]
  rfl
theorem look0N (k : Nat) (s : St) (gt : List UInt8) (sent now : UInt64) (al : List Alert) (ss : List (Id × Alert)) (hm : mget KT SV (ix, gt) m = some s) (h : now < s.2.1) :
    F33 (k + 10) (some (T, m, sent), (ix, gt), now, al, ss) = some (((0, [], [], []), false), some (T, m, sent)) := by
  unfold F33
  simp only [obind_s]
  rw [hm]
  simp only [Option.getD_some]
  rw [dec_t h]
  rfl
/-- behind the copy of what was told: a firing one is told -/
theorem tail_fireN (k : Nat) (E : EnvN (k + 10) T ix nd o r l gl lt) (st p v u) (hst : st ≠ 0) (now g2 s1 s3 n3 n4 n5 : UInt64) (t0 t1) (n1 : List UInt8) (g0) (s2) (s4 nx : List (Id × Alert)) (n0 n2 n6 n7)
    (hnx : mput IT AT (o, r, lt) (o, r, l, st, p, v, u) nx = [((o, r, lt), (o, r, l, st, p, v, u))]) :
    F33_R16381 (k + 10) (k + 10) now [(o, r, l, st, p, v, u)] [(o, r, l, st, p, v, u)] [(o, r, l, st, p, v, u)] (Int64.ofInt ↑[(o, r, l, st, p, v, u)].length) 0 g0 g2 ix gt t0 t1 gl s1 s2 s3 s4 n0 n1 n2 n3 n4 n5 n6 n7 nx m
      = some (((now, n1, gl, [(o, r, l, st, p, v, u)]), true), some (g0, mput KT SV (ix, gt) (gl, s1, s2, s3, [((o, r, lt), (o, r, l, st, p, v, u))]) m, g2)) := by
  rw [F33_R16381_s]
  unfold F33_L16381
  rw [lt01, oite_t, at0]
  simp only [obind_s]
  rw [of_idN E]
  simp only [obind_s]
  rw [dec_f hst, oite_f, hnx, F33_R16381_s]
  unfold F33_L16381
  rw [lt11, oite_f]
  simp only [ojoinA_eq]
  rw [len1, oite_f]
  unfold F33_J32767
  rw [E.clone]
  rfl
theorem copy0N (k : Nat) (X : Alert) (now t1 g2 s1 s3 n3 n4 n5) (al : List Alert) (g0 k0 k1 t0 s0 s2 s4 n0 n1 n2 n6 n7 g) :
    F33_R8189 (k + 10) (k + 10) now al [X] g0 g2 k0 k1 t0 t1 s0 s1 s2 s3 s4 n0 n1 n2 n3 n4 n5 n6 n7 [] [] g = F33_R16381 (k + 10) (k + 10) now al [X] [X] (Int64.ofInt ↑[X].length) 0 g0 g2 k0 k1 t0 t1 s0 s1 s2 s3 s4 n0 n1 n2 n3 n4 n5 n6 n7 [] g := by
  rw [F33_R8189_s]
  unfold F33_L8189
  rw [blt0, oite_f]
theorem copy1N (k : Nat) (X X0 : Alert) (i : Id) (now t1 g2 s1 s3 n3 n4 n5) (al : List Alert) (g0 k0 k1 t0 s0 s2 s4 n0 n1 n2 n6 n7 g) :
    F33_R8189 (k + 10) (k + 10) now al [X] g0 g2 k0 k1 t0 t1 s0 s1 s2 s3 s4 n0 n1 n2 n3 n4 n5 n6 n7 [] [(i, X0)] g = F33_R16381 (k + 10) (k + 10) now al [X] [X] (Int64.ofInt ↑[X].length) 0 g0 g2 k0 k1 t0 t1 s0 s1 s2 s3 s4 n0 n1 n2 n3 n4 n5 n6 n7 [(i, X0)] g := by
  rw [F33_R8189_s]
  unfold F33_L8189
  rw [blt1, oite_t, show ∀ x : Id × Alert, [x].length = 1 from fun _ => rfl, oall1]
  simp only [List.getElem?_cons_zero, obind_s, List.eraseIdx_cons_zero]
  rw [put0, F33_R8189_s]
  unfold F33_L8189
  rw [blt0, oite_f]
theorem look_tellN (k : Nat) (E : EnvN (k + 10) T ix nd o r l gl lt) (st p v u) (hst : st ≠ 0) (due last sent now : UInt64) (ss : List (Id × Alert)) (hm : mget KT SV (ix, gt) m = some (gl, due, false, last, [])) (h : ¬ now < due) :
    F33 (k + 10) (some (T, m, sent), (ix, gt), now, [(o, r, l, st, p, v, u)], ss)
      = some (((now, nd.2.1, gl, [(o, r, l, st, p, v, u)]), true), some (T, mput KT SV (ix, gt) (gl, now + nd.2.2.2.2.1, true, now, [((o, r, lt), (o, r, l, st, p, v, u))]) m, sent)) := by
  unfold F33
  simp only [obind_s]
  rw [hm]
  simp only [Option.getD_some]
  rw [dec_f h, oite_f, E.node]
  simp only [obind_s]
  rw [content1N k E]
  simp only [obind_s, ojoinA_eq]
  rw [len1, oite_f]
  unfold F33_J127
  simp only [ojoinA_eq]
  rw [show (!true) = false from rfl, oite_f, len1]
  unfold F33_J510
  rw [oite_f, copy0N k]
  exact tail_fireN k E st p v u hst now sent _ _ _ _ _ _ _ _ _ _ _ _ _ _ _ _ rfl
/-- told, unchanged: again when the time has come -/
theorem look_againN (k : Nat) (E : EnvN (k + 10) T ix nd o r l gl lt) (st p v u p' v' u') (hst : st ≠ 0) (due last sent now : UInt64) (hm : mget KT SV (ix, gt) m = some (gl, due, true, last, [((o, r, lt), (o, r, l, st, p', v', u'))])) (h : ¬ now < due) (hr : ¬ now - last < nd.2.2.2.2.2.1) :
    F33 (k + 10) (some (T, m, sent), (ix, gt), now, [(o, r, l, st, p, v, u)], [((o, r, lt), (o, r, l, st, p, v, u))])
      = some (((now, nd.2.1, gl, [(o, r, l, st, p, v, u)]), true), some (T, mput KT SV (ix, gt) (gl, now + nd.2.2.2.2.1, true, now, [((o, r, lt), (o, r, l, st, p, v, u))]) m, sent)) := by
  unfold F33
  simp only [obind_s]
  rw [hm]
  simp only [Option.getD_some]
  rw [dec_f h, oite_f, E.node]
  simp only [obind_s]
  rw [content2N k E _ _ _ _ _ _ _ hst]
  simp only [obind_s, ojoinA_eq]
  rw [len1, oite_f]
  unfold F33_J127
  simp only [ojoinA_eq]
  rw [show (!false) = true from rfl, oite_t, show (!true) = false from rfl, oite_f, dec_f hr, oite_f, len1]
  unfold F33_J510
  rw [oite_f, copy1N k]
  exact tail_fireN k E st p v u hst now sent _ _ _ _ _ _ _ _ _ _ _ _ _ _ _ _ (iput _ _ _ _ _)
theorem look_stillN (k : Nat) (E : EnvN (k + 10) T ix nd o r l gl lt) (st p v u p' v' u') (hst : st ≠ 0) (due last sent now : UInt64) (hm : mget KT SV (ix, gt) m = some (gl, due, true, last, [((o, r, lt), (o, r, l, st, p', v', u'))])) (h : ¬ now < due) (hr : now - last < nd.2.2.2.2.2.1) :
    F33 (k + 10) (some (T, m, sent), (ix, gt), now, [(o, r, l, st, p, v, u)], [((o, r, lt), (o, r, l, st, p, v, u))])
      = some (((0, [], [], []), false), some (T, mput KT SV (ix, gt) (gl, now + nd.2.2.2.2.1, true, last, [((o, r, lt), (o, r, l, st, p', v', u'))]) m, sent)) := by
  unfold F33
  simp only [obind_s]
  rw [hm]
  simp only [Option.getD_some]
  rw [dec_f h, oite_f, E.node]
  simp only [obind_s]
  rw [content2N k E _ _ _ _ _ _ _ hst]
  simp only [obind_s, ojoinA_eq]
  rw [len1, oite_f]
  unfold F33_J127
  simp only [ojoinA_eq]
  rw [show (!false) = true from rfl, oite_t, show (!true) = false from rfl, oite_f, dec_t hr, oite_t]
  unfold F33_J510
  rw [oite_t]
end Go.Proofs.Ytcfckkmiaeegpaa
