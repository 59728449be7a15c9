/- The law ItParts, its loops. -/
import Derived.Test.YtehelahnlnfofaaItParts
open Go Go.Sx
namespace Go.Proofs.Ytehelahnlnfofaa
theorem tree {R : Type} (J : Bool → Option R) (c0 c1 c2 c3 c4 c5 : Bool) :
    oite c0 (oite c1 (oite c2 (oite c3 (oite c4 (J c5) (J false)) (J false)) (J false)) (J false)) (J false) = J (c0 && (c1 && (c2 && (c3 && (c4 && c5))))) := by
  cases c0 <;> cases c1 <;> cases c2 <;> cases c3 <;> cases c4 <;> rfl
theorem j519 (n : Nat) (hn : 0 < n) (rec : Arr [PT.int IntKind.u64, PT.int IntKind.i64, PT.int IntKind.i64, PT.list _] (Option (Bool × Unit))) (above : UInt64) (t i : Int64) (w : Bool) (p10 : UInt8) (p11 p12 : UInt64) (p23 : UInt8) (p24 p25 : UInt64) (l : List _) (x : ItT)
    (hx : x = if w then gapI (p10, p11, p25) else zeroI) (hrec : rec above t (i + 1) l = some (true, ())) :
    F4_J519039 n rec above w w t i x.1 x.2.1 x.2.2.1 x.2.2.2.1 x.2.2.2.2.1 x.2.2.2.2.2.1 x.2.2.2.2.2.2.1 x.2.2.2.2.2.2.2.1 x.2.2.2.2.2.2.2.2.1 x.2.2.2.2.2.2.2.2.2.1 x.2.2.2.2.2.2.2.2.2.2.1 x.2.2.2.2.2.2.2.2.2.2.2.1 x.2.2.2.2.2.2.2.2.2.2.2.2 p10 p11 p12 p23 p24 p25 l = some (true, ()) := by
  have z1 : F16 n ((false, 0, 0, 0, [], [], 0, 0, 0, 0, 0, 0, 0), false, 0, 0, 0, [], [], 0, 0, 0, 0, 0, 0, 0) = some (true, ()) := zero_same n hn
  have z2 : F16 n ((true, 0, 0, 0, [], [], 0, 0, 0, 0, p10, p11, p25), true, 0, 0, 0, [], [], 0, 0, 0, 0, p10, p11, p25) = some (true, ()) := same_self n (gapI (p10, p11, p25)) (by simp [gapI]) (by simp [gapI]; exact hn)
  subst hx
  cases w with
  | true =>
    unfold F4_J519039
    simp only [if_true, gapI, beq_self_eq_true, Bool.not_true, oite_t, oite_f, z2, obind_s]
    exact hrec
  | false =>
    unfold F4_J519039
    simp only [Bool.false_eq_true, if_false, zeroI, beq_self_eq_true, Bool.not_true, Bool.not_false, oite_t, oite_f, z1, obind_s]
    exact hrec
theorem after_join (n : Nat) (hn : 0 < n) (rec : Arr [PT.int IntKind.u64, PT.int IntKind.i64, PT.int IntKind.i64, PT.list _] (Option (Bool × Unit))) (above : UInt64) (t i : Int64) (p0 : Bool) (p1 : UInt8) (p2 p3 : UInt64) (p4 : List UInt8) (p5 : List Pair) (p6 p7 : UInt8) (p8 : Int64) (p9 p10 : UInt8) (p11 p12 : UInt64) (p13 : Bool) (p14 : UInt8) (p15 p16 : UInt64) (p17 : List UInt8) (p18 : List Pair) (p19 p20 : UInt8) (p21 : Int64) (p22 p23 : UInt8) (p24 p25 : UInt64) (l : List _) (hrec : rec above t (i + 1) l = some (true, ())) :
    F4_J64879 n rec above t i p0 p1 p2 p3 p4 p5 p6 p7 p8 p9 p10 p11 p12 p13 p14 p15 p16 p17 p18 p19 p20 p21 p22 p23 p24 p25 l = some (true, ()) := by
  unfold F4_J64879
  rw [join_eq]
  simp only [obind_s, ojoinA_eq]
  have hj : joinI (p0, p1, p2, p3, p4, p5, p6, p7, p8, p9, p10, p11, p12) (p13, p14, p15, p16, p17, p18, p19, p20, p21, p22, p23, p24, p25) = if follow (p0, p1, p2, p3, p4, p5, p6, p7, p8, p9, p10, p11, p12) (p13, p14, p15, p16, p17, p18, p19, p20, p21, p22, p23, p24, p25) then (gapI (p10, p11, p25), true) else (zeroI, false) := rfl
  have hf : follow (p0, p1, p2, p3, p4, p5, p6, p7, p8, p9, p10, p11, p12) (p13, p14, p15, p16, p17, p18, p19, p20, p21, p22, p23, p24, p25) = (p0 && (p13 && (decide (p10 = p23) && (decide (0 < p24) && (decide (p24 - 1 = p12) && decide (p24 ≤ p25)))))) := rfl
  generalize hJ : joinI (p0, p1, p2, p3, p4, p5, p6, p7, p8, p9, p10, p11, p12) (p13, p14, p15, p16, p17, p18, p19, p20, p21, p22, p23, p24, p25) = q at hj ⊢
  refine (tree (fun w => F4_J519039 n rec above q.2 w t i q.1.1 q.1.2.1 q.1.2.2.1 q.1.2.2.2.1 q.1.2.2.2.2.1 q.1.2.2.2.2.2.1 q.1.2.2.2.2.2.2.1 q.1.2.2.2.2.2.2.2.1 q.1.2.2.2.2.2.2.2.2.1 q.1.2.2.2.2.2.2.2.2.2.1 q.1.2.2.2.2.2.2.2.2.2.2.1 q.1.2.2.2.2.2.2.2.2.2.2.2.1 q.1.2.2.2.2.2.2.2.2.2.2.2.2 p10 p11 p12 p23 p24 p25 l) _ _ _ _ _ _).trans ?_
  rw [← hf]
  have hq2 : q.2 = follow (p0, p1, p2, p3, p4, p5, p6, p7, p8, p9, p10, p11, p12) (p13, p14, p15, p16, p17, p18, p19, p20, p21, p22, p23, p24, p25) := by rw [hj]; cases follow (p0, p1, p2, p3, p4, p5, p6, p7, p8, p9, p10, p11, p12) (p13, p14, p15, p16, p17, p18, p19, p20, p21, p22, p23, p24, p25) <;> rfl
  rw [hq2]
  exact j519 n hn rec above t i _ p10 p11 p12 p23 p24 p25 l q.1 (by rw [hj]; cases follow (p0, p1, p2, p3, p4, p5, p6, p7, p8, p9, p10, p11, p12) (p13, p14, p15, p16, p17, p18, p19, p20, p21, p22, p23, p24, p25) <;> rfl) hrec
theorem trim_labs (x : ItT) (a : UInt64) : (trimI x a).1.2.2.2.2.2.1.length ≤ x.2.2.2.2.2.1.length := by
  unfold trimI
  split
  · simp [zeroI]
  · split <;> exact Nat.le_refl _
theorem inner (n : Nat) (hn : 21 < n) (rec : Arr [PT.int IntKind.u64, PT.int IntKind.i64, PT.int IntKind.i64, PT.list _] (Option (Bool × Unit))) (above : UInt64) (t i : Int64) (p0 : Bool) (p1 : UInt8) (p2 p3 : UInt64) (p4 : List UInt8) (p5 : List Pair) (p6 p7 : UInt8) (p8 : Int64) (p9 p10 : UInt8) (p11 p12 : UInt64) (p13 : Bool) (p14 : UInt8) (p15 p16 : UInt64) (p17 : List UInt8) (p18 : List Pair) (p19 p20 : UInt8) (p21 : Int64) (p22 p23 : UInt8) (p24 p25 : UInt64) (hlab : p5.length ≤ 20) (l : List _) (xs : List UInt64) (hxs : xs.length ≤ 2) (hrec : rec above t (i + 1) l = some (true, ())) :
    ∀ (m k : Nat), k ≤ xs.length → xs.length - k < m → F4_R32437 n rec m above t i (I64 xs.length) (I64 k) p0 p1 p2 p3 p4 p5 p6 p7 p8 p9 p10 p11 p12 p13 p14 p15 p16 p17 p18 p19 p20 p21 p22 p23 p24 p25 l xs = some (true, ()) := by
  intro m
  induction m with
  | zero => intro k _ h; omega
  | succ m ih =>
    intro k hk hm
    rw [F4_R32437_s]
    unfold F4_L32437
    by_cases hlt : k < xs.length
    · obtain ⟨h1, h2⟩ := idx_i64 (l := xs) (k := k) hlt (by omega)
      have hl := trim_labs (p0, p1, p2, p3, p4, p5, p6, p7, p8, p9, p10, p11, p12) xs[k]
      have hnext := ih (k + 1) (by omega) (by omega)
      rw [dec_t ((i64_lt (by omega) (by omega)).2 hlt), oite_t, h1, oite_t, h2]
      simp only [obind_s]
      rw [trim_eq, rtrim_eq]
      simp only [obind_s]
      generalize trimI (p0, p1, p2, p3, p4, p5, p6, p7, p8, p9, p10, p11, p12) xs[k] = q at hl ⊢
      simp only [beq_self_eq_true, Bool.not_true, oite_f]
      have hs : F16 n (q.1, q.1) = some (true, ()) := same_self n q.1 (by dsimp only at hl; omega) (by dsimp only at hl; omega)
      refine Eq.trans (b := obind (F16 n (q.1, q.1)) fun x_8 => oite (!x_8.1) (some (false, ())) (F4_R32437 n rec m above t i (I64 xs.length) (I64 k + 1) p0 p1 p2 p3 p4 p5 p6 p7 p8 p9 p10 p11 p12 p13 p14 p15 p16 p17 p18 p19 p20 p21 p22 p23 p24 p25 l xs)) rfl ?_
      rw [hs]
      simp only [obind_s, Bool.not_true, oite_f]
      rw [i64_succ]; exact hnext
    · rw [dec_f (fun q => hlt ((i64_lt (by omega) (by omega)).1 q)), oite_f, span_eq, rspan_eq]
      have hj := after_join n (by omega) rec above t i p0 p1 p2 p3 p4 p5 p6 p7 p8 p9 p10 p11 p12 p13 p14 p15 p16 p17 p18 p19 p20 p21 p22 p23 p24 p25 l hrec
      simp only [obind_s, ojoinA_eq, decide_true, Bool.not_true, oite_f]
      have h19 : F19 n (p0, p1, p2, p3, p4, p5, p6, p7, p8, p9, p10, p11, p12) = some (p0 || !decide (p9 = 0), ()) := by cases p0 <;> rfl
      rw [h19, pos8]
      simp only [obind_s]
      generalize decide (p9 = 0) = z
      cases p0 <;> cases z <;> exact hj
theorem outer (n : Nat) (hn : 21 < n) (above : UInt64) (L : List (Bool × UInt8 × UInt64 × UInt64 × List UInt8 × List Pair × UInt8 × UInt8 × Int64 × UInt8 × UInt8 × UInt64 × UInt64 × ItT)) (hL : L.length ≤ 2) (hlab : ∀ x ∈ L, x.2.2.2.2.2.1.length ≤ 20) :
    ∀ (m k : Nat), k ≤ L.length → L.length - k < m → F4_R253 n m above (I64 L.length) (I64 k) L = some (true, ()) := by
  intro m
  induction m with
  | zero => intro k _ h; omega
  | succ m ih =>
    intro k hk hm
    rw [F4_R253_s]
    unfold F4_L253
    by_cases hlt : k < L.length
    · obtain ⟨h1, h2⟩ := idx_i64 (l := L) (k := k) hlt (by omega)
      have hx := hlab L[k] (List.getElem_mem hlt)
      have hnext := ih (k + 1) (by omega) (by omega)
      rw [dec_t ((i64_lt (by omega) (by omega)).2 hlt), oite_t, h1, oite_t, h2]
      simp only [obind_s]
      exact inner n hn _ above _ _ _ _ _ _ _ _ _ _ _ _ _ _ _ _ _ _ _ _ _ _ _ _ _ _ _ _ hx L [above, above % 70000] (by simp) (by rw [i64_succ]; exact hnext) n 0 (by omega) (by simp; omega)
    · rw [dec_f (fun q => hlt ((i64_lt (by omega) (by omega)).1 q)), oite_f]
end Go.Proofs.Ytehelahnlnfofaa
