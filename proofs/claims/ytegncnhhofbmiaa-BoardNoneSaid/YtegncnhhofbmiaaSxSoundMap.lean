/- A walk of Go code by plain functions is sound. -/
import Derived.Test.YtegncnhhofbmiaaSxSoundIt
import Derived.Maps.RangeRun
import Derived.WideKeyRuns
import Derived.MapKept
namespace Go.Sx
open Go.MapKept
section
variable {Pg : Program} {tt : TT} {cx : Cx} {P : PHeap} {ε : HMap} {φ : Nat → List Nat} {tab : Tab} {W : World}

/-! ### Keys of maps -/
/-- What the laws on maps need of a key's type. -/
structure KeyOK (Pg : Program) (t : Nat) (k : VT) : Prop where
  check : ∀ (P : PHeap) (W : World) (x : k.T) (v : Value) (em : Bool), k.Rep P x v → (Instr.checkKey em 10000 t v).run Pg W = .ok () W
  stays : ∀ (P : PHeap) (x y : k.T) (a b : Value), k.Rep P x a → k.Rep P y b → k.eqb x y = true → Instr.sameBits 10000 b a = true
  find : (∀ (P : PHeap) (W : World) (x y : k.T) (a b : Value), k.Rep P x a → k.Rep P y b → (Op.equal t a b).run Pg W = .ok (k.eqb x y) W) ∧ (match Pg.underlying t with | some (.array _ _) | some (.struct _) => true | _ => false) = true ∨
    ∃ d, Pg.underlying t = some d ∧ ∀ (P : PHeap) (x y : k.T) (a b : Value), k.Rep P x a → k.Rep P y b → Instr.sameNow d a b = some (k.eqb x y)

theorem base_td (htt : TTOK Pg tt) {t : Nat} {c : CT} (h : baseCT tt t = some c) : ∃ d, tt.get t = some d ∧ tdOf Pg t = some d ∧ d.size = 1 ∧ d.agg = false ∧
    ((∃ k, d.kind = .int k ∧ c = .int k) ∨ (d.kind = .bool ∧ c = .bool) ∨ (d.kind = .str ∧ c = .str)) := by
  unfold baseCT at h
  split at h
  · rename_i d ht
    split at h
    · rename_i k hk
      split at h
      · rename_i hz; cases h; exact ⟨d, ht, htt t d ht, nbeq_true hz, by unfold TD.agg; rw [hk], .inl ⟨k, hk, rfl⟩⟩
      · cases h
    · rename_i hk
      split at h
      · rename_i hz; cases h; exact ⟨d, ht, htt t d ht, nbeq_true hz, by unfold TD.agg; rw [hk], .inr (.inl ⟨hk, rfl⟩)⟩
      · cases h
    · rename_i hk
      split at h
      · rename_i hz; cases h; exact ⟨d, ht, htt t d ht, nbeq_true hz, by unfold TD.agg; rw [hk], .inr (.inr ⟨hk, rfl⟩)⟩
      · cases h
    · cases h
  · cases h
theorem base_under (htt : TTOK Pg tt) {t : Nat} {c : CT} (h : baseCT tt t = some c) :
    (∃ k, c = .int k ∧ Pg.underlying t = some (.int k)) ∨ (c = .bool ∧ Pg.underlying t = some .bool) ∨ (c = .str ∧ Pg.underlying t = some .string) := by
  obtain ⟨d, h1, h2, h3, h4, h5⟩ := base_td htt h
  rcases h5 with ⟨k, h5, rfl⟩ | ⟨h5, rfl⟩ | ⟨h5, rfl⟩
  · exact .inl ⟨k, rfl, td_int h2 h5⟩
  · exact .inr (.inl ⟨rfl, td_bool h2 h5⟩)
  · exact .inr (.inr ⟨rfl, td_str h2 h5⟩)
theorem base_equal (htt : TTOK Pg tt) {t : Nat} {c : CT} (h : baseCT tt t = some c) {x y : c.T} {a b : Value} (ha : c.Rep P x a) (hb : c.Rep P y b) (D : Nat) :
    (Op.equalIn (D + 1) t a b).run Pg W = .ok (CT.eqb c x y) W := by
  rcases base_under htt h with ⟨k, rfl, hu⟩ | ⟨rfl, hu⟩ | ⟨rfl, hu⟩
  · simp only [CT.Rep] at ha hb
    rw [ha, hb, run_equalIn_int W D t _ k _ _ hu, CT.eqb, IK.eqb_eq]
  · simp only [CT.Rep] at ha hb
    rw [ha, hb, run_equalIn_bool' W D t _ _ hu, CT.eqb]
  · simp only [CT.Rep] at ha hb
    rw [ha.1, hb.1, run_equalIn_string W D t _ _ hu, ba_toList, ba_toList, CT.eqb]
theorem base_now (htt : TTOK Pg tt) {t : Nat} {c : CT} (h : baseCT tt t = some c) : ∃ d, Pg.underlying t = some d ∧
    ∀ (P : PHeap) (x y : c.T) (a b : Value), c.Rep P x a → c.Rep P y b → Instr.sameNow d a b = some (CT.eqb c x y) := by
  rcases base_under htt h with ⟨k, rfl, hu⟩ | ⟨rfl, hu⟩ | ⟨rfl, hu⟩
  · refine ⟨_, hu, fun P x y a b ha hb => ?_⟩
    simp only [CT.Rep] at ha hb
    rw [ha, hb, CT.eqb, IK.eqb_eq]; simp [Instr.sameNow]
  · refine ⟨_, hu, fun P x y a b ha hb => ?_⟩
    simp only [CT.Rep] at ha hb
    rw [ha, hb, CT.eqb]; simp [Instr.sameNow]
  · refine ⟨_, hu, fun P x y a b ha hb => ?_⟩
    simp only [CT.Rep] at ha hb
    rw [ha.1, hb.1, CT.eqb]
    simp only [Instr.sameNow, Option.some.injEq]
    rw [beq_toListBytes, ba_toList, ba_toList]
theorem base_check (htt : TTOK Pg tt) {t : Nat} {c : CT} (h : baseCT tt t = some c) {x : c.T} {a : Value} (ha : c.Rep P x a) (em : Bool) (n : Nat) :
    (Instr.checkKey em (n + 1) t a).run Pg W = .ok () W := by
  rcases base_under htt h with ⟨k, rfl, hu⟩ | ⟨rfl, hu⟩ | ⟨rfl, hu⟩
  · simp only [CT.Rep] at ha
    rw [ha]; simp [Instr.checkKey, run_underlying hu]
  · simp only [CT.Rep] at ha
    rw [ha]; simp [Instr.checkKey, run_underlying hu]
  · simp only [CT.Rep] at ha
    rw [ha.1]; simp [Instr.checkKey, run_underlying hu]
theorem base_stays {c : CT} {x y : c.T} {a b : Value} (ha : c.Rep P x a) (hb : c.Rep P y b) (h : CT.eqb c x y = true) (n : Nat) : Instr.sameBits n b a = true := by
  cases c with
  | int k =>
    simp only [CT.Rep] at ha hb
    rw [CT.eqb, IK.eqb_eq] at h
    rw [ha, hb]
    have h : IK.toInt k x = IK.toInt k y := by simpa using h
    simp [Instr.sameBits, h]
  | bool =>
    simp only [CT.Rep] at ha hb
    rw [CT.eqb] at h
    have h : x = y := by simpa using h
    rw [ha, hb, h]; simp [Instr.sameBits]
  | str =>
    simp only [CT.Rep] at ha hb
    rw [CT.eqb] at h
    have h : x = y := by simpa using h
    rw [ha.1, hb.1, h]
    simp [Instr.sameBits, bytes_beq]
  | ro e => simp [CT.eqb] at h
  | rop e => simp [CT.eqb] at h
  | rom a b => simp [CT.eqb] at h
  | fn f => simp [CT.eqb] at h
theorem cells_stays : ∀ (e : CTs) (x y : e.T) (vs us : List Value), vs.length = e.size → us.length = e.size → CTs.Rep P e x (fun j => vs[j]?) → CTs.Rep P e y (fun j => us[j]?) → CTs.eqb e x y = true →
    ∀ n, ((us.zip vs).all fun p => Instr.sameBits n p.1 p.2) = true
  | .nil, _, _, vs, us, h1, h2, _, _, _, n => by
    simp only [CTs.size] at h1 h2
    rw [List.length_eq_zero_iff.1 h2]; rfl
  | .cons t ts, x, y, [], us, h1, _, _, _, _, _ => by simp [CTs.size] at h1
  | .cons t ts, x, y, _ :: _, [], _, h2, _, _, _, _ => by simp [CTs.size] at h2
  | .cons t ts, x, y, v :: vs, u :: us, h1, h2, h3, h4, h5, n => by
    simp only [CTs.Rep, CTs.eqb, Bool.and_eq_true] at h3 h4 h5
    obtain ⟨⟨v', e1, r1⟩, r2⟩ := h3
    obtain ⟨⟨u', e2, s1⟩, s2⟩ := h4
    simp at e1 e2
    subst e1; subst e2
    simp only [CTs.size, List.length_cons, Nat.add_right_cancel_iff] at h1 h2
    simp only [List.zip_cons_cons, List.all_cons, Bool.and_eq_true]
    exact ⟨base_stays r1 s1 h5.1 n, cells_stays ts _ _ vs us h1 h2 (by simpa using r2) (by simpa using s2) h5.2 n⟩
theorem agg_stays {e : CTs} {x y : e.T} {a b : Value} (ha : (VT.agg e).Rep P x a) (hb : (VT.agg e).Rep P y b) (h : CTs.eqb e x y = true) : Instr.sameBits 10000 b a = true := by
  obtain ⟨cs, rfl, h1, h2⟩ := ha
  obtain ⟨ds, rfl, g1, g2⟩ := hb
  have : ∀ n, Instr.sameBits (n + 1) (.agg ds) (.agg cs) = true := fun n => by
    simp only [Instr.sameBits, Bool.and_eq_true]
    refine ⟨by simp [h1, g1], ?_⟩
    exact cells_stays e x y cs.toList ds.toList (by simpa using h1) (by simpa using g1) (by simpa using h2) (by simpa using g2) h n
  exact this 9999

/-- A part of one cell. -/
theorem part_one (htt : TTOK Pg tt) {t : Nat} {c : CT} (h : baseCT tt t = some c) {cs : Array Value} {off : Nat} {v : Value} (hv : cs[off]? = some v) : (part t cs off).run Pg W = .ok v W := by
  obtain ⟨d, h1, h2, h3, h4, h5⟩ := base_td htt h
  unfold part
  rw [Sem.run_bind, td_isAgg h2, h4]
  simp [hv]

theorem shiftE (cs : Array Value) (i : Nat) : (fun j => cs[i + (j + 1)]?) = (fun j => cs[i + 1 + j]?) := by
  funext j; congr 1; omega
theorem arr_items (htt : TTOK Pg tt) {t : Nat} {c : CT} (h : baseCT tt t = some c) {cs ds : Array Value} (D : Nat) : ∀ (m i : Nat) (x y : (repC c m).T),
    CTs.Rep P (repC c m) x (fun j => cs[i + j]?) → CTs.Rep P (repC c m) y (fun j => ds[i + j]?) →
    (Op.eqItems (D + 1) t 1 cs ds (List.range' i m)).run Pg W = .ok (CTs.eqb (repC c m) x y) W
  | 0, i, x, y, _, _ => by simp [Op.eqItems, repC, CTs.eqb]
  | m + 1, i, x, y, hx, hy => by
    simp only [repC, CTs.Rep] at hx hy
    obtain ⟨⟨v, e1, r1⟩, r2⟩ := hx
    obtain ⟨⟨u, e2, s1⟩, s2⟩ := hy
    have ih := arr_items htt h D m (i + 1) _ _ (by rw [← shiftE]; exact r2) (by rw [← shiftE]; exact s2)
    rw [List.range'_succ]
    simp only [Op.eqItems, Sem.run_bind, Nat.mul_one]
    rw [part_one htt h (by simpa using e1)]
    simp only [Result.andThen_ok]
    rw [part_one htt h (by simpa using e2)]
    simp only [Result.andThen_ok]
    rw [base_equal htt h r1 s1]
    simp only [Result.andThen_ok, repC, CTs.eqb]
    cases CT.eqb c _ _
    · simp
    · simpa using ih
theorem arr_checks (htt : TTOK Pg tt) {t : Nat} {c : CT} (h : baseCT tt t = some c) {cs : Array Value} (em : Bool) (D : Nat) : ∀ (m i : Nat) (x : (repC c m).T),
    CTs.Rep P (repC c m) x (fun j => cs[i + j]?) →
    (forIn (List.range' i m) PUnit.unit fun j (_ : PUnit) => do
        Instr.checkKey em (D + 1) t (← part t cs (j * (← sizeOf t))); pure (ForInStep.yield PUnit.unit)).run Pg W = .ok PUnit.unit W
  | 0, i, x, _ => by simp
  | m + 1, i, x, hx => by
    simp only [repC, CTs.Rep] at hx
    obtain ⟨⟨v, e1, r1⟩, r2⟩ := hx
    have ih := arr_checks htt h em D m (i + 1) _ (by rw [← shiftE]; exact r2)
    obtain ⟨d, h1, h2, h3, h4, h5⟩ := base_td htt h
    rw [List.range'_succ]
    simp only [List.forIn_cons, Sem.run_bind, td_size h2, Result.andThen_ok, h3, Nat.mul_one, part_one htt h (show cs[i]? = some v by simpa using e1), base_check htt h r1 em D, Sem.run_pure]
    simpa only [Sem.run_bind, td_size h2, Result.andThen_ok, h3, Nat.mul_one] using ih

theorem fs_items (htt : TTOK Pg tt) {cs ds : Array Value} (D : Nat) : ∀ (fl : List Field) (i : Nat) (e : CTs) (x y : e.T),
    baseFs tt (fl.map fun f => (f.offset, f.type, f.name == "_")) i = some e → CTs.Rep P e x (fun j => cs[i + j]?) → CTs.Rep P e y (fun j => ds[i + j]?) →
    (Op.eqFields (D + 1) cs ds fl).run Pg W = .ok (CTs.eqb e x y) W
  | [], i, e, x, y, h, _, _ => by
    simp only [List.map_nil, baseFs, Option.some.injEq] at h
    subst h
    simp [Op.eqFields, CTs.eqb]
  | f :: fl, i, e, x, y, h, hx, hy => by
    simp only [List.map_cons, baseFs] at h
    split at h
    · rename_i ho hn
      split at h
      · rename_i c es hc hes
        cases h
        simp only [CTs.Rep] at hx hy
        obtain ⟨⟨v, e1, r1⟩, r2⟩ := hx
        obtain ⟨⟨u, e2, s1⟩, s2⟩ := hy
        have ih := fs_items htt D fl (i + 1) es _ _ hes (by rw [← shiftE]; exact r2) (by rw [← shiftE]; exact s2)
        have ho := nbeq_true ho
        have hn : f.name ≠ "_" := by simpa using hn
        simp only [Op.eqFields, hn, ne_eq, not_false_eq_true, if_true, Sem.run_bind]
        rw [part_one htt hc (show cs[f.offset]? = some v by rw [ho]; simpa using e1)]
        simp only [Result.andThen_ok]
        rw [part_one htt hc (show ds[f.offset]? = some u by rw [ho]; simpa using e2)]
        simp only [Result.andThen_ok]
        rw [base_equal htt hc r1 s1]
        simp only [Result.andThen_ok, CTs.eqb]
        cases CT.eqb c _ _
        · simp
        · simpa using ih
      · cases h
    · cases h
theorem fs_checks (htt : TTOK Pg tt) {cs : Array Value} (em : Bool) (D : Nat) : ∀ (fl : List Field) (i : Nat) (e : CTs) (x : e.T),
    baseFs tt (fl.map fun f => (f.offset, f.type, f.name == "_")) i = some e → CTs.Rep P e x (fun j => cs[i + j]?) →
    (forIn fl PUnit.unit fun (f : Field) (_ : PUnit) => do
        if f.name ≠ "_" then do
          Instr.checkKey em (D + 1) f.type (← part f.type cs f.offset); pure (ForInStep.yield PUnit.unit)
        else pure (ForInStep.yield PUnit.unit)).run Pg W = .ok PUnit.unit W
  | [], i, e, x, h, _ => by simp
  | f :: fl, i, e, x, h, hx => by
    simp only [List.map_cons, baseFs] at h
    split at h
    · rename_i ho hn
      split at h
      · rename_i c es hc hes
        cases h
        simp only [CTs.Rep] at hx
        obtain ⟨⟨v, e1, r1⟩, r2⟩ := hx
        have ih := fs_checks htt em D fl (i + 1) es _ hes (by rw [← shiftE]; exact r2)
        have ho := nbeq_true ho
        have hn : f.name ≠ "_" := by simpa using hn
        simp only [List.forIn_cons, Sem.run_bind, hn, ne_eq, not_false_eq_true, if_true, part_one htt hc (show cs[f.offset]? = some v by rw [ho]; simpa using e1), Result.andThen_ok, base_check htt hc r1 em D, Sem.run_pure]
        simpa only [Sem.run_bind, ne_eq] using ih
      · cases h
    · cases h

theorem keyVT_ok (htt : TTOK Pg tt) {t : Nat} {k : VT} (h : keyVT tt t = some k) : KeyOK Pg t k := by
  unfold keyVT at h
  split at h
  · rename_i d ht
    have hd := htt t d ht
    split at h
    · rename_i n e hk
      split at h
      · rename_i c hc
        cases h
        obtain ⟨ed, h1, h2, h3, h4, h5⟩ := base_td htt hc
        have hu := td_arr hd hk
        obtain ⟨i, desc, g1, g2, g3, g4, _⟩ := td_facts h2
        refine ⟨fun P W x v em hr => ?_, fun P x y a b ha hb h => agg_stays ha hb h, .inl ⟨fun P W x y a b ha hb => ?_, by rw [hu]⟩⟩
        · obtain ⟨cs, rfl, q1, q2⟩ := hr
          have : ∀ D, (Instr.checkKey em (D + 2) t (.agg cs)).run Pg W = .ok () W := fun D => by
            rw [show D + 2 = (D + 1) + 1 from rfl, Instr.checkKey]
            simp only [Sem.run_bind, run_underlying hu, Result.andThen_ok]
            simp only [Std.Legacy.Range.forIn_eq_forIn_range', Std.Legacy.Range.size, Nat.sub_zero, Nat.add_one_sub_one, Nat.div_one]
            have := arr_checks (W := W) htt hc em D n 0 x (by simpa using q2)
            rw [this]; simp
          exact this 9998
        · obtain ⟨cs, rfl, q1, q2⟩ := ha
          obtain ⟨ds, rfl, p1, p2⟩ := hb
          have : ∀ D, (Op.equalIn (D + 2) t (.agg cs) (.agg ds)).run Pg W = .ok (CTs.eqb (repC c n) x y) W := fun D => by
            rw [run_equalIn_array W (D + 1) cs ds hu g1]
            have hc1 : Pg.cellsOf e = 1 := by
              unfold Program.cellsOf; rw [g1]; simp [← g4, h3]
            rw [hc1, List.range_eq_range']
            exact arr_items htt hc D n 0 x y (by simpa using q2) (by simpa using p2)
          exact this 9998
      · cases h
    · rename_i fs hk
      split at h
      · cases h
      · rename_i ho
        split at h
        · rename_i e hb
          cases h
          obtain ⟨fields, hu, hfs⟩ := td_struct hd hk
          obtain ⟨_, hst⟩ := td_odd hd ho
          have hfo : Pg.fieldsOf t = fields := by simp [Program.fieldsOf, hu]
          subst hfs
          refine ⟨fun P W x v em hr => ?_, fun P x y a b ha hb h => agg_stays ha hb h, .inl ⟨fun P W x y a b ha hb2 => ?_, by rw [hu]⟩⟩
          · obtain ⟨cs, rfl, q1, q2⟩ := hr
            have : ∀ D, (Instr.checkKey em (D + 2) t (.agg cs)).run Pg W = .ok () W := fun D => by
              rw [show D + 2 = (D + 1) + 1 from rfl, Instr.checkKey]
              simp only [Sem.run_bind, run_underlying hu, Result.andThen_ok]
              rw [← Array.forIn_toList]
              have := fs_checks (W := W) htt em D fields.toList 0 e x hb (by simpa using q2)
              rw [this]; simp
            exact this 9998
          · obtain ⟨cs, rfl, q1, q2⟩ := ha
            obtain ⟨ds, rfl, p1, p2⟩ := hb2
            have : ∀ D, (Op.equalIn (D + 2) t (.agg cs) (.agg ds)).run Pg W = .ok (CTs.eqb e x y) W := fun D => by
              rw [run_equalIn_struct W (D + 1) t _ _ (by rw [hfo]; exact hu) hst, hfo]
              exact fs_items htt D fields.toList 0 e x y hb (by simpa using q2) (by simpa using p2)
            exact this 9998
        · cases h
    · split at h
      · rename_i c hc
        cases h
        exact ⟨fun P W x v em hr => base_check htt hc hr em 9999, fun P x y a b ha hb h => base_stays ha hb h 10000, .inr (base_now htt hc)⟩
      · cases h
  · cases h

/-! ### A map's entries -/
def mix (k v : VT) (key : k.T) : List (k.T × v.T) → Option Nat
  | [] => none
  | p :: r => match VT.eqb k key p.1 with | true => some 0 | false => (mix k v key r).map (· + 1)
theorem mix_none {k v : VT} {key : k.T} : ∀ {xs : List (k.T × v.T)}, mix k v key xs = none → mget k v key xs = none ∧ (∀ x, mput k v key x xs = xs ++ [(key, x)]) ∧ mdel k v key xs = xs
  | [], _ => ⟨rfl, fun _ => rfl, rfl⟩
  | p :: r, h => by
    unfold mix at h
    cases he : VT.eqb k key p.1 with
    | true => rw [he] at h; cases h
    | false =>
      rw [he] at h
      simp only [Option.map_eq_none_iff] at h
      obtain ⟨h1, h2, h3⟩ := mix_none h
      exact ⟨by simp [mget, he, h1], fun x => by simp [mput, he, h2], by simp [mdel, he, h3]⟩
theorem mix_some {k v : VT} {key : k.T} : ∀ {xs : List (k.T × v.T)} {j : Nat}, mix k v key xs = some j → ∃ p, xs[j]? = some p ∧ VT.eqb k key p.1 = true ∧ mget k v key xs = some p.2 ∧
    (∀ x, mput k v key x xs = xs.set j (key, x)) ∧ mdel k v key xs = xs.eraseIdx j
  | [], j, h => by cases h
  | p :: r, j, h => by
    unfold mix at h
    cases he : VT.eqb k key p.1 with
    | true => rw [he] at h; cases h; exact ⟨p, rfl, he, by simp [mget, he], fun x => by simp [mput, he], by simp [mdel, he]⟩
    | false =>
      rw [he] at h
      simp only [Option.map_eq_some_iff] at h
      obtain ⟨j', h, rfl⟩ := h
      obtain ⟨q, h1, h2, h3, h4, h5⟩ := mix_some h
      exact ⟨q, by simpa using h1, h2, by simp [mget, he, h3], fun x => by simp [mput, he, h4], by simp [mdel, he, h5]⟩
theorem EntsRep.len {k v : VT} : ∀ {xs : List (k.T × v.T)} {es : List MapEntry}, EntsRep P k v xs es → es.length = xs.length
  | [], _, h => by simp only [EntsRep] at h; simp [h]
  | _ :: xs, _, ⟨e, es', h1, h2, h3, h4⟩ => by subst h1; simp [EntsRep.len h4]
theorem EntsRep.get {k v : VT} : ∀ {xs : List (k.T × v.T)} {es : List MapEntry} {j : Nat} {p : k.T × v.T}, EntsRep P k v xs es → xs[j]? = some p →
    ∃ e, es[j]? = some e ∧ k.Rep P p.1 e.key ∧ v.Rep P p.2 e.val
  | [], _, j, p, _, hp => by simp at hp
  | x :: xs, _, 0, p, ⟨e, es', h1, h2, h3, h4⟩, hp => by subst h1; simp at hp; subst hp; exact ⟨e, rfl, h2, h3⟩
  | x :: xs, _, j + 1, p, ⟨e, es', h1, h2, h3, h4⟩, hp => by
    subst h1
    obtain ⟨e', g1, g2⟩ := EntsRep.get h4 (show xs[j]? = some p by simpa using hp)
    exact ⟨e', by simpa using g1, g2⟩
theorem EntsRep.push {k v : VT} {p : k.T × v.T} {e : MapEntry} (hk : k.Rep P p.1 e.key) (hv : v.Rep P p.2 e.val) : ∀ {xs : List (k.T × v.T)} {es : List MapEntry}, EntsRep P k v xs es → EntsRep P k v (xs ++ [p]) (es ++ [e])
  | [], _, h => by simp only [EntsRep] at h; subst h; exact ⟨e, [], rfl, hk, hv, rfl⟩
  | _ :: xs, _, ⟨e', es', h1, h2, h3, h4⟩ => by subst h1; exact ⟨e', es' ++ [e], rfl, h2, h3, EntsRep.push hk hv h4⟩
theorem EntsRep.set {k v : VT} {p : k.T × v.T} {e : MapEntry} (hk : k.Rep P p.1 e.key) (hv : v.Rep P p.2 e.val) : ∀ {xs : List (k.T × v.T)} {es : List MapEntry} (j : Nat), EntsRep P k v xs es → EntsRep P k v (xs.set j p) (es.set j e)
  | [], _, j, h => by simp only [EntsRep] at h; subst h; rfl
  | _ :: xs, _, 0, ⟨e', es', h1, h2, h3, h4⟩ => by subst h1; exact ⟨e, es', rfl, hk, hv, h4⟩
  | _ :: xs, _, j + 1, ⟨e', es', h1, h2, h3, h4⟩ => by subst h1; exact ⟨e', es'.set j e, rfl, h2, h3, EntsRep.set hk hv j h4⟩
theorem EntsRep.erase {k v : VT} : ∀ {xs : List (k.T × v.T)} {es : List MapEntry} (j : Nat), EntsRep P k v xs es → EntsRep P k v (xs.eraseIdx j) (es.eraseIdx j)
  | [], _, j, h => by simp only [EntsRep] at h; subst h; rfl
  | _ :: xs, _, 0, ⟨e', es', h1, h2, h3, h4⟩ => by subst h1; exact h4
  | _ :: xs, _, j + 1, ⟨e', es', h1, h2, h3, h4⟩ => by subst h1; exact ⟨e', es'.eraseIdx j, rfl, h2, h3, EntsRep.erase j h4⟩

theorem BornOK.nil (clock : Nat) : BornOK #[] clock := ⟨by simp, by simp⟩
theorem BornOK.push {es : Array MapEntry} {clock : Nat} (h : BornOK es clock) (k v : Value) : BornOK (es.push { key := k, val := v, born := clock }) (clock + 1) := by
  refine ⟨fun e he => ?_, ?_⟩
  · rw [Array.toList_push] at he
    rcases List.mem_append.1 he with he | he
    · have := h.1 e he; omega
    · simp at he; subst he; simp
  · rw [Array.toList_push, List.map_append]
    refine List.nodup_append.2 ⟨h.2, by simp, fun x hx y hy e => ?_⟩
    obtain ⟨u, hu, rfl⟩ := List.mem_map.1 hx
    simp at hy; subst hy
    have := h.1 u hu; omega
theorem BornOK.modify {es : Array MapEntry} {clock : Nat} (h : BornOK es clock) (j : Nat) {f : MapEntry → MapEntry} (hf : ∀ e, (f e).born = e.born) : BornOK (es.modify j f) clock := by
  have hm : (es.modify j f).toList.map (·.born) = es.toList.map (·.born) := by
    apply List.ext_getElem?
    intro i
    simp only [List.getElem?_map, Array.getElem?_toList, Array.getElem?_modify]
    by_cases hij : j = i
    · subst hij; cases es[j]? <;> simp [hf]
    · simp [hij]
  refine ⟨fun e he => ?_, by rw [hm]; exact h.2⟩
  have : e.born ∈ (es.modify j f).toList.map (·.born) := List.mem_map.2 ⟨e, he, rfl⟩
  rw [hm] at this
  obtain ⟨u, hu, hue⟩ := List.mem_map.1 this
  rw [← hue]; exact h.1 u hu
theorem BornOK.erase {es : Array MapEntry} {clock : Nat} (h : BornOK es clock) (j : Nat) : BornOK (es.eraseIdxIfInBounds j) clock := by
  have hs : (es.eraseIdxIfInBounds j).toList.Sublist es.toList := by
    unfold Array.eraseIdxIfInBounds
    split
    · simp only [Array.toList_eraseIdx]; exact List.eraseIdx_sublist _ _
    · exact List.Sublist.refl _
  exact ⟨fun e he => h.1 e (hs.subset he), (hs.map _).nodup h.2⟩

def foundAt (o : Option Nat) (es : List MapEntry) (i : Nat) : Option (Nat × Value) := o.bind fun j => (es[j]?).map fun e => (i + j, e.val)
theorem foundAt_up (o : Option Nat) (e : MapEntry) (es : List MapEntry) (i : Nat) : foundAt (o.map (· + 1)) (e :: es) i = foundAt o es (i + 1) := by
  cases o with
  | none => rfl
  | some j =>
    simp only [foundAt, Option.map_some, Option.bind_some, List.getElem?_cons_succ]
    congr 1; funext e; congr 1; omega
theorem find_ask {t : Nat} {k v : VT} (heq : ∀ (P : PHeap) (W : World) (x y : k.T) (a b : Value), k.Rep P x a → k.Rep P y b → (Op.equal t a b).run Pg W = .ok (k.eqb x y) W) {x : k.T} {kv : Value} (hx : k.Rep P x kv) :
    ∀ (xs : List (k.T × v.T)) (es : List MapEntry) (i : Nat), EntsRep P k v xs es → (Instr.findAsking t kv es i).run Pg W = .ok (foundAt (mix k v x xs) es i) W
  | [], _, i, h => by simp only [EntsRep] at h; subst h; simp [Instr.findAsking, mix, foundAt]
  | p :: xs, _, i, ⟨e, es', h1, h2, h3, h4⟩ => by
    subst h1
    have ih := find_ask heq hx xs es' (i + 1) h4
    have he := heq P W x p.1 kv e.key hx h2
    unfold mix
    cases hb : VT.eqb k x p.1 with
    | true => rw [hb] at he; simp [Instr.findAsking, he, foundAt]
    | false => rw [hb] at he; simp only [foundAt_up]; simp [Instr.findAsking, he, ih]
theorem find_now {k v : VT} {d : TypeDesc} (heq : ∀ (P : PHeap) (x y : k.T) (a b : Value), k.Rep P x a → k.Rep P y b → Instr.sameNow d a b = some (k.eqb x y)) {x : k.T} {kv : Value} (hx : k.Rep P x kv) :
    ∀ (xs : List (k.T × v.T)) (es : List MapEntry) (i : Nat), EntsRep P k v xs es → Instr.findNow d kv es i = some (foundAt (mix k v x xs) es i)
  | [], _, i, h => by simp only [EntsRep] at h; subst h; simp [Instr.findNow, mix, foundAt]
  | p :: xs, _, i, ⟨e, es', h1, h2, h3, h4⟩ => by
    subst h1
    have ih := find_now heq hx xs es' (i + 1) h4
    have he := heq P x p.1 kv e.key hx h2
    unfold mix
    cases hb : VT.eqb k x p.1 with
    | true => rw [hb] at he; simp [Instr.findNow, he, foundAt]
    | false => rw [hb] at he; simp only [foundAt_up]; simp [Instr.findNow, he, ih]
theorem find_sound {t : Nat} {k v : VT} (K : KeyOK Pg t k) {x : k.T} {kv : Value} (hx : k.Rep P x kv) {xs : List (k.T × v.T)} {es : List MapEntry} (h : EntsRep P k v xs es) :
    (mix k v x xs = none ∧ (Instr.findKey t kv es).run Pg W = .ok none W) ∨
    ∃ j p e, mix k v x xs = some j ∧ xs[j]? = some p ∧ es[j]? = some e ∧ k.Rep P p.1 e.key ∧ v.Rep P p.2 e.val ∧ VT.eqb k x p.1 = true ∧ (Instr.findKey t kv es).run Pg W = .ok (some (j, e.val)) W := by
  have run : (Instr.findKey t kv es).run Pg W = .ok (foundAt (mix k v x xs) es 0) W := by
    rcases K.find with ⟨heq, hw⟩ | ⟨d, hu, heq⟩
    · rw [run_findKey_eq W hw]; exact find_ask heq hx xs es 0 h
    · exact run_findKey hu (find_now heq hx xs es 0 h)
  cases hm : mix k v x xs with
  | none => left; exact ⟨rfl, by rw [run, hm]; rfl⟩
  | some j =>
    right
    obtain ⟨p, h1, h2, _⟩ := mix_some hm
    obtain ⟨e, g1, g2, g3⟩ := h.get h1
    exact ⟨j, p, e, rfl, h1, g1, g2, g3, h2, by rw [run, hm]; simp [foundAt, g1]⟩

/-! ### Operations on maps -/
theorem VT.ofS_rep {k : VT} {s : SV} {x : k.T} {v : Value} (h : k.ofS s = some x) (hd : DenV P ε s v) : k.Rep P x v := by
  cases k with
  | one t =>
    cases s <;> first | (cases h; done) | skip
    exact CT.ofS_rep t _ x v h hd
  | agg e =>
    cases s <;> first | (cases h; done) | skip
    obtain ⟨cs, rfl, h2⟩ := hd
    obtain ⟨h3, h4⟩ := CTs.ofS_rep e _ x cs.toList h h2
    exact ⟨cs, rfl, by simpa using h4, by simpa using h3⟩
theorem VT.toS_den {k : VT} {x : k.T} {v : Value} (h : k.Rep P x v) : DenP P ε (k.toS x) v := by
  cases k with
  | one t => exact (CT.toS_den t x v).1 h
  | agg e =>
    obtain ⟨cs, rfl, h5, h6⟩ := h
    refine ⟨cs, rfl, ?_⟩
    obtain ⟨ws, w1, w2, w3⟩ := CTs.toS_den (ε := ε) e _ _ h6
    have : ws = cs.toList := by
      apply List.ext_getElem?
      intro j
      by_cases hj : j < e.size
      · rw [← w2 j hj]; simp
      · rw [List.getElem?_eq_none (by omega), List.getElem?_eq_none (by simp; omega)]
    rw [← this]; exact w3
theorem td_map {t : Nat} {d : TD} (h : tdOf Pg t = some d) {k e : Nat} (hk : d.kind = .map k e) : Pg.underlying t = some (.map k e) := by
  obtain ⟨i, desc, h1, h2, h3, h4, h5, h6⟩ := td_facts h
  rw [hk] at h3
  cases desc <;> simp only [TK.ofDesc] at h3 <;> first | (cases h3; done) | skip
  injection h3 with h3 h3'; subst h3; subst h3'; exact h2
theorem mapTy_ok (htt : TTOK Pg tt) {t : Nat} {m : MapTy} (h : mapTy tt t = some m) : ∃ ke ve vd z, Pg.underlying t = some (.map ke ve) ∧ KeyOK Pg ke m.k ∧ tdOf Pg ve = some vd ∧ vd.zero = some z ∧ ∀ P, m.v.Rep P m.zero z := by
  unfold mapTy at h
  split at h
  · rename_i ke ve hk
    obtain ⟨d, h1, h2, h3⟩ := tkind_td htt hk (by simp)
    split at h
    · rename_i k v vd hkk hvv hvd
      split at h
      · rename_i z hz
        split at h
        · rename_i z0 hz0
          cases h
          exact ⟨ke, ve, vd, z, td_map h2 h3, keyVT_ok htt hkk, htt _ _ hvd, hz, fun P => VT.ofS_rep hz0 (constV_den P (fun _ => none) z)⟩
        · cases h
      · cases h
    · cases h
  · cases h

theorem vtV_den {x : S1 ⊕ List S1} {v : Value} (h : DenP P ε x v) : DenV P ε (vtV x) v := by
  cases x with
  | inl s => exact h
  | inr ss => exact h
theorem lookV_den {v : VT} {m : Option v.T} {z : v.T} {w : Value} (h : v.Rep P (m.getD z) w) (ok : Bool) : DenV P ε (lookV ok v m z) (if ok then .tuple #[w, .bool m.isSome] else w) := by
  cases ok with
  | true => exact ⟨_, rfl, w, [.bool m.isSome], rfl, VT.toS_den h, .bool m.isSome, [], rfl, rfl, rfl⟩
  | false => exact vtV_den (VT.toS_den h)

theorem withMap_inv {β : Type} {m : MapTy} {c : Nat} {K : List (m.k.T × m.v.T) → Prog β} {y : β} {tab' : Tab} (I : Inv cx P ε φ tab W) (h : (withMap m c K).run tab = some (y, tab')) :
    ∃ xs x0 b es clock, tab.get c = some x0 ∧ ε c = some (.map (some b)) ∧ φ c = [b] ∧ W.heap[b]? = some (.map es clock) ∧ EntsRep P m.k m.v xs es.toList ∧ BornOK es clock ∧ (K xs).run tab = some (y, tab') := by
  unfold withMap at h
  obtain ⟨x0, hc, h⟩ := run_get_inv h
  cases x0 <;> first | exact (run_fail_inv h).elim | skip
  rename_i k v xs
  simp only at h
  split at h
  · rename_i p hp
    obtain ⟨w, e1, e2⟩ := I.chunk c _ hc
    obtain ⟨b, es, clock, g1, g2, g3, g4, g5⟩ := castM_map p xs e2
    exact ⟨castM p xs, _, b, es, clock, hc, by rw [e1, g1], g2, g3, g4, g5, h⟩
  · exact (run_fail_inv h).elim

theorem makeMap_sound (I : Inv cx P ε φ tab W) {fresh : Nat} (hfr : Fresh ε fresh) (m : MapTy) {t : Nat} {ke ve : Nat} (hu : Pg.underlying t = some (.map ke ve)) (r : Option Value) (hr : ∀ v, r = some v → ∃ k i, v = .int k i)
    {sv : SV} {tab' : Tab} (h : (Prog.new fresh (.map m.k m.v []) (.pure (.one (.own fresh)))).run tab = some (sv, tab')) : Res Pg cx P ε fresh W (Instr.makeMap t r) sv tab' := by
  obtain ⟨hnn, h⟩ := run_new_inv h
  obtain ⟨e1, e2⟩ := run_pure_inv h
  subst e1; subst e2
  have hf : ε fresh = none := hfr fresh (Nat.le_refl _) (by unfold stride; omega)
  refine ⟨.map (some W.heap.size), { W with heap := W.heap.push (.map #[] 0) }, P, _, _, ?_, PHeap.le_refl P, upd_le hf, ?_,
    I.newObj hf (.map #[] 0) (.map m.k m.v []) (.map (some W.heap.size)) (.inr (.inr (.inl ⟨_, rfl⟩))) _ rfl rfl rfl (fun _ => ⟨rfl, Nat.le_refl _⟩) ⟨W.heap.size, #[], 0, rfl, rfl, by simp [World.view], rfl, BornOK.nil 0⟩, by simp [DenV, Den]⟩
  · cases r with
    | none => simp [Instr.makeMap]
    | some v =>
      obtain ⟨k, i, rfl⟩ := hr v rfl
      simp [Instr.makeMap, run_underlying hu, asInt, asIntOf]
  · intro d hd
    by_cases e : d = fresh
    · right; subst e; exact ⟨Nat.le_refl _, by unfold stride; omega⟩
    · left; simpa [e] using hd

/-- What a map's value stands for. -/
def MapVal (P : PHeap) (W : World) (k v : VT) (xs : List (k.T × v.T)) (w : Value) : Prop :=
  (w = .map none ∧ xs = []) ∨ ∃ b es clock, w = .map (some b) ∧ W.heap[b]? = some (.map es clock) ∧ EntsRep P k v xs es.toList ∧ BornOK es clock
theorem rom_val (I : Inv cx P ε φ tab W) {k u : CTs} {xs : List (k.T × u.T)} {w : Value} (h : (CT.rom k u).Rep P xs w) : MapVal P W (.agg k) (.agg u) xs w := by
  rcases rom_inv h with ⟨h1, h2⟩ | ⟨b, es, clock, h1, h2, h3, h4⟩
  · exact .inl ⟨h2, h1⟩
  · exact .inr ⟨b, es, clock, h1, I.psub _ _ h2, h4, h3⟩
theorem mapVal_cast {k v k' v' : VT} (h : OT.map k' v' = OT.map k v) (xs : List (k'.T × v'.T)) {w : Value} (hr : MapVal P W k' v' xs w) : MapVal P W k v (castM h xs) w := by
  cases h; exact hr
theorem withMapR_inv {β : Type} {m : MapTy} {c : Nat} {K : List (m.k.T × m.v.T) → Prog β} {y : β} {tab' : Tab} (I : Inv cx P ε φ tab W) (h : (withMapR m c K).run tab = some (y, tab')) :
    ∃ xs w, ε c = some w ∧ MapVal P W m.k m.v xs w ∧ (K xs).run tab = some (y, tab') := by
  unfold withMapR at h
  obtain ⟨x0, hc, h⟩ := run_get_inv h
  obtain ⟨w, e1, e2⟩ := I.chunk c _ hc
  cases x0 <;> first | exact (run_fail_inv h).elim | skip
  · rename_i k v xs
    simp only at h
    split at h
    · rename_i p hp
      obtain ⟨b, es, clock, g1, g2, g3, g4, g5⟩ := castM_map p xs e2
      exact ⟨castM p xs, w, e1, .inr ⟨b, es, clock, g1, g3, g4, g5⟩, h⟩
    · exact (run_fail_inv h).elim
  · rename_i k v xs
    simp only at h
    split at h
    · rename_i p hp
      exact ⟨castM p xs, w, e1, mapVal_cast p xs (rom_val I e2.1), h⟩
    · exact (run_fail_inv h).elim
theorem ro_zero {e : CTs} {z : Value} {z0 : (VT.one (.ro e)).T} (h : VT.ofS (.one (.ro e)) (constV z) = some z0) : Bare z := by
  have key : ∀ s : S1, CT.ofS (.ro e) s = some z0 → s = constS z → Bare z := fun s hs hc => by
    have hd := constS_den (fun _ => none) (fun _ => none) z
    rw [← hc] at hd
    cases s <;> simp only [CT.ofS] at hs <;> first | (cases hs; done) | skip
    · exfalso
      unfold constS at hc
      split at hc <;> first | (cases hc; done) | skip
      all_goals (split at hc <;> cases hc)
    · exact hd
  unfold constV at h
  split at h
  · cases h
  · exact key _ h rfl
theorem mapTy_bare {t : Nat} {m : MapTy} (h : mapTy tt t = some m) (htt : TTOK Pg tt) {ke ve : Nat} (hu : Pg.underlying t = some (.map ke ve)) {vd : TD} (hvd : tdOf Pg ve = some vd) {z : Value} (hz : vd.zero = some z)
    {e : CTs} (hv : m.v = .one (.ro e)) : Bare z := by
  unfold mapTy at h
  split at h
  · rename_i ke' ve' hk
    obtain ⟨d, h1, h2, h3⟩ := tkind_td htt hk (by simp)
    have h4 := td_map h2 h3
    rw [h4] at hu
    cases hu
    split at h
    · rename_i k v vd' hkk hvv hvd'
      have h5 := htt _ _ hvd'
      rw [hvd] at h5
      cases h5
      split at h
      · rename_i z' hz'
        rw [hz] at hz'
        cases hz'
        split at h
        · rename_i z0 hz0
          cases h
          simp only at hv
          subst hv
          exact ro_zero hz0
        · cases h
      · cases h
    · cases h
  · cases h
theorem lookR_sound (htt : TTOK Pg tt) (I : Inv cx P ε φ tab W) (fresh t : Nat) {m : MapTy} (hm : mapTy tt t = some m) {xs : List (m.k.T × m.v.T)} {w : Value} (hw : MapVal P W m.k m.v xs w) {key : m.k.T} {iv : Value} (hkr : m.k.Rep P key iv) (ok : Bool)
    {sv : SV} {tab' : Tab} (h : (lookR ok m.v (mget m.k m.v key xs) m.zero).run tab = some (sv, tab')) : Res Pg cx P ε fresh W (Instr.lookup t w iv ok) sv tab' := by
  obtain ⟨ke, ve, vd, z, hu, K, hvd, hz, hzr⟩ := mapTy_ok htt hm
  have hval : ∃ u, (Instr.lookup t w iv ok).run Pg W = .ok (if ok then .tuple #[u, .bool (mget m.k m.v key xs).isSome] else u) W ∧ m.v.Rep P ((mget m.k m.v key xs).getD m.zero) u ∧ (mget m.k m.v key xs = none → u = z) := by
    rcases hw with ⟨rfl, rfl⟩ | ⟨b, es, clock, rfl, h4, h5, hbo⟩
    · refine ⟨z, ?_, hzr P, fun _ => rfl⟩
      have hf := find_sound (P := P) (W := W) (v := m.v) K hkr (xs := []) (es := []) rfl
      rcases hf with ⟨_, g2⟩ | ⟨j, p, e, _, g2, _⟩
      · cases ok <;> simp [Instr.lookup, run_underlying hu, K.check P W key iv _ hkr, g2, td_zero hvd hz, mget]
      · simp at g2
    · rcases find_sound (W := W) K hkr h5 with ⟨g1, g2⟩ | ⟨j, p, e, g1, g2, g3, g4, g5, g6, g7⟩
      · rw [(mix_none g1).1]
        refine ⟨z, ?_, hzr P, fun _ => rfl⟩
        cases ok <;> simp [Instr.lookup, run_underlying hu, MapKept.run_getObj_map h4, K.check P W key iv _ hkr, g2, td_zero hvd hz]
      · obtain ⟨q, q1, q2, q3, _⟩ := mix_some g1
        rw [g2] at q1; cases q1
        rw [q3]
        refine ⟨e.val, ?_, g5, fun h => by cases h⟩
        cases ok <;> simp [Instr.lookup, run_underlying hu, MapKept.run_getObj_map h4, K.check P W key iv _ hkr, g7]
  obtain ⟨u, hrun, hrep, hnone⟩ := hval
  have dflt : (Prog.pure (lookV ok m.v (mget m.k m.v key xs) m.zero)).run tab = some (sv, tab') → Res Pg cx P ε fresh W (Instr.lookup t w iv ok) sv tab' := fun h => by
    obtain ⟨e1, e2⟩ := run_pure_inv h
    subst e1; subst e2
    exact Res.same I hrun (lookV_den hrep ok) fresh
  obtain ⟨mk, mv, mz⟩ := m
  have hb : ∀ e, mv = .one (.ro e) → Bare z := fun e he => mapTy_bare hm htt hu hvd hz he
  simp only at h hrep hnone dflt hrun
  generalize hg : mget mk mv key xs = g at h hrep hnone dflt hrun
  clear hg
  unfold lookR at h
  split at h
  · rename_i e m' _
    cases m' with
    | none =>
      have h : (Prog.pure (SV.one .nils)).run tab = some (sv, tab') := h
      obtain ⟨e1, e2⟩ := run_pure_inv h
      subst e1; subst e2
      have := hnone rfl
      subst this
      exact Res.same I (by simpa using hrun) (sv := .one .nils) (hb e rfl) fresh
    | some y =>
      have h : (Prog.pure (SV.one (.ro e y))).run tab = some (sv, tab') := h
      obtain ⟨e1, e2⟩ := run_pure_inv h
      subst e1; subst e2
      exact Res.same I (by simpa using hrun) (sv := .one (.ro e y)) (by simpa [VT.Rep, DenV, Den] using hrep) fresh
  · exact dflt h
theorem lookup_sound (htt : TTOK Pg tt) (I : Inv cx P ε φ tab W) (fresh t : Nat) (x : S1) (v : Value) (hx : Den P ε x v) (ix : SV) (iv : Value) (hi : DenV P ε ix iv) (ok : Bool)
    {sv : SV} {tab' : Tab} (h : (lookupP tt t x ix ok).run tab = some (sv, tab')) : Res Pg cx P ε fresh W (Instr.lookup t v iv ok) sv tab' := by
  unfold lookupP at h
  split at h
  · rename_i m hm
    split at h
    · rename_i key hkey
      have hkr := VT.ofS_rep hkey hi
      split at h
      · rename_i c
        obtain ⟨xs, w, h1, h2, h⟩ := withMapR_inv I h
        have hv : ε c = some v := hx
        rw [h1] at hv; cases hv
        exact lookR_sound htt I fresh t hm h2 hkr ok h
      · rename_i k' v' xs
        split at h
        · rename_i p hp
          exact lookR_sound htt I fresh t hm (mapVal_cast p xs (rom_val I hx)) hkr ok h
        · exact (run_fail_inv h).elim
      · obtain ⟨ke, ve, vd, z, hu, K, hvd, hz, hzr⟩ := mapTy_ok htt hm
        obtain ⟨e1, e2⟩ := run_pure_inv h
        subst e1; subst e2
        have hv : v = .map none := hx
        subst hv
        refine Res.same I (r := if ok then .tuple #[z, .bool false] else z) ?_ (lookV_den (m := none) (hzr P) ok) fresh
        have hf := find_sound (P := P) (W := W) (v := m.v) K hkr (xs := []) (es := []) rfl
        rcases hf with ⟨_, g2⟩ | ⟨j, p, e, _, g2, _⟩
        · simp [Instr.lookup, run_underlying hu, K.check P W key iv _ hkr, g2, td_zero hvd hz]
        · simp at g2
      · exact (run_fail_inv h).elim
    · exact (run_fail_inv h).elim
  · exact (run_fail_inv h).elim

theorem eqb_det (W : World) {t : Nat} {k : VT} (K : KeyOK Pg t k) {x p q : k.T} {a b : Value} (hx : k.Rep P x a) (hp : k.Rep P p b) (hq : k.Rep P q b) : k.eqb x p = k.eqb x q := by
  rcases K.find with ⟨heq, _⟩ | ⟨d, _, heq⟩
  · have h1 := heq P W x p a b hx hp
    rw [heq P W x q a b hx hq] at h1
    injection h1 with h1
    exact h1.symm
  · have h1 := heq P x p a b hx hp
    rw [heq P x q a b hx hq] at h1
    injection h1 with h1
    exact h1.symm
theorem filter_setAt {α : Type} (p : α → Bool) : ∀ {l : List α} {j : Nat} {a b : α}, l[j]? = some a → p a = false → p b = false → (l.set j b).filter p = l.filter p
  | [], _, _, _, h, _, _ => by cases h
  | x :: r, 0, a, b, h, h1, h2 => by
    simp at h; subst h
    simp [h1, h2]
  | x :: r, j + 1, a, b, h, h1, h2 => by
    simp only [List.getElem?_cons_succ] at h
    simp only [List.set_cons_succ, List.filter_cons, filter_setAt p h h1 h2]
theorem EntsRep.memOf {k v : VT} : ∀ {xs : List (k.T × v.T)} {es : List MapEntry} {e : MapEntry}, EntsRep P k v xs es → e ∈ es → ∃ p, p ∈ xs ∧ k.Rep P p.1 e.key
  | [], es, e, h, hm => by simp only [EntsRep] at h; subst h; cases hm
  | x :: xs, _, e, ⟨e', es', h1, h2, h3, h4⟩, hm => by
    subst h1
    rcases List.mem_cons.1 hm with rfl | hm
    · exact ⟨x, by simp, h2⟩
    · obtain ⟨p, q1, q2⟩ := EntsRep.memOf h4 hm
      exact ⟨p, by simp [q1], q2⟩
/-- A store at an entry that came already, in a range over the map. -/
theorem storeI_sound (I : Inv cx P ε φ tab W) {t ke ve : Nat} {k u : VT} (K : KeyOK Pg ke k) (hu : Pg.underlying t = some (.map ke ve)) {c d : Nat} {xs rest : List (k.T × u.T)} {cur : Option (k.T × u.T)}
    (hd : tab.get d = some (.miter c k u xs rest cur)) {w iv yv : Value} (hw : ε c = some w) {key : k.T} {y : u.T} (hkr : k.Rep P key iv) (hyr : u.Rep P y yv)
    (hs : (mget k u key xs).isSome = true) (hall : ∀ q ∈ rest, VT.eqb k key q.1 = false) :
    ∃ W', (Instr.mapUpdate t w iv yv).run Pg W = .ok () W' ∧ Inv cx P ε φ (tab.set d (.miter c k u (mput k u key y xs) rest none)) W' := by
  obtain ⟨h, e1, b, m, es, clock, seen, es', h1, h2, h3, h4, h5, h6, h7, h8, h9, h10⟩ := I.chunk d _ hd
  rw [hw] at h4; cases h4
  subst h1
  have hbm : b ≠ m := by
    have := I.nodup d _ hd
    rw [h2] at this
    simpa using this
  rcases find_sound (W := W) K hkr h6 with ⟨g1, g2⟩ | ⟨j, p, e, g1, g2, g3, g4, g5, g6, g7⟩
  · rw [(mix_none g1).1] at hs; cases hs
  have g3' : es[j]? = some e := by simpa using g3
  have hst : ∀ (q : Value), q = e.key → (Instr.keyThatStays q iv).run Pg W = .ok iv W := fun q hq => by
    subst hq
    unfold Instr.keyThatStays
    simp [K.stays P key p.1 iv e.key hkr g4 g6]
  have hseen : seen.contains e.born = true := by
    cases hc : seen.contains e.born with
    | true => rfl
    | false =>
      have hm : e ∈ es' := h8.mem_iff.2 (List.mem_filter.2 ⟨List.mem_of_getElem? g3, by simp only [hc, Bool.not_false]⟩)
      obtain ⟨q, q1, q2⟩ := EntsRep.memOf h9 hm
      have := eqb_det W K hkr g4 q2
      rw [g6, hall q q1] at this
      cases this
  have hmod : (es.modify j fun e => { e with key := iv, val := yv }).toList = es.toList.set j { e with key := iv, val := yv } := by
    apply List.ext_getElem?
    intro i
    rw [Array.getElem?_toList, Array.getElem?_modify, List.getElem?_set]
    by_cases hij : j = i
    · subst hij
      have hl : j < es.toList.length := by rcases Nat.lt_or_ge j es.toList.length with h | h; exact h; rw [List.getElem?_eq_none h] at g3; cases g3
      simp [g3']
      simpa using hl
    · simp [hij]
  have hbo : BornOK (es.modify j fun e => { e with key := iv, val := yv }) clock := BornOK.modify h7 j fun e => rfl
  obtain ⟨l1, l2, l3⟩ := I.live d _ hd m (by simp [h2])
  refine ⟨putObj W m (.map (es.modify j fun e => { e with key := iv, val := yv }) clock), ?_, ?_⟩
  · have h5 : W.heap[m]? = some (.map es clock) := h5
    simp [Instr.mapUpdate, run_underlying hu, MapKept.run_getObj_map h5, K.check P W key iv _ hkr, g7, MapKept.run_setObj_map _ h5, putObj, g3', hst]
  · refine I.step [b, m] (· = d) ?_ ⟨by rw [putObj_size]; exact Nat.le_refl _, fun b' _ hn => putObj_other (fun e => hn (by simp [e])), rfl, rfl, fun _ => ⟨rfl, Nat.le_refl _⟩⟩ (PHeap.le_refl P) ?_ (fun b' hb' => .inl hb') (fun _ _ h => h) ?_ ?_ ?_ (fun c' w h h' => by rw [h'] at h; cases h)
    · intro b' hb'
      have := I.live d _ hd b' (by rw [h2]; exact hb')
      exact ⟨this.2.1, this.2.2⟩
    · intro b' o hb'
      by_cases e : m = b'
      · subst e; rw [l1] at hb'; cases hb'
      · rw [putObj_other e]; exact I.psub b' o hb'
    · intro c' x hx hne
      have hcd : d ≠ c' := fun e => hne e.symm
      rw [Map.get_set_other _ _ hcd] at hx
      exact ⟨hx, rfl, fun b' hb' hm' => I.apart d c' _ x hcd hd hx b' (by rw [h2]; exact hm') hb'⟩
    · intro c' x hx hN
      subst hN
      rw [Map.get_set_same] at hx; cases hx
      refine ⟨_, e1, ?_, by rw [h2]; simpa using hbm, fun b' hb' => ?_⟩
      · rw [h2]
        refine ⟨b, m, _, clock, seen, es', rfl, rfl, ?_, hw, putObj_same h5, ?_, hbo, ?_, h9, fun p' hp' => by cases hp'⟩
        · show (putObj W m _).heap[b]? = _
          rw [putObj_other (Ne.symm hbm)]; exact h3
        · obtain ⟨q, _, _, _, q4, _⟩ := mix_some g1
          rw [q4, hmod]
          exact h6.set (p := (key, y)) hkr hyr j
        · rw [hmod, filter_setAt _ g3 (by simp only [hseen, Bool.not_true]) (by simp only [hseen, Bool.not_true])]
          exact h8
      · rw [h2] at hb'
        have := I.live c' _ hd b' (by rw [h2]; exact hb')
        exact ⟨.inl hb', this.1, by rw [putObj_size]; exact this.2.1⟩
    · intro c' d' y z hc' hd' hcd hx hy
      rw [hc', hd'] at hcd; exact absurd rfl hcd
theorem castM_miter {k v k' v' : VT} (h : OT.map k' v' = OT.map k v) {c d : Nat} {xs rest : List (k'.T × v'.T)} {cur : Option (k'.T × v'.T)} (hd : tab.get d = some (.miter c k' v' xs rest cur)) :
    ∃ cur', tab.get d = some (.miter c k v (castM h xs) (castM h rest) cur') := by
  cases h; exact ⟨cur, hd⟩
theorem mget_none {k v : VT} {key : k.T} : ∀ {xs : List (k.T × v.T)}, mget k v key xs = none → ∀ q ∈ xs, VT.eqb k key q.1 = false
  | [], _, q, hq => by cases hq
  | p :: r, h, q, hq => by
    unfold mget at h
    cases he : VT.eqb k key p.1 with
    | true => rw [he] at h; cases h
    | false =>
      rw [he] at h
      rcases List.mem_cons.1 hq with rfl | hq
      · exact he
      · exact mget_none h q hq
theorem updateI_sound (I : Inv cx P ε φ tab W) {t ke ve : Nat} {m : MapTy} (K : KeyOK Pg ke m.k) (hu : Pg.underlying t = some (.map ke ve)) {c d : Nat}
    {w iv yv : Value} (hw : ε c = some w) {key : m.k.T} {y : m.v.T} (hkr : m.k.Rep P key iv) (hyr : m.v.Rep P y yv)
    {sv : SV} {tab' : Tab} (h : (mapUpdateI m c d key y).run tab = some (sv, tab')) :
    sv = .one .dead ∧ ∃ W', (Instr.mapUpdate t w iv yv).run Pg W = .ok () W' ∧ Inv cx P ε φ tab' W' := by
  unfold mapUpdateI at h
  obtain ⟨x0, hd, h⟩ := run_get_inv h
  cases x0 <;> first | exact (run_fail_inv h).elim | skip
  rename_i c' k0 v0 xs0 rest0 cur
  simp only at h
  split at h
  case h_2 => exact (run_fail_inv h).elim
  rename_i p hp hc
  have hc := nbeq_true hc
  subst hc
  obtain ⟨cur', hd'⟩ := castM_miter p hd
  generalize hxs : castM p xs0 = xs at h hd'
  generalize hrs : castM p rest0 = rest at h hd'
  rcases run_ite_inv h with ⟨hle, h⟩ | ⟨_, h⟩
  case inr => exact (run_fail_inv h).elim
  have h' : (tab.set d (.miter c' m.k m.v (mput m.k m.v key y xs) rest none), SV.one .dead) = (tab', sv) := by
    simp only [Prog.run, Option.some.injEq, Prod.mk.injEq] at h
    exact Prod.ext h.2 h.1
  cases h'
  rw [Bool.and_eq_true] at hle
  obtain ⟨W', r1, r2⟩ := storeI_sound I K hu hd' hw hkr hyr hle.1 (mget_none (by simpa using hle.2))
  exact ⟨rfl, W', r1, r2⟩

theorem update_sound (htt : TTOK Pg tt) (I : Inv cx P ε φ tab W) (t : Nat) (x : S1) (v : Value) (hx : Den P ε x v) (ix : SV) (iv : Value) (hi : DenV P ε ix iv) (y : SV) (yv : Value) (hy : DenV P ε y yv)
    {sv : SV} {tab' : Tab} (h : (mapUpdateP tt t x ix y).run tab = some (sv, tab')) :
    sv = .one .dead ∧ ∃ W' P' φ', (Instr.mapUpdate t v iv yv).run Pg W = .ok () W' ∧ P.le P' ∧ Inv cx P' ε φ' tab' W' := by
  unfold mapUpdateP at h
  split at h
  · rename_i m hm
    obtain ⟨ke, ve, vd, z, hu, K, hvd, hz, hzr⟩ := mapTy_ok htt hm
    split at h
    · rename_i key hkey
      split at h
      · rename_i c
        obtain ⟨u, t1, k1, h⟩ := run_bind_inv h
        obtain ⟨P1, φ1, p1, I1, _, p4, _⟩ := takeVT_sound I Held.nil m.v y yv hy u t1 k1
        have hkr : m.k.Rep P1 key iv := VT.Rep.mono p1 _ _ _ (VT.ofS_rep hkey hi)
        obtain ⟨xr, hcr, h⟩ := run_get_inv h
        by_cases hrg : ∃ d, xr = .ranged d
        · obtain ⟨d, rfl⟩ := hrg
          obtain ⟨r1, W', r2, r3⟩ := updateI_sound I1 K hu hx hkr p4 h
          exact ⟨r1, W', P1, φ1, r2, p1, r3⟩
        have h : (withMap m c fun xs => .set c (.map m.k m.v (mput m.k m.v key u xs)) (.pure (.one .dead))).run t1 = some (sv, tab') := by
          cases xr <;> first | exact h | exact absurd ⟨_, rfl⟩ hrg
        obtain ⟨xs, x0, b, es, clock, h1, h2, h3, h4, h5, hbo, h⟩ := withMap_inv I1 h
        have h' : (t1.set c (.map m.k m.v (mput m.k m.v key u xs)), SV.one .dead) = (tab', sv) := by
          simp only [Prog.run, Option.some.injEq, Prod.mk.injEq] at h
          exact Prod.ext h.2 h.1
        cases h'
        have hv : ε c = some v := hx
        rw [h2] at hv; cases hv
        refine ⟨rfl, ?_⟩
        have fin : ∀ (es' : Array MapEntry) (clock' : Nat), (Instr.mapUpdate t (.map (some b)) iv yv).run Pg W = .ok () (putObj W b (.map es' clock')) → EntsRep P1 m.k m.v (mput m.k m.v key u xs) es'.toList → BornOK es' clock' →
            ∃ W' P' φ', (Instr.mapUpdate t (.map (some b)) iv yv).run Pg W = .ok () W' ∧ P.le P' ∧ Inv cx P' ε φ' (t1.set c (.map m.k m.v (mput m.k m.v key u xs))) W' := by
          intro es' clock' hr he hb'
          refine ⟨_, P1, φ1, hr, p1, I1.put h1 h3 (o := .map es' clock') fun w hw => ?_⟩
          rw [h2] at hw; cases hw
          exact ⟨b, es', clock', rfl, rfl, by simp only [World.view]; exact putObj_same h4, he, hb'⟩
        rcases find_sound (W := W) K hkr h5 with ⟨g1, g2⟩ | ⟨j, p, e, g1, g2, g3, g4, g5, g6, g7⟩
        · refine fin (es.push { key := iv, val := yv, born := clock }) (clock + 1) ?_ ?_ (hbo.push iv yv)
          · simp [Instr.mapUpdate, run_underlying hu, MapKept.run_getObj_map h4, K.check P1 W key iv _ hkr, g2, MapKept.run_setObj_map _ h4, putObj]
          · rw [(mix_none g1).2.1, Array.toList_push]
            exact h5.push hkr p4
        · have g3' : es[j]? = some e := by simpa using g3
          have hst : ∀ (q : Value), q = e.key → (Instr.keyThatStays q iv).run Pg W = .ok iv W := fun q hq => by
            subst hq
            unfold Instr.keyThatStays
            simp [K.stays P1 key p.1 iv e.key hkr g4 g6]
          have hbm : BornOK (es.modify j fun e => { e with key := iv, val := yv }) clock := hbo.modify j fun e => rfl
          refine fin (es.modify j fun e => { e with key := iv, val := yv }) clock ?_ ?_ hbm
          · simp [Instr.mapUpdate, run_underlying hu, MapKept.run_getObj_map h4, K.check P1 W key iv _ hkr, g7, MapKept.run_setObj_map _ h4, putObj, g3', hst]
          · obtain ⟨q, _, _, _, q4, _⟩ := mix_some g1
            rw [q4]
            have : (es.modify j fun e => { e with key := iv, val := yv }).toList = es.toList.set j { e with key := iv, val := yv } := by
              apply List.ext_getElem?
              intro i
              rw [Array.getElem?_toList, Array.getElem?_modify, List.getElem?_set]
              by_cases hij : j = i
              · subst hij
                have hl : j < es.toList.length := by rcases Nat.lt_or_ge j es.toList.length with h | h; exact h; rw [List.getElem?_eq_none h] at g3; cases g3
                simp [g3']
                simpa using hl
              · simp [hij]
            rw [this]
            exact h5.set (p := (key, u)) hkr p4 j
      · exact (run_fail_inv h).elim
    · exact (run_fail_inv h).elim
  · exact (run_fail_inv h).elim

theorem mput_mput {k v : VT} {key : k.T} (hr : VT.eqb k key key = true) (x y : v.T) : ∀ xs : List (k.T × v.T), mput k v key y (mput k v key x xs) = mput k v key y xs
  | [] => by simp [mput, hr]
  | p :: r => by
    cases h : VT.eqb k key p.1 with
    | true =>
      rw [show mput k v key x (p :: r) = (key, x) :: r from by simp [mput, h], show mput k v key y (p :: r) = (key, y) :: r from by simp [mput, h]]
      simp [mput, hr]
    | false =>
      rw [show mput k v key x (p :: r) = p :: mput k v key x r from by simp [mput, h], show mput k v key y (p :: r) = p :: mput k v key y r from by simp [mput, h]]
      rw [show mput k v key y (p :: mput k v key x r) = p :: mput k v key y (mput k v key x r) from by simp [mput, h], mput_mput hr x y r]
theorem entryV_den {v : VT} {m : Option v.T} {z : v.T} {w : Value} {d : Nat} {sw : Value} (h : v.Rep P (m.getD z) w) (hb : ∀ e, v = .one (.ro e) → m = none → Bare w) (hd : ε d = some sw) {tab : Tab} {sv : SV} {tab' : Tab}
    (hr : (entryV v m z d).run tab = some (sv, tab')) : tab' = tab ∧ DenV P ε sv (.tuple #[w, sw]) := by
  have dflt : (Prog.pure (SV.tup [v.toS (m.getD z), .inl (.own d)])).run tab = some (sv, tab') → tab' = tab ∧ DenV P ε sv (.tuple #[w, sw]) := fun h' => by
    obtain ⟨e1, e2⟩ := run_pure_inv h'
    subst e1; subst e2
    exact ⟨rfl, _, rfl, w, [sw], rfl, VT.toS_den h, sw, [], rfl, hd, rfl⟩
  unfold entryV at hr
  split at hr
  · rename_i e m' _
    cases m' with
    | none =>
      have hr : (Prog.pure (SV.tup [.inl .nils, .inl (.own d)])).run tab = some (sv, tab') := hr
      obtain ⟨e1, e2⟩ := run_pure_inv hr
      subst e1; subst e2
      exact ⟨rfl, _, rfl, w, [sw], rfl, hb e rfl rfl, sw, [], rfl, hd, rfl⟩
    | some y =>
      have hr : (Prog.pure (SV.tup [.inl (.ro e y), .inl (.own d)])).run tab = some (sv, tab') := hr
      obtain ⟨e1, e2⟩ := run_pure_inv hr
      subst e1; subst e2
      exact ⟨rfl, _, rfl, w, [sw], rfl, by simpa [VT.Rep, DenP, Den] using h, sw, [], rfl, hd, rfl⟩
  · exact dflt hr
theorem mapEntry_sound (htt : TTOK Pg tt) (I : Inv cx P ε φ tab W) {fresh : Nat} (hfr : Fresh ε fresh) (t : Nat) (x : S1) (v : Value) (hx : Den P ε x v) (ix : SV) (iv : Value) (hi : DenV P ε ix iv)
    {sv : SV} {tab' : Tab} (h : (mapEntryP tt t x ix fresh).run tab = some (sv, tab')) : Res Pg cx P ε fresh W (Instr.mapEntry t v iv) sv tab' := by
  unfold mapEntryP at h
  split at h
  · rename_i m hm
    obtain ⟨ke, ve, vd, z, hu, K, hvd, hz, hzr⟩ := mapTy_ok htt hm
    split at h
    · rename_i key hkey
      have hkr := VT.ofS_rep hkey hi
      split at h
      · rename_i c
        obtain ⟨xs, x0, b, es, clock, h1, h2, h3, h4, h5, hbo, h⟩ := withMap_inv I h
        rcases run_ite_inv h with ⟨hrefl, h⟩ | ⟨_, h⟩
        case inr => exact (run_fail_inv h).elim
        have hv : ε c = some v := hx
        rw [h2] at hv; cases hv
        have h : (Prog.new fresh (.mapO c m.k m.v (mput m.k m.v key ((mget m.k m.v key xs).getD m.zero) xs) key) (entryV m.v (mget m.k m.v key xs) m.zero fresh)).run (tab.del c) = some (sv, tab') := h
        obtain ⟨hn, h⟩ := run_new_inv h
        obtain ⟨I1, H1⟩ := I.takeOut Held.nil h1
        rw [List.append_nil, h3] at H1
        have hb : b < W.heap.size := (H1.ok b (by simp)).2.1
        have hf : ε fresh = none := hfr fresh (Nat.le_refl _) (by unfold stride; omega)
        have fin : ∀ (es' : Array MapEntry) (clock' j : Nat) (e : MapEntry) (w : Value), (Instr.mapEntry t (.map (some b)) iv).run Pg W = .ok (.tuple #[w, .int .i64 e.born]) (putObj W b (.map es' clock')) →
            m.v.Rep P ((mget m.k m.v key xs).getD m.zero) w → (∀ e, m.v = .one (.ro e) → mget m.k m.v key xs = none → Bare w) →
            EntsRep P m.k m.v (mput m.k m.v key ((mget m.k m.v key xs).getD m.zero) xs) es'.toList → BornOK es' clock' → es'.toList[j]? = some e → e.key = iv →
            (∃ p, (mput m.k m.v key ((mget m.k m.v key xs).getD m.zero) xs)[j]? = some p) → (∀ y, putAt m.k m.v key y (mput m.k m.v key ((mget m.k m.v key xs).getD m.zero) xs) j) →
            Res Pg cx P ε fresh W (Instr.mapEntry t (.map (some b)) iv) sv tab' := by
          intro es' clock' j e w hrun hw hwb he hb' hj hek hp hput
          obtain ⟨p, hp⟩ := hp
          have hE : Ext [b] W (putObj W b (.map es' clock')) cx.td := ⟨by simp [putObj], fun b' _ hb' => putObj_other (fun e => hb' (by simp [e])), rfl, rfl, fun _ => ⟨rfl, Nat.le_refl _⟩⟩
          obtain ⟨ε', φ', b1, b2, b3, b4⟩ := install_one I1 H1 hf hE (x := .mapO c m.k m.v (mput m.k m.v key ((mget m.k m.v key xs).getD m.zero) xs) key) (v := .int .i64 e.born) (.inr (.inr (.inr ⟨_, rfl⟩))) (fp' := [b])
            (by simp) (fun b' hb' => by
              simp at hb'
              subst hb'
              exact ⟨.inl (by simp), by simp [putObj]; exact hb⟩)
            (fun η hη => ⟨b, es', clock', j, e, p, rfl, rfl, hη _ _ h2, by simp only [World.view]; exact putObj_same h4, he, hb', hj, hp, by rw [hek]; exact hkr, hput⟩) (psub_ext I1 H1 hE)
          obtain ⟨q1, q2⟩ := entryV_den (P := P) (ε := ε') hw hwb b4 h
          subst q1
          exact ⟨.tuple #[w, .int .i64 e.born], _, P, ε', φ', hrun, PHeap.le_refl P, b1, b2, b3, q2⟩
        rcases find_sound (W := W) K hkr h5 with ⟨g1, g2⟩ | ⟨j, p, e, g1, g2, g3, g4, g5, g6, g7⟩
        · obtain ⟨m1, m2, _⟩ := mix_none g1
          have hl := h5.len
          refine fin (es.push { key := iv, val := z, born := clock }) (clock + 1) es.size { key := iv, val := z, born := clock } z ?_ ?_ ?_ ?_ (hbo.push iv z) ?_ rfl ?_ ?_
          · simp [Instr.mapEntry, run_underlying hu, MapKept.run_getObj_map h4, K.check P W key iv _ hkr, g2, MapKept.run_setObj_map _ h4, putObj, td_zero hvd hz, goInt]
          · rw [m1]; exact hzr P
          · intro e he _
            exact mapTy_bare hm htt hu hvd hz he
          · rw [m2, m1, Array.toList_push]
            exact h5.push (p := (key, m.zero)) hkr (hzr P)
          · rw [Array.toList_push, List.getElem?_append_right (by simp)]; simp
          · rw [m2, ← Array.length_toList, hl]
            exact ⟨_, by rw [List.getElem?_append_right (Nat.le_refl _)]; simp; rfl⟩
          · intro y
            unfold putAt
            rw [mput_mput hrefl, m2, m2, ← Array.length_toList, hl, List.set_append_right _ _ (Nat.le_refl _)]
            simp
        · have g3' : es[j]? = some e := by simpa using g3
          have hst : ∀ (q : Value), q = e.key → (Instr.keyThatStays q iv).run Pg W = .ok iv W := fun q hq => by
            subst hq
            unfold Instr.keyThatStays
            simp [K.stays P key p.1 iv e.key hkr g4 g6]
          obtain ⟨q, q1, q2, q3, q4, _⟩ := mix_some g1
          rw [g2] at q1; cases q1
          have hjl : j < xs.length := by rcases Nat.lt_or_ge j xs.length with h | h; exact h; rw [List.getElem?_eq_none h] at g2; cases g2
          have hjle : j < es.toList.length := by rw [h5.len]; exact hjl
          have hmod : (es.modify j fun e => { e with key := iv }).toList = es.toList.set j { e with key := iv } := by
            apply List.ext_getElem?
            intro i
            rw [Array.getElem?_toList, Array.getElem?_modify, List.getElem?_set]
            by_cases hij : j = i
            · subst hij
              simp [g3']
              simpa using hjle
            · simp [hij]
          refine fin (es.modify j fun e => { e with key := iv }) clock j { e with key := iv } e.val ?_ ?_ ?_ ?_ (hbo.modify j fun e => rfl) ?_ rfl ?_ ?_
          · simp [Instr.mapEntry, run_underlying hu, MapKept.run_getObj_map h4, K.check P W key iv _ hkr, g7, MapKept.run_setObj_map _ h4, putObj, g3', hst, goInt]
          · rw [q3]; exact g5
          · intro e _ hn; rw [q3] at hn; cases hn
          · rw [q3, q4, hmod]
            exact h5.set (p := (key, p.2)) (e := { e with key := iv }) hkr g5 j
          · rw [hmod, List.getElem?_set_self hjle]
          · rw [q3, q4]; exact ⟨_, List.getElem?_set_self hjl⟩
          · intro y
            unfold putAt
            rw [mput_mput hrefl, q3, q4, q4, List.set_set]
      · exact (run_fail_inv h).elim
    · exact (run_fail_inv h).elim
  · exact (run_fail_inv h).elim
theorem findIdx_born {es : Array MapEntry} {j : Nat} {e : MapEntry} (hn : (es.toList.map (·.born)).Nodup) (hj : es.toList[j]? = some e) : es.findIdx? (fun x => (x.born : Int) == (e.born : Int)) = some j := by
  have hj' : es[j]? = some e := by simpa using hj
  obtain ⟨hl, he⟩ := Array.getElem?_eq_some_iff.1 hj'
  rw [Array.findIdx?_eq_some_iff_getElem]
  refine ⟨hl, by simp [he], fun i hi => ?_⟩
  intro hc
  have hc : es[i].born = e.born := Int.ofNat.inj (by simpa using hc)
  have hp := List.pairwise_iff_getElem.1 hn i j (by simp; omega) (by simpa using hl) hi
  apply hp
  simp [he, hc]
theorem entryStore_sound (I : Inv cx P ε φ tab W) (t : Nat) (x st : S1) (v sw : Value) (hx : Den P ε x v) (hs : Den P ε st sw) (y : SV) (yv : Value) (hy : DenV P ε y yv)
    {sv : SV} {tab' : Tab} (h : (entryStoreP x st y).run tab = some (sv, tab')) :
    sv = .one .dead ∧ ∃ W' P' φ', (Instr.entryStore t v sw yv).run Pg W = .ok () W' ∧ P.le P' ∧ Inv cx P' ε φ' tab' W' := by
  unfold entryStoreP at h
  split at h
  · rename_i c d
    obtain ⟨x0, hd, h⟩ := run_get_inv h
    cases x0 <;> first | exact (run_fail_inv h).elim | skip
    rename_i c' k u xs key
    simp only at h
    split at h
    · rename_i hcc
      have hcc := nbeq_true hcc
      subst hcc
      obtain ⟨w, e1, b, es, clock, j, e, p, g1, g2, g3, g4, g5, g6, g7, g8, g9, g10⟩ := I.chunk d _ hd
      have hv : ε c' = some v := hx
      have hsd : ε d = some sw := hs
      rw [e1] at hsd; cases hsd
      rw [g3] at hv; cases hv
      obtain ⟨I1, H1⟩ := I.takeOut Held.nil hd
      rw [List.append_nil, g2] at H1
      have h : ((takeVT u y).bind fun y => Prog.set c' (.map k u (mput k u key y xs)) (.pure (SV.one .dead))).run (tab.del d) = some (sv, tab') := h
      obtain ⟨q, t1, k1, h⟩ := run_bind_inv h
      obtain ⟨P1, φ1, p1, p2, p3, p4, p5⟩ := takeVT_sound I1 H1 u y yv hy q t1 k1
      have h' : (t1.set c' (.map k u (mput k u key q xs)), SV.one .dead) = (tab', sv) := by
        simp only [Prog.run, Option.some.injEq, Prod.mk.injEq] at h
        exact Prod.ext h.2 h.1
      cases h'
      refine ⟨rfl, ?_⟩
      subst g1
      have hjl : j < es.toList.length := by rcases Nat.lt_or_ge j es.toList.length with h | h; exact h; rw [List.getElem?_eq_none h] at g7; cases g7
      have g7' : es[j]? = some e := by simpa using g7
      have hmod : (es.modify j fun e => { e with val := yv }).toList = es.toList.set j { e with val := yv } := by
        apply List.ext_getElem?
        intro i
        rw [Array.getElem?_toList, Array.getElem?_modify, List.getElem?_set]
        by_cases hij : j = i
        · subst hij
          simp [g7']
          simpa using hjl
        · simp [hij]
      have hW4 : W.heap[b]? = some (.map es clock) := g4
      have hrun : (Instr.entryStore t (.map (some b)) (.int .i64 e.born) yv).run Pg W = .ok () (putObj W b (.map (es.modify j fun e => { e with val := yv }) clock)) := by
        simp [Instr.entryStore, MapKept.run_getObj_map hW4, asInt, asIntOf, findIdx_born g6.2 g7, MapKept.run_setObj_map _ hW4, putObj]
      have hE : Ext [b] W (putObj W b (.map (es.modify j fun e => { e with val := yv }) clock)) cx.td := ⟨by simp [putObj], fun b' _ hb' => putObj_other (fun e => hb' (by simp [e])), rfl, rfl, fun _ => ⟨rfl, Nat.le_refl _⟩⟩
      have key2 : EntsRep P1 k u (mput k u key q xs) (es.modify j fun e => { e with val := yv }).toList := by
        rw [show mput k u key q xs = xs.set j (key, q) from g10 q, hmod]
        exact (EntsRep.mono p1 _ _ g5).set (p := (key, q)) (e := { e with val := yv }) (VT.Rep.mono p1 _ _ _ g9) p4 j
      have q0 : Map.get ([(c', Value.map (some b), [b])] : HL2) c' = some (Value.map (some b), [b]) := by simp [Map.get]
      have q1 : ∀ d', d' ≠ c' → Map.get ([(c', Value.map (some b), [b])] : HL2) d' = none := fun d' hd' => by
        have : Nat.beq c' d' = false := by cases hb : Nat.beq c' d' with | true => exact absurd (nbeq_true hb).symm hd' | false => rfl
        simp [Map.get, this]
      have heq : addE [(c', Value.map (some b), [b])] ε = ε := by
        funext d'
        by_cases e : d' = c'
        · subst e; rw [addE, q0, g3]
        · rw [addE, q1 d' e]
      have hblt : b < W.heap.size := (p3.ok b (by simp)).2.1
      have key3 := p2.install (P' := P1) (W' := putObj W b (.map (es.modify j fun e => { e with val := yv }) clock)) (tab' := t1.set c' (.map k u (mput k u key q xs))) [b] [(c', Value.map (some b), [b])]
        (fun b' hb' => (p3.ok b' hb').2) p3.away hE (PHeap.le_refl P1) (psub_ext p2 p3 hE) (fun b' hb' => .inl hb')
        (fun d' w f hd' => by
          by_cases e : d' = c'
          · subst e; rw [q0] at hd'; cases hd'; exact ⟨.inr g3, .inr (.inr (.inl ⟨_, rfl⟩))⟩
          · rw [q1 d' e] at hd'; cases hd')
        (fun d' y hd' => by
          by_cases e : d' = c'
          · subst e; exact .inl ⟨_, q0⟩
          · right; rwa [Map.get_set_other _ _ (Ne.symm e)] at hd')
        (fun d' w f y hd' hy => by
          by_cases e : d' = c'
          · subst e; rw [q0] at hd'; cases hd'; rw [Map.get_set_same] at hy; cases hy
            exact ⟨b, _, clock, rfl, rfl, by simp only [World.view]; exact putObj_same hW4, key2, g6.modify j fun e => rfl⟩
          · rw [q1 d' e] at hd'; cases hd')
        (by simp [fpsOf]) (fun b' hb' => by
          have hb' : b' = b := by simpa [fpsOf] using hb'
          subst hb'
          exact ⟨.inl (by simp), (p3.ok b' (by simp)).1, by simp [putObj]; exact hblt⟩)
      rw [heq] at key3
      exact ⟨_, P1, _, hrun, p1, key3⟩
    · exact (run_fail_inv h).elim
  · exact (run_fail_inv h).elim
theorem delete_sound (htt : TTOK Pg tt) (I : Inv cx P ε φ tab W) (fresh t u ty : Nat) (x : S1) (v : Value) (hx : Den P ε x v) (ix : SV) (iv : Value) (hi : DenV P ε ix iv)
    {sv : SV} {tab' : Tab} (h : (mapDeleteP tt t x ix).run tab = some (sv, tab')) : Res Pg cx P ε fresh W (Builtin.delete_ #[t, u] ty #[v, iv]) sv tab' := by
  unfold mapDeleteP at h
  split at h
  · rename_i m hm
    obtain ⟨ke, ve, vd, z, hu, K, hvd, hz, hzr⟩ := mapTy_ok htt hm
    split at h
    · rename_i key hkey
      have hkr := VT.ofS_rep hkey hi
      split at h
      · rename_i c
        obtain ⟨xs, x0, b, es, clock, h1, h2, h3, h4, h5, hbo, h⟩ := withMap_inv I h
        have h' : (tab.set c (.map m.k m.v (mdel m.k m.v key xs)), SV.one .dead) = (tab', sv) := by
          simp only [Prog.run, Option.some.injEq, Prod.mk.injEq] at h
          exact Prod.ext h.2 h.1
        cases h'
        have hv : ε c = some v := hx
        rw [h2] at hv; cases hv
        have fin : ∀ (es' : Array MapEntry), (Builtin.delete_ #[t, u] ty #[.map (some b), iv]).run Pg W = .ok (.tuple #[]) (putObj W b (.map es' clock)) → EntsRep P m.k m.v (mdel m.k m.v key xs) es'.toList → BornOK es' clock →
            Res Pg cx P ε fresh W (Builtin.delete_ #[t, u] ty #[.map (some b), iv]) (.one .dead) (tab.set c (.map m.k m.v (mdel m.k m.v key xs))) := by
          intro es' hr he hb'
          refine ⟨_, _, P, ε, φ, hr, PHeap.le_refl P, fun _ _ h => h, fun _ h => .inl h, I.put h1 h3 (o := .map es' clock) fun w hw => ?_, trivial⟩
          rw [h2] at hw; cases hw
          exact ⟨b, es', clock, rfl, rfl, by simp only [World.view]; exact putObj_same h4, he, hb'⟩
        rcases find_sound (W := W) K hkr h5 with ⟨g1, g2⟩ | ⟨j, p, e, g1, g2, g3, g4, g5, g6, g7⟩
        · refine fin es ?_ ?_ hbo
          · simp [Builtin.delete_, run_underlying hu, MapKept.run_getObj_map h4, K.check P W key iv _ hkr, g2, MapKept.run_setObj_map _ h4, putObj]
          · rw [(mix_none g1).2.2]; exact h5
        · refine fin (es.eraseIdxIfInBounds j) ?_ ?_ (hbo.erase j)
          · simp [Builtin.delete_, run_underlying hu, MapKept.run_getObj_map h4, K.check P W key iv _ hkr, g7, MapKept.run_setObj_map _ h4, putObj]
          · obtain ⟨q, _, _, _, _, q4⟩ := mix_some g1
            rw [q4]
            have : (es.eraseIdxIfInBounds j).toList = es.toList.eraseIdx j := by
              unfold Array.eraseIdxIfInBounds
              split
              · simp only [Array.toList_eraseIdx]
              · rename_i hj
                rw [List.eraseIdx_of_length_le]; simpa using hj
            rw [this]
            exact h5.erase j
      · exact (run_fail_inv h).elim
    · exact (run_fail_inv h).elim
  · exact (run_fail_inv h).elim

theorem clear_sound (htt : TTOK Pg tt) (I : Inv cx P ε φ tab W) (fresh t ty : Nat) (x : S1) (v : Value) (hx : Den P ε x v)
    {sv : SV} {tab' : Tab} (h : (mapClearP tt t x).run tab = some (sv, tab')) : Res Pg cx P ε fresh W (Builtin.clear_ #[t] ty #[v]) sv tab' := by
  unfold mapClearP at h
  split at h
  · rename_i m hm
    obtain ⟨ke, ve, vd, z, hu, K, hvd, hz, hzr⟩ := mapTy_ok htt hm
    split at h
    · rename_i c
      obtain ⟨xs, x0, b, es, clock, h1, h2, h3, h4, h5, hbo, h⟩ := withMap_inv I h
      have h' : (tab.set c (.map m.k m.v []), SV.one .dead) = (tab', sv) := by
        simp only [Prog.run, Option.some.injEq, Prod.mk.injEq] at h
        exact Prod.ext h.2 h.1
      cases h'
      have hv : ε c = some v := hx
      rw [h2] at hv; cases hv
      refine ⟨.tuple #[], putObj W b (.map #[] clock), P, ε, φ, ?_, PHeap.le_refl P, fun _ _ h => h, fun _ h => .inl h, I.put h1 h3 (o := .map #[] clock) fun w hw => ?_, trivial⟩
      · simp [Builtin.clear_, run_underlying hu, MapKept.run_getObj_map h4, MapKept.run_setObj_map _ h4, putObj]
      · rw [h2] at hw; cases hw
        exact ⟨b, #[], clock, rfl, rfl, by simp only [World.view]; exact putObj_same h4, rfl, BornOK.nil clock⟩
    · exact (run_fail_inv h).elim
  · exact (run_fail_inv h).elim

theorem len_mapVal (htt : TTOK Pg tt) (I : Inv cx P ε φ tab W) (fresh t ty : Nat) {m : MapTy} (hm : mapTy tt t = some m) {k u : VT} {xs : List (k.T × u.T)} {v : Value} (hv : MapVal P W k u xs v)
    {sv : SV} {tab' : Tab} (h : (Prog.ite (Nat.ble xs.length maxCells) (.pure (goLen xs.length)) .fail).run tab = some (sv, tab')) : Res Pg cx P ε fresh W (Builtin.len_ #[t] ty #[v]) sv tab' := by
  obtain ⟨ke, ve, vd, z, hu, K, hvd, hz, hzr⟩ := mapTy_ok htt hm
  rcases run_ite_inv h with ⟨hle, h⟩ | ⟨_, h⟩
  case inr => exact (run_fail_inv h).elim
  have hle := Nat.le_of_ble_eq_true hle
  obtain ⟨e1, e2⟩ := run_pure_inv h
  subst e1; subst e2
  refine Res.same I (r := goInt xs.length) ?_ ?_ fresh
  · rcases hv with ⟨rfl, rfl⟩ | ⟨b, es, clock, rfl, h4, h5, hbo⟩
    · simp [Builtin.len_, run_underlying hu]
    · simp [Builtin.len_, run_underlying hu, MapKept.run_getObj_map h4]
      have := h5.len
      simp only [Array.length_toList] at this
      rw [this]
  · exact goLen_den _ (by unfold maxCells at hle; omega)
theorem maplen_sound (htt : TTOK Pg tt) (I : Inv cx P ε φ tab W) (fresh t ty c : Nat) {m : MapTy} (hm : mapTy tt t = some m) (v : Value) (hx : Den P ε (.own c) v)
    {sv : SV} {tab' : Tab} (h : (withMapR m c fun xs => .ite (Nat.ble xs.length maxCells) (.pure (goLen xs.length)) .fail).run tab = some (sv, tab')) : Res Pg cx P ε fresh W (Builtin.len_ #[t] ty #[v]) sv tab' := by
  obtain ⟨xs, w, h1, h2, h⟩ := withMapR_inv I h
  have hv : ε c = some v := hx
  rw [h1] at hv; cases hv
  exact len_mapVal htt I fresh t ty hm h2 h

/-! ### A range over a map -/
/-- A range over a map that is only read. -/
theorem rangeRom_sound (I : Inv cx P ε φ tab W) {fresh : Nat} (hfr : Fresh ε fresh) {t ke ve : Nat} (hu : Pg.underlying t = some (.map ke ve)) {k u : CTs} {xs : List (k.T × u.T)} {v : Value} (hv : (CT.rom k u).Rep P xs v)
    {sv : SV} {tab' : Tab} (h : (Prog.new fresh (.riter k u xs none) (.pure (SV.one (.own fresh)))).run tab = some (sv, tab')) : Res Pg cx P ε fresh W (Instr.range t v) sv tab' := by
  obtain ⟨hn, h⟩ := run_new_inv h
  obtain ⟨e1, e2⟩ := run_pure_inv h
  subst e1; subst e2
  have hf : ε fresh = none := hfr fresh (Nat.le_refl _) (by unfold stride; omega)
  have fin : ∀ o : Obj, (Instr.range t v).run Pg W = .ok (.pointer (some ⟨W.heap.size, 0, none⟩)) { W with heap := W.heap.push o } →
      (∀ η : HMap, ChunkOK P (fun b => (W.heap.push o)[b]?) η (.pointer (some ⟨W.heap.size, 0, none⟩)) [W.heap.size] (.riter k u xs none)) → Res Pg cx P ε fresh W (Instr.range t v) (.one (.own fresh)) (tab.set fresh (.riter k u xs none)) := by
    intro o hrun hok
    have hE : Ext [] W { W with heap := W.heap.push o } cx.td := ⟨by simp, fun b' hb' _ => by simp [Array.getElem?_push, Nat.ne_of_lt hb'], rfl, rfl, fun _ => ⟨rfl, Nat.le_refl _⟩⟩
    obtain ⟨ε', φ', b1, b2, b3, b4⟩ := install_one I Held.nil hf hE (x := .riter k u xs none) (v := .pointer (some ⟨W.heap.size, 0, none⟩)) (.inl ⟨_, rfl⟩) (fp' := [W.heap.size])
      (by simp) (fun b' hb' => by
        simp at hb'
        subst hb'
        exact ⟨.inr (Nat.le_refl _), by simp⟩)
      (fun η _ => hok η) (psub_ext I Held.nil hE)
    exact ⟨_, _, P, ε', φ', hrun, PHeap.le_refl P, b1, b2, b3, b4⟩
  rcases rom_inv hv with ⟨rfl, rfl⟩ | ⟨b, es, clock, rfl, h2, h3, h4⟩
  · refine fin (.mapIter none 0 #[] 0) (by simp [Instr.range, run_underlying hu]) fun η => ⟨W.heap.size, rfl, rfl, .inl ⟨rfl, rfl, 0, 0, by simp⟩⟩
  · refine fin (.mapIter (some b) clock #[] clock) (by simp [Instr.range, run_underlying hu, MapKept.run_getObj_map (I.psub _ _ h2)]) fun η => ⟨W.heap.size, rfl, rfl, .inr ⟨b, es, clock, #[], es.toList, by simp, h2, h3, List.Perm.of_eq (List.filter_eq_self.2 fun _ _ => by simp).symm, h4, fun p hp => by cases hp⟩⟩
theorem entryRom_sound (I : Inv cx P ε φ tab W) (fresh : Nat) {d : Nat} {v : Value} (hv : ε d = some v) {k u : CTs} {rest : List (k.T × u.T)} {p : k.T × u.T} (hd : tab.get d = some (.riter k u rest (some p))) :
    Res Pg cx P ε fresh W (Instr.entry v) (.tup [VT.toS (.agg k) p.1, VT.toS (.agg u) p.2]) tab := by
  obtain ⟨w, e1, b, h1, h2, h3⟩ := I.chunk d _ hd
  rw [hv] at e1; cases e1
  rcases h3 with ⟨_, h3, _⟩ | ⟨m, es, clock, seen, es', h3, h5, h7, h8, h9, h10⟩
  · cases h3
  obtain ⟨e, s', q1, q2, q3, q4⟩ := h10 p rfl
  subst h1; subst q2
  exact Res.same I (sv := .tup [VT.toS (.agg k) p.1, VT.toS (.agg u) p.2]) (run_entry_at W b m clock s' es clock e h3 (I.psub _ _ h5) q1 h7.2) ⟨_, rfl, e.key, [e.val], rfl, VT.toS_den (k := .agg k) q3, e.val, [], rfl, VT.toS_den (k := .agg u) q4, rfl⟩ fresh

/-- A map whose memory is at its iterator: its name stays. -/
theorem Inv.parked (I : Inv cx P ε φ tab W) {c : Nat} {m : Nat} (hc : tab.get c = none) (hv : ε c = some (.map (some m))) (d : Nat) :
    ∃ φ', Inv cx P ε φ' (tab.set c (.ranged d)) W := by
  refine ⟨fun x => if x = c then [] else φ x, I.step [] (· = c) (by simp) (Ext.refl _ _) (PHeap.le_refl P) I.psub (fun b' hb' => .inl hb') (fun _ _ h => h) ?_ ?_ ?_ (fun c' w h h' => by rw [h'] at h; cases h)⟩
  · intro c' x hx hne
    rw [Map.get_set_other _ _ (fun e => hne e.symm)] at hx
    exact ⟨hx, if_neg hne, by simp⟩
  · intro c' x hx hN
    subst hN
    rw [Map.get_set_same] at hx; cases hx
    refine ⟨_, hv, ?_, ?_, ?_⟩ <;> simp [ChunkOK]
  · intro c' d' y z hc' hd' hcd hx hy
    rw [hc', hd'] at hcd; exact absurd rfl hcd
theorem rangeMap_sound (htt : TTOK Pg tt) (I : Inv cx P ε φ tab W) {fresh : Nat} (hfr : Fresh ε fresh) {t c : Nat} {m : MapTy} (hm : mapTy tt t = some m) {v : Value} (hv : ε c = some v)
    {sv : SV} {tab' : Tab} (h : (rangeMapP m c fresh).run tab = some (sv, tab')) : Res Pg cx P ε fresh W (Instr.range t v) sv tab' := by
  unfold rangeMapP at h
  obtain ⟨x0, hc0, h⟩ := run_get_inv h
  cases x0 <;> first | exact (run_fail_inv h).elim | skip
  case sealedM k u xs =>
    obtain ⟨w, e1, e2⟩ := I.chunk c _ hc0
    rw [hv] at e1; cases e1
    obtain ⟨ke, ve, vd, z, hu, _⟩ := mapTy_ok htt hm
    exact rangeRom_sound I hfr hu e2.1 h
  rename_i k0 v0 xs0
  simp only at h
  split at h
  case h_2 => exact (run_fail_inv h).elim
  rename_i p hp
  generalize hxs : castM p xs0 = xs at h
  obtain ⟨ke, ve, vd, z, hu, K, hvd, hz, hzr⟩ := mapTy_ok htt hm
  obtain ⟨h1, b, es, clock, h2, h3, h4, h5, hbo⟩ : ∃ (h1 : tab.get c = some (.map k0 v0 xs0)) (b : Nat) (es : Array MapEntry) (clock : Nat), ε c = some (.map (some b)) ∧ φ c = [b] ∧ W.heap[b]? = some (.map es clock) ∧ EntsRep P m.k m.v xs es.toList ∧ BornOK es clock := by
    obtain ⟨w, e1, e2⟩ := I.chunk c _ hc0
    obtain ⟨b, es, clock, g1, g2, g3, g4, g5⟩ := castM_map p xs0 e2
    rw [hxs] at g4
    exact ⟨hc0, b, es, clock, by rw [e1, g1], g2, g3, g4, g5⟩
  have h : (Prog.new fresh (.miter c m.k m.v xs xs none) (.pure (SV.one (.own fresh)))).run (tab.set c (.ranged fresh)) = some (sv, tab') := h
  obtain ⟨hn, h⟩ := run_new_inv h
  have hcf : c ≠ fresh := fun e => by rw [e, Map.get_set_same] at hn; cases hn
  obtain ⟨e1, e2⟩ := run_pure_inv h
  subst e1; subst e2
  rw [h2] at hv; cases hv
  obtain ⟨I1, H1⟩ := I.takeOut Held.nil h1
  rw [List.append_nil, h3] at H1
  have hb : b < W.heap.size := (H1.ok b (by simp)).2.1
  have hf : ε fresh = none := hfr fresh (Nat.le_refl _) (by unfold stride; omega)
  have hE : Ext [b] W { W with heap := W.heap.push (.mapIter (some b) clock #[] clock) } cx.td :=
    ⟨by simp, fun b' hb' _ => by simp [Array.getElem?_push, Nat.ne_of_lt hb'], rfl, rfl, fun _ => ⟨rfl, Nat.le_refl _⟩⟩
  obtain ⟨ε', φ', b1, b2, b3, b4⟩ := install_one I1 H1 hf hE (x := .miter c m.k m.v xs xs none) (v := .pointer (some ⟨W.heap.size, 0, none⟩)) (.inl ⟨_, rfl⟩) (fp' := [W.heap.size, b])
    (by simp; omega) (fun b' hb' => by
      simp at hb'
      rcases hb' with rfl | rfl
      · exact ⟨.inr (Nat.le_refl _), by simp⟩
      · exact ⟨.inl (by simp), by simp; omega⟩)
    (fun η hη => ⟨W.heap.size, b, es, clock, #[], es.toList, rfl, rfl, by simp [World.view], hη _ _ h2, by
        show (W.heap.push _)[b]? = _
        rw [Array.getElem?_push]; simp [Nat.ne_of_lt hb, h4], h5, hbo, List.Perm.of_eq (List.filter_eq_self.2 fun _ _ => by simp).symm, h5, fun p hp => by cases hp⟩) (psub_ext I1 H1 hE)
  have hdc : ∀ x, ((tab.del c).set fresh x).get c = none := fun x => by rw [Map.get_set_other _ _ (Ne.symm hcf), Map.get_del_same]
  obtain ⟨φ2, b5⟩ := b3.parked (hdc _) (b1 _ _ h2) fresh
  have b6 : Inv cx P ε' φ2 ((tab.set c (.ranged fresh)).set fresh (.miter c m.k m.v xs xs none)) _ := b5.eqv fun d => by
    by_cases e1 : fresh = d
    · subst e1
      rw [Map.get_set_same, Map.get_set_other _ _ hcf, Map.get_set_same]
    · by_cases e2 : c = d
      · subst e2
        rw [Map.get_set_other _ _ e1, Map.get_set_same, Map.get_set_same]
      · rw [Map.get_set_other _ _ e1, Map.get_set_other _ _ e2, Map.get_set_other _ _ e2, Map.get_set_other _ _ e1, Map.get_del_other _ e2]
  refine ⟨.pointer (some ⟨W.heap.size, 0, none⟩), _, P, ε', φ2, ?_, PHeap.le_refl P, b1, b2, b6, b4⟩
  simp [Instr.range, run_underlying hu, MapKept.run_getObj_map h4]
theorem entry_sound (I : Inv cx P ε φ tab W) (fresh : Nat) {d : Nat} {v : Value} (hv : ε d = some v) {c : Nat} {k u : VT} {xs rest : List (k.T × u.T)} {p : k.T × u.T} (hd : tab.get d = some (.miter c k u xs rest (some p))) :
    Res Pg cx P ε fresh W (Instr.entry v) (.tup [k.toS p.1, u.toS p.2]) tab := by
  obtain ⟨w, e1, b, m, es, clock, seen, es', h1, h2, h3, h4, h5, h6, h7, h8, h9, h10⟩ := I.chunk d _ hd
  rw [hv] at e1; cases e1
  obtain ⟨e, s', q1, q2, q3, q4⟩ := h10 p rfl
  subst h1; subst q2
  exact Res.same I (sv := .tup [k.toS p.1, u.toS p.2]) (run_entry_at W b m clock s' es clock e h3 h5 q1 h7.2) ⟨_, rfl, e.key, [e.val], rfl, VT.toS_den q3, e.val, [], rfl, VT.toS_den q4, rfl⟩ fresh

theorem EntsRep.eraseAt {k v : VT} : ∀ {xs : List (k.T × v.T)} {es : List MapEntry} {e : MapEntry}, EntsRep P k v xs es → e ∈ es → ∃ j p, xs[j]? = some p ∧ es[j]? = some e ∧ j < xs.length ∧ k.Rep P p.1 e.key ∧ v.Rep P p.2 e.val
  | [], es, e, h, hm => by simp only [EntsRep] at h; subst h; cases hm
  | x :: xs, _, e, ⟨e', es', h1, h2, h3, h4⟩, hm => by
    subst h1
    rcases List.mem_cons.1 hm with rfl | hm
    · exact ⟨0, x, rfl, rfl, by simp, h2, h3⟩
    · obtain ⟨j, p, q1, q2, q3, q4⟩ := EntsRep.eraseAt h4 hm
      exact ⟨j + 1, p, by simpa using q1, by simpa using q2, by simp; omega, q4⟩
theorem nodup_born {es : List MapEntry} (h : (es.map (·.born)).Nodup) {x y : MapEntry} (hx : x ∈ es) (hy : y ∈ es) (e : x.born = y.born) : x = y := by
  induction es with
  | nil => cases hx
  | cons a r ih =>
    rw [List.map_cons, List.nodup_cons] at h
    rcases List.mem_cons.1 hx with hx' | hx' <;> rcases List.mem_cons.1 hy with hy' | hy'
    · rw [hx', hy']
    · exact absurd (List.mem_map.2 ⟨y, hy', by rw [← e, hx']⟩) h.1
    · exact absurd (List.mem_map.2 ⟨x, hx', by rw [e, hy']⟩) h.1
    · exact ih h.2 hx' hy'
theorem erase_filter : ∀ {l : List MapEntry} {j : Nat} {e : MapEntry}, (l.map (·.born)).Nodup → l[j]? = some e → l.eraseIdx j = l.filter fun x => x.born != e.born
  | [], j, e, _, h => by cases h
  | a :: r, 0, e, hn, h => by
    simp at h; subst h
    rw [List.map_cons, List.nodup_cons] at hn
    have : r.filter (fun x => x.born != a.born) = r := List.filter_eq_self.2 fun x hx => by
      have : x.born ≠ a.born := fun he => hn.1 (List.mem_map.2 ⟨x, hx, he⟩)
      simpa using this
    simp [this]
  | a :: r, j + 1, e, hn, h => by
    rw [List.map_cons, List.nodup_cons] at hn
    have h' : r[j]? = some e := by simpa using h
    have hm : e ∈ r := List.mem_of_getElem? h'
    have : a.born ≠ e.born := fun he => hn.1 (List.mem_map.2 ⟨e, hm, he.symm⟩)
    simp [this, erase_filter hn.2 h']
/-- What was left, without one. -/
theorem left_erase {es es' : List MapEntry} {seen : Array Nat} {e : MapEntry} {j : Nat} (hn : (es.map (·.born)).Nodup) (hp : es'.Perm (es.filter fun x => !seen.contains x.born)) (hj : es'[j]? = some e) :
    (es'.eraseIdx j).Perm (es.filter fun x => !(seen.push e.born).contains x.born) := by
  have hnd' : (es'.map (·.born)).Nodup := (hp.map _).nodup_iff.2 ((List.filter_sublist.map _).nodup hn)
  rw [erase_filter hnd' hj]
  refine (hp.filter (fun x => x.born != e.born)).trans (List.Perm.of_eq ?_)
  rw [List.filter_filter]
  apply List.filter_congr
  intro x _
  by_cases hxe : x.born = e.born
  · simp [hxe]
  · simp [hxe]

/-- The next entry, whichever it is; or the range is over. -/
theorem nextMap_sound (I : Inv cx P ε φ tab W) {d c : Nat} {v : Value} (hv : ε d = some v) {k u : VT} {xs rest : List (k.T × u.T)} {cur : Option (k.T × u.T)} (hd : tab.get d = some (.miter c k u xs rest cur)) (ty : Nat) :
    (rest.length = 0 ∧ ∃ ε' φ', (Instr.next v false ty).run Pg W = .ok (.tuple #[.bool false]) W ∧ HMap.le ε ε' ∧ (∀ e, ε' e ≠ none → ε e ≠ none) ∧ Inv cx P ε' φ' (Map.set (tab.del d) c (.map k u xs)) W) ∨
    ∃ j p r W', rest[j]? = some p ∧ j < rest.length ∧ (Instr.next v false ty).run Pg W = .ok r W' ∧ DenV P ε (.tup [.inl (.bool true), k.toS p.1, u.toS p.2]) r ∧ Inv cx P ε φ (tab.set d (.miter c k u xs (rest.eraseIdx j) (some p))) W' := by
  obtain ⟨w, e1, b, m, es, clock, seen, es', h1, h2, h3, h4, h5, h6, h7, h8, h9, h10⟩ := I.chunk d _ hd
  rw [hv] at e1; cases e1
  subst h1
  have hlen := h9.len
  have hleft : (leftOf es seen).toList = es.toList.filter fun e => !seen.contains e.born := by simp [leftOf]
  have hl : (leftOf es seen).size = rest.length := by
    rw [← Array.length_toList, hleft, ← h8.length_eq, hlen]
  have hbm : b ≠ m := by
    have := I.nodup d _ hd
    rw [h2] at this
    simpa using this
  rcases run_next_at (P := Pg) W ty b m clock clock seen es clock h3 h5 h7.1 (Nat.le_refl _) with ⟨g1, g2⟩ | ⟨e, g1, w1, g2, g3⟩
  · left
    refine ⟨by omega, ?_⟩
    obtain ⟨I1, H1⟩ := I.takeOut Held.nil hd
    rw [List.append_nil, h2] at H1
    have hmH : Held cx P φ (tab.del d) W [m] := ⟨by simp, fun b' hb' => H1.ok b' (by simp at hb'; simp [hb']), fun c' x hx b' hb' hm' => H1.away c' x hx b' hb' (by simp at hm'; simp [hm'])⟩
    have q0 : Map.get ([(c, Value.map (some m), [m])] : HL2) c = some (Value.map (some m), [m]) := by simp [Map.get]
    have q1 : ∀ d', d' ≠ c → Map.get ([(c, Value.map (some m), [m])] : HL2) d' = none := fun d' hd' => by
      have : Nat.beq c d' = false := by cases hb : Nat.beq c d' with | true => exact absurd (nbeq_true hb).symm hd' | false => rfl
      simp [Map.get, this]
    refine ⟨addE [(c, Value.map (some m), [m])] ε, addF [(c, Value.map (some m), [m])] φ, g2, addE_le fun d' w f hd' => ?_, fun e he => ?_, ?_⟩
    · by_cases e : d' = c
      · subst e; rw [q0] at hd'; cases hd'; exact .inr h4
      · rw [q1 d' e] at hd'; cases hd'
    · by_cases e' : e = c
      · subst e'; rw [h4]; simp
      · simpa [addE, q1 e e'] using he
    · refine I1.install [m] _ (fun b' hb' => (hmH.ok b' hb').2) hmH.away (Ext.refl _ _) (PHeap.le_refl P) I.psub (fun b' hb' => .inl hb') ?_ ?_ ?_ (by simp [fpsOf]) ?_
      · intro d' w f hd'
        by_cases e : d' = c
        · subst e; rw [q0] at hd'; cases hd'; exact ⟨.inr h4, .inr (.inr (.inl ⟨_, rfl⟩))⟩
        · rw [q1 d' e] at hd'; cases hd'
      · intro d' y hd'
        by_cases e : d' = c
        · subst e; exact .inl ⟨_, q0⟩
        · right; rwa [Map.get_set_other _ _ (Ne.symm e)] at hd'
      · intro d' w f y hd' hy
        by_cases e : d' = c
        · subst e; rw [q0] at hd'; cases hd'; rw [Map.get_set_same] at hy; cases hy
          exact ⟨m, es, clock, rfl, rfl, h5, h6, h7⟩
        · rw [q1 d' e] at hd'; cases hd'
      · intro b' hb'
        have hb' : b' = m := by simpa [fpsOf] using hb'
        subst hb'
        exact ⟨.inl (by simp), (hmH.ok b' (by simp)).1, (hmH.ok b' (by simp)).2.1⟩
  · right
    rw [hleft] at g1
    obtain ⟨j, p, q1, q2, q3, q4, q5⟩ := EntsRep.eraseAt h9 (h8.mem_iff.2 g1)
    have hw1 : w1.heap = W.heap ∧ w1.os = W.os ∧ w1.output = W.output ∧ w1.tape = W.tape ∧ W.drawn ≤ w1.drawn := by rcases g2 with rfl | rfl <;> exact ⟨rfl, rfl, rfl, rfl, by first | exact Nat.le_refl _ | exact Nat.le_succ _⟩
    refine ⟨j, p, _, _, q1, q3, g3, ⟨_, rfl, .bool true, _, rfl, rfl, e.key, [e.val], rfl, VT.toS_den q4, e.val, [], rfl, VT.toS_den q5, rfl⟩, ?_⟩
    have I1 : Inv cx P ε φ tab w1 := I.world hw1.1 hw1.2.1 hw1.2.2.1 fun _ => hw1.2.2.2
    obtain ⟨l1, l2, l3⟩ := I.live d _ hd b (by simp [h2])
    have hsb : ∀ b', b ≠ b' → (ChangeMaps.setBlock w1 b (.mapIter (some m) clock (seen.push e.born) clock)).heap[b']? = W.heap[b']? := fun b' hb' => by
      simp [ChangeMaps.setBlock, Array.getElem?_setIfInBounds_ne hb', hw1.1]
    have hsz : (ChangeMaps.setBlock w1 b (.mapIter (some m) clock (seen.push e.born) clock)).heap.size = W.heap.size := by simp [ChangeMaps.setBlock, hw1.1]
    refine I.step [b, m] (· = d) ?_ ⟨by rw [hsz]; exact Nat.le_refl _, fun b' _ hn => hsb b' (fun e => hn (by simp [e])), by simp [ChangeMaps.setBlock, hw1.2.1], by simp [ChangeMaps.setBlock, hw1.2.2.1], fun _ => ⟨by simp [ChangeMaps.setBlock, hw1.2.2.2.1], by simp [ChangeMaps.setBlock, hw1.2.2.2.2]⟩⟩ (PHeap.le_refl P) ?_ (fun b' hb' => .inl hb') (fun _ _ h => h) ?_ ?_ ?_ (fun c' w h h' => by rw [h'] at h; cases h)
    · intro b' hb'
      have := I.live d _ hd b' (by rw [h2]; exact hb')
      exact ⟨this.2.1, this.2.2⟩
    · intro b' o hb'
      by_cases e : b = b'
      · subst e; rw [l1] at hb'; cases hb'
      · rw [hsb b' e]; exact I.psub b' o hb'
    · intro c' x hx hne
      have hcd : d ≠ c' := fun e => hne e.symm
      rw [Map.get_set_other _ _ hcd] at hx
      exact ⟨hx, rfl, fun b' hb' hm' => I.apart d c' _ x hcd hd hx b' (by rw [h2]; exact hm') hb'⟩
    · intro c' x hx hN
      subst hN
      rw [Map.get_set_same] at hx; cases hx
      refine ⟨_, hv, ?_, by rw [h2]; simpa using hbm, fun b' hb' => ?_⟩
      · rw [h2]
        refine ⟨b, m, es, clock, seen.push e.born, es'.eraseIdx j, rfl, rfl, ?_, h4, ?_, h6, h7, left_erase h7.2 h8 q2, h9.erase j, fun p' hp' => ?_⟩
        · show (ChangeMaps.setBlock w1 b _).heap[b]? = _
          simp [ChangeMaps.setBlock, hw1.1, l2]
        · show (ChangeMaps.setBlock w1 b _).heap[m]? = _
          rw [hsb m hbm]; exact h5
        · cases hp'
          exact ⟨e, seen, (List.mem_filter.1 g1).1, rfl, q4, q5⟩
      · rw [h2] at hb'
        have := I.live c' _ hd b' (by rw [h2]; exact hb')
        exact ⟨.inl hb', this.1, by rw [hsz]; exact this.2.1⟩
    · intro c' d' y z hc' hd' hcd hx hy
      rw [hc', hd'] at hcd; exact absurd rfl hcd
/-- The same, over a map that is only read. -/
theorem nextRom_sound (I : Inv cx P ε φ tab W) {d : Nat} {v : Value} (hv : ε d = some v) {k u : CTs} {rest : List (k.T × u.T)} {cur : Option (k.T × u.T)} (hd : tab.get d = some (.riter k u rest cur)) (ty : Nat) :
    (rest.length = 0 ∧ ∃ ε' φ', (Instr.next v false ty).run Pg W = .ok (.tuple #[.bool false]) W ∧ HMap.le ε ε' ∧ (∀ e, ε' e ≠ none → ε e ≠ none) ∧ Inv cx P ε' φ' (tab.del d) W) ∨
    ∃ j p r W', rest[j]? = some p ∧ j < rest.length ∧ (Instr.next v false ty).run Pg W = .ok r W' ∧ DenV P ε (.tup [.inl (.bool true), VT.toS (.agg k) p.1, VT.toS (.agg u) p.2]) r ∧ Inv cx P ε φ (tab.set d (.riter k u (rest.eraseIdx j) (some p))) W' := by
  obtain ⟨w, e1, b, h1, h2, hx⟩ := I.chunk d _ hd
  rw [hv] at e1; cases e1
  subst h1
  have gone : ∃ ε' φ', HMap.le ε ε' ∧ (∀ e, ε' e ≠ none → ε e ≠ none) ∧ Inv cx P ε' φ' (tab.del d) W := ⟨ε, φ, fun _ _ h => h, fun _ h => h, (I.takeOut Held.nil hd).1⟩
  rcases hx with ⟨rfl, rfl, n0, m0, hb0⟩ | ⟨m, es, clock, seen, es', h3, h5, h7, h8, h9, h10⟩
  · left
    obtain ⟨ε', φ', g1, g2, g3⟩ := gone
    refine ⟨rfl, ε', φ', ?_, g1, g2, g3⟩
    have hb0 : W.heap[b]? = some (.mapIter none n0 #[] m0) := hb0
    simp [Instr.next, getObj, Sem.run, hb0, Result.andThen]
  have h5' := I.psub _ _ h5
  have hlen := h9.len
  have hleft : (leftOf es seen).toList = es.toList.filter fun e => !seen.contains e.born := by simp [leftOf]
  have hl : (leftOf es seen).size = rest.length := by
    rw [← Array.length_toList, hleft, ← h8.length_eq, hlen]
  rcases run_next_at (P := Pg) W ty b m clock clock seen es clock h3 h5' h7.1 (Nat.le_refl _) with ⟨g1, g2⟩ | ⟨e, g1, w1, g2, g3⟩
  · left
    obtain ⟨ε', φ', k1, k2, k3⟩ := gone
    exact ⟨by omega, ε', φ', g2, k1, k2, k3⟩
  · right
    rw [hleft] at g1
    obtain ⟨j, p, q1, q2, q3, q4, q5⟩ := EntsRep.eraseAt h9 (h8.mem_iff.2 g1)
    have hw1 : w1.heap = W.heap ∧ w1.os = W.os ∧ w1.output = W.output ∧ w1.tape = W.tape ∧ W.drawn ≤ w1.drawn := by rcases g2 with rfl | rfl <;> exact ⟨rfl, rfl, rfl, rfl, by first | exact Nat.le_refl _ | exact Nat.le_succ _⟩
    refine ⟨j, p, _, _, q1, q3, g3, ⟨_, rfl, .bool true, _, rfl, rfl, e.key, [e.val], rfl, VT.toS_den (k := .agg k) q4, e.val, [], rfl, VT.toS_den (k := .agg u) q5, rfl⟩, ?_⟩
    have I1 : Inv cx P ε φ tab w1 := I.world hw1.1 hw1.2.1 hw1.2.2.1 fun _ => hw1.2.2.2
    obtain ⟨l1, l2, l3⟩ := I.live d _ hd b (by simp [h2])
    have hsb : ∀ b', b ≠ b' → (ChangeMaps.setBlock w1 b (.mapIter (some m) clock (seen.push e.born) clock)).heap[b']? = W.heap[b']? := fun b' hb' => by
      simp [ChangeMaps.setBlock, Array.getElem?_setIfInBounds_ne hb', hw1.1]
    have hsz : (ChangeMaps.setBlock w1 b (.mapIter (some m) clock (seen.push e.born) clock)).heap.size = W.heap.size := by simp [ChangeMaps.setBlock, hw1.1]
    refine I.step [b] (· = d) ?_ ⟨by rw [hsz]; exact Nat.le_refl _, fun b' _ hn => hsb b' (fun e => hn (by simp [e])), by simp [ChangeMaps.setBlock, hw1.2.1], by simp [ChangeMaps.setBlock, hw1.2.2.1], fun _ => ⟨by simp [ChangeMaps.setBlock, hw1.2.2.2.1], by simp [ChangeMaps.setBlock, hw1.2.2.2.2]⟩⟩ (PHeap.le_refl P) ?_ (fun b' hb' => .inl hb') (fun _ _ h => h) ?_ ?_ ?_ (fun c' w h h' => by rw [h'] at h; cases h)
    · intro b' hb'
      have := I.live d _ hd b' (by rw [h2]; exact hb')
      exact ⟨this.2.1, this.2.2⟩
    · intro b' o hb'
      by_cases e : b = b'
      · subst e; rw [l1] at hb'; cases hb'
      · rw [hsb b' e]; exact I.psub b' o hb'
    · intro c' x hx hne
      have hcd : d ≠ c' := fun e => hne e.symm
      rw [Map.get_set_other _ _ hcd] at hx
      exact ⟨hx, rfl, fun b' hb' hm' => I.apart d c' _ x hcd hd hx b' (by rw [h2]; exact hm') hb'⟩
    · intro c' x hx hN
      subst hN
      rw [Map.get_set_same] at hx; cases hx
      refine ⟨_, hv, ?_, by rw [h2]; simp, fun b' hb' => ?_⟩
      · rw [h2]
        refine ⟨b, rfl, rfl, .inr ⟨m, es, clock, seen.push e.born, es'.eraseIdx j, ?_, h5, h7, left_erase h7.2 h8 q2, h9.erase j, fun p' hp' => ?_⟩⟩
        · show (ChangeMaps.setBlock w1 b _).heap[b]? = _
          simp [ChangeMaps.setBlock, hw1.1, l2]
        · cases hp'
          exact ⟨e, seen, (List.mem_filter.1 g1).1, rfl, q4, q5⟩
      · rw [h2] at hb'
        have := I.live c' _ hd b' (by rw [h2]; exact hb')
        exact ⟨.inl hb', this.1, by rw [hsz]; exact this.2.1⟩
    · intro c' d' y z hc' hd' hcd hx hy
      rw [hc', hd'] at hcd; exact absurd rfl hcd
end
end Go.Sx
