/- A walk of Go code by plain functions is sound. -/
import Derived.Test.YtegncnhhofbmiaaSxSound3
namespace Go.Sx
section
variable {Pg : Program} {tt : TT} {cx : Cx} {P : PHeap} {ε : HMap} {φ : Nat → List Nat} {tab : Tab} {W : World}

theorem unP_sound (op : UnOp) (x : SV) (v : Value) (hx : DenV P ε x v) (sv : SV) (tab' : Tab) (h : (unP op x).run tab = some (sv, tab')) :
    tab' = tab ∧ ∃ r, (Op.unary op v).run Pg W = .ok r W ∧ DenV P ε sv r := by
  unfold unP at h
  split at h
  · obtain ⟨rfl, rfl⟩ := run_pure_inv h; cases hx; exact ⟨rfl, _, rfl, rfl⟩
  · obtain ⟨rfl, rfl⟩ := run_pure_inv h; cases hx; refine ⟨rfl, _, rfl, ?_⟩; simp [DenV, Den, IK.neg_toInt]
  · obtain ⟨rfl, rfl⟩ := run_pure_inv h; cases hx; refine ⟨rfl, _, rfl, ?_⟩; simp [DenV, Den, IK.com_toInt]
  · exact (run_fail_inv h).elim

theorem goLen_den (n : Nat) (h : n < 2 ^ 63) : DenV P ε (goLen n) (goInt n) := by
  show Value.int .i64 n = Value.int .i64 (IK.toInt .i64 (IK.ofInt .i64 n))
  rw [IK.toInt_ofInt, wrap_id]
  constructor
  · simp [IntKind.min, IntKind.signed, IntKind.bits]
  · simp [IntKind.max, IntKind.signed, IntKind.bits]; omega

theorem Bare.len {v : Value} (h : Bare v) : ∃ a, v = .slice a 0 0 := let ⟨a, h1, _⟩ := h; ⟨a, h1⟩

def strKind (x : S1) (k : TK) : Prop := match x with | .str _ => k = .str | _ => ∃ e, k = .slice e
theorem lenP_sound (I : Inv cx P ε φ tab W) (t : Nat) (x : S1) (v : Value) (hx : Den P ε x v) (sv : SV) (tab' : Tab) (h : (lenP x).run tab = some (sv, tab'))
    (d : TD) (hd : tdOf Pg t = some d) (hk : strKind x d.kind) (ty : Nat) :
    tab' = tab ∧ ∃ r, (Builtin.len_ #[t] ty #[v]).run Pg W = .ok r W ∧ DenV P ε sv r := by
  have slice : (∃ e, d.kind = .slice e) → ∀ a n c, v = .slice a n c → (Builtin.len_ #[t] ty #[v]).run Pg W = .ok (goInt n) W := by
    intro ⟨el, hk⟩ a n c e
    simp [Builtin.len_, run_underlying (td_slice hd hk), e]
  have str : d.kind = .str → ∀ s, v = .string s → (Builtin.len_ #[t] ty #[v]).run Pg W = .ok (goInt s.size) W := by
    intro hk s e
    simp [Builtin.len_, run_underlying (td_str hd hk), e]
  have row : ∀ {e : CTs} {xs : List e.T} {H : HView} {fp : List Nat}, RowRep P H e xs v fp → xs.length < 2 ^ 63 ∧ ∃ a c, v = .slice a xs.length c := by
    intro e xs H fp hr
    rcases hr with ⟨h1, ⟨a, h2, _⟩, _⟩ | ⟨b, off, cap, cs, T, fz, h1, _, _, _, h5, h6, _⟩
    · subst h1; exact ⟨by simp, a, 0, by simpa using h2⟩
    · exact ⟨by omega, _, cap, h1⟩
  unfold lenP at h
  cases x <;> first | exact (run_fail_inv h).elim | skip
  case str s =>
    obtain ⟨rfl, rfl⟩ := run_pure_inv h
    obtain ⟨h1, h2⟩ := hx
    refine ⟨rfl, _, str hk _ h1, ?_⟩
    have : (⟨s.toArray⟩ : ByteArray).size = s.length := by simp [ByteArray.size]
    rw [this]; exact goLen_den _ h2
  case ro e xs =>
    obtain ⟨rfl, rfl⟩ := run_pure_inv h
    simp only [Den, CT.Rep] at hx
    obtain ⟨a, cap, h1, h2, h3, _⟩ := hx
    exact ⟨rfl, _, slice hk _ _ _ h1, goLen_den _ (by omega)⟩
  case aview c n =>
    obtain ⟨rfl, rfl⟩ := run_pure_inv h
    obtain ⟨h0, b, _, h1⟩ := hx
    exact ⟨rfl, _, slice hk _ _ _ h1, goLen_den _ (by omega)⟩
  case nils =>
    obtain ⟨rfl, rfl⟩ := run_pure_inv h
    obtain ⟨a, h1⟩ := Bare.len hx
    exact ⟨rfl, _, slice hk _ _ _ h1, goLen_den 0 (by simp)⟩
  case rs1 off c k =>
    obtain ⟨rfl, rfl⟩ := run_pure_inv h
    rcases hx with ⟨h0, h1⟩ | ⟨h0, b, o, cap, w, h1, _⟩
    · obtain ⟨a, h1⟩ := Bare.len h1
      subst h0
      exact ⟨rfl, _, slice hk _ _ _ h1, goLen_den 0 (by simp)⟩
    · subst h0
      exact ⟨rfl, _, slice hk _ _ _ h1, goLen_den 1 (by simp)⟩
  case view c z off len =>
    obtain ⟨rfl, rfl⟩ := run_pure_inv h
    rcases hx with ⟨b, o, n, cap, cp, h1, h2, h3, h4, h5, h6, h7⟩ | ⟨h1, h2⟩
    · exact ⟨rfl, _, slice hk _ _ _ h2, goLen_den _ (by omega)⟩
    · obtain ⟨a, h3⟩ := Bare.len h2
      subst h1
      exact ⟨rfl, _, slice hk _ _ _ h3, goLen_den 0 (by simp)⟩
  case own c =>
    obtain ⟨y, hc, h⟩ := run_get_inv h
    obtain ⟨hh, e1, e2⟩ := I.chunk c y hc
    have hε : ε c = some v := hx
    rw [hε] at e1; cases e1
    cases y <;> first | exact (run_fail_inv h).elim | skip
    · obtain ⟨rfl, rfl⟩ := run_pure_inv h
      obtain ⟨h3, a, cp, h4⟩ := row e2
      exact ⟨rfl, _, slice hk _ _ _ h4, goLen_den _ h3⟩
    · obtain ⟨rfl, rfl⟩ := run_pure_inv h
      have e2 := e2.1
      simp only [CT.Rep] at e2
      obtain ⟨a, cap, h1, h2, h3, _⟩ := e2
      exact ⟨rfl, _, slice hk _ _ _ h1, goLen_den _ (by omega)⟩

theorem minI_toInt (k : IntKind) (x y : IK k) : IK.toInt k (IK.minI k x y) = if IK.toInt k y < IK.toInt k x then IK.toInt k y else IK.toInt k x := by
  unfold IK.minI; rw [IK.ltb_eq]
  by_cases h : IK.toInt k y < IK.toInt k x <;> simp [h]
theorem maxI_toInt (k : IntKind) (x y : IK k) : IK.toInt k (IK.maxI k x y) = if IK.toInt k y > IK.toInt k x then IK.toInt k y else IK.toInt k x := by
  unfold IK.maxI; rw [IK.ltb_eq]
  by_cases h : IK.toInt k x < IK.toInt k y <;> simp [h]
theorem minmaxP_sound (m : Bool) (x y : SV) (v u : Value) (hx : DenV P ε x v) (hy : DenV P ε y u) (sv : SV) (tab' : Tab) (h : (minmaxP m x y).run tab = some (sv, tab')) :
    tab' = tab ∧ ∃ r, (∀ (ats : Array TypeId) (ty : Nat), (if m then Builtin.max_ ats ty #[v, u] else Builtin.min_ ats ty #[v, u]).run Pg W = .ok r W) ∧ DenV P ε sv r := by
  unfold minmaxP at h
  split at h
  · rename_i k a k' b
    cases hk : kindEq k' k with
    | none => rw [hk] at h; exact (run_fail_inv h).elim
    | some p =>
      obtain ⟨p⟩ := p
      rw [hk] at h
      subst p
      obtain ⟨rfl, rfl⟩ := run_pure_inv h
      cases hx; cases hy
      refine ⟨rfl, _, fun ats ty => ?_, rfl⟩
      cases m
      · simp [Builtin.min_, Builtin.min2, minI_toInt]
      · simp [Builtin.max_, Builtin.max2, maxI_toInt]
  · exact (run_fail_inv h).elim

/-! ### Slices of slices -/
/-- A bound, and its value. -/
def BoundV (P : PHeap) (ε : HMap) : Option SV → Option Value → Prop
  | none, none => True
  | some s, some v => DenV P ε s v
  | _, _ => False
theorem bound_run {s : SV} {v : Value} (hd : DenV P ε s v) {dflt : Nat} {r : Option Int × Nat} (h : boundP (some s) dflt = some r) (y y' : Nat) (hy : y ≤ y') (hw : within r y = true)
    (code : BoundsCode) : (Instr.sliceBound v y' code).run Pg W = .ok r.2 W ∧ r.2 ≤ y := by
  unfold boundP at h
  split at h
  · rename_i e; cases e
  · rename_i k n e
    cases e
    simp only [Option.some.injEq] at h
    subst h
    simp only [within, Bool.and_eq_true, decide_eq_true_eq] at hw
    have h2 := Nat.le_of_ble_eq_true hw.2
    cases hd
    refine ⟨?_, h2⟩
    have : (0 : Int) ≤ IK.toInt k n ∧ IK.toInt k n ≤ (y' : Int) := ⟨hw.1, by omega⟩
    simp [Instr.sliceBound, asIntOf, this]
  · cases h
theorem bounds_run {hi lo : Option SV} {vh vl : Option Value} (hh : BoundV P ε hi vh) (hl : BoundV P ε lo vl) {len cap : Nat} (hc : len ≤ cap) {h l : Option Int × Nat}
    (h1 : boundP hi len = some h) (h2 : boundP lo 0 = some l) (hw : (within h len && within l h.2) = true) (isS : Bool) :
    (Instr.sliceBounds isS len cap vl vh none).run Pg W = .ok (l.2, h.2, cap) W ∧ l.2 ≤ h.2 ∧ h.2 ≤ len := by
  simp only [Bool.and_eq_true] at hw
  have hi' : (match vh with
      | some v => Instr.sliceBound v cap (if isS then .sliceAcap else .sliceAlen)
      | none => pure len).run Pg W = .ok h.2 W ∧ h.2 ≤ len := by
    cases hi with
    | none =>
      cases vh with
      | none => simp only [boundP, Option.some.injEq] at h1; subst h1; exact ⟨rfl, Nat.le_refl _⟩
      | some v => exact hh.elim
    | some s =>
      cases vh with
      | none => exact hh.elim
      | some v => exact bound_run hh h1 len cap hc hw.1 _
  have lo' : (match vl with
      | some v => Instr.sliceBound v h.2 .sliceB
      | none => pure 0).run Pg W = .ok l.2 W ∧ l.2 ≤ h.2 := by
    cases lo with
    | none =>
      cases vl with
      | none => simp only [boundP, Option.some.injEq] at h2; subst h2; exact ⟨rfl, Nat.zero_le _⟩
      | some v => exact hl.elim
    | some s =>
      cases vl with
      | none => exact hl.elim
      | some v => exact bound_run hl h2 h.2 h.2 (Nat.le_refl _) hw.2 _
  refine ⟨?_, lo'.2, hi'.2⟩
  have e0 : ∀ n : Nat, (pure n : Sem Nat).run Pg W = .ok n W := fun _ => rfl
  cases vh with
  | none =>
    have hl' : len = h.2 := by have := hi'.1; rw [e0] at this; injection this
    cases vl with
    | none =>
      have : 0 = l.2 := by have := lo'.1; rw [e0] at this; injection this
      simp [Instr.sliceBounds, ← hl', ← this]
    | some v =>
      simp only at lo'
      have := lo'.1
      rw [← hl'] at this
      simp [Instr.sliceBounds, this, ← hl']
  | some v =>
    simp only at hi'
    cases vl with
    | none =>
      have : 0 = l.2 := by have := lo'.1; rw [e0] at this; injection this
      simp [Instr.sliceBounds, hi'.1, ← this]
    | some u => simp only at lo'; simp [Instr.sliceBounds, hi'.1, lo'.1]
theorem sliceGo_inv {hi lo : Option SV} {len : Nat} {k : Nat → Nat → Prog SV} {sv : SV} {tab' : Tab}
    (h : (goSl lo hi len k).run tab = some (sv, tab')) :
    ∃ h' l', boundP hi len = some h' ∧ boundP lo 0 = some l' ∧ (within h' len && within l' h'.2) = true ∧ (k l'.2 h'.2).run tab = some (sv, tab') := by
  unfold goSl at h
  split at h
  · rename_i h' l' e1 e2
    rcases run_ite_inv h with ⟨hw, h⟩ | ⟨_, h⟩
    · exact ⟨h', l', e1, e2, hw, h⟩
    · exact (run_fail_inv h).elim
  · exact (run_fail_inv h).elim

theorem extract_list (b : List UInt8) (l h : Nat) : (⟨b.toArray⟩ : ByteArray).extract l h = ⟨((b.take h).drop l).toArray⟩ := by
  apply ByteArray.ext
  rw [ByteArray.data_extract]
  simp [List.drop_take]

theorem ro_slice {e : CTs} {xs : List e.T} {a : Option Addr} {n cap l h : Nat} (hr : (CT.ro e).Rep P xs (.slice a n cap)) (hl : l ≤ h) (hh : h ≤ n) :
    (CT.ro e).Rep P ((xs.take h).drop l) (.slice (if cap = l then a else a.map (·.add (l * e.size))) (h - l) (cap - l)) := by
  simp only [CT.Rep] at hr ⊢
  obtain ⟨a', cap', h1, h2, h3, h4, h5⟩ := hr
  injection h1 with e1 e2 e3
  subst e1; subst e3; subst e2
  have hlen : ((xs.take h).drop l).length = h - l := by simp; omega
  refine ⟨_, cap - l, by rw [hlen], by rw [hlen]; omega, by omega, ?_, ?_⟩
  · intro hn
    by_cases c : cap = l
    · rw [if_pos c] at hn; omega
    · rw [if_neg c] at hn
      cases a with
      | none => have := h4 rfl; omega
      | some ad => cases hn
  · intro ad had
    by_cases c : cap = l
    · rw [if_pos c] at had
      refine ⟨fun _ => by omega, fun i hi => ?_⟩
      rw [hlen] at hi; omega
    · rw [if_neg c] at had
      cases a with
      | none => cases had
      | some ad0 =>
        simp only [Option.map_some, Option.some.injEq] at had
        obtain ⟨s1, s2⟩ := h5 ad0 rfl
        by_cases c0 : 0 < cap
        case neg => exact absurd (by omega) c
        rw [add_spot (s1 c0)] at had
        subst had
        refine ⟨fun _ => rfl, fun i hi => ?_⟩
        rw [hlen] at hi
        have := s2 (l + i) (by omega)
        have hx : ((xs.take h).drop l)[i]'(by rw [hlen]; exact hi) = xs[l + i]'(by omega) := by simp
        rw [hx]
        have e4 : ∀ j, ad0.off + l * e.size + i * e.size + j = ad0.off + (l + i) * e.size + j := fun j => by rw [Nat.add_mul]; omega
        simpa only [e4] using this

theorem sliceP_sound (I : Inv cx P ε φ tab W) (t : Nat) (d : TD) (hd : tdOf Pg t = some d) (size : Nat) (s : SV) (v : Value) (hs : DenV P ε s v)
    (hk : match isStr s with | true => d.kind = .str | false => ∃ e ed, d.kind = .slice e ∧ tdOf Pg e = some ed ∧ ed.size = size)
    (lo hi mx : Option SV) (vl vh vm : Option Value) (hl : BoundV P ε lo vl) (hh : BoundV P ε hi vh) (hm : BoundV P ε mx vm)
    (sv : SV) (tab' : Tab) (h : (sliceP size s lo hi mx).run tab = some (sv, tab')) :
    tab' = tab ∧ ∃ r, (Instr.sliceAt t v vl vh vm).run Pg W = .ok r W ∧ DenV P ε sv r := by
  -- the model's own way, by the type
  have slice : ∀ a n c, v = .slice a n c → ∃ e ed, d.kind = .slice e ∧ tdOf Pg e = some ed ∧ ed.size = size := by
    intro a n c e
    cases hs' : isStr s with
    | false => rw [hs'] at hk; exact hk
    | true =>
      unfold isStr at hs'
      split at hs'
      · obtain ⟨h1, _⟩ := hs; rw [h1] at e; cases e
      · cases hs'
  have runS : ∀ a n c l h' m, v = .slice a n c → (Instr.sliceBounds true n c vl vh vm).run Pg W = .ok (l, h', m) W →
      (Instr.sliceAt t v vl vh vm).run Pg W = .ok (.slice (if m = l then a else a.map (·.add (l * size))) (h' - l) (m - l)) W := by
    intro a n c l h' m e hb
    obtain ⟨el, ed, k1, k2, k3⟩ := slice a n c e
    subst e
    have hu := td_slice hd k1
    simp [Instr.sliceAt, run_underlying hu, Instr.slice, hb, td_size k2, k3]
  have runT : d.kind = .str → ∀ b l h' m, v = .string b → vm = none → (Instr.sliceBounds false b.size b.size vl vh none).run Pg W = .ok (l, h', m) W →
      (Instr.sliceAt t v vl vh vm).run Pg W = .ok (.string (b.extract l h')) W := by
    intro hk b l h' m e hn hb
    subst e; subst hn
    have hu := td_str hd hk
    simp [Instr.sliceAt, run_underlying hu, Instr.slice, hb]
  cases mx with
  | some m =>
    have fin : ∀ a n c, v = .slice a n c → (∀ ad : Addr, a = some ad → (0 < 0 → ad.spot = none)) → (∃ k h k' m' vh' vm', hi = some (.one (.int k h)) ∧ m = .one (.int k' m') ∧ lo = none ∧ vh = some vh' ∧ vm = some vm' ∧ IK.toInt k h = 0 ∧ IK.toInt k' m' = 0 ∧
        vh' = .int k (IK.toInt k h) ∧ vm' = .int k' (IK.toInt k' m')) → ∃ r, (Instr.sliceAt t v vl vh vm).run Pg W = .ok r W ∧ DenV P ε (.one .nils) r := by
      intro a n c e hsp ⟨k, h0, k', m', vh', vm', e1, e2, e3, e4, e5, e6, e7, e8, e9⟩
      have hvl : vl = none := by
        cases vl with
        | none => rfl
        | some _ => rw [e3] at hl; exact hl.elim
      refine ⟨.slice a 0 0, ?_, a, rfl, hsp⟩
      have := runS a n c 0 0 0 e (by
        rw [hvl, e4, e5, e8, e9, e6, e7]
        simp [Instr.sliceBounds, Instr.sliceBound, asIntOf])
      rw [this]; simp
    unfold sliceP at h
    simp only at h
    split at h
    · rename_i k h0 k' m'
      rcases run_ite_inv h with ⟨hz, g⟩ | ⟨hz, g⟩ <;> clear h <;> have h := g <;> clear g
      · rw [Bool.and_eq_true] at hz
        obtain ⟨z1, z2⟩ := hz
        have z1 := of_decide_eq_true z1
        have z2 := of_decide_eq_true z2
        cases vh with
        | none => exact hh.elim
        | some vh' =>
        cases vm with
        | none => exact hm.elim
        | some vm' =>
        have pk := fun a n c e hsp => fin a n c e hsp ⟨k, h0, k', m', vh', vm', rfl, rfl, rfl, rfl, rfl, z1, z2, hh, hm⟩
        split at h
        · obtain ⟨rfl, rfl⟩ := run_pure_inv h
          have hs2 : (CT.ro _).Rep P _ v := hs
          simp only [CT.Rep] at hs2
          obtain ⟨a, cap, g1, g2, g3, g4, g5⟩ := hs2
          exact ⟨rfl, pk _ _ _ g1 (fun ad had hz => absurd hz (by omega))⟩
        · obtain ⟨rfl, rfl⟩ := run_pure_inv h
          obtain ⟨a, g1, g2⟩ := hs
          exact ⟨rfl, pk _ _ _ g1 g2⟩
        · rename_i c
          obtain ⟨y, hc, h⟩ := run_get_inv h
          obtain ⟨hn, e1, e2⟩ := I.chunk c y hc
          have hε : ε c = some v := hs
          rw [hε] at e1; cases e1
          cases y <;> first | exact (run_fail_inv h).elim | skip
          · obtain ⟨rfl, rfl⟩ := run_pure_inv h
            rcases e2 with ⟨q1, ⟨a, q2, q3⟩, _⟩ | ⟨b, off, cap, cs, T, fz, q1, _⟩
            · exact ⟨rfl, pk _ _ _ q2 q3⟩
            · exact ⟨rfl, pk _ _ _ q1 (fun ad had _ => by cases had; rfl)⟩
          · obtain ⟨rfl, rfl⟩ := run_pure_inv h
            have hs2 := e2.1
            simp only [CT.Rep] at hs2
            obtain ⟨a, cap, g1, g2, g3, g4, g5⟩ := hs2
            exact ⟨rfl, pk _ _ _ g1 (fun ad had hz => absurd hz (by omega))⟩
        · exact (run_fail_inv h).elim
      · rw [Bool.and_eq_false_iff, decide_eq_false_iff_not, decide_eq_false_iff_not] at hz
        split at h
        · rename_i c
          obtain ⟨y, hc, h⟩ := run_get_inv h
          obtain ⟨hn, e1, e2⟩ := I.chunk c y hc
          have hε : ε c = some v := hs
          rw [hε] at e1; cases e1
          cases y <;> first | exact (run_fail_inv h).elim | skip
          rename_i e xs
          simp only at h
          split at h
          · rename_i hsz
            rcases run_ite_inv h with ⟨hw, h⟩ | ⟨_, h⟩
            · obtain ⟨rfl, rfl⟩ := run_pure_inv h
              simp only [Bool.and_eq_true, decide_eq_true_eq] at hw
              obtain ⟨⟨w1, w2⟩, w3⟩ := hw
              have w3 := Nat.le_of_ble_eq_true w3
              cases vh with
              | none => exact hh.elim
              | some vh' =>
              cases vm with
              | none => exact hm.elim
              | some vm' =>
              cases vl with
              | some _ => exact hl.elim
              | none =>
              have hh : vh' = .int k (IK.toInt k h0) := hh
              have hm : vm' = .int k' (IK.toInt k' m') := hm
              subst hh; subst hm
              rcases e2 with ⟨q1, _⟩ | ⟨b, off, cap, cs, T, fz, q1, _, _, _, q5, q6, q7, _⟩
              · rw [q1] at w3
                simp at w3
                omega
              · have hb : (Instr.sliceBounds true xs.length cap none (some (.int k (IK.toInt k h0))) (some (.int k' (IK.toInt k' m')))).run Pg W = .ok (0, (IK.toInt k h0).toNat, (IK.toInt k' m').toNat) W := by
                  have b1 : 0 ≤ IK.toInt k' m' := by omega
                  have b2 : IK.toInt k' m' ≤ (cap : Int) := by omega
                  have b3 : IK.toInt k h0 ≤ (((IK.toInt k' m').toNat : Nat) : Int) := by omega
                  simp [Instr.sliceBounds, Instr.sliceBound, asIntOf, w1, b1, b2]
                  intro hx
                  omega
                have hr := runS _ _ _ 0 _ _ q1 hb
                refine ⟨rfl, _, hr, ?_⟩
                rw [if_neg (by omega)]
                refine .inl ⟨b, off, xs.length, cap, (IK.toInt k' m').toNat, by rw [hε, q1], ?_, by omega, q5, q6, by omega, by omega⟩
                simp [add_none]
            · exact (run_fail_inv h).elim
          · exact (run_fail_inv h).elim
        · exact (run_fail_inv h).elim
    · exact (run_fail_inv h).elim
  | none =>
    cases vm with
    | some v => exact hm.elim
    | none =>
    unfold sliceP at h
    simp only at h
    split at h
    · rename_i b
      obtain ⟨h', l', e1, e2, hw, h⟩ := sliceGo_inv h
      obtain ⟨rfl, rfl⟩ := run_pure_inv h
      obtain ⟨g1, g2⟩ := hs
      have hsz : (⟨b.toArray⟩ : ByteArray).size = b.length := by simp [ByteArray.size]
      obtain ⟨r1, r2, r3⟩ := bounds_run (Pg := Pg) (W := W) hh hl (Nat.le_refl b.length) e1 e2 hw false
      refine ⟨rfl, _, runT hk _ l'.2 h'.2 _ g1 rfl (by rw [hsz]; exact r1), ?_⟩
      rw [extract_list]
      exact ⟨rfl, by simp; omega⟩
    · rename_i e xs
      split at h
      · rename_i hz
        have hz := nbeq_true hz
        obtain ⟨h', l', e1, e2, hw, h⟩ := sliceGo_inv h
        obtain ⟨rfl, rfl⟩ := run_pure_inv h
        have hs' : (CT.ro e).Rep P xs v := hs
        have hs2 := hs'
        simp only [CT.Rep] at hs2
        obtain ⟨a, cap, g1, g2, g3, g4, g5⟩ := hs2
        obtain ⟨r1, r2, r3⟩ := bounds_run (Pg := Pg) (W := W) hh hl g2 e1 e2 hw true
        refine ⟨rfl, _, runS _ _ _ l'.2 h'.2 _ g1 r1, ?_⟩
        rw [g1] at hs'
        rw [← hz]
        exact ro_slice hs' r2 r3
      · exact (run_fail_inv h).elim
    · rename_i c
      obtain ⟨y, hc, h⟩ := run_get_inv h
      obtain ⟨hn, e1, e2⟩ := I.chunk c y hc
      have hε : ε c = some v := hs
      rw [hε] at e1; cases e1
      cases y <;> first | exact (run_fail_inv h).elim | skip
      · rename_i e xs
        simp only at h
        split at h
        · rename_i hz
          have hz := nbeq_true hz
          have e2' := e2
          have key : ∃ a cap, v = .slice a xs.length cap ∧ xs.length ≤ cap ∧ cap < 2 ^ 63 ∧ ((∃ b o, a = some ⟨b, o, none⟩) ∨ (cap = 0 ∧ ∀ ad : Addr, a = some ad → (0 < 0 → ad.spot = none))) := by
            rcases e2' with ⟨q1, ⟨a, q2, q3⟩, _⟩ | ⟨b, off, cap, cs, T, fz, q1, _, _, _, q5, q6, _⟩
            · exact ⟨a, 0, by rw [q2, q1]; rfl, by rw [q1]; simp, by simp, .inr ⟨rfl, q3⟩⟩
            · exact ⟨_, cap, q1, q5, q6, .inl ⟨b, off, rfl⟩⟩
          obtain ⟨a, cap, q1, q2, q3, q4⟩ := key
          split at h
          · obtain ⟨rfl, rfl⟩ := run_pure_inv h
            cases vh with
            | some _ => exact hh.elim
            | none =>
            cases vl with
            | some _ => exact hl.elim
            | none =>
            refine ⟨rfl, v, ?_, hs⟩
            have := runS a _ cap 0 xs.length cap q1 (by simp [Instr.sliceBounds])
            rw [this, q1]
            congr 2
            by_cases c0 : cap = 0
            · rw [if_pos c0]
            · rw [if_neg c0]
              cases a with
              | none => rfl
              | some ad => simp [Addr.add]
          · obtain ⟨h', l', f1, f2, hw, h⟩ := sliceGo_inv h
            obtain ⟨rfl, rfl⟩ := run_pure_inv h
            obtain ⟨r1, r2, r3⟩ := bounds_run (Pg := Pg) (W := W) hh hl q2 f1 f2 hw true
            refine ⟨rfl, _, runS _ _ _ l'.2 h'.2 _ q1 r1, ?_⟩
            rcases q4 with ⟨b, o, rfl⟩ | ⟨c0, q4⟩
            · by_cases cl : cap = l'.2
              · rw [if_pos cl]
                refine .inr ⟨by omega, some ⟨b, o, none⟩, ?_, fun ad had => by cases had; intro _; rfl⟩
                have h1 : h'.2 - l'.2 = 0 := by omega
                have h2 : cap - l'.2 = 0 := by omega
                rw [h1, h2]
              · rw [if_neg cl]
                refine .inl ⟨b, o, xs.length, cap, cap - l'.2, by rw [hε, q1], ?_, by omega, q2, q3, by omega, by omega⟩
                simp [add_none]
            · have h0 : l'.2 = 0 := by omega
              have h1 : h'.2 = 0 := by omega
              refine .inr ⟨by omega, a, ?_, q4⟩
              rw [h0, h1, c0]; rfl
        · exact (run_fail_inv h).elim
      · rename_i e xs
        simp only at h
        split at h
        · rename_i hz
          have hz := nbeq_true hz
          obtain ⟨h', l', f1, f2, hw, h⟩ := sliceGo_inv h
          obtain ⟨rfl, rfl⟩ := run_pure_inv h
          have hs' : (CT.ro e).Rep P xs v := e2.1
          have hs2 := hs'
          simp only [CT.Rep] at hs2
          obtain ⟨a, cap, g1, g2, g3, g4, g5⟩ := hs2
          obtain ⟨r1, r2, r3⟩ := bounds_run (Pg := Pg) (W := W) hh hl g2 f1 f2 hw true
          refine ⟨rfl, _, runS _ _ _ l'.2 h'.2 _ g1 r1, ?_⟩
          rw [g1] at hs'
          rw [← hz]
          exact ro_slice hs' r2 r3
        · exact (run_fail_inv h).elim
    · rename_i c z o len
      split at h
      · rename_i hz
        have hz := nbeq_true hz
        obtain ⟨h', l', f1, f2, hw, h⟩ := sliceGo_inv h
        obtain ⟨rfl, rfl⟩ := run_pure_inv h
        rcases hs with ⟨b, o', n, cap, cp, k1, k2, k3, k4, k5, k6, k7⟩ | ⟨k1, a, k2, k3⟩
        · obtain ⟨r1, r2, r3⟩ := bounds_run (Pg := Pg) (W := W) hh hl k6 f1 f2 hw true
          refine ⟨rfl, _, runS _ _ _ l'.2 h'.2 _ k2 r1, ?_⟩
          by_cases cl : cp = l'.2
          · rw [if_pos cl]
            refine .inr ⟨by omega, some ⟨b, o' + o * z, none⟩, ?_, fun ad had => by cases had; intro _; rfl⟩
            have h1 : h'.2 - l'.2 = 0 := by omega
            have h2 : cp - l'.2 = 0 := by omega
            rw [h1, h2]
          · rw [if_neg cl]
            refine .inl ⟨b, o', n, cap, cp - l'.2, k1, ?_, by omega, k4, k5, by omega, by omega⟩
            have q1 : o' + o * z + l'.2 * size = o' + (o + l'.2) * z := by rw [← hz, Nat.add_mul]; omega
            simp only [Option.map_some, add_none, q1]
        · subst k1
          obtain ⟨r1, r2, r3⟩ := bounds_run (Pg := Pg) (W := W) hh hl (Nat.le_refl 0) f1 f2 hw true
          refine ⟨rfl, _, runS a 0 0 l'.2 h'.2 0 k2 r1, ?_⟩
          have h0 : l'.2 = 0 := by omega
          have h1 : h'.2 = 0 := by omega
          refine .inr ⟨by omega, a, ?_, k3⟩
          rw [h0, h1]; rfl
      · exact (run_fail_inv h).elim
    · obtain ⟨h', l', f1, f2, hw, h⟩ := sliceGo_inv h
      obtain ⟨rfl, rfl⟩ := run_pure_inv h
      obtain ⟨a, k2, k3⟩ := hs
      obtain ⟨r1, r2, r3⟩ := bounds_run (Pg := Pg) (W := W) hh hl (Nat.le_refl 0) f1 f2 hw true
      refine ⟨rfl, _, runS a 0 0 l'.2 h'.2 0 k2 r1, ?_⟩
      have h0 : l'.2 = 0 := by omega
      have h1 : h'.2 = 0 := by omega
      refine ⟨a, ?_, k3⟩
      rw [h0, h1]; rfl
    · exact (run_fail_inv h).elim
end
end Go.Sx
