/- A walk of Go code by plain functions is sound. -/
import Derived.Test.YtegncnhhofbmiaaSxSound4
namespace Go.Sx
section
variable {Pg : Program} {tt : TT} {cx : Cx} {P : PHeap} {ε : HMap} {φ : Nat → List Nat} {tab : Tab} {W : World}

theorem intOf_run {s : SV} {v : Value} (hs : DenV P ε s v) {i : Int} (h : intOf? s = some i) : ∃ k, v = .int k i := by
  unfold intOf? at h
  split at h
  · cases hs; simp only [Option.some.injEq] at h; subst h; exact ⟨_, rfl⟩
  · cases h

theorem at?_spec {α : Type} {xs : List α} {i : Int} {y : α} (h : at? xs i = some y) : 0 ≤ i ∧ ∃ hl : i.toNat < xs.length, xs[i.toNat] = y := by
  unfold at? at h
  split at h
  · rename_i hi
    have hi := of_decide_eq_true hi
    have hl : i.toNat < xs.length := by
      rcases Nat.lt_or_ge i.toNat xs.length with h' | h'
      · exact h'
      · simp [List.getElem?_eq_none h'] at h
    exact ⟨hi, hl, by simpa [List.getElem?_eq_getElem hl] using h⟩
  · cases h

theorem indexAddr_sound (I : Inv cx P ε φ tab W) {t : Nat} {d : TD} (hd : tdOf Pg t = some d) {e : Nat} (hk : d.kind = .slice e) {ed : TD} (hed : tdOf Pg e = some ed)
    (x : S1) (v : Value) (hx : Den P ε x v) (k : IntKind) (i : Int) (sv : SV) (tab' : Tab) (h : (indexAddrP ed.size x i).run tab = some (sv, tab')) :
    tab' = tab ∧ ∃ r, (Instr.indexAt t v (.int k i)).run Pg W = .ok r W ∧ DenV P ε sv r := by
  have runI : ∀ ad n c, v = .slice (some ad) n c → 0 ≤ i → i.toNat < n → (Instr.indexAt t v (.int k i)).run Pg W = .ok (.pointer (some (ad.add (i.toNat * ed.size)))) W := by
    intro ad n c e1 h0 h1
    have hu := td_slice hd hk
    subst e1
    have h2 : 0 ≤ i ∧ i < (n : Int) := ⟨h0, by omega⟩
    simp [Instr.indexAt, asIntOf, run_underlying hu, h2, td_size hed]
  have ro : ∀ {e : CTs} {xs : List e.T} {y : e.T}, (CT.ro e).Rep P xs v → e.size = ed.size → at? xs i = some y →
      ∃ r, (Instr.indexAt t v (.int k i)).run Pg W = .ok r W ∧ DenV P ε (.one (.pro e y)) r := by
    intro e xs y hr hz ha
    obtain ⟨h0, hl, hy⟩ := at?_spec ha
    simp only [CT.Rep] at hr
    obtain ⟨a, cap, g1, g2, g3, g4, g5⟩ := hr
    cases a with
    | none => have := g4 rfl; omega
    | some ad =>
      obtain ⟨s1, s2⟩ := g5 ad rfl
      have s1 := s1 (by omega)
      refine ⟨_, runI _ _ _ g1 h0 hl, ad.add (i.toNat * ed.size), rfl, by rw [add_spot s1], ?_⟩
      have := s2 i.toNat hl
      rw [hy] at this
      rw [add_spot s1, ← hz]
      exact this
  unfold indexAddrP at h
  cases x <;> first | exact (run_fail_inv h).elim | skip
  case rs1 off c k0 =>
    rcases run_ite_inv h with ⟨hw, h⟩ | ⟨_, h⟩
    · obtain ⟨rfl, rfl⟩ := run_pure_inv h
      simp only [Bool.and_eq_true, decide_eq_true_eq] at hw
      obtain ⟨h0, h1⟩ := hw
      have h1 := nbeq_true h1
      subst h0; subst h1
      rcases hx with ⟨q, _⟩ | ⟨_, b, o, cap, w, q1, q2, q3⟩
      · cases q
      · refine ⟨rfl, _, runI _ _ _ q1 (by omega) (by decide), b, o, w, ?_, q2, q3⟩
        simp [add_none]
    · exact (run_fail_inv h).elim
  case ro e xs =>
    simp only at h
    split at h
    · rename_i hz
      obtain ⟨y, hy, h⟩ := run_bindO_inv h
      obtain ⟨rfl, rfl⟩ := run_pure_inv h
      exact ⟨rfl, ro hx (nbeq_true hz) hy⟩
    · exact (run_fail_inv h).elim
  case own c =>
    obtain ⟨y, hc, h⟩ := run_get_inv h
    obtain ⟨hn, e1, e2⟩ := I.chunk c y hc
    have hε : ε c = some v := hx
    rw [hε] at e1; cases e1
    cases y <;> first | exact (run_fail_inv h).elim | skip
    · rename_i e xs
      simp only at h
      split at h
      · rename_i hz
        have hz := nbeq_true hz
        rcases run_ite_inv h with ⟨hw, h⟩ | ⟨_, h⟩
        · obtain ⟨rfl, rfl⟩ := run_pure_inv h
          simp only [Bool.and_eq_true, decide_eq_true_eq] at hw
          have hl : i.toNat < xs.length := Nat.le_of_ble_eq_true hw.2
          rcases e2 with ⟨q1, _, _⟩ | ⟨b, off, cap, cs, T, fz, q1, _⟩
          · rw [q1] at hl; simp at hl
          · refine ⟨rfl, _, runI _ _ _ q1 hw.1 hl, b, off, xs.length, cap, by rw [hε, q1], ?_⟩
            simp [add_none]
        · exact (run_fail_inv h).elim
      · exact (run_fail_inv h).elim
    · rename_i e xs
      simp only at h
      split at h
      · rename_i hz
        obtain ⟨y, hy, h⟩ := run_bindO_inv h
        obtain ⟨rfl, rfl⟩ := run_pure_inv h
        exact ⟨rfl, ro e2.1 (nbeq_true hz) hy⟩
      · exact (run_fail_inv h).elim
  case view c z off len =>
    obtain ⟨y, hc, h⟩ := run_get_inv h
    cases y <;> first | exact (run_fail_inv h).elim | skip
    rename_i e xs
    simp only at h
    split at h
    · rename_i hz
      simp only [Bool.and_eq_true] at hz
      have hz2 := nbeq_true hz.2
      rcases run_ite_inv h with ⟨hw, h⟩ | ⟨_, h⟩
      · obtain ⟨rfl, rfl⟩ := run_pure_inv h
        simp only [Bool.and_eq_true, decide_eq_true_eq] at hw
        have hl : i.toNat < len := Nat.le_of_ble_eq_true hw.2
        rcases hx with ⟨b, o, n, cap, cp, k1, k2, k3, k4, k5, k6, k7⟩ | ⟨k1, _⟩
        · refine ⟨rfl, _, runI _ _ _ k2 hw.1 hl, b, o, n, cap, k1, ?_⟩
          simp only [add_none]
          congr 3
          rw [hz2, Nat.add_mul]; omega
        · omega
      · exact (run_fail_inv h).elim
    · exact (run_fail_inv h).elim

theorem index_sound {t : Nat} (b : List UInt8) (v : Value) (hv : v = .string ⟨b.toArray⟩) (hu : Pg.underlying t = some .string) (k : IntKind) (i : Int) (y : UInt8) (h : at? b i = some y) :
    (Instr.index t v (.int k i)).run Pg W = .ok (.int .u8 (y.toNat : Int)) W := by
  obtain ⟨h0, hl, hy⟩ := at?_spec h
  subst hv
  have hs : (⟨b.toArray⟩ : ByteArray)[i.toNat]? = some y := by
    have hsz : i.toNat < (⟨b.toArray⟩ : ByteArray).size := by simpa [ByteArray.size] using hl
    rw [getElem?_pos (⟨b.toArray⟩ : ByteArray) i.toNat hsz]
    exact congrArg some hy
  simp [Instr.index, asIntOf, run_underlying hu, h0, hs]

theorem offP_den (x : S1) (v : Value) (hx : Den P ε x v) (hok : pcellOK x = true) (n : Nat) (hown : ∀ c, x = .own c → ∃ b, v = .pointer (some ⟨b, 0, none⟩)) :
    ∃ a, v = .pointer (some a) ∧ Den P ε (offP x n) (.pointer (some (a.add n))) := by
  cases n with
  | zero =>
    have : ∃ a, v = .pointer (some a) := by
      cases x <;> simp only [pcellOK] at hok <;> first | (cases hok; done) | skip
      case own c => obtain ⟨b, h1⟩ := hown c rfl; exact ⟨_, h1⟩
      case pcell c off => obtain ⟨b, h1, h2⟩ := hx; exact ⟨_, h2⟩
      case pelem c z i off => obtain ⟨b, o, m, cap, h1, h2⟩ := hx; exact ⟨_, h2⟩
      case parr c off i => obtain ⟨b, h1, h2⟩ := hx; exact ⟨_, h2⟩
      case pro e y => obtain ⟨ad, h1, _⟩ := hx; exact ⟨_, h1⟩
      case rp1 off c => obtain ⟨b, o, w, h1, _⟩ := hx; exact ⟨_, h1⟩
    obtain ⟨a, rfl⟩ := this
    exact ⟨a, rfl, by simpa [offP, Addr.add] using hx⟩
  | succ n =>
    cases x <;> simp only [pcellOK] at hok <;> first | (cases hok; done) | skip
    case own c =>
      obtain ⟨b, ha⟩ := hown c rfl
      exact ⟨_, ha, b, by rw [← ha]; exact hx, by simp [add_none]⟩
    case pcell c off =>
      obtain ⟨b, h1, h2⟩ := hx
      exact ⟨_, h2, b, h1, by simp [add_none]⟩
    case pelem c z i off =>
      obtain ⟨b, o, m, cap, h1, h2⟩ := hx
      exact ⟨_, h2, b, o, m, cap, h1, by simp [add_none, Nat.add_assoc]⟩
    case parr c off i =>
      obtain ⟨b, h1, h2⟩ := hx
      exact ⟨_, h2, trivial⟩
    case pro e y =>
      obtain ⟨ad, h1, h2, h3⟩ := hx
      exact ⟨ad, h1, dropE_den e y (n + 1) ad h2 h3⟩
    case rp1 off c =>
      obtain ⟨b, o, w, h1, h2, h3⟩ := hx
      refine ⟨_, h1, ?_⟩
      unfold offP
      simp only
      split
      · rename_i hb
        have hb := Nat.le_of_ble_eq_true hb
        exact ⟨b, o + (n + 1), w, by simp [add_none], by rw [show o + (n + 1) + (off - (n + 1)) = o + off by omega]; exact h2, h3⟩
      · trivial

theorem fieldAddr_sound {t : Nat} {d : TD} (hd : tdOf Pg t = some d) {fs : List (Nat × Nat × Bool)} (hk : d.kind = .struct fs) {f : Nat} {p : Nat × Nat × Bool} (hf : nth fs f = some p)
    {fd : TD} (hfd : tdOf Pg p.2.1 = some fd) (hsz : 1 ≤ fd.size) (x : S1) (v : Value) (hx : Den P ε x v) (hok : pcellOK x = true) (hown : ∀ c, x = .own c → ∃ b, v = .pointer (some ⟨b, 0, none⟩)) :
    ∃ r, (Instr.fieldAt t v f).run Pg W = .ok r W ∧ DenV P ε (.one (offP x p.1)) r := by
  obtain ⟨fields, hu, hfs⟩ := td_struct hd hk
  subst hfs
  rw [nth_eq] at hf
  simp only [List.getElem?_map, Option.map_eq_some_iff] at hf
  obtain ⟨fl, hfl, rfl⟩ := hf
  have hfl' : fields[f]? = some fl := by simpa using hfl
  obtain ⟨a, rfl, h2⟩ := offP_den x v hx hok fl.offset hown
  refine ⟨.pointer (some (a.add fl.offset)), ?_, h2⟩
  have hs := td_size (t := fl.type) hfd W
  have h0 : ¬ fd.size = 0 := by omega
  simp [Instr.fieldAt, run_underlying hu, hfl', Instr.sureAddr, fieldPlace, hs, h0]

theorem part_run {t : Nat} {d : TD} (hd : tdOf Pg t = some d) {ss : List S1} {cs : Array Value} (hc : DenL P ε ss cs.toList) {off : Nat} {sv : SV} (hp : partS d ss off = some sv) :
    ∃ r, (part t cs off).run Pg W = .ok r W ∧ DenV P ε sv r := by
  unfold partS at hp
  unfold part
  rw [Sem.run_bind, td_isAgg hd]
  cases ha : d.agg with
  | true =>
    rw [ha] at hp
    simp only at hp
    split at hp
    · simp only [Option.some.injEq] at hp
      subst hp
      refine ⟨.agg (cs.extract off (off + d.size)), by simp [td_size hd], _, rfl, ?_⟩
      have : (cs.extract off (off + d.size)).toList = (cs.toList.drop off).take d.size := by
        simp
      rw [this]
      exact DenL.take d.size (DenL.drop off hc)
    · cases hp
  | false =>
    rw [ha] at hp
    simp only at hp
    split at hp
    · rename_i s hs
      simp only [Option.some.injEq] at hp
      subst hp
      rw [nth_eq] at hs
      obtain ⟨v, hv, hdv⟩ := hc.nth hs
      have hv' : cs[off]? = some v := by simpa using hv
      exact ⟨v, by simp [hv'], hdv⟩
    · cases hp

theorem part_runA {t : Nat} {d : TD} (hd : tdOf Pg t = some d) {cs : Array Value} {c1 c2 c3 : List Value} (h : cs.toList = c1 ++ (c2 ++ c3)) {vs ws : List S1} {ct : CT} {n : Nat} {y : List ct.T}
    (h1 : DenL P ε vs c1) (h2 : ArrRep P ct n y c2) (h3 : DenL P ε ws c3) {off : Nat} {sv : SV} (hp : partA d vs ct n y ws off = some sv) :
    ∃ r, (part t cs off).run Pg W = .ok r W ∧ DenV P ε sv r := by
  refine partA_gen h h1 h2 h3 hp (R := fun r => (part t cs off).run Pg W = .ok r W) (fun ss c o hs hc hp => ?_) (fun ha hle => ?_)
  · unfold partS at hp
    unfold part
    rw [Sem.run_bind, td_isAgg hd]
    cases ha : d.agg with
    | true =>
      rw [ha] at hp
      simp only at hp
      split at hp
      · rename_i hle
        have hle := Nat.le_of_ble_eq_true hle
        simp only [Option.some.injEq] at hp
        subst hp
        refine ⟨.agg (cs.extract off (off + d.size)), by simp [td_size hd], _, rfl, ?_⟩
        have hl := hs.length
        have e : (cs.extract off (off + d.size)).toList = (c.drop o).take d.size := by
          apply List.ext_getElem?
          intro k
          have e1 : (cs.extract off (off + d.size)).toList = (cs.toList.drop off).take d.size := by simp
          rw [e1, List.getElem?_take, List.getElem?_take, List.getElem?_drop, List.getElem?_drop]
          by_cases hk : k < d.size
          · rw [if_pos hk, if_pos hk]
            have hko : o + k < c.length := by omega
            rw [hc k c[o + k] (List.getElem?_eq_getElem hko), List.getElem?_eq_getElem hko]
          · rw [if_neg hk, if_neg hk]
        rw [e]
        exact DenL.take d.size (DenL.drop o hs)
      · cases hp
    | false =>
      rw [ha] at hp
      simp only at hp
      split at hp
      · rename_i s hs'
        simp only [Option.some.injEq] at hp
        subst hp
        rw [nth_eq] at hs'
        obtain ⟨v, hv, hdv⟩ := hs.nth hs'
        have hv' : cs[off]? = some v := by have := hc 0 v (by simpa using hv); simpa using this
        exact ⟨v, by simp [hv'], hdv⟩
      · cases hp
  · unfold part
    rw [Sem.run_bind, td_isAgg hd, ha]
    simp [td_size hd]
    apply Array.ext'
    simp
theorem field_soundA {t : Nat} {d : TD} (hd : tdOf Pg t = some d) {fs : List (Nat × Nat × Bool)} (hk : d.kind = .struct fs) {f : Nat} {p : Nat × Nat × Bool} (hf : nth fs f = some p)
    {fd : TD} (hfd : tdOf Pg p.2.1 = some fd) {vs ws : List S1} {ct : CT} {n : Nat} {y : List ct.T} (v : Value) (hx : DenV P ε (.aggA vs ct n y ws) v) {sv : SV} (hp : partA fd vs ct n y ws p.1 = some sv) :
    ∃ r, (Instr.field t v f).run Pg W = .ok r W ∧ DenV P ε sv r := by
  obtain ⟨fields, hu, hfs⟩ := td_struct hd hk
  subst hfs
  rw [nth_eq] at hf
  simp only [List.getElem?_map, Option.map_eq_some_iff] at hf
  obtain ⟨fl, hfl, rfl⟩ := hf
  have hfl' : fields[f]? = some fl := by simpa using hfl
  obtain ⟨cs, c1, c2, c3, rfl, h, h1, h2, h3⟩ := hx
  obtain ⟨r, h4, h5⟩ := part_runA (Pg := Pg) (W := W) hfd h h1 h2 h3 hp
  refine ⟨r, ?_, h5⟩
  simp [Instr.field, run_underlying hu, hfl', asAgg, h4]
theorem field_sound {t : Nat} {d : TD} (hd : tdOf Pg t = some d) {fs : List (Nat × Nat × Bool)} (hk : d.kind = .struct fs) {f : Nat} {p : Nat × Nat × Bool} (hf : nth fs f = some p)
    {fd : TD} (hfd : tdOf Pg p.2.1 = some fd) {ss : List S1} (v : Value) (hx : DenV P ε (.agg ss) v) {sv : SV} (hp : partS fd ss p.1 = some sv) :
    ∃ r, (Instr.field t v f).run Pg W = .ok r W ∧ DenV P ε sv r := by
  obtain ⟨fields, hu, hfs⟩ := td_struct hd hk
  subst hfs
  rw [nth_eq] at hf
  simp only [List.getElem?_map, Option.map_eq_some_iff] at hf
  obtain ⟨fl, hfl, rfl⟩ := hf
  have hfl' : fields[f]? = some fl := by simpa using hfl
  obtain ⟨cs, rfl, h2⟩ := hx
  obtain ⟨r, h3, h4⟩ := part_run (Pg := Pg) (W := W) hfd h2 hp
  refine ⟨r, ?_, h4⟩
  simp [Instr.field, run_underlying hu, hfl', asAgg, h3]

theorem DenPs.nth {l : List (S1 ⊕ List S1)} : ∀ {vs : List Value}, DenPs P ε l vs → ∀ {i : Nat} {s : S1 ⊕ List S1}, l[i]? = some s → ∃ v, vs[i]? = some v ∧ DenP P ε s v := by
  induction l with
  | nil => intro vs _ i s hi; simp at hi
  | cons x r ih =>
    intro vs ⟨v, vs', h1, h2, h3⟩ i s hi
    subst h1
    cases i with
    | zero => simp at hi; subst hi; exact ⟨v, rfl, h2⟩
    | succ i => simpa using ih h3 (by simpa using hi)
theorem extract_sound {l : List (S1 ⊕ List S1)} {v : Value} (hx : DenV P ε (.tup l) v) {i : Nat} {s : S1 ⊕ List S1} (hi : nth l i = some s) :
    ∃ r, (Instr.extract v i).run Pg W = .ok r W ∧ DenP P ε s r := by
  obtain ⟨vs, rfl, h2⟩ := hx
  rw [nth_eq] at hi
  obtain ⟨r, h3, h4⟩ := h2.nth hi
  have h3' : vs[i]? = some r := by simpa using h3
  exact ⟨r, by simp [Instr.extract, h3'], h4⟩

/-! ### Structs and arrays, part by part -/
theorem putArr_fold (cs : Array Value) (off : Nat) (vs : List Value) (h : off + vs.length ≤ cs.size) :
    vs.zipIdx.foldl (fun cs (c, j) => cs.setIfInBounds (off + j) c) cs = putArr cs off vs := by
  have gen : ∀ (vs : List Value) (k : Nat) (cs : Array Value), off + k + vs.length ≤ cs.size →
      (vs.zipIdx k).foldl (fun cs (c, j) => cs.setIfInBounds (off + j) c) cs = putArr cs (off + k) vs := by
    intro vs
    induction vs with
    | nil => intro k cs _; simp [putArr]
    | cons v r ih =>
      intro k cs h
      simp only [List.zipIdx_cons, List.foldl_cons]
      rw [ih (k + 1) _ (by simp at h ⊢; omega)]
      have e := list_seg_step cs.toList (off + k) v r (by simp at h ⊢; omega)
      unfold putArr
      congr 1
      simpa [Array.toList_setIfInBounds, Nat.add_assoc] using e
  simpa using gen vs 0 cs (by simpa using h)
theorem fill_sound (I : Inv cx P ε φ tab W) (place : Nat → Option (Nat × Nat)) : ∀ (parts : List (Nat × SV)) (vals : List (Nat × Value)) (cells : List S1) (cs : Array Value),
    DenL P ε cells cs.toList → parts.length = vals.length → (∀ (i : Nat) (p : Nat × SV) (q : Nat × Value), parts[i]? = some p → vals[i]? = some q → p.1 = q.1 ∧ DenV P ε p.2 q.2) →
    ∀ r, fillS place cells parts = some r → ∃ cs', Instr.fill place cs vals = some cs' ∧ DenL P ε r cs'.toList
  | [], [], cells, cs, hc, _, _, r, h => by simp only [fillS, Option.some.injEq] at h; subst h; exact ⟨cs, rfl, hc⟩
  | [], _ :: _, _, _, _, hl, _, _, _ => by simp at hl
  | _ :: _, [], _, _, _, hl, _, _, _ => by simp at hl
  | (i, s) :: rest, (j, v) :: vals, cells, cs, hc, hl, hp, r, h => by
    obtain ⟨e1, e2⟩ := hp 0 _ _ rfl rfl
    simp only at e1 e2
    subst e1
    simp only [fillS] at h
    cases hpl : place i with
    | none => rw [hpl] at h; cases h
    | some q =>
      obtain ⟨off, size⟩ := q
      rw [hpl] at h
      simp only at h
      cases hcs : s.cells? with
      | none => rw [hcs] at h; cases h
      | some vs =>
        rw [hcs] at h
        simp only at h
        split at h
        · cases h
        · rename_i hsz
          have hsz := nbeq_true hsz
          cases hpc : putCells cells off vs with
          | none => rw [hpc] at h; cases h
          | some cells' =>
            rw [hpc] at h
            simp only at h
            obtain ⟨d1, d2⟩ := cells?_den I hcs e2
            obtain ⟨p1, p2⟩ := putCells_den hpc hc d1
            obtain ⟨cs', f1, f2⟩ := fill_sound I place rest vals cells' _ p1 (by simpa using hl) (fun k p q hk hk' => hp (k + 1) p q (by simpa using hk) (by simpa using hk')) r h
            refine ⟨cs', ?_, f2⟩
            have l1 : v.cells.size = size := by have := d1.length; simp at this; omega
            have l2 : off + v.cells.size ≤ cs.size := by simpa using p2
            have fold := putArr_fold cs off v.cells.toList (by simpa using l2)
            have fold' : Array.foldl (fun cs (x : Value × Nat) => cs.setIfInBounds (off + x.2) x.1) cs v.cells.zipIdx = putArr cs off v.cells.toList := by
              rw [← fold, ← Array.foldl_toList, Array.toList_zipIdx]
            simp only [Instr.fill, hpl]
            rw [if_neg (by simp [l1]; omega)]
            rw [← f1]
            congr 1

theorem places_eq (htt : TTOK Pg tt) : ∀ (fs : List Field) (pl : List (Nat × Nat)), placesOf tt (fs.map fun f => (f.offset, f.type, f.name == "_")) = some pl →
    fs.mapM (fun f => (Pg.info? f.type).map fun i => (f.offset, i.size)) = some pl
  | [], pl, h => by simp only [List.map_nil, placesOf, Option.some.injEq] at h; subst h; rfl
  | f :: fs, pl, h => by
    simp only [List.map_cons, placesOf] at h
    split at h
    · rename_i d l h1 h2
      simp only [Option.some.injEq] at h
      subst h
      obtain ⟨i, e1, e2, _⟩ := td_info (htt _ _ h1)
      rw [List.mapM_cons, places_eq htt fs l h2, e1, e2]; rfl
    · cases h
theorem isZ_rep {P : PHeap} : ∀ (t : CT) (v : Value), isZ t v = true → t.Rep P (zCT t) v
  | .int k, v, h => by
    unfold isZ at h
    split at h <;> first | (cases h; done) | skip
    all_goals first | (rename_i heq; cases heq; done) | skip
    rename_i k1 k2 n heq
    cases heq
    simp only [Bool.and_eq_true, decide_eq_true_eq] at h
    obtain ⟨h1, h2⟩ := h
    split at h1
    · rename_i hk _
      obtain ⟨rfl⟩ := hk
      subst h2
      simp only [CT.Rep, zCT]
      rw [IK.toInt_ofInt]
      congr 1
      cases k2 <;> rfl
    · cases h1
  | .bool, v, h => by
    unfold isZ at h
    split at h <;> first | (cases h; done) | skip
    all_goals first | (rename_i heq; cases heq; done) | skip
    rename_i b heq
    simp only [CT.Rep, zCT]
    simp at h; rw [h]
  | .str, v, h => by
    unfold isZ at h
    split at h <;> first | (cases h; done) | skip
    all_goals first | (rename_i heq; cases heq; done) | skip
    rename_i s heq
    have h := nbeq_true h
    simp only [CT.Rep, zCT]
    refine ⟨?_, by simp⟩
    congr 1
    apply ByteArray.ext
    exact Array.eq_empty_of_size_eq_zero h
  | .rop e, v, h => by
    unfold isZ at h
    split at h <;> first | (cases h; done) | skip
    all_goals first | (rename_i heq; cases heq; done) | skip
    simp only [CT.Rep, zCT]
    exact .inl ⟨by trivial, by trivial⟩
  | .rom a b, v, h => by
    unfold isZ at h
    split at h <;> first | (cases h; done) | skip
    all_goals first | (rename_i heq; cases heq; done) | skip
    simp only [CT.Rep, zCT]
    exact .inl ⟨by trivial, by trivial⟩
  | .ro e, v, h => by
    unfold isZ at h
    split at h <;> first | (cases h; done) | skip
    all_goals first | (rename_i heq; cases heq; done) | skip
    rename_i e' n c heq
    simp only [Bool.and_eq_true] at h
    have h1 := nbeq_true h.1
    have h2 := nbeq_true h.2
    subst h1; subst h2
    simp only [CT.Rep, zCT]
    exact ⟨none, 0, rfl, by simp, by simp, fun _ => rfl, fun ad h => by cases h⟩
theorem zeroA_den (P : PHeap) (ε : HMap) {z : Value} {off n : Nat} {ct : CT} {vs ws : List S1} (h : zeroA z off ct n = some (vs, ws)) :
    ∃ c1 c2 c3, z.cells.toList = c1 ++ (c2 ++ c3) ∧ DenL P ε vs c1 ∧ ArrRep P ct n (List.replicate n (zCT ct)) c2 ∧ DenL P ε ws c3 := by
  unfold zeroA at h
  split at h
  · rename_i hb
    cases h
    simp only [Bool.and_eq_true] at hb
    have hle := Nat.le_of_ble_eq_true hb.1
    have hall := hb.2
    have hl : ∀ l : List Value, DenL P ε (l.map constS) l := fun l => by
      have := cellsOfV_den P ε (.agg l.toArray)
      simpa [cellsOfV, Value.cells] using this
    refine ⟨z.cells.toList.take off, (z.cells.toList.drop off).take n, z.cells.toList.drop (off + n), ?_, hl _, ⟨by simp only [List.length_take, List.length_drop]; omega, by simp, fun i hi w hw => ?_⟩, hl _⟩
    · rw [← List.drop_drop, List.take_append_drop, List.take_append_drop]
    · have hz : (List.replicate n (zCT ct))[i] = zCT ct := by simp
      rw [hz]
      exact isZ_rep ct w (List.all_eq_true.1 hall w (List.mem_of_getElem? hw))
  · cases h
theorem fillA_sound (I : Inv cx P ε φ tab W) (place : Nat → Option (Nat × Nat)) (t : CT) (n : Nat) : ∀ (parts : List (Nat × SV)) (vals : List (Nat × Value)) (vs : List S1) (y : List t.T) (ws : List S1) (cs : Array Value) (c1 c2 c3 : List Value),
    cs.toList = c1 ++ (c2 ++ c3) → DenL P ε vs c1 → ArrRep P t n y c2 → DenL P ε ws c3 → parts.length = vals.length →
    (∀ (i : Nat) (p : Nat × SV) (q : Nat × Value), parts[i]? = some p → vals[i]? = some q → p.1 = q.1 ∧ DenV P ε p.2 q.2) →
    ∀ r, fillA place t n vs y ws parts = some r → ∃ cs' d1 d2 d3, Instr.fill place cs vals = some cs' ∧ cs'.toList = d1 ++ (d2 ++ d3) ∧ DenL P ε r.1 d1 ∧ ArrRep P t n r.2.1 d2 ∧ DenL P ε r.2.2 d3
  | [], [], vs, y, ws, cs, c1, c2, c3, hc, h1, h2, h3, _, _, r, h => by simp only [fillA, Option.some.injEq] at h; subst h; exact ⟨cs, c1, c2, c3, rfl, hc, h1, h2, h3⟩
  | [], _ :: _, _, _, _, _, _, _, _, _, _, _, _, hl, _, _, _ => by simp at hl
  | _ :: _, [], _, _, _, _, _, _, _, _, _, _, _, hl, _, _, _ => by simp at hl
  | (i, s) :: rest, (j, v) :: vals, vs, y, ws, cs, c1, c2, c3, hc, h1, h2, h3, hl, hp, r, h => by
    obtain ⟨e1, e2⟩ := hp 0 _ _ rfl rfl
    simp only at e1 e2
    subst e1
    simp only [fillA] at h
    cases hpl : place i with
    | none => rw [hpl] at h; cases h
    | some q =>
      obtain ⟨off, size⟩ := q
      rw [hpl] at h
      simp only at h
      split at h
      · cases h
      · rename_i hsz
        have hsz := nbeq_true hsz
        split at h
        · rename_i vs' y' ws' hput
          obtain ⟨k1, k2, d1, d2, d3, k3, k4, k5, k6⟩ := putA_den I hc h1 h2 h3 e2 hput
          obtain ⟨cs', f1, f2, f3, g1, g2⟩ := fillA_sound I place t n rest vals vs' y' ws' _ d1 d2 d3 k3 k4 k5 k6 (by simpa using hl) (fun k p q hk hk' => hp (k + 1) p q (by simpa using hk) (by simpa using hk')) r h
          refine ⟨cs', f1, f2, f3, ?_, g2⟩
          have fold := putArr_fold cs off v.cells.toList (by simpa using k2)
          have fold' : Array.foldl (fun cs (x : Value × Nat) => cs.setIfInBounds (off + x.2) x.1) cs v.cells.zipIdx = putArr cs off v.cells.toList := by
            rw [← fold, ← Array.foldl_toList, Array.toList_zipIdx]
          simp only [Array.length_toList] at k2
          simp only [Instr.fill, hpl]
          rw [if_neg (by simp; omega)]
          rw [← g1]
          congr 1
        · cases h
theorem build_sound (htt : TTOK Pg tt) (I : Inv cx P ε φ tab W) (t : Nat) (parts : List (Nat × SV)) (vals : List (Nat × Value)) (hl : parts.length = vals.length)
    (hp : ∀ (i : Nat) (p : Nat × SV) (q : Nat × Value), parts[i]? = some p → vals[i]? = some q → p.1 = q.1 ∧ DenV P ε p.2 q.2) (sv : SV) (tab' : Tab) (h : (buildP tt t parts).run tab = some (sv, tab')) :
    tab' = tab ∧ ∃ r, (Instr.build t vals.toArray).run Pg W = .ok r W ∧ DenV P ε sv r := by
  unfold buildP at h
  split at h
  · exact (run_fail_inv h).elim
  · rename_i d ht
    have hd := htt t d ht
    split at h
    · exact (run_fail_inv h).elim
    · rename_i z hz
      have hzr := td_zero hd hz W
      split at h
      · rename_i off ct n _
        unfold buildAP at h
        split at h
        · rename_i vs ws fs hza hk
          obtain ⟨c1, c2, c3, hc, h1, h2, h3⟩ := zeroA_den P ε hza
          obtain ⟨fields, hu, hfs⟩ := td_struct hd hk
          split at h
          · exact (run_fail_inv h).elim
          · rename_i pl hpl
            split at h
            · rename_i vs' y' ws' hf
              obtain ⟨rfl, rfl⟩ := run_pure_inv h
              obtain ⟨cs', d1, d2, d3, f1, f2, f3, f4, f5⟩ := fillA_sound I _ ct n parts vals _ _ _ z.cells c1 c2 c3 hc h1 h2 h3 hl hp _ hf
              refine ⟨rfl, .agg cs', run_build W t vals.toArray cs' ?_, cs', d1, d2, d3, rfl, f2, f3, f4, f5⟩
              obtain ⟨i, h1, _, _, h4⟩ := td_info hd
              rw [hz] at h4
              subst hfs
              have hm := places_eq htt fields.toList pl hpl
              have hf' : (fun x : Nat => pl[x]?) = nth pl := by funext x; rw [nth_eq]
              simp [Program.built, h1, hu, ← h4, hm, hf', f1]
            · exact (run_fail_inv h).elim
        · rename_i vs ws m e hza hk
          obtain ⟨c1, c2, c3, hc, h1, h2, h3⟩ := zeroA_den P ε hza
          have hu := td_arr hd hk
          split at h
          · rename_i ed het _
            obtain ⟨rfl, rfl⟩ := run_pure_inv h
            have : vals = [] := by cases vals with | nil => rfl | cons _ _ => simp at hl
            subst this
            exact ⟨rfl, .agg z.cells, by simp [Instr.build, hzr, run_underlying hu, td_size (htt e ed het), Instr.fill], _, c1, c2, c3, rfl, hc, h1, h2, h3⟩
          · exact (run_fail_inv h).elim
        · exact (run_fail_inv h).elim
      split at h
      · rename_i fs hk
        obtain ⟨fields, hu, hfs⟩ := td_struct hd hk
        split at h
        · exact (run_fail_inv h).elim
        · rename_i pl hpl
          split at h
          · rename_i cs hf
            obtain ⟨rfl, rfl⟩ := run_pure_inv h
            obtain ⟨cs', f1, f2⟩ := fill_sound I _ parts vals _ z.cells (cellsOfV_den P ε z) hl hp _ hf
            refine ⟨rfl, .agg cs', run_build W t vals.toArray cs' ?_, _, rfl, f2⟩
            obtain ⟨i, h1, _, _, h4⟩ := td_info hd
            rw [hz] at h4
            subst hfs
            have hm := places_eq htt fields.toList pl hpl
            have hf' : (fun x : Nat => pl[x]?) = nth pl := by funext x; rw [nth_eq]
            simp [Program.built, h1, hu, ← h4, hm, hf', f1]
          · exact (run_fail_inv h).elim
      · rename_i n e hk
        have hu := td_arr hd hk
        split at h
        · rename_i ed het
          have hed := htt e ed het
          split at h
          · rename_i cs hf
            obtain ⟨rfl, rfl⟩ := run_pure_inv h
            obtain ⟨cs', f1, f2⟩ := fill_sound I _ parts vals _ z.cells (cellsOfV_den P ε z) hl hp _ hf
            exact ⟨rfl, .agg cs', by simp [Instr.build, hzr, run_underlying hu, td_size hed, f1], _, rfl, f2⟩
          · exact (run_fail_inv h).elim
        · exact (run_fail_inv h).elim
      · exact (run_fail_inv h).elim
end
end Go.Sx
