/- A walk of Go code by plain functions is sound. -/
import Derived.Test.YtegncnhhofbmiaaSxSound10
import Derived.Laws.MakeOwn
namespace Go.Sx
section
variable {Pg : Program} {tt : TT} {cx : Cx} {P : PHeap} {ε : HMap} {φ : Nat → List Nat} {tab : Tab} {W : World}

theorem P_new (I : Inv cx P ε φ tab W) {b : Nat} (h : W.heap.size ≤ b) : P b = none := by
  cases hp : P b with
  | none => rfl
  | some o => have := I.psub _ _ hp; rw [Array.getElem?_eq_none h] at this; cases this

/-- One new piece, out of blocks in hand and new ones. -/
theorem install_one (I : Inv cx P ε φ tab W) {fp : List Nat} (hh : Held cx P φ tab W fp) {fresh : Nat} (hf : ε fresh = none) {W' : World} (hE : Ext fp W W' cx.td) {x : Chunk} {v : Value} (hv : Handle v)
    {fp' : List Nat} (hnd : fp'.Nodup) (hfp : ∀ b ∈ fp', (b ∈ fp ∨ W.heap.size ≤ b) ∧ b < W'.heap.size) (hok : ∀ η, HMap.le ε η → ChunkOK P (World.view W') η v fp' x)
    (hPW : ∀ b o, P b = some o → W'.heap[b]? = some o) :
    ∃ ε' φ', HMap.le ε ε' ∧ (∀ c, ε' c ≠ none → ε c ≠ none ∨ (fresh ≤ c ∧ c < fresh + stride)) ∧ Inv cx P ε' φ' (tab.set fresh x) W' ∧ ε' fresh = some v := by
  have g0 : Map.get ([(fresh, v, fp')] : HL2) fresh = some (v, fp') := by simp [Map.get]
  have g1 : ∀ d, d ≠ fresh → Map.get ([(fresh, v, fp')] : HL2) d = none := fun d hd => by
    have : Nat.beq fresh d = false := by cases hb : Nat.beq fresh d with | true => exact absurd (nbeq_true hb).symm hd | false => rfl
    simp [Map.get, this]
  have hle : HMap.le ε (addE [(fresh, v, fp')] ε) := addE_le fun d w f hd => by
    by_cases e : d = fresh
    · subst e; exact .inl hf
    · rw [g1 d e] at hd; cases hd
  refine ⟨addE [(fresh, v, fp')] ε, addF [(fresh, v, fp')] φ, hle, ?_, ?_, by simp [addE, g0]⟩
  · intro d hd
    by_cases e : d = fresh
    · subst e; exact .inr ⟨Nat.le_refl _, by unfold stride; omega⟩
    · left; simpa [addE, g1 d e] using hd
  · refine I.install fp [(fresh, v, fp')] (fun b hb => (hh.ok b hb).2) hh.away hE (PHeap.le_refl P) hPW (fun b hb => .inl hb) ?_ ?_ ?_ (by simpa [fpsOf] using hnd) ?_
    · intro d w f hd
      by_cases e : d = fresh
      · subst e; rw [g0] at hd; cases hd; exact ⟨.inl hf, hv⟩
      · rw [g1 d e] at hd; cases hd
    · intro d y hd
      by_cases e : d = fresh
      · subst e; exact .inl ⟨_, g0⟩
      · right; rwa [Map.get_set_other _ _ (Ne.symm e)] at hd
    · intro d w f y hd hy
      by_cases e : d = fresh
      · subst e; rw [g0] at hd; cases hd; rw [Map.get_set_same] at hy; cases hy; exact hok _ hle
      · rw [g1 d e] at hd; cases hd
    · intro b hb
      have hb : b ∈ fp' := by simpa [fpsOf] using hb
      obtain ⟨h1, h2⟩ := hfp b hb
      refine ⟨h1, ?_, h2⟩
      rcases h1 with h1 | h1
      · exact (hh.ok b h1).1
      · exact P_new I h1

theorem psub_ext (I : Inv cx P ε φ tab W) {fp : List Nat} (hh : Held cx P φ tab W fp) {W' : World} (hE : Ext fp W W' cx.td) : ∀ b o, P b = some o → W'.heap[b]? = some o := by
  intro b o hb
  have h1 := I.psub b o hb
  have hl : b < W.heap.size := by
    rcases Nat.lt_or_ge b W.heap.size with h | h
    · exact h
    · rw [Array.getElem?_eq_none h] at h1; cases h1
  rw [hE.same b hl (fun hm => by rw [(hh.ok b hm).1] at hb; cases hb)]; exact h1

theorem appendP_sound (I : Inv cx P ε φ tab W) {t u e : Nat} {d ud ed : TD} (ht : tdOf Pg t = some d) (hk : d.kind = .slice e) (hu : tdOf Pg u = some ud) (huk : ∀ k, ud.kind ≠ .int k) (he : tdOf Pg e = some ed)
    {c : CTs} (hcs : c.size = ed.size) {z : Value} (hz : ed.zero = some z) (hzs : z.cells.size = ed.size) {base src : S1} {v w : Value} (hb : Den P ε base v) (hs : Den P ε src w) {fresh : Nat} (hfr : Fresh ε fresh)
    {sv : SV} {tab' : Tab} (h : (appendP c ed.bytes base src fresh).run tab = some (sv, tab')) (ty : Nat) : Res Pg cx P ε fresh W (Builtin.append_ #[t, u] ty #[v, w]) sv tab' := by
  have hf : ε fresh = none := hfr fresh (Nat.le_refl _) (by unfold stride; omega)
  unfold appendP at h
  split at h
  · exact (run_fail_inv h).elim
  · rename_i hby
    have hby := Nat.le_of_ble_eq_true hby
    obtain ⟨ys, t1, k1, h2⟩ := run_bind_inv h
    clear h
    obtain ⟨k2, hsrc⟩ := takeSrc_sound (Pg := Pg) I c src w hs ys t1 k1
    subst k2
    have fin : ∀ (xs : List c.T) (fp : List Nat) (tab1 : Tab), Inv cx P ε φ tab1 W → Held cx P φ tab1 W fp → RowRep P (World.view W) c xs v fp →
        (appendFin c fresh xs ys).run tab1 = some (sv, tab') → Res Pg cx P ε fresh W (Builtin.append_ #[t, u] ty #[v, w]) sv tab' := by
      intro xs fp tab1 I1 H1 hx h
      rcases run_ite_inv h with ⟨hl, h⟩ | ⟨_, h⟩
      · obtain ⟨hn, h⟩ := run_new_inv h
        obtain ⟨h3, h4⟩ := run_pure_inv h
        subst h3; subst h4
        obtain ⟨v', W', fp', a1, a2, a3, a4, a5, _⟩ := append_core (Pg := Pg) I ht hk hu huk he hcs hz hzs hby hx hsrc (Nat.le_of_ble_eq_true hl) ty
        have a6 : ∀ η, HMap.le ε η → ChunkOK P (World.view W') η v' fp' (.row c (xs ++ ys)) := fun η _ => a3
        obtain ⟨ε', φ', b1, b2, b3, b4⟩ := install_one I1 H1 hf a2 (row_handle a3) a4 a5 a6 (psub_ext I1 H1 a2)
        exact ⟨v', W', P, ε', φ', a1, PHeap.le_refl P, b1, b2, b3, b4⟩
      · exact (run_fail_inv h).elim
    have finP : ∀ (xs : List c.T) (fp : List Nat) (cc : Nat) (tab1 : Tab), Inv cx P ε φ (tab1.del cc) W → Held cx P φ (tab1.del cc) W fp → RowRep P (World.view W) c xs v fp → ε cc = some v →
        (Prog.set cc (.pre fresh c xs) (appendFin c fresh xs ys)).run tab1 = some (sv, tab') → Res Pg cx P ε fresh W (Builtin.append_ #[t, u] ty #[v, w]) sv tab' := by
      intro xs fp cc tab1 I1 H1 hx hcc h
      have h : (appendFin c fresh xs ys).run (tab1.set cc (.pre fresh c xs)) = some (sv, tab') := h
      rcases run_ite_inv h with ⟨hl, h⟩ | ⟨_, h⟩
      · obtain ⟨hn, h⟩ := run_new_inv h
        obtain ⟨h3, h4⟩ := run_pure_inv h
        subst h3; subst h4
        obtain ⟨v', W', fp', a1, a2, a3, a4, a5, a6⟩ := append_core (Pg := Pg) I ht hk hu huk he hcs hz hzs hby hx hsrc (Nat.le_of_ble_eq_true hl) ty
        have hfc : fresh ≠ cc := by intro e; subst e; rw [hf] at hcc; cases hcc
        obtain ⟨fpc, hfpc, hok⟩ : ∃ fpc : List Nat, ((fp' ++ fpc).Nodup ∧ ∀ b ∈ fpc, b ∈ fp) ∧ ∀ η : HMap, η fresh = some v' → ChunkOK P (World.view W') η v fpc (.pre fresh c xs) := by
          rcases a6 with ⟨a6, a7⟩ | ⟨b, o, n, cap, a6, a7, a8⟩
          · exact ⟨fp, ⟨List.nodup_append.2 ⟨a4, H1.nd, fun x hx y hy e => a7 x hx (e ▸ hy)⟩, fun _ h => h⟩, fun η _ => .inl a6⟩
          · exact ⟨[], ⟨by simpa using a4, by simp⟩, fun η hη => .inr ⟨rfl, b, o, n, cap, by rw [hη, a6], a7, a8⟩⟩
        have g0 : Map.get ([(fresh, v', fp'), (cc, v, fpc)] : HL2) fresh = some (v', fp') := by simp [Map.get]
        have g1 : Map.get ([(fresh, v', fp'), (cc, v, fpc)] : HL2) cc = some (v, fpc) := by
          have : Nat.beq fresh cc = false := by cases hb : Nat.beq fresh cc with | true => exact absurd (nbeq_true hb) hfc | false => rfl
          simp [Map.get, this]
        have g2 : ∀ d, d ≠ fresh → d ≠ cc → Map.get ([(fresh, v', fp'), (cc, v, fpc)] : HL2) d = none := fun d h1 h2 => by
          have e1 : Nat.beq fresh d = false := by cases hb : Nat.beq fresh d with | true => exact absurd (nbeq_true hb).symm h1 | false => rfl
          have e2 : Nat.beq cc d = false := by cases hb : Nat.beq cc d with | true => exact absurd (nbeq_true hb).symm h2 | false => rfl
          simp [Map.get, e1, e2]
        have hle : HMap.le ε (addE [(fresh, v', fp'), (cc, v, fpc)] ε) := addE_le fun d w f hd => by
          by_cases e : d = fresh
          · subst e; exact .inl hf
          · by_cases e' : d = cc
            · subst e'; rw [g1] at hd; cases hd; exact .inr hcc
            · rw [g2 d e e'] at hd; cases hd
        refine ⟨v', W', P, addE [(fresh, v', fp'), (cc, v, fpc)] ε, addF [(fresh, v', fp'), (cc, v, fpc)] φ, a1, PHeap.le_refl P, hle, ?_, ?_, by simp [DenV, Den, addE, g0]⟩
        · intro d hd
          by_cases e : d = fresh
          · subst e; exact .inr ⟨Nat.le_refl _, by unfold stride; omega⟩
          · by_cases e' : d = cc
            · subst e'; left; rw [hcc]; simp
            · left; simpa [addE, g2 d e e'] using hd
        · refine I1.install fp _ (fun b hb => (H1.ok b hb).2) H1.away a2 (PHeap.le_refl P) (psub_ext I1 H1 a2) (fun b hb => .inl hb) ?_ ?_ ?_ (by simpa [fpsOf] using hfpc.1) ?_
          · intro d w f hd
            by_cases e : d = fresh
            · subst e; rw [g0] at hd; cases hd; exact ⟨.inl hf, row_handle a3⟩
            · by_cases e' : d = cc
              · subst e'; rw [g1] at hd; cases hd; exact ⟨.inr hcc, row_handle hx⟩
              · rw [g2 d e e'] at hd; cases hd
          · intro d y hd
            by_cases e : d = fresh
            · subst e; exact .inl ⟨_, g0⟩
            · rw [Map.get_set_other _ _ (Ne.symm e)] at hd
              by_cases e' : d = cc
              · subst e'; exact .inl ⟨_, g1⟩
              · right; rw [Map.get_set_other _ _ (Ne.symm e')] at hd; rwa [Map.get_del_other _ (Ne.symm e')]
          · intro d w f y hd hy
            by_cases e : d = fresh
            · subst e; rw [g0] at hd; cases hd; rw [Map.get_set_same] at hy; cases hy; exact a3
            · by_cases e' : d = cc
              · subst e'; rw [g1] at hd; cases hd
                rw [Map.get_set_other _ _ (Ne.symm e), Map.get_set_same] at hy; cases hy
                exact hok _ (by simp [addE, g0])
              · rw [g2 d e e'] at hd; cases hd
          · intro b hb
            have hb : b ∈ fp' ++ fpc := by simpa [fpsOf] using hb
            have hin : (b ∈ fp ∨ W.heap.size ≤ b) ∧ b < W'.heap.size := by
              rcases List.mem_append.1 hb with hb | hb
              · exact a5 b hb
              · have := hfpc.2 b hb
                exact ⟨.inl this, Nat.lt_of_lt_of_le (H1.ok b this).2.1 a2.le⟩
            refine ⟨hin.1, ?_, hin.2⟩
            rcases hin.1 with h1 | h1
            · exact (H1.ok b h1).1
            · exact P_new I1 h1
      · exact (run_fail_inv h).elim
    cases base <;> first | exact (run_fail_inv h2).elim | skip
    case nils => exact fin [] [] t1 I Held.nil (.inl ⟨rfl, hb, rfl⟩) h2
    case own cc =>
      obtain ⟨y, hc, h2⟩ := run_get_inv h2
      obtain ⟨w', e1, e2⟩ := I.chunk cc y hc
      have hv : ε cc = some v := hb
      rw [hv] at e1; cases e1
      cases y <;> first | exact (run_fail_inv h2).elim | skip
      · rename_i e' xs
        simp only at h2
        split at h2
        · rename_i p hp
          subst p
          obtain ⟨I1, H1⟩ := I.takeOut Held.nil hc
          rw [List.append_nil] at H1
          exact finP xs (φ cc) cc t1 I1 H1 e2 hv h2
        · exact (run_fail_inv h2).elim
      · rename_i dd e' xs
        simp only at h2
        split at h2
        · rename_i p hp
          subst p
          obtain ⟨y2, hc2, h2⟩ := run_get_inv h2
          cases y2 <;> first | exact (run_fail_inv h2).elim | skip
          rename_i e'' zs
          simp only at h2
          split at h2
          · rename_i p hp
            subst p
            rcases run_ite_inv h2 with ⟨hsame, h2⟩ | ⟨_, h2⟩
            case inr => exact (run_fail_inv h2).elim
            have hsame := sameL_eq.1 hsame
            have hne : dd ≠ cc := by
              intro e; subst e; rw [hc] at hc2; cases hc2
            have h2 : (Prog.set cc (.pre fresh e'' xs) (appendFin e'' fresh xs ys)).run (t1.del dd) = some (sv, tab') := h2
            have hc' : (t1.del dd).get cc = some (.pre dd e'' xs) := by rw [Map.get_del_other _ hne]; exact hc
            have Id : Inv cx P ε φ (t1.del dd) W := I.sub fun d x hx => by
              by_cases e : dd = d
              · subst e; rw [Map.get_del_same] at hx; cases hx
              · rwa [Map.get_del_other _ e] at hx
            rcases e2 with e2 | ⟨e2, b, o, n, cap, g1, g2, g3⟩
            · obtain ⟨I1, H1⟩ := Id.takeOut Held.nil hc'
              rw [List.append_nil] at H1
              exact finP xs (φ cc) cc (t1.del dd) I1 H1 e2 hv h2
            · obtain ⟨w2, k1, k2⟩ := I.chunk dd _ hc2
              have k2 : RowRep P (World.view W) e'' zs w2 (φ dd) := k2
              rw [g1] at k1; cases k1
              obtain ⟨n1, n2, n3⟩ : n = zs.length ∧ n ≤ cap ∧ cap < 2 ^ 63 := by
                rcases k2 with ⟨q1, ⟨a, q2, _⟩, _⟩ | ⟨b', off', cap', cs, T, fz, q1, q2, q3, q4, q5, q6, q7, q8⟩
                · injection q2 with _ q2 q3; subst q1; simp; omega
                · injection q1 with _ q1 q1'; omega
              obtain ⟨fp', r1, r2⟩ := view_row (z := e''.size) (len := xs.length) (v := v) g1 k2 (.inl ⟨b, o, n, cap, cap, g1, by rw [g2]; simp, by omega, n2, n3, by omega, by omega⟩) (by omega)
              rw [hsame] at r1
              obtain ⟨I1, H1⟩ := I.takeOut Held.nil hc2
              rw [List.append_nil] at H1
              have r3 : fp'.Nodup := by
                rcases r1 with ⟨_, _, rfl⟩ | ⟨_, _, _, _, _, _, _, rfl, _⟩ <;> simp
              refine finP xs fp' cc (t1.del dd) (I1.sub fun d x hx => ?_) ⟨r3, fun b hb' => H1.ok b (r2 b hb'), fun c' x' hc' b hb' hm => ?_⟩ r1 hv h2
              · by_cases e : cc = d
                · subst e; rw [Map.get_del_same] at hx; cases hx
                · rwa [Map.get_del_other _ e] at hx
              · have : (t1.del dd).get c' = some x' := by
                  by_cases e : cc = c'
                  · subst e; rw [Map.get_del_same] at hc'; cases hc'
                  · rwa [Map.get_del_other _ e] at hc'
                exact H1.away c' x' this b hb' (r2 b hm)
          · exact (run_fail_inv h2).elim
        · exact (run_fail_inv h2).elim
    case view cc zz off len =>
      cases off with
      | succ n => exact (run_fail_inv h2).elim
      | zero =>
        obtain ⟨y, hc, h2⟩ := run_get_inv h2
        obtain ⟨w', e1, e2⟩ := I.chunk cc y hc
        cases y <;> first | exact (run_fail_inv h2).elim | skip
        rename_i e' xs
        simp only at h2
        split at h2
        · rename_i p hzz hp
          subst p
          rcases run_ite_inv h2 with ⟨hl, h2⟩ | ⟨_, h2⟩
          · have hl := Nat.le_of_ble_eq_true hl
            obtain ⟨fp', r1, r2⟩ := view_row e1 e2 hb hl
            obtain ⟨I1, H1⟩ := I.takeOut Held.nil hc
            rw [List.append_nil] at H1
            have r3 : fp'.Nodup := by
              rcases r1 with ⟨_, _, rfl⟩ | ⟨_, _, _, _, _, _, _, rfl, _⟩ <;> simp
            exact fin (xs.take len) fp' (t1.del cc) I1 ⟨r3, fun b hb' => H1.ok b (r2 b hb'), fun c' x' hc' b hb' hm => H1.away c' x' hc' b hb' (r2 b hm)⟩ r1 h2
          · exact (run_fail_inv h2).elim
        · exact (run_fail_inv h2).elim

/-! ### A slice that is written out -/
theorem ofGroups_rep (c : CTs) : ∀ (n : Nat) (ss : List S1) (xs : List c.T) (vs : List Value), ofGroups c n ss = some xs → DenL P ε ss vs →
    xs.length = n ∧ vs.length = n * c.size ∧ ∀ i (h : i < xs.length), c.Rep P (xs[i]) (fun j => vs[i * c.size + j]?)
  | 0, [], xs, vs, h, hd => by
    simp only [ofGroups, Option.some.injEq] at h; subst h
    simp only [DenL] at hd; subst hd
    exact ⟨rfl, by simp, fun i hi => by simp at hi⟩
  | 0, _ :: _, xs, vs, h, hd => by simp [ofGroups] at h
  | n + 1, ss, xs, vs, h, hd => by
    simp only [ofGroups] at h
    split at h
    · rename_i x r hx hr
      simp only [Option.some.injEq] at h; subst h
      obtain ⟨r1, r2⟩ := CTs.ofS_rep (P := P) (ε := ε) c _ x _ hx (DenL.take c.size hd)
      obtain ⟨i1, i2, i3⟩ := ofGroups_rep c n _ r _ hr (DenL.drop c.size hd)
      have hlen : vs.length = (n + 1) * c.size := by
        simp at r2 i2
        rw [Nat.add_mul]; omega
      refine ⟨by simp [i1], hlen, fun i hi => ?_⟩
      cases i with
      | zero =>
        simp only [List.getElem_cons_zero, Nat.zero_mul, Nat.zero_add]
        refine CTs.Rep.mono' c _ _ _ (fun j v hj hv => ?_) r1
        simpa [List.getElem?_take, hj] using hv
      | succ i =>
        simp only [List.getElem_cons_succ]
        refine CTs.Rep.mono (PHeap.le_refl P) c _ _ _ (fun j v hv => ?_) (i3 i (by simpa using hi))
        rw [List.getElem?_drop] at hv
        rw [← hv]; congr 1; rw [Nat.add_mul]; omega
    · cases h
theorem repL_den {l : List S1} {vs : List Value} (h : DenL P ε l vs) : ∀ n, DenL P ε (repL n l) (repL n vs)
  | 0 => rfl
  | n + 1 => DenL.append h (repL_den h n)
theorem repL_length {α : Type} (l : List α) : ∀ n, (repL n l).length = n * l.length
  | 0 => by simp [repL]
  | n + 1 => by simp [repL, repL_length l n, Nat.add_mul, Nat.add_comm]
theorem repL_get {α : Type} (l : List α) (hl : 0 < l.length) : ∀ (n k : Nat), k < n * l.length → (repL n l)[k]? = l[k % l.length]?
  | 0, k, h => by simp at h
  | n + 1, k, h => by
    simp only [repL]
    by_cases hk : k < l.length
    · rw [List.getElem?_append_left hk, Nat.mod_eq_of_lt hk]
    · rw [List.getElem?_append_right (by omega), repL_get l hl n _ (by rw [Nat.add_mul] at h; omega)]
      congr 1
      rw [← Nat.mod_eq_sub_mod (by omega)]
theorem zeros_eq (z : Array Value) (n : Nat) (hz : 0 < z.size) : ((Array.range (n * z.size)).map fun i => z[i % z.size]!) = (repL n z.toList).toArray := by
  apply Array.ext'
  apply List.ext_getElem?
  intro k
  by_cases hk : k < n * z.size
  · have h2 : k % z.size < z.size := Nat.mod_lt _ hz
    rw [List.toList_toArray, repL_get z.toList (by simpa using hz) n k (by simpa using hk)]
    simp [hk, h2]
  · rw [List.getElem?_eq_none (by simp; omega), List.getElem?_eq_none (by simp [repL_length]; omega)]

theorem takeGroups_sound (e : CTs) : ∀ (n : Nat) (ss : List S1) (xs : List e.T) (vs : List Value) (tab tab' : Tab) (P : PHeap) (φ : Nat → List Nat), Inv cx P ε φ tab W → DenL P ε ss vs → (takeGroups e n ss).run tab = some (xs, tab') →
    ∃ P' φ', P.le P' ∧ Inv cx P' ε φ' tab' W ∧ xs.length = n ∧ vs.length = n * e.size ∧ ∀ i (h : i < xs.length), e.Rep P' (xs[i]) (fun j => vs[i * e.size + j]?)
  | 0, [], xs, vs, tab, tab', P, φ, I, hd, h => by
    obtain ⟨rfl, rfl⟩ := run_pure_inv h
    simp only [DenL] at hd; subst hd
    exact ⟨P, φ, PHeap.le_refl P, I, rfl, by simp, fun i hi => by simp at hi⟩
  | 0, _ :: _, _, _, _, _, _, _, _, _, h => (run_fail_inv h).elim
  | n + 1, ss, xs, vs, tab, tab', P, φ, I, hd, h => by
    simp only [takeGroups] at h
    obtain ⟨x, t1, k1, h⟩ := run_bind_inv h
    obtain ⟨r, t2, k2, h⟩ := run_bind_inv h
    obtain ⟨rfl, rfl⟩ := run_pure_inv h
    obtain ⟨P1, φ1, p1, p2, p3, p4, p5, p6⟩ := takeCs_sound e (ss.take e.size) (vs.take e.size) x tab t1 P φ [] I Held.nil (DenL.take e.size hd) k1
    obtain ⟨P2, φ2, q1, q2, q3, q4, q5⟩ := takeGroups_sound e n (ss.drop e.size) r (vs.drop e.size) t1 _ P1 φ1 p2 (DenL.drop e.size (DenL.mono p1 (fun _ _ h => h) _ _ hd)) k2
    have hv : e.size ≤ vs.length := by simp at p5; omega
    refine ⟨P2, φ2, PHeap.le_trans p1 q1, q2, by simp [q3], ?_, fun i hi => ?_⟩
    · simp at q4; rw [Nat.add_mul]; omega
    · cases i with
      | zero =>
        simp only [List.getElem_cons_zero, Nat.zero_mul, Nat.zero_add]
        refine CTs.Rep.mono' e _ _ _ (fun j v hj hv => ?_) (CTs.Rep.mono q1 e _ _ _ (fun _ _ h => h) p4)
        rw [List.getElem?_take] at hv
        simpa [hj] using hv
      | succ i =>
        simp only [List.getElem_cons_succ]
        have := q5 i (by simpa using hi)
        refine CTs.Rep.mono (PHeap.le_refl P2) e _ _ _ (fun j v hv => ?_) this
        rw [List.getElem?_drop] at hv
        rw [← hv]; congr 1; rw [Nat.add_mul]; omega

theorem buildSlice_sound (htt : TTOK Pg tt) (I : Inv cx P ε φ tab W) (t n : Nat) (parts : List (Nat × SV)) (vals : List (Nat × Value)) (hl : parts.length = vals.length)
    (hp : ∀ (i : Nat) (p : Nat × SV) (q : Nat × Value), parts[i]? = some p → vals[i]? = some q → p.1 = q.1 ∧ DenV P ε p.2 q.2) {fresh : Nat} (hfr : Fresh ε fresh) {sv : SV} {tab' : Tab}
    (h : (buildSliceP tt t n parts fresh).run tab = some (sv, tab')) : Res Pg cx P ε fresh W (Instr.buildSlice t n vals.toArray) sv tab' := by
  have hf : ε fresh = none := hfr fresh (Nat.le_refl _) (by unfold stride; omega)
  unfold buildSliceP at h
  split at h
  · exact (run_fail_inv h).elim
  · rename_i d ht
    have hd := htt t d ht
    split at h
    · rename_i e hk
      have hu := td_slice hd hk
      cases n with
      | zero =>
        simp only at h
        split at h
        · rename_i ed het
          obtain ⟨h1, h2⟩ := run_pure_inv h
          subst h1; subst h2
          have hvals : vals = [] := List.eq_nil_of_length_eq_zero (by simpa using hl.symm)
          subst hvals
          have hE : Ext [] W { W with heap := W.heap.push (.cells #[] e) } cx.td := ⟨by simp, fun b hb _ => by rw [Array.getElem?_push]; simp [Nat.ne_of_lt hb], rfl, rfl, fun _ => ⟨rfl, Nat.le_refl _⟩⟩
          have I2 : Inv cx P ε φ tab' { W with heap := W.heap.push (.cells #[] e) } := by
            refine I.step [] (fun _ => False) (by simp) hE (PHeap.le_refl P) (psub_ext I Held.nil hE) (fun b h => .inl h) (fun _ _ h => h) (fun c x hc _ => ⟨hc, rfl, by simp⟩) (fun _ _ _ h => h.elim) (fun _ _ _ _ h => h.elim) (fun d w h h' => by rw [h'] at h; cases h)
          refine ⟨.slice (some ⟨W.heap.size, 0, none⟩) 0 0, _, P, ε, φ, ?_, PHeap.le_refl P, fun _ _ h => h, fun _ h => .inl h, I2, _, rfl, fun ad had => by cases had; intro _; rfl⟩
          simp [Instr.buildSlice, run_underlying hu, td_size (htt e ed het), Instr.fill]
          simp only [newRow, newObj]
          have hr0 : Array.range 0 = #[] := by simp [Array.range]
          simp [Sem.run, hr0]
        · exact (run_fail_inv h).elim
      | succ m =>
      obtain ⟨n, hn1⟩ : ∃ n, n = m + 1 := ⟨_, rfl⟩
      simp only [← hn1] at h ⊢
      split at h
      · rename_i ed c het hct
        have hed := htt e ed het
        split at h
        · exact (run_fail_inv h).elim
        rename_i z hz
        split at h
        · exact (run_fail_inv h).elim
        · rename_i hchk
          simp only [Bool.and_eq_true] at hchk
          have c1 := nbeq_true hchk.1
          have c2 := Nat.le_of_ble_eq_true hchk.2.1
          have c3 := Nat.le_of_ble_eq_true hchk.2.2.1
          have hzq := nbeq_true hchk.2.2.2
          split at h
          · rename_i cs hfl
            have hz0 := td_zero hed hz W
            have hzs : 0 < z.cells.size := by omega
            have hden := repL_den (cellsOfV_den P ε z) n
            obtain ⟨cs', f1, f2⟩ := fill_sound I _ parts vals _ (repL n z.cells.toList).toArray (by simpa using hden) hl hp _ hfl
            have fin : ∀ (P2 : PHeap) (φ2 : Nat → List Nat) (tab2 : Tab) (xs : List c.T), P.le P2 → Inv cx P2 ε φ2 tab2 W → xs.length = n → cs'.toList.length = n * c.size → (∀ i (h : i < xs.length), c.Rep P2 (xs[i]) (fun j => cs'.toList[i * c.size + j]?)) →
                (Prog.new fresh (.row c xs) (.pure (SV.one (S1.own fresh)))).run tab2 = some (sv, tab') → Res Pg cx P ε fresh W (Instr.buildSlice t n vals.toArray) sv tab' := by
              intro P2 φ2 tab2 xs hle I2 g1 g2 g3 h
              obtain ⟨hn, h⟩ := run_new_inv h
              obtain ⟨rfl, rfl⟩ := run_pure_inv h
              have hE : Ext [] W { W with heap := W.heap.push (.cells cs' e) } cx.td := ⟨by simp, fun b hb _ => by rw [Array.getElem?_push]; simp [Nat.ne_of_lt hb], rfl, rfl, fun _ => ⟨rfl, Nat.le_refl _⟩⟩
              have hrow : RowRep P2 (World.view { W with heap := W.heap.push (.cells cs' e) }) c xs (.slice (some ⟨W.heap.size, 0, none⟩) n n) [W.heap.size] := by
                refine .inr ⟨W.heap.size, 0, n, cs', e, (0, 0), by rw [g1], rfl, by simp [World.view], .inl rfl, by omega, ?_, ?_, ?_⟩
                · have : n * 1 ≤ n * ed.size := Nat.mul_le_mul_left _ c2
                  omega
                · have : cs'.size = n * c.size := by simpa using g2
                  omega
                · intro i hi
                  refine CTs.Rep.mono (PHeap.le_refl P2) c _ _ _ (fun j v hv => ?_) (g3 i hi)
                  rw [Nat.zero_add]; simpa using hv
              have hok : ∀ η, ChunkOK P2 (World.view { W with heap := W.heap.push (.cells cs' e) }) η (.slice (some ⟨W.heap.size, 0, none⟩) n n) [W.heap.size] (.row c xs) := fun η => hrow
              obtain ⟨ε', φ', b1, b2, b3, b4⟩ := install_one I2 Held.nil hf hE (row_handle hrow) (by simp) (fun b hb => by simp at hb; subst hb; exact ⟨.inr (Nat.le_refl _), by simp⟩) (fun η _ => hok η) (psub_ext I2 Held.nil hE)
              refine ⟨_, _, P2, ε', φ', ?_, hle, b1, b2, b3, b4⟩
              have hsmall : ¬ n * ed.size > 2 ^ 24 := by omega
              have h0 : ¬ (n * ed.size = 0) := by
                intro h0
                rcases Nat.mul_eq_zero.1 h0 with h | h <;> omega
              have hz1 := zeros_eq z.cells n hzs
              unfold Instr.buildSlice
              simp only [Sem.run_bind, run_underlying hu, td_size hed, Result.andThen_ok, hsmall, h0, if_false, hz0]
              rw [hzq] at hz1
              simp only [Sem.run_pure, Result.andThen_ok, hzq, hz1, f1]
              simp only [newRow, newObj]
              simp [Sem.run]
            split at h
            · rename_i xs hg
              obtain ⟨g1, g2, g3⟩ := ofGroups_rep (P := P) (ε := ε) c n cs xs cs'.toList hg f2
              exact fin P φ tab xs (PHeap.le_refl P) I g1 g2 g3 h
            · obtain ⟨xs, t1, k1, h⟩ := run_bind_inv h
              obtain ⟨P2, φ2, p1, p2, g1, g2, g3⟩ := takeGroups_sound c n cs xs cs'.toList tab t1 P φ I f2 k1
              exact fin P2 φ2 t1 xs p1 p2 g1 g2 g3 h
          · exact (run_fail_inv h).elim
      · exact (run_fail_inv h).elim
    · exact (run_fail_inv h).elim

/-! ### Conversions -/
theorem storeElem_sound (I : Inv cx P ε φ tab W) {t : Nat} {d : TD} (hd : tdOf Pg t = some d) {c z i off : Nat} (v u : Value) (hx : Den P ε (.pelem c z i off) v) (new : List S1) (hn : DenL P ε new u.cells.toList) (ho : ∀ y ∈ u.cells.toList, oneCell y)
    (hlen : new.length = d.size) (sv : SV) (tab' : Tab) (hrun : (storeElemP c z i off new).run tab = some (sv, tab')) :
    sv = .one .dead ∧ ∃ W' P' φ', (Instr.storeAt t v u).run Pg W = .ok () W' ∧ P.le P' ∧ Inv cx P' ε φ' tab' W' := by
  have hus : u.cells.toList.length = d.size := by rw [hn.length, hlen]
  have sure : ∀ (a : Addr) (W' : World), (storeCells a u.cells.toList).run Pg W = .ok () W' → (Instr.storeAt t (.pointer (some a)) u).run Pg W = .ok () W' := fun a W' h => by
    simp only [Array.length_toList] at hus
    simp [Instr.storeAt, Instr.sureAddr, storeVar, td_size hd, hus, h]
  obtain ⟨b, o, n, cap, h1, h2⟩ := hx
  unfold storeElemP at hrun
  obtain ⟨y0, hc, h⟩ := run_get_inv hrun
  cases y0 <;> first | exact (run_fail_inv h).elim | skip
  rename_i e xs
  simp only at h
  split at h
  · rename_i hz
    have hz := nbeq_true hz
    obtain ⟨w, hi, h⟩ := run_bindO_inv h
    obtain ⟨ss', t1, k1, h⟩ := run_bind_inv h
    obtain ⟨hp, e0⟩ := run_ret_inv k1
    have hE0 : t1 = tab := e0
    obtain ⟨y, t2, k2, h⟩ := run_bind_inv h
    rw [hE0] at k2
    obtain ⟨y2, hc2, h⟩ := run_get_inv h
    cases y2 <;> first | exact (run_fail_inv h).elim | skip
    rename_i e2 xs2
    simp only at h
    split at h
    · rename_i heq _
      subst heq
      have h3 : (Prog.pure (SV.one S1.dead)).run (Map.set t2 c (.row e2 (xs2.set i y))) = some (sv, tab') := h
      obtain ⟨r1, r2⟩ := run_pure_inv h3
      subst r1; subst r2
      obtain ⟨hh, e1, e2'⟩ := I.chunk c _ hc
      rw [h1] at e1; cases e1
      rcases e2' with ⟨g1, _, _⟩ | ⟨b', o', cap', cs, T, fz, g1, g2, g3, g4, g5, g6, g7, g8⟩
      · rw [g1] at hi; simp at hi
      cases g1
      have hil : i < xs.length := by
        rcases Nat.lt_or_ge i xs.length with h | h
        · exact h
        · simp [List.getElem?_eq_none h] at hi
      have hw : xs[i] = w := by simpa [List.getElem?_eq_getElem hil] using hi
      obtain ⟨vs, k3, k4, k5⟩ := CTs.toS_den (ε := ε) e2 _ _ (g8 i hil)
      rw [hw] at k5
      obtain ⟨p1, p2⟩ := putCells_den (cs := vs.toArray) hp (by simpa using k5) hn
      obtain ⟨P', φ', q1, q2, q3, q4, q5, q6⟩ := takeCs_sound e2 ss' _ y tab t2 P φ [] I Held.nil p1 k2
      simp only [List.size_toArray] at p2
      -- the row, behind the sealing
      obtain ⟨hh, f1, f2⟩ := q2.chunk c _ hc2
      rw [h1] at f1; cases f1
      rcases f2 with ⟨_, ⟨a, f1, _⟩, _⟩ | ⟨b2, o2, cap2, cs2, T2, fz2, f1, f2, f3, f4, f5, f6, f7, f8⟩
      · simp at f1; have := hil; omega
      simp only [Value.slice.injEq, Option.some.injEq, Addr.mk.injEq, and_true] at f1
      obtain ⟨⟨rfl, rfl⟩, fl, rfl⟩ := f1
      rw [g3] at f3
      simp only [Option.some.injEq, Obj.cells.injEq] at f3
      obtain ⟨rfl, rfl, rfl⟩ := f3
      have hfit : o + i * z + off + u.cells.toList.length ≤ cs.size := by
        have h3 : i * e2.size + e2.size ≤ cap * e2.size := by
          have : (i + 1) * e2.size ≤ cap * e2.size := Nat.mul_le_mul_right _ (by omega)
          rw [Nat.add_mul] at this; omega
        rw [← hz]; omega
      have hst := storeCells_run (Pg := Pg) b (o + i * z + off) T fz u.cells.toList 0 cs W g3 g4 (by simpa using hfit) ho
      refine ⟨rfl, setArr W b (putArr cs (o + i * z + off) u.cells.toList) T fz, P', φ', ?_, q1, ?_⟩
      · rw [h2]; exact sure _ _ (by simpa using hst)
      · refine q2.write hc2 f2 g3 (fun h' hh' => ?_)
        rw [h1] at hh'; cases hh'
        refine .inr ⟨b, o, cap, _, T, fz, by simp [fl], rfl, setArr_heap g3, by rw [putArr_size _ _ _ hfit]; exact g4, by simpa using f5, g6, by rw [putArr_size _ _ _ hfit]; exact g7, fun j hj => ?_⟩
        simp only [List.length_set] at hj
        have cell := fun m => putArr_get cs (o + i * z + off) u.cells.toList hfit m
        by_cases hji : i = j
        · subst hji
          have hset : (xs2.set i y)[i]'(by simpa using hj) = y := by simp
          rw [hset]
          refine CTs.Rep.mono (PHeap.le_refl P') e2 y _ _ ?_ q4
          intro j' v' hj'
          have e1 : (putArr vs.toArray off u.cells.toList).toList[j']? = (putArr vs.toArray off u.cells.toList)[j']? := by simp
          rw [e1, putArr_get _ _ _ (by simpa using p2)] at hj'
          rw [cell]
          by_cases c1 : off ≤ j' ∧ j' < off + u.cells.toList.length
          · rw [if_pos c1] at hj'
            rw [if_pos ⟨by rw [hz]; omega, by rw [hz]; omega⟩, ← hj']
            congr 1
            rw [hz]; omega
          · rw [if_neg c1] at hj'
            rw [if_neg (by rw [hz]; omega)]
            have hjl : j' < vs.length := by
              rcases Nat.lt_or_ge j' vs.length with h | h
              · exact h
              · simp [h] at hj'
            rw [k4 j' (by omega)]
            simpa using hj'
        · have hset : (xs2.set i y)[j]'(by simpa using hj) = xs2[j] := by rw [List.getElem_set_ne hji]
          rw [hset]
          refine CTs.Rep.mono' e2 _ _ _ ?_ (f8 j hj)
          intro j' v' hjl hj'
          rw [cell, if_neg, hj']
          intro ⟨a1, a2⟩
          rw [← hz] at a1 a2
          rcases Nat.lt_or_gt_of_ne hji with h | h
          · have : (i + 1) * e2.size ≤ j * e2.size := Nat.mul_le_mul_right _ h
            rw [Nat.add_mul] at this; omega
          · have : (j + 1) * e2.size ≤ i * e2.size := Nat.mul_le_mul_right _ h
            rw [Nat.add_mul] at this; omega
    · exact (run_fail_inv h).elim
  · exact (run_fail_inv h).elim
theorem madeCells_get (z : Array Value) (n k i j : Nat) (hk : z.size = k) (hi : i < n) (hj : j < k) : (madeCells z (n * k))[i * k + j]? = z[j]? := by
  have h1 : i * k + j < n * k := by
    have : (i + 1) * k ≤ n * k := Nat.mul_le_mul_right _ hi
    rw [Nat.add_mul] at this; omega
  have h2 : (i * k + j) % k = j := by
    rw [Nat.mul_comm, Nat.mul_add_mod]; exact Nat.mod_eq_of_lt hj
  unfold madeCells
  rw [Array.getElem?_map]
  have h3 : (Array.range (n * k))[i * k + j]? = some (i * k + j) := by
    rw [Array.getElem?_eq_getElem (by simpa using h1)]; simp
  rw [h3]
  simp only [Option.map_some, hk, h2]
  have h4 : j < z.size := by omega
  simp [h4]
theorem makeSlice_sound (htt : TTOK Pg tt) (I : Inv cx P ε φ tab W) (t : Nat) (kl kc : IntKind) (n m : Int) {fresh : Nat} (hfr : Fresh ε fresh) {sv : SV} {tab' : Tab}
    (h : (makeSliceP tt t n m fresh).run tab = some (sv, tab')) : Res Pg cx P ε fresh W (Instr.makeSlice t (.int kl n) (.int kc m)) sv tab' := by
  have hf : ε fresh = none := hfr fresh (Nat.le_refl _) (by unfold stride; omega)
  unfold makeSliceP at h
  split at h
  · exact (run_fail_inv h).elim
  · rename_i d ht
    have hd := htt t d ht
    split at h
    · rename_i e hk
      have hu := td_slice hd hk
      split at h
      · rename_i ed c het hct
        have hed := htt e ed het
        split at h
        · exact (run_fail_inv h).elim
        rename_i z hz
        split at h
        · rename_i x hchk hx
          simp only [Bool.and_eq_true] at hchk
          have c1 := nbeq_true hchk.1
          have c2 := Nat.le_of_ble_eq_true hchk.2.1
          have c3 := Nat.le_of_ble_eq_true hchk.2.2.1
          have hzq := nbeq_true hchk.2.2.2
          rcases run_ite_inv h with ⟨hb, h⟩ | ⟨_, h⟩
          · simp only [Bool.and_eq_true, decide_eq_true_eq] at hb
            obtain ⟨b1, b2, b3⟩ := hb
            obtain ⟨hn, h⟩ := run_new_inv h
            obtain ⟨rfl, rfl⟩ := run_pure_inv h
            obtain ⟨i0, hi0, hz0, hbt, hsz⟩ : ∃ i : TypeInfo, Pg.info? e = some i ∧ i.zero = some z ∧ i.bytes = ed.bytes ∧ i.size = ed.size := by
              unfold tdOf at hed
              split at hed
              · rename_i i dsc hi _
                simp only [Option.some.injEq] at hed
                subst hed
                exact ⟨i, hi, hz, rfl, rfl⟩
              · cases hed
            have hbm : (i0.bytes : Int) * m ≤ 281474976710656 := by
              have h1 : (i0.bytes : Int) * m ≤ 16384 * 4294967296 := Int.mul_le_mul (by omega) b3 (by omega) (by omega)
              omega
            have hrun : (Instr.makeSlice t (.int kl n) (.int kc m)).run Pg W = .ok (.slice (some ⟨W.heap.size, 0, none⟩) n.toNat m.toNat) { W with heap := W.heap.push (.cells (madeCells z.cells (m.toNat * i0.size)) e) } := run_make (P := Pg) W t e i0 z hu hi0 hz0 kl kc n m b1 b2 hbm (by omega)
            have hden := cellsOfV_den P ε z
            obtain ⟨q1, q2⟩ := CTs.ofS_rep c _ x _ hx hden
            have hcz : z.cells.size = c.size := by omega
            have hE : Ext [] W { W with heap := W.heap.push (.cells (madeCells z.cells (m.toNat * i0.size)) e) } cx.td := ⟨by simp, fun b hb _ => by rw [Array.getElem?_push]; simp [Nat.ne_of_lt hb], rfl, rfl, fun _ => ⟨rfl, Nat.le_refl _⟩⟩
            have hrow : RowRep P (World.view { W with heap := W.heap.push (.cells (madeCells z.cells (m.toNat * i0.size)) e) }) c (List.replicate n.toNat x) (.slice (some ⟨W.heap.size, 0, none⟩) n.toNat m.toNat) [W.heap.size] := by
              refine .inr ⟨W.heap.size, 0, m.toNat, madeCells z.cells (m.toNat * i0.size), e, (0, 0), by simp, rfl, by simp [World.view], .inl rfl, by simp; omega, by omega, ?_, ?_⟩
              · rw [size_madeCells, hsz, c1]; omega
              · intro i hi
                have hi' : i < m.toNat := by simp at hi; omega
                have hx' : (List.replicate n.toNat x)[i] = x := by simp
                rw [hx']
                refine CTs.Rep.mono' c _ _ _ (fun j v hj hv => ?_) q1
                rw [hsz, ← c1, Nat.zero_add, madeCells_get z.cells m.toNat c.size i j hcz hi' hj]
                simpa using hv
            have hok : ∀ η, ChunkOK P (World.view { W with heap := W.heap.push (.cells (madeCells z.cells (m.toNat * i0.size)) e) }) η (.slice (some ⟨W.heap.size, 0, none⟩) n.toNat m.toNat) [W.heap.size] (.row c (List.replicate n.toNat x)) := fun η => hrow
            obtain ⟨ε', φ', b1, b2, b3, b4⟩ := install_one I Held.nil hf hE (row_handle hrow) (by simp) (fun b hb => by simp at hb; subst hb; exact ⟨.inr (Nat.le_refl _), by simp⟩) (fun η _ => hok η) (psub_ext I Held.nil hE)
            exact ⟨_, _, P, ε', φ', hrun, PHeap.le_refl P, b1, b2, b3, b4⟩
          · exact (run_fail_inv h).elim
        · exact (run_fail_inv h).elim
      · exact (run_fail_inv h).elim
    · exact (run_fail_inv h).elim
theorem stringToBytes_sound (I : Inv cx P ε φ tab W) {fresh : Nat} (hf : ε fresh = none) (e : Nat) (b : List UInt8) (hb : b.length < 2 ^ 63) :
    ∃ v W' ε' φ', (Conv.stringToBytes e ⟨b.toArray⟩).run Pg W = .ok v W' ∧ HMap.le ε ε' ∧ (∀ c, ε' c ≠ none → ε c ≠ none ∨ (fresh ≤ c ∧ c < fresh + stride)) ∧
      Inv cx P ε' φ' (tab.set fresh (.row u8s b)) W' ∧ ε' fresh = some v := by
  obtain ⟨N, hN⟩ : ∃ N, N = grownCap W b.length 0 e := ⟨_, rfl⟩
  have hN1 : b.length ≤ N := by rw [hN]; exact grownCap_ge W _ _ e
  have hN2 : N ≤ maxLen := by rw [hN]; exact grownCap_le_maxLen W _ _ e (by simp only [maxLen]; omega)
  obtain ⟨cells, hcells⟩ : ∃ cells : Array Value, cells = (b.toArray.map fun x : UInt8 => Value.int .u8 (x.toNat : Int)) ++ Array.replicate (N - b.length) (.int .u8 0) := ⟨_, rfl⟩
  have hsz : cells.size = N := by rw [hcells]; simp; omega
  let W' : World := { W with drawn := W.drawn + 1, heap := W.heap.push (.cells cells e (N, N + 1)) }
  have hE : Ext [] W W' cx.td := ⟨by simp [W'], fun b hb _ => by simp only [W']; rw [Array.getElem?_push]; simp [Nat.ne_of_lt hb], rfl, rfl, fun _ => ⟨rfl, Nat.le_succ _⟩⟩
  have hrow : RowRep P (World.view W') u8s b (.slice (some ⟨W.heap.size, 0, none⟩) b.length N) [W.heap.size] := by
    refine .inr ⟨W.heap.size, 0, N, cells, e, (N, N + 1), rfl, rfl, by simp [World.view, W'], .inr (by rw [hsz]; exact Nat.le_refl _), hN1, by simp only [maxLen] at hN2; omega, by simp [CTs.size, hsz], fun i hi => ?_⟩
    refine CTs.Rep.mono' u8s _ _ _ (fun j v hj hv => ?_) (bytes_rep b i hi)
    have hj0 : j = 0 := by simp [CTs.size] at hj; omega
    subst hj0
    rw [hcells]
    simp only [Nat.add_zero, Nat.zero_add, CTs.size, Nat.mul_one] at hv ⊢
    rw [Array.getElem?_append, if_pos (by simpa using hi)]
    simpa using hv
  have hok : ∀ η, ChunkOK P (World.view W') η (.slice (some ⟨W.heap.size, 0, none⟩) b.length N) [W.heap.size] (.row u8s b) := fun η => hrow
  obtain ⟨ε', φ', b1, b2, b3, b4⟩ := install_one I Held.nil hf hE (row_handle hrow) (by simp) (fun b hb => by simp at hb; subst hb; exact ⟨.inr (Nat.le_refl _), by simp [W']⟩) (fun η _ => hok η) (psub_ext I Held.nil hE)
  refine ⟨_, W', ε', φ', ?_, b1, b2, b3, b4⟩
  have k3 : (Question.appendCap (⟨b.toArray⟩ : ByteArray).size 0 e).forced = false := rfl
  have hbs : (⟨b.toArray⟩ : ByteArray).size = b.length := by simp [ByteArray.size]
  unfold Conv.stringToBytes
  simp only [hbs]
  have hch : (choose (.appendCap b.length 0 e)).run Pg W = .ok N W.drew := by
    rw [hN]; rfl
  rw [Sem.run_bind, hch]
  simp only [Result.andThen_ok]
  rw [← hcells]
  have e1 : (newRow e cells).run Pg W.drew = .ok ⟨W.heap.size, 0, none⟩ { W.drew with heap := W.heap.push (.cells cells e) } := rfl
  have hs : World.shape? { W.drew with heap := W.heap.push (.cells cells e) } W.heap.size = some (e, N) := by
    unfold World.shape?
    simp only [Array.getElem?_push_size, hsz]
  have hfz : World.freeze { W.drew with heap := W.heap.push (.cells cells e) } { block := W.heap.size, off := N } 1 = W' := by
    unfold World.freeze
    rw [if_neg (by decide)]
    simp only [W', World.drew]
    congr 1
    apply Array.ext_getElem?
    intro i
    rw [Array.getElem?_modify, Array.getElem?_push, Array.getElem?_push]
    by_cases hi : W.heap.size = i
    · simp [hi]
    · have : ¬ i = W.heap.size := fun h => hi h.symm
      simp [hi, this]
  have e2 : (markStringish ⟨W.heap.size, 0, none⟩).run Pg { W.drew with heap := W.heap.push (.cells cells e) } = .ok () W' := by
    unfold markStringish
    rw [Sem.run_bind]
    have : (shape W.heap.size).run Pg { W.drew with heap := W.heap.push (.cells cells e) } = .ok (some (e, N)) { W.drew with heap := W.heap.push (.cells cells e) } := by
      rw [← hs]; rfl
    rw [this]
    simp only [Result.andThen_ok]
    rw [← hfz]; rfl
  rw [Sem.run_bind, e1]
  simp only [Result.andThen_ok]
  rw [Sem.run_bind, e2]
  rfl

theorem push_fold (b : List UInt8) : ∀ (r : List UInt8), (b.map fun x : UInt8 => (x.toNat : Int)).foldl (fun r n => r.push (UInt8.ofNat n.toNat)) (⟨r.toArray⟩ : ByteArray) = ⟨(r ++ b).toArray⟩ := by
  induction b with
  | nil => intro r; simp
  | cons x b ih =>
    intro r
    simp only [List.map_cons, List.foldl_cons, Int.toNat_natCast, UInt8.ofNat_toNat]
    have : (⟨r.toArray⟩ : ByteArray).push x = ⟨(r ++ [x]).toArray⟩ := by apply ByteArray.ext; simp [ByteArray.push]
    rw [this, ih]; simp
theorem bytesToString_sound (b : List UInt8) (v : Value) (hs : SrcOK Pg P W u8s b v) (hv : ∃ a n c, v = .slice a n c) :
    (Conv.bytesToString v).run Pg W = .ok (.string ⟨b.toArray⟩) W := by
  obtain ⟨h1, news, n1, n2, n3, n4⟩ := hs
  obtain ⟨a, n, c, rfl⟩ := hv
  have hn : n = b.length := by simpa [Builtin.lenOf] using h1
  have hnews : news = b.map fun x : UInt8 => Value.int .u8 (x.toNat : Int) := by
    apply List.ext_getElem?
    intro i
    by_cases hi : i < b.length
    · have := n3 i hi
      simp only [CTs.Rep, CT.Rep, and_true, CTs.size, Nat.zero_add, Nat.mul_one, Nat.add_zero] at this
      obtain ⟨w, hw, rfl⟩ := this
      rw [hw]
      simp [hi]
      rfl
    · rw [List.getElem?_eq_none (by rw [n1]; simp [CTs.size]; omega), List.getElem?_eq_none (by simp; omega)]
  have hf := n2 W rfl
  cases a with
  | none =>
    have : news = [] := by simpa [Builtin.firstCells] using hf
    rw [hnews] at this
    have hb : b = [] := by simpa using this
    subst hb
    rfl
  | some ad =>
    have hl : (loadCells ad n).run Pg W = .ok ((b.map fun x : UInt8 => (x.toNat : Int)).map (Value.int .u8)).toArray W := by
      rw [hn, List.map_map]
      have : (loadCells ad (b.length * 1)).run Pg W = .ok news.toArray W := by simpa [Builtin.firstCells, CTs.size] using hf
      rw [Nat.mul_one, hnews] at this
      exact this
    rw [run_bytesToString W ad n c _ hl]
    have := push_fold b []
    simp only [List.nil_append] at this
    rw [← this]; rfl
end
end Go.Sx
