/- A walk of Go code by plain functions is sound. -/
import Derived.Test.YtegncnhhofbmiaaSxSound12
namespace Go.Sx
section
variable {Pg : Program} {tt : TT} {cx : Cx} {P : PHeap} {ε : HMap} {φ : Nat → List Nat} {tab : Tab} {W : World}

/-! ### A range over a string -/
/-- A new block, whatever it holds. -/
theorem Inv.newObj (I : Inv cx P ε φ tab W) {c : Nat} (hc : ε c = none) (o : Obj) (x : Chunk) (h : Value) (hh : Handle h)
    (W' : World) (hheap : W'.heap = W.heap.push o) (hos : W'.os = W.os) (hout : W'.output = W.output) (htp : cx.td = true → W'.tape = W.tape ∧ W.drawn ≤ W'.drawn)
    (hok : ChunkOK P (World.view W') (fun d => if d = c then some h else ε d) h [W.heap.size] x) :
    Inv cx P (fun d => if d = c then some h else ε d) (fun d => if d = c then [W.heap.size] else φ d) (tab.set c x) W' := by
  have hsz : W'.heap.size = W.heap.size + 1 := by rw [hheap]; simp
  have old : ∀ b, b < W.heap.size → W'.heap[b]? = W.heap[b]? := fun b hb => by
    rw [hheap, Array.getElem?_push]; simp [Nat.ne_of_lt hb]
  have Pn : P W.heap.size = none := by
    cases hp : P W.heap.size with
    | none => rfl
    | some o => have := I.psub _ _ hp; simp at this
  refine I.step [] (· = c) (fun b hb => by cases hb) ⟨by omega, fun b hb _ => old b hb, hos, hout, htp⟩ (PHeap.le_refl P) ?_ (fun b hb => .inl hb) (upd_le hc) ?_ ?_ ?_ ?_
  · intro b o hb
    have := I.psub b o hb
    rcases Nat.lt_or_ge b W.heap.size with hl | hl
    · rw [old b hl]; exact this
    · simp [Array.getElem?_eq_none hl] at this
  · intro d y hd hn
    rw [Map.get_set_other _ _ (fun e => hn e.symm)] at hd
    exact ⟨hd, by simp [hn], fun _ _ => by simp⟩
  · intro d y hd hn
    subst hn
    rw [Map.get_set_same] at hd
    cases hd
    exact ⟨h, by simp, by simpa using hok, by simp, fun b hb => by simp at hb; subst hb; exact ⟨.inr (Nat.le_refl _), Pn, by omega⟩⟩
  · intro d e y z hd he hde; rw [hd, he] at hde; exact absurd rfl hde
  · intro d w hw hd
    by_cases e : d = c
    · simp [e] at hw; rw [← hw]; exact hh
    · simp [e, hd] at hw
def putObj (W : World) (b : Nat) (o : Obj) : World := { W with heap := W.heap.setIfInBounds b o }
theorem putObj_size (W : World) (b : Nat) (o : Obj) : (putObj W b o).heap.size = W.heap.size := by simp [putObj]
theorem putObj_other {W : World} {b c : Nat} {o : Obj} (h : b ≠ c) : (putObj W b o).heap[c]? = W.heap[c]? := by
  simp [putObj, Array.getElem?_setIfInBounds_ne h]
theorem putObj_same {W : World} {b : Nat} {o o' : Obj} (h : W.heap[b]? = some o') : (putObj W b o).heap[b]? = some o := by
  have hb : b < W.heap.size := by
    rcases Nat.lt_or_ge b W.heap.size with h' | h'
    · exact h'
    · rw [Array.getElem?_eq_none h'] at h; cases h
  simp [putObj, hb]
/-- A block that may change is set anew. -/
theorem Inv.put (I : Inv cx P ε φ tab W) {c : Nat} {x x' : Chunk} {b : Nat}
    (hc : tab.get c = some x) (hφ : φ c = [b]) {o : Obj}
    (hok : ∀ h, ε c = some h → ChunkOK P (World.view (putObj W b o)) ε h [b] x') :
    Inv cx P ε φ (tab.set c x') (putObj W b o) := by
  obtain ⟨l1, l2, l3⟩ := I.live c x hc b (by simp [hφ])
  refine I.step [b] (· = c) ?_ ?_ (PHeap.le_refl _) ?_ (fun b' h => .inl h) (fun _ _ h => h) ?_ ?_ ?_ (fun d w h h' => by rw [h'] at h; cases h)
  · intro b' hb'; simp at hb'; subst hb'; exact ⟨l2, l3⟩
  · exact ⟨by rw [putObj_size]; exact Nat.le_refl _, fun b' _ hn => putObj_other (fun e => hn (by simp [e])), rfl, rfl, fun _ => ⟨rfl, Nat.le_refl _⟩⟩
  · intro b' o' h
    by_cases e : b = b'
    · subst e; rw [l1] at h; cases h
    · rw [putObj_other e]; exact I.psub b' o' h
  · intro d y hd hn
    have hcd : c ≠ d := fun e => hn e.symm
    rw [Map.get_set_other _ _ hcd] at hd
    refine ⟨hd, rfl, fun b' hb' => ?_⟩
    simp
    intro e; subst e
    exact I.apart c d x y hcd hc hd b' (by simp [hφ]) hb'
  · intro d y hd hN
    subst hN
    rw [Map.get_set_same] at hd
    cases hd
    obtain ⟨h, e1, e2⟩ := I.chunk d x hc
    refine ⟨h, e1, by rw [hφ]; exact hok h e1, by rw [hφ]; simp, fun b' hb' => ?_⟩
    rw [hφ] at hb'; simp at hb'; subst hb'
    exact ⟨.inl (by simp), l1, by rw [putObj_size]; exact l2⟩
  · intro d e y z hd he hde
    rw [hd, he] at hde; exact absurd rfl hde

theorem range_sound (I : Inv cx P ε φ tab W) {fresh : Nat} (hfr : Fresh ε fresh) (b : List UInt8) (v : Value) (hv : DenV P ε (.one (.str b)) v) {t : Nat} (ht : Pg.underlying t = some .string)
    {sv : SV} {tab' : Tab} (h : (Prog.new fresh (.iter b 0) (.pure (.one (.own fresh)))).run tab = some (sv, tab')) : Res Pg cx P ε fresh W (Instr.range t v) sv tab' := by
  obtain ⟨hnn, h⟩ := run_new_inv h
  obtain ⟨e1, e2⟩ := run_pure_inv h
  subst e1; subst e2
  obtain ⟨h1, h2⟩ := hv
  subst h1
  have hf : ε fresh = none := hfr fresh (Nat.le_refl _) (by unfold stride; omega)
  refine ⟨.pointer (some ⟨W.heap.size, 0, none⟩), { W with heap := W.heap.push (.stringIter ⟨b.toArray⟩ 0) }, P, _, _, ?_, PHeap.le_refl P, upd_le hf, ?_,
    I.newObj hf (.stringIter ⟨b.toArray⟩ 0) (.iter b 0) (.pointer (some ⟨W.heap.size, 0, none⟩)) (.inl ⟨_, rfl⟩) _ rfl rfl rfl (fun _ => ⟨rfl, Nat.le_refl _⟩) ⟨W.heap.size, rfl, rfl, by simp [World.view], h2⟩, by simp [DenV, Den]⟩
  · simp [Instr.range, run_underlying ht]
  · intro d hd
    by_cases e : d = fresh
    · right; subst e; exact ⟨Nat.le_refl _, by unfold stride; omega⟩
    · left; simpa [e] using hd

theorem pair_lt {c : Prop} [Decidable c] {a b : Nat × Nat} {N : Nat} (ha : a.1 < N) (hb : b.1 < N) : (if c then a else b).1 < N := by
  by_cases h : c
  · rw [if_pos h]; exact ha
  · rw [if_neg h]; exact hb
theorem runeAt_lt (b : List UInt8) (i : Nat) : runeAt b i < 2 ^ 31 := by
  have h0 := UInt8.toNat_lt (ByteArray.get! (⟨b.toArray⟩ : ByteArray) (i + 0))
  have e0 : Utf8.runeError < 2 ^ 31 := by decide
  have hm : ∀ x y : Nat, 0 < y → x % y < y := fun x y h => Nat.mod_lt _ h
  unfold runeAt Utf8.decode
  dsimp only
  refine pair_lt (by omega) (pair_lt (pair_lt ?_ e0) (pair_lt (pair_lt ?_ e0) (pair_lt (pair_lt ?_ e0) e0)))
  all_goals dsimp only
  all_goals omega

theorem next_sound (I : Inv cx P ε φ tab W) (fresh : Nat) (v : Value) (ty : Nat) {c : Nat} (hv : DenV P ε (.one (.own c)) v) {b : List UInt8} {p : Nat} (hy : tab.get c = some (.iter b p))
    {sv : SV} {tab' : Tab} (h : (Prog.ite (Nat.blt p b.length)
          (.set c (.iter b (p + runeLen b p)) (.pure (SV.tup [.inl (.bool true), .inl (.int .i64 (IK.ofInt .i64 p)), .inl (.int .i32 (IK.ofInt .i32 (runeAt b p)))])))
          (.pure (.tup [.inl (.bool false)]))).run tab = some (sv, tab')) : Res Pg cx P ε fresh W (Instr.next v true ty) sv tab' := by
  obtain ⟨w, f1, bl, f2, f3, f4, f5⟩ := I.chunk c _ hy
  have hv' : ε c = some v := hv
  rw [hv'] at f1; cases f1
  subst f2
  have f4 : W.heap[bl]? = some (.stringIter ⟨b.toArray⟩ p) := f4
  rcases run_ite_inv h with ⟨hlt, h⟩ | ⟨hlt, h⟩
  · have hlt : p < b.length := by simpa [Nat.blt_eq] using hlt
    have h' : (Prog.pure (SV.tup [.inl (.bool true), .inl (.int .i64 (IK.ofInt .i64 p)), .inl (.int .i32 (IK.ofInt .i32 (runeAt b p)))])).run (tab.set c (.iter b (p + runeLen b p))) = some (sv, tab') := h
    obtain ⟨e1, e2⟩ := run_pure_inv h'
    subst e1; subst e2
    refine ⟨.tuple #[.bool true, goInt p, .int .i32 (runeAt b p)], putObj W bl (.stringIter ⟨b.toArray⟩ (p + runeLen b p)), P, ε, φ, ?_, PHeap.le_refl P, fun _ _ h => h, fun _ h => .inl h,
      I.put hy f3 (fun h e => ?_), ?_⟩
    · have hsz : p < (⟨b.toArray⟩ : ByteArray).size := hlt
      simp [Instr.next, getObj, setObj, Sem.run, f4, hsz, Result.andThen, runeAt, runeLen, putObj]
    · rw [hv'] at e; cases e
      exact ⟨bl, rfl, rfl, putObj_same f4, f5⟩
    · refine ⟨_, rfl, .bool true, _, rfl, rfl, goInt p, _, rfl, ?_, .int .i32 (runeAt b p), _, rfl, ?_, rfl⟩
      · show goInt p = .int .i64 (IK.toInt .i64 (IK.ofInt .i64 p))
        rw [IK.toInt_ofInt, wrap_id .i64 _ (by simp [IntKind.min, IntKind.max, IntKind.signed, IntKind.bits]; omega)]; rfl
      · show Value.int .i32 (runeAt b p) = .int .i32 (IK.toInt .i32 (IK.ofInt .i32 (runeAt b p)))
        have := runeAt_lt b p
        rw [IK.toInt_ofInt, wrap_id .i32 _ (by simp [IntKind.min, IntKind.max, IntKind.signed, IntKind.bits]; omega)]
  · have hlt : ¬ p < b.length := by
      intro e; have : Nat.blt p b.length = true := by rw [Nat.blt_eq]; exact e
      rw [this] at hlt; cases hlt
    obtain ⟨e1, e2⟩ := run_pure_inv h
    subst e1; subst e2
    have hsz : ¬ p < (⟨b.toArray⟩ : ByteArray).size := hlt
    refine ⟨.tuple #[.bool false], W, P, ε, φ, ?_, PHeap.le_refl P, fun _ _ h => h, fun _ h => .inl h, I, ⟨_, rfl, .bool false, _, rfl, rfl, rfl⟩⟩
    simp [Instr.next, getObj, Sem.run, f4, hsz, Result.andThen]

/-! ### An array's element -/
theorem arrP_inv (size : Nat) (y : S1) (i : Int) : ∀ (m j : Nat) (sv : SV) (tab' : Tab), (arrP size y i m j).run tab = some (sv, tab') → tab' = tab ∧ ∃ q, j ≤ q ∧ q < j + m ∧ i = (q : Int) ∧ sv = .one (offP y (q * size))
  | 0, j, sv, tab', h => (run_fail_inv h).elim
  | m + 1, j, sv, tab', h => by
    rcases run_ite_inv h with ⟨h1, h⟩ | ⟨_, h⟩
    · obtain ⟨e1, e2⟩ := run_pure_inv h
      exact ⟨e2, j, Nat.le_refl _, by omega, of_decide_eq_true h1, e1⟩
    · obtain ⟨e1, q, h1, h2, h3, h4⟩ := arrP_inv size y i m (j + 1) sv tab' h
      exact ⟨e1, q, by omega, by omega, h3, h4⟩
theorem arrIx_sound {t n e : Nat} {d ed : TD} (hd : tdOf Pg t = some d) (hk : d.kind = .arr n e) (hed : tdOf Pg e = some ed) (x : S1) (v : Value) (hx : Den P ε x v) (hok : pcellOK x = true)
    (hown : ∀ c, x = .own c → ∃ b, v = .pointer (some ⟨b, 0, none⟩)) (ixv : Value) (ci vi : Option Int) (hc : ∀ i, ci = some i → ∃ k, ixv = .int k i) (hv : ∀ i, vi = some i → ∃ k, ixv = .int k i)
    (sv : SV) (tab' : Tab) (h : (arrIx ed.size n x ci vi).run tab = some (sv, tab')) : tab' = tab ∧ ∃ r, (Instr.indexAt t v ixv).run Pg W = .ok r W ∧ DenV P ε sv r := by
  have hu := td_arr hd hk
  have main : ∀ (q : Nat) (k : IntKind), q < n → ixv = .int k (q : Int) → ∃ r, (Instr.indexAt t v ixv).run Pg W = .ok r W ∧ DenV P ε (.one (offP x (q * ed.size))) r := by
    intro q k hq hi
    subst hi
    obtain ⟨a, rfl, h2⟩ := offP_den x v hx hok (q * ed.size) hown
    refine ⟨.pointer (some (a.add (q * ed.size))), ?_, h2⟩
    have hsz := td_size (t := e) hed W
    have h0 : (0 : Int) ≤ (q : Int) ∧ (q : Int) < (n : Int) := by omega
    simp [Instr.indexAt, asIntOf, run_underlying hu, Instr.sureAddr, h0, hsz]
    omega
  unfold arrIx at h
  cases ci with
  | some i =>
    dsimp only at h
    split at h
    · rename_i h1 h2
      obtain ⟨e1, e2⟩ := run_pure_inv h
      subst e1; subst e2
      obtain ⟨k, hk'⟩ := hc i rfl
      have h1 := of_decide_eq_true h1
      have h2 : i.toNat < n := by simpa [Nat.blt_eq] using h2
      exact ⟨rfl, main i.toNat k h2 (by rw [hk']; congr 1; omega)⟩
    · exact (run_fail_inv h).elim
  | none =>
    dsimp only at h
    split at h
    · rename_i i _
      obtain ⟨k, hk'⟩ := hv i rfl
      obtain ⟨e1, q, h1, h2, h3, h4⟩ := arrP_inv _ _ _ _ _ _ _ h
      subst e1; subst h4
      exact ⟨rfl, main q k (by omega) (by rw [hk', h3])⟩
    · exact (run_fail_inv h).elim

/-! ### An array of more cells -/
theorem arrBig_sound {t n e : Nat} {d ed : TD} (hd : tdOf Pg t = some d) (hk : d.kind = .arr n e) (hed : tdOf Pg e = some ed) (I : Inv cx P ε φ tab W) {c off i : Nat} {ct : CT} (v : Value)
    (hx : (off = 0 ∧ ε c = some v) ∨ ∃ b, ε c = some (.pointer (some ⟨b, 0, none⟩)) ∧ v = .pointer (some ⟨b, off, none⟩)) (k : IntKind) (sv : SV) (tab' : Tab) (h : (arrBig c off i ed.size n ct).run tab = some (sv, tab')) :
    ∃ r, (Instr.indexAt t v (.int k (i : Int))).run Pg W = .ok r W ∧ Inv cx P ε φ tab' W ∧ DenV P ε sv r := by
  have hu := td_arr hd hk
  have hsz := td_size (t := e) hed W
  obtain ⟨y, hy, h⟩ := run_get_inv h
  have main : ∀ b : Nat, (∃ q, ε c = some (.pointer (some ⟨b, q, none⟩))) → ε c = some (.pointer (some ⟨b, 0, none⟩)) → i < n → ∃ r, (Instr.indexAt t v (.int k (i : Int))).run Pg W = .ok r W ∧ DenV P ε (.one (.parr c off (i * ed.size))) r := by
    intro b _ hb hi
    have hv : v = .pointer (some ⟨b, off, none⟩) := by
      rcases hx with ⟨rfl, h9⟩ | ⟨b', h1, h2⟩
      · rw [hb] at h9; injection h9 with h9; exact h9.symm
      · rw [hb] at h1; cases h1; exact h2
    subst hv
    have h0 : (0 : Int) ≤ (i : Int) ∧ (i : Int) < (n : Int) := by omega
    refine ⟨.pointer (some ⟨b, off + i * ed.size, none⟩), ?_, ⟨b, hb, rfl⟩⟩
    simp [Instr.indexAt, asIntOf, run_underlying hu, Instr.sureAddr, h0, hsz, Addr.add]
    rw [if_pos hi]
    split
    · rename_i hz; rw [hz]; rfl
    · rfl
  obtain ⟨w, e1, e2⟩ := I.chunk c y hy
  cases y <;> first | exact (run_fail_inv h).elim | skip
  · rename_i vs
    obtain ⟨b, cs, T, f1, f2, f3, f4⟩ := e2
    subst f1
    simp only at h
    split at h
    · rename_i y hofs
      split at h
      · rename_i hlen
        have hlen := nbeq_true hlen
        rcases run_ite_inv h with ⟨hi, h⟩ | ⟨_, h⟩
        · have hi : i < n := by simpa [Nat.blt_eq] using hi
          have h' : (Prog.pure (SV.one (.parr c off (i * ed.size)))).run (tab.set c (.cellsA (vs.take off) ct (n * ed.size) y (vs.drop (off + n * ed.size)))) = some (sv, tab') := h
          obtain ⟨g1, g2⟩ := run_pure_inv h'
          subst g1; subst g2
          obtain ⟨r, h1, h2⟩ := main b ⟨_, e1⟩ e1 hi
          refine ⟨r, h1, ?_, h2⟩
          have ha := ofSL_rep ct _ y _ hofs (DenL.take (n * ed.size) (DenL.drop off f4))
          have hn : ((vs.drop off).take (n * ed.size)).length = n * ed.size := by rw [← ha.2.1]; exact hlen
          rw [hn] at ha
          have key := I.write (x' := .cellsA (vs.take off) ct (n * ed.size) y (vs.drop (off + n * ed.size))) hy f2 (cs := cs) (T := T) (fz := (0, 0)) f3 (fun h' e => by
            rw [e1] at e; cases e
            rw [setArr_self f3]
            refine ⟨b, cs, T, cs.toList.take off, (cs.toList.drop off).take (n * ed.size), cs.toList.drop (off + n * ed.size), rfl, rfl, f3, ?_, DenL.take _ f4, ha, DenL.drop _ f4⟩
            rw [← List.drop_drop, List.take_append_drop, List.take_append_drop])
          rwa [setArr_self f3] at key
        · exact (run_fail_inv h).elim
      · exact (run_fail_inv h).elim
    · exact (run_fail_inv h).elim
  · rename_i vs t' m y ws
    obtain ⟨b, cs, T, c1, c2, c3, f1, f2, f3, f4⟩ := e2
    subst f1
    simp only at h
    split at h
    · rcases run_ite_inv h with ⟨hi, h⟩ | ⟨_, h⟩
      · have hi : i < n := by simpa [Nat.blt_eq] using hi
        obtain ⟨g1, g2⟩ := run_pure_inv h
        subst g1; subst g2
        obtain ⟨r, h1, h2⟩ := main b ⟨_, e1⟩ e1 hi
        exact ⟨r, h1, I, h2⟩
      · exact (run_fail_inv h).elim
    · exact (run_fail_inv h).elim
theorem arrPc_sound {t n e : Nat} {d ed : TD} (hd : tdOf Pg t = some d) (hk : d.kind = .arr n e) (hed : tdOf Pg e = some ed) {c off i : Nat} (v : Value)
    (hx : Den P ε (.pcell c off) v) (hi : i < n) (k : IntKind) :
    ∃ r, (Instr.indexAt t v (.int k (i : Int))).run Pg W = .ok r W ∧ DenV P ε (.one (.parr c off (i * ed.size))) r := by
  have hu := td_arr hd hk
  have hsz := td_size (t := e) hed W
  obtain ⟨b, hb, rfl⟩ := hx
  have h0 : (0 : Int) ≤ (i : Int) ∧ (i : Int) < (n : Int) := by omega
  refine ⟨.pointer (some ⟨b, off + i * ed.size, none⟩), ?_, ⟨b, hb, rfl⟩⟩
  simp [Instr.indexAt, asIntOf, run_underlying hu, Instr.sureAddr, h0, hsz, Addr.add]
  rw [if_pos hi]
  split
  · rename_i hz; rw [hz]; rfl
  · rfl
theorem parr_sound {t n e : Nat} {d ed : TD} (hd : tdOf Pg t = some d) (hk : d.kind = .arr n e) (hed : tdOf Pg e = some ed) (h1 : ed.size = 1) {c off j i : Nat} (v : Value)
    (hx : Den P ε (.parr c off j) v) (hi : i < n) (k : IntKind) :
    ∃ r, (Instr.indexAt t v (.int k (i : Int))).run Pg W = .ok r W ∧ DenV P ε (.one (.parr c off (j + i))) r := by
  have hu := td_arr hd hk
  have hsz := td_size (t := e) hed W
  obtain ⟨b, hb, rfl⟩ := hx
  have h0 : (0 : Int) ≤ (i : Int) ∧ (i : Int) < (n : Int) := by omega
  refine ⟨.pointer (some ⟨b, off + (j + i), none⟩), ?_, ⟨b, hb, rfl⟩⟩
  simp [Instr.indexAt, asIntOf, run_underlying hu, Instr.sureAddr, h0, hsz, h1, Addr.add]
  rw [if_pos hi]
  split
  · rename_i hz; rw [hz]; rfl
  · rw [Nat.add_assoc]

/-! ### An array value's element -/
theorem part_arr1 {t : Nat} {d : TD} (hd : tdOf Pg t = some d) (ha : d.agg = false) {cs : Array Value} {k : Nat} {w : Value} (h : cs[k]? = some w) : (part t cs k).run Pg W = .ok w W := by
  unfold part
  rw [Sem.run_bind, td_isAgg hd, ha]
  simp [h]
theorem index_arr {t n e : Nat} {d ed : TD} (hd : tdOf Pg t = some d) (hk : d.kind = .arr n e) (hed : tdOf Pg e = some ed) (h1 : ed.size = 1) (ha : ed.agg = false) {cs : Array Value} (k : IntKind) (i : Int) {w : Value}
    (h0 : 0 ≤ i) (hin : i.toNat < n) (hw : cs[i.toNat]? = some w) : (Instr.index t (.agg cs) (.int k i)).run Pg W = .ok w W := by
  have hu := td_arr hd hk
  have hi : i < (n : Int) := by omega
  simp [Instr.index, asIntOf, run_underlying hu, h0, hi, td_size (t := e) hed W, h1, part_arr1 hed ha hw]
theorem indexA_sound {t n e : Nat} {d ed : TD} (hd : tdOf Pg t = some d) (hk : d.kind = .arr n e) (hed : tdOf Pg e = some ed) (h1 : ed.size = 1) (ha : ed.agg = false) {ct : CT} {y : List ct.T} {cs : Array Value} (hv : ArrRep P ct n y cs.toList) (k : IntKind) (i : Int) {z : ct.T} (hz : at? y i = some z) :
    ∃ r, (Instr.index t (.agg cs) (.int k i)).run Pg W = .ok r W ∧ Den P ε (CT.toS ct z) r := by
  unfold at? at hz
  split at hz
  · rename_i h0
    have h0 := of_decide_eq_true h0
    obtain ⟨hi, e1⟩ := List.getElem?_eq_some_iff.1 hz
    have hcs : i.toNat < cs.toList.length := by rw [hv.1, ← hv.2.1]; exact hi
    have hw : cs[i.toNat]? = some (cs.toList[i.toNat]) := by simp at hcs ⊢
    refine ⟨_, index_arr hd hk hed h1 ha k i h0 (by rw [← hv.2.1]; exact hi) hw, ?_⟩
    have := hv.2.2 i.toNat hi (cs.toList[i.toNat]) (List.getElem?_eq_getElem hcs)
    rw [e1] at this
    exact (CT.toS_den ct z _).1 this
  · cases hz
theorem indexL_sound {t n e : Nat} {d ed : TD} (hd : tdOf Pg t = some d) (hk : d.kind = .arr n e) (hed : tdOf Pg e = some ed) (h1 : ed.size = 1) (ha : ed.agg = false) {vs : List S1} {cs : Array Value} (hn : vs.length = n) (hv : DenL P ε vs cs.toList) (k : IntKind) (i : Int) {z : S1} (hz : at? vs i = some z) :
    ∃ r, (Instr.index t (.agg cs) (.int k i)).run Pg W = .ok r W ∧ Den P ε z r := by
  unfold at? at hz
  split at hz
  · rename_i h0
    have h0 := of_decide_eq_true h0
    obtain ⟨hi, _⟩ := List.getElem?_eq_some_iff.1 hz
    obtain ⟨v, hv1, hv2⟩ := hv.nth hz
    exact ⟨v, index_arr hd hk hed h1 ha k i h0 (by omega) (by simpa using hv1), hv2⟩
  · cases hz

/-! ### An array as a slice; a slice's first cells as an array -/
theorem sliceArr_sound {t n e : Nat} {d ed : TD} (hd : tdOf Pg t = some d) (hk : d.kind = .arr n e) (hed : tdOf Pg e = some ed) (I : Inv cx P ε φ tab W) (x : S1) (v : Value) (hx : Den P ε x v)
    {sv : SV} {tab' : Tab} (h : (sliceArrP n x).run tab = some (sv, tab')) : tab' = tab ∧ ∃ r, (Instr.sliceAt t v none none none).run Pg W = .ok r W ∧ DenV P ε sv r := by
  have hu := td_arr hd hk
  have hsz := td_size (t := e) hed W
  unfold sliceArrP at h
  split at h
  · rename_i c
    have hx : ε c = some v := hx
    obtain ⟨y, hc, h⟩ := run_get_inv h
    cases y <;> first | exact (run_fail_inv h).elim | skip
    rename_i vs
    simp only at h
    split at h
    · rename_i hn
      obtain ⟨g1, g2⟩ := run_pure_inv h
      subst g1; subst g2
      obtain ⟨w, e1, b, cs, T, f1, f2, f3, f4⟩ := I.chunk c _ hc
      rw [hx] at e1; cases e1
      subst f1
      refine ⟨rfl, .slice (some ⟨b, 0, none⟩) n n, ?_, Nat.le_of_ble_eq_true hn, b, hx, rfl⟩
      simp [Instr.sliceAt, run_underlying hu, Instr.sureAddr, Instr.sliceBounds, hsz]
      intro _
      simp [Addr.add]
    · exact (run_fail_inv h).elim
  · exact (run_fail_inv h).elim
theorem firstN_rep {P : PHeap} (t : CT) (b : Nat) : ∀ (n o : Nat) (xs : List t.T) (y : (repCT t n).T), firstN t n xs = some y → (∀ i (h : i < xs.length), (CTs.cons t .nil).Rep P xs[i] (fun j => P.cell b (o + i + j))) →
    (repCT t n).Rep P y (fun j => P.cell b (o + j)) ∧ n ≤ xs.length
  | 0, o, xs, y, _, _ => by simp [repCT, CTs.Rep]
  | n + 1, o, [], y, h, _ => by simp [firstN] at h
  | n + 1, o, x :: xs, y, h, hr => by
    simp only [firstN] at h
    split at h
    · rename_i z hz
      have h : CTs.mk t (repCT t n) x z = y := Option.some.inj h
      subst h
      obtain ⟨k1, k2⟩ := firstN_rep t b n (o + 1) xs z hz fun i hi => by
        have := hr (i + 1) (by simp; omega)
        simpa [Nat.add_assoc, Nat.add_comm 1 i] using this
      refine ⟨?_, by simp; omega⟩
      have h0 : CTs.Rep P (.cons t .nil) x (fun j => P.cell b (o + 0 + j)) := hr 0 (by simp)
      show CTs.Rep P (.cons t (repCT t n)) (CTs.mk t (repCT t n) x z) _
      simp only [CTs.Rep, CTs.hd_mk, CTs.tl_mk]
      simp only [CTs.Rep] at h0
      obtain ⟨⟨w, hw, h0⟩, _⟩ := h0
      refine ⟨⟨w, by simpa using hw, h0⟩, ?_⟩
      simpa [Nat.add_assoc, Nat.add_comm 1] using k1
    · cases h
theorem arrayAt_sound {t n e : Nat} {d : TD} (hd : tdOf Pg t = some d) (hk : d.kind = .arr n e) (hn : 1 ≤ n) {c : CT} {xs : List c.T} {v : Value} (hx : Den P ε (.ro (.cons c .nil) xs) v) {y : (repCT c n).T} (hy : firstN c n xs = some y) :
    ∃ r, (Instr.arrayAt t v).run Pg W = .ok r W ∧ Den P ε (.pro (repCT c n) y) r := by
  have hu := td_arr hd hk
  have hx : (CT.ro (.cons c .nil)).Rep P xs v := hx
  simp only [CT.Rep] at hx
  obtain ⟨a, cap, h1, h2, h3, h4, h5⟩ := hx
  cases a with
  | none =>
    have : xs.length = 0 := by have := h4 rfl; omega
    have : xs = [] := List.eq_nil_of_length_eq_zero this
    subst this
    cases n with
    | zero => omega
    | succ n => simp [firstN] at hy
  | some ad =>
    obtain ⟨g1, g2⟩ := h5 ad rfl
    obtain ⟨k1, k2⟩ := firstN_rep (P := P) c ad.block n ad.off xs y hy (fun i hi => by
      have := g2 i hi
      simpa [CTs.size] using this)
    subst h1
    refine ⟨.pointer (some ad), ?_, ad, rfl, g1 (by omega), k1⟩
    have : ¬ xs.length < n := by omega
    simp [Instr.arrayAt, run_underlying hu, this]
end
end Go.Sx
