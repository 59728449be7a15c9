/- A part of the proof: a walk of Go code by plain functions, and that it is sound. -/
import Derived.Test.YtehpdcdpkdhcgaaSxSound12
namespace Go.Sx
section
variable {Pg : Program} {tt : TT} {cx : Cx} {P : PHeap} {ε : HMap} {φ : Nat → List Nat} {tab : Tab} {W : World}

/-! ### A range over a string -/
/-- A new block, whatever it holds. -/
theorem Inv.newObj (I : Inv cx P ε φ tab W) {c : Nat} (hc : ε c = none) (o : Obj) (x : Chunk) (h : Value) (hh : Handle h)
    (W' : World) (hheap : W'.heap = W.heap.push o) (hos : W'.os = W.os) (hout : W'.output = W.output)
    (hok : ChunkOK P (World.view W') (fun d => if d = c then some h else ε d) h [W.heap.size] x) :
    Inv cx P (fun d => if d = c then some h else ε d) (fun d => if d = c then [W.heap.size] else φ d) (tab.set c x) W' := by
  have hsz : W'.heap.size = W.heap.size + 1 := by rw [hheap]; simp
  have old : ∀ b, b < W.heap.size → W'.heap[b]? = W.heap[b]? := fun b hb => by
    rw [hheap, Array.getElem?_push]; simp [Nat.ne_of_lt hb]
  have Pn : P W.heap.size = none := by
    cases hp : P W.heap.size with
    | none => rfl
    | some o => have := I.psub _ _ hp; simp at this
  refine I.step [] (· = c) (fun b hb => by cases hb) ⟨by omega, fun b hb _ => old b hb, hos, hout⟩ (PHeap.le_refl P) ?_ (fun b hb => .inl hb) (upd_le hc) ?_ ?_ ?_ ?_
  · intro b o hb
    have := I.psub b o hb
    rcases Nat.lt_or_ge b W.heap.size with hl | hl
    · rw [old b hl]; exact this
    · simp [Array.getElem?_eq_none hl] at this
  · intro d y hd hn
    rw [Map.get_set_other _ _ (fun e => hn e.symm)] at hd
    exact ⟨hd, by simp [hn], fun _ _ => by simp⟩
  · intro d y hd hn
    subst hn
    rw [Map.get_set_same] at hd
    cases hd
    exact ⟨h, by simp, by simpa using hok, by simp, fun b hb => by simp at hb; subst hb; exact ⟨.inr (Nat.le_refl _), Pn, by omega⟩⟩
  · intro d e y z hd he hde; rw [hd, he] at hde; exact absurd rfl hde
  · intro d w hw hd
    by_cases e : d = c
    · simp [e] at hw; rw [← hw]; exact hh
    · simp [e, hd] at hw
def putObj (W : World) (b : Nat) (o : Obj) : World := { W with heap := W.heap.setIfInBounds b o }
theorem putObj_size (W : World) (b : Nat) (o : Obj) : (putObj W b o).heap.size = W.heap.size := by simp [putObj]
theorem putObj_other {W : World} {b c : Nat} {o : Obj} (h : b ≠ c) : (putObj W b o).heap[c]? = W.heap[c]? := by
  simp [putObj, Array.getElem?_setIfInBounds_ne h]
theorem putObj_same {W : World} {b : Nat} {o o' : Obj} (h : W.heap[b]? = some o') : (putObj W b o).heap[b]? = some o := by
  have hb : b < W.heap.size := by
    rcases Nat.lt_or_ge b W.heap.size with h' | h'
    · exact h'
    · rw [Array.getElem?_eq_none h'] at h; cases h
  simp [putObj, hb]
/-- A block that may change is set anew. -/
theorem Inv.put (I : Inv cx P ε φ tab W) {c : Nat} {x x' : Chunk} {b : Nat}
    (hc : tab.get c = some x) (hφ : φ c = [b]) {o : Obj}
    (hok : ∀ h, ε c = some h → ChunkOK P (World.view (putObj W b o)) ε h [b] x') :
    Inv cx P ε φ (tab.set c x') (putObj W b o) := by
  obtain ⟨l1, l2, l3⟩ := I.live c x hc b (by simp [hφ])
  refine I.step [b] (· = c) ?_ ?_ (PHeap.le_refl _) ?_ (fun b' h => .inl h) (fun _ _ h => h) ?_ ?_ ?_ (fun d w h h' => by rw [h'] at h; cases h)
  · intro b' hb'; simp at hb'; subst hb'; exact ⟨l2, l3⟩
  · exact ⟨by rw [putObj_size]; exact Nat.le_refl _, fun b' _ hn => putObj_other (fun e => hn (by simp [e])), rfl, rfl⟩
  · intro b' o' h
    by_cases e : b = b'
    · subst e; rw [l1] at h; cases h
    · rw [putObj_other e]; exact I.psub b' o' h
  · intro d y hd hn
    have hcd : c ≠ d := fun e => hn e.symm
    rw [Map.get_set_other _ _ hcd] at hd
    refine ⟨hd, rfl, fun b' hb' => ?_⟩
    simp
    intro e; subst e
    exact I.apart c d x y hcd hc hd b' (by simp [hφ]) hb'
  · intro d y hd hN
    subst hN
    rw [Map.get_set_same] at hd
    cases hd
    obtain ⟨h, e1, e2⟩ := I.chunk d x hc
    refine ⟨h, e1, by rw [hφ]; exact hok h e1, by rw [hφ]; simp, fun b' hb' => ?_⟩
    rw [hφ] at hb'; simp at hb'; subst hb'
    exact ⟨.inl (by simp), l1, by rw [putObj_size]; exact l2⟩
  · intro d e y z hd he hde
    rw [hd, he] at hde; exact absurd rfl hde

theorem range_sound (I : Inv cx P ε φ tab W) {fresh : Nat} (hfr : Fresh ε fresh) (b : List UInt8) (v : Value) (hv : DenV P ε (.one (.str b)) v) {t : Nat} (ht : Pg.underlying t = some .string)
    {sv : SV} {tab' : Tab} (h : (Prog.new fresh (.iter b 0) (.pure (.one (.own fresh)))).run tab = some (sv, tab')) : Res Pg cx P ε fresh W (Instr.range t v) sv tab' := by
  obtain ⟨hnn, h⟩ := run_new_inv h
  obtain ⟨e1, e2⟩ := run_pure_inv h
  subst e1; subst e2
  obtain ⟨h1, h2⟩ := hv
  subst h1
  have hf : ε fresh = none := hfr fresh (Nat.le_refl _) (by unfold stride; omega)
  refine ⟨.pointer (some ⟨W.heap.size, 0, none⟩), { W with heap := W.heap.push (.stringIter ⟨b.toArray⟩ 0) }, P, _, _, ?_, PHeap.le_refl P, upd_le hf, ?_,
    I.newObj hf (.stringIter ⟨b.toArray⟩ 0) (.iter b 0) (.pointer (some ⟨W.heap.size, 0, none⟩)) (.inl ⟨_, rfl⟩) _ rfl rfl rfl ⟨W.heap.size, rfl, rfl, by simp [World.view], h2⟩, by simp [DenV, Den]⟩
  · simp [Instr.range, run_underlying ht]
  · intro d hd
    by_cases e : d = fresh
    · right; subst e; exact ⟨Nat.le_refl _, by unfold stride; omega⟩
    · left; simpa [e] using hd

theorem pair_lt {c : Prop} [Decidable c] {a b : Nat × Nat} {N : Nat} (ha : a.1 < N) (hb : b.1 < N) : (if c then a else b).1 < N := by
  by_cases h : c
  · rw [if_pos h]; exact ha
  · rw [if_neg h]; exact hb
theorem runeAt_lt (b : List UInt8) (i : Nat) : runeAt b i < 2 ^ 31 := by
  have h0 := UInt8.toNat_lt (ByteArray.get! (⟨b.toArray⟩ : ByteArray) (i + 0))
  have e0 : Utf8.runeError < 2 ^ 31 := by decide
  have hm : ∀ x y : Nat, 0 < y → x % y < y := fun x y h => Nat.mod_lt _ h
  unfold runeAt Utf8.decode
  dsimp only
  refine pair_lt (by omega) (pair_lt (pair_lt ?_ e0) (pair_lt (pair_lt ?_ e0) (pair_lt (pair_lt ?_ e0) e0)))
  all_goals dsimp only
  all_goals omega

theorem next_sound (I : Inv cx P ε φ tab W) (fresh : Nat) (v : Value) (ty : Nat) {c : Nat} (hv : DenV P ε (.one (.own c)) v) {b : List UInt8} {p : Nat} (hy : tab.get c = some (.iter b p))
    {sv : SV} {tab' : Tab} (h : (Prog.ite (Nat.blt p b.length)
          (.set c (.iter b (p + runeLen b p)) (.pure (SV.tup [.inl (.bool true), .inl (.int .i64 (IK.ofInt .i64 p)), .inl (.int .i32 (IK.ofInt .i32 (runeAt b p)))])))
          (.pure (.tup [.inl (.bool false)]))).run tab = some (sv, tab')) : Res Pg cx P ε fresh W (Instr.next v true ty) sv tab' := by
  obtain ⟨w, f1, bl, f2, f3, f4, f5⟩ := I.chunk c _ hy
  have hv' : ε c = some v := hv
  rw [hv'] at f1; cases f1
  subst f2
  have f4 : W.heap[bl]? = some (.stringIter ⟨b.toArray⟩ p) := f4
  rcases run_ite_inv h with ⟨hlt, h⟩ | ⟨hlt, h⟩
  · have hlt : p < b.length := by simpa [Nat.blt_eq] using hlt
    have h' : (Prog.pure (SV.tup [.inl (.bool true), .inl (.int .i64 (IK.ofInt .i64 p)), .inl (.int .i32 (IK.ofInt .i32 (runeAt b p)))])).run (tab.set c (.iter b (p + runeLen b p))) = some (sv, tab') := h
    obtain ⟨e1, e2⟩ := run_pure_inv h'
    subst e1; subst e2
    refine ⟨.tuple #[.bool true, goInt p, .int .i32 (runeAt b p)], putObj W bl (.stringIter ⟨b.toArray⟩ (p + runeLen b p)), P, ε, φ, ?_, PHeap.le_refl P, fun _ _ h => h, fun _ h => .inl h,
      I.put hy f3 (fun h e => ?_), ?_⟩
    · have hsz : p < (⟨b.toArray⟩ : ByteArray).size := hlt
      simp [Instr.next, getObj, setObj, Sem.run, f4, hsz, Result.andThen, runeAt, runeLen, putObj]
    · rw [hv'] at e; cases e
      exact ⟨bl, rfl, rfl, putObj_same f4, f5⟩
    · refine ⟨_, rfl, .bool true, _, rfl, rfl, goInt p, _, rfl, ?_, .int .i32 (runeAt b p), _, rfl, ?_, rfl⟩
      · show goInt p = .int .i64 (IK.toInt .i64 (IK.ofInt .i64 p))
        rw [IK.toInt_ofInt, wrap_id .i64 _ (by simp [IntKind.min, IntKind.max, IntKind.signed, IntKind.bits]; omega)]; rfl
      · show Value.int .i32 (runeAt b p) = .int .i32 (IK.toInt .i32 (IK.ofInt .i32 (runeAt b p)))
        have := runeAt_lt b p
        rw [IK.toInt_ofInt, wrap_id .i32 _ (by simp [IntKind.min, IntKind.max, IntKind.signed, IntKind.bits]; omega)]
  · have hlt : ¬ p < b.length := by
      intro e; have : Nat.blt p b.length = true := by rw [Nat.blt_eq]; exact e
      rw [this] at hlt; cases hlt
    obtain ⟨e1, e2⟩ := run_pure_inv h
    subst e1; subst e2
    have hsz : ¬ p < (⟨b.toArray⟩ : ByteArray).size := hlt
    refine ⟨.tuple #[.bool false], W, P, ε, φ, ?_, PHeap.le_refl P, fun _ _ h => h, fun _ h => .inl h, I, ⟨_, rfl, .bool false, _, rfl, rfl, rfl⟩⟩
    simp [Instr.next, getObj, Sem.run, f4, hsz, Result.andThen]

/-! ### An array's element -/
theorem arrP_inv (size : Nat) (y : S1) (i : Int) : ∀ (m j : Nat) (sv : SV) (tab' : Tab), (arrP size y i m j).run tab = some (sv, tab') → tab' = tab ∧ ∃ q, j ≤ q ∧ q < j + m ∧ i = (q : Int) ∧ sv = .one (offP y (q * size))
  | 0, j, sv, tab', h => (run_fail_inv h).elim
  | m + 1, j, sv, tab', h => by
    rcases run_ite_inv h with ⟨h1, h⟩ | ⟨_, h⟩
    · obtain ⟨e1, e2⟩ := run_pure_inv h
      exact ⟨e2, j, Nat.le_refl _, by omega, of_decide_eq_true h1, e1⟩
    · obtain ⟨e1, q, h1, h2, h3, h4⟩ := arrP_inv size y i m (j + 1) sv tab' h
      exact ⟨e1, q, by omega, by omega, h3, h4⟩
theorem arrIx_sound {t n e : Nat} {d ed : TD} (hd : tdOf Pg t = some d) (hk : d.kind = .arr n e) (hed : tdOf Pg e = some ed) (x : S1) (v : Value) (hx : Den P ε x v) (hok : pcellOK x = true)
    (hown : ∀ c, x = .own c → ∃ b, v = .pointer (some ⟨b, 0, none⟩)) (ixv : Value) (ci vi : Option Int) (hc : ∀ i, ci = some i → ∃ k, ixv = .int k i) (hv : ∀ i, vi = some i → ∃ k, ixv = .int k i)
    (sv : SV) (tab' : Tab) (h : (arrIx ed.size n x ci vi).run tab = some (sv, tab')) : tab' = tab ∧ ∃ r, (Instr.indexAt t v ixv).run Pg W = .ok r W ∧ DenV P ε sv r := by
  have hu := td_arr hd hk
  have main : ∀ (q : Nat) (k : IntKind), q < n → ixv = .int k (q : Int) → ∃ r, (Instr.indexAt t v ixv).run Pg W = .ok r W ∧ DenV P ε (.one (offP x (q * ed.size))) r := by
    intro q k hq hi
    subst hi
    obtain ⟨a, rfl, h2⟩ := offP_den x v hx hok (q * ed.size) hown
    refine ⟨.pointer (some (a.add (q * ed.size))), ?_, h2⟩
    have hsz := td_size (t := e) hed W
    have h0 : (0 : Int) ≤ (q : Int) ∧ (q : Int) < (n : Int) := by omega
    simp [Instr.indexAt, asIntOf, run_underlying hu, Instr.sureAddr, h0, hsz]
    omega
  unfold arrIx at h
  cases ci with
  | some i =>
    dsimp only at h
    split at h
    · rename_i h1 h2
      obtain ⟨e1, e2⟩ := run_pure_inv h
      subst e1; subst e2
      obtain ⟨k, hk'⟩ := hc i rfl
      have h1 := of_decide_eq_true h1
      have h2 : i.toNat < n := by simpa [Nat.blt_eq] using h2
      exact ⟨rfl, main i.toNat k h2 (by rw [hk']; congr 1; omega)⟩
    · exact (run_fail_inv h).elim
  | none =>
    dsimp only at h
    split at h
    · rename_i i _
      obtain ⟨k, hk'⟩ := hv i rfl
      obtain ⟨e1, q, h1, h2, h3, h4⟩ := arrP_inv _ _ _ _ _ _ _ h
      subst e1; subst h4
      exact ⟨rfl, main q k (by omega) (by rw [hk', h3])⟩
    · exact (run_fail_inv h).elim
end
end Go.Sx
