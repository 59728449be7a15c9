/- A walk of Go code by plain functions is sound. -/
import Derived.Test.YtegncnhhofbmiaaSxOpP
namespace Go.Sx

theorem Inv.step {cx : Cx} {P P' : PHeap} {ε ε' : HMap} {φ φ' : Nat → List Nat} {tab tab' : Tab} {W W' : World}
    (I : Inv cx P ε φ tab W) (F : List Nat) (N : Nat → Prop)
    (hF : ∀ b ∈ F, b < W.heap.size ∧ (b ∈ cx.fp0 ∨ cx.W0.heap.size ≤ b))
    (hW : Ext F W W' cx.td) (hP : P.le P') (hPW : ∀ b o, P' b = some o → W'.heap[b]? = some o)
    (hPn : ∀ b, P' b ≠ none → P b ≠ none ∨ b ∈ F ∨ W.heap.size ≤ b) (hε : HMap.le ε ε')
    (hk : ∀ c x, tab'.get c = some x → ¬ N c → tab.get c = some x ∧ φ' c = φ c ∧ ∀ b ∈ φ c, b ∉ F)
    (hn : ∀ c x, tab'.get c = some x → N c → ∃ h, ε' c = some h ∧ ChunkOK P' (World.view W') ε' h (φ' c) x ∧ (φ' c).Nodup ∧
      ∀ b ∈ φ' c, (b ∈ F ∨ W.heap.size ≤ b) ∧ P' b = none ∧ b < W'.heap.size)
    (hd : ∀ c d x y, N c → N d → c ≠ d → tab'.get c = some x → tab'.get d = some y → ∀ b ∈ φ' c, b ∉ φ' d)
    (hh : ∀ c w, ε' c = some w → ε c = none → Handle w) :
    Inv cx P' ε' φ' tab' W' := by
  have kept : ∀ c x, tab'.get c = some x → ¬ N c → ∀ b ∈ φ' c, b < W.heap.size ∧ b ∉ F ∧ P b = none ∧ (b ∈ cx.fp0 ∨ cx.W0.heap.size ≤ b) := by
    intro c x hc hN b hb
    obtain ⟨h1, h2, h3⟩ := hk c x hc hN
    rw [h2] at hb
    obtain ⟨l1, l2, l3⟩ := I.live c x h1 b hb
    exact ⟨l2, h3 b hb, l1, l3⟩
  refine ⟨?_, ?_, ?_, ?_, hPW, ?_, PHeap.le_trans I.pmono hP, ?_, ?_⟩
  · intro c x hc
    by_cases hN : N c
    · obtain ⟨h, h1, h2, _⟩ := hn c x hc hN; exact ⟨h, h1, h2⟩
    · obtain ⟨h1, h2, h3⟩ := hk c x hc hN
      obtain ⟨h, e1, e2⟩ := I.chunk c x h1
      refine ⟨h, hε _ _ e1, ?_⟩
      rw [h2]
      exact ChunkOK.mono hP hε (fun b hb => hW.same b (I.live c x h1 b hb).2.1 (h3 b hb)) e2
  · intro c x hc
    by_cases hN : N c
    · obtain ⟨h, _, _, h3, _⟩ := hn c x hc hN; exact h3
    · obtain ⟨h1, h2, h3⟩ := hk c x hc hN; rw [h2]; exact I.nodup c x h1
  · intro c d x y hcd hc hdd b hb
    by_cases hN : N c <;> by_cases hM : N d
    · exact hd c d x y hN hM hcd hc hdd b hb
    · intro hb'
      obtain ⟨_, _, _, _, h4⟩ := hn c x hc hN
      obtain ⟨k1, k2, _⟩ := kept d y hdd hM b hb'
      rcases (h4 b hb).1 with h | h
      · exact k2 h
      · omega
    · intro hb'
      obtain ⟨_, _, _, _, h4⟩ := hn d y hdd hM
      obtain ⟨k1, k2, _⟩ := kept c x hc hN b hb
      rcases (h4 b hb').1 with h | h
      · exact k2 h
      · omega
    · obtain ⟨h1, h2, _⟩ := hk c x hc hN
      obtain ⟨g1, g2, _⟩ := hk d y hdd hM
      rw [h2] at hb; rw [g2]
      exact I.apart c d x y hcd h1 g1 b hb
  · intro c x hc b hb
    by_cases hN : N c
    · obtain ⟨_, _, _, _, h4⟩ := hn c x hc hN
      obtain ⟨e1, e2, e3⟩ := h4 b hb
      refine ⟨e2, e3, ?_⟩
      rcases e1 with h | h
      · exact (hF b h).2
      · have := I.ext.le; exact .inr (by omega)
    · obtain ⟨k1, k2, k3, k4⟩ := kept c x hc hN b hb
      refine ⟨?_, ?_, k4⟩
      · cases hp : P' b with
        | none => rfl
        | some o => rcases hPn b (by simp [hp]) with h | h | h
                    · exact absurd k3 h
                    · exact absurd h k2
                    · omega
      · have := hW.le; omega
  · refine ⟨Nat.le_trans I.ext.le hW.le, ?_, hW.os.trans I.ext.os, hW.out.trans I.ext.out, fun h => ⟨(hW.tape h).1.trans (I.ext.tape h).1, Nat.le_trans (I.ext.tape h).2 (hW.tape h).2⟩⟩
    intro b hb hf
    have hbF : b ∉ F := fun h => by
      rcases (hF b h).2 with h' | h'
      · exact hf h'
      · omega
    rw [hW.same b (by have := I.ext.le; omega) hbF]
    exact I.ext.same b hb hf
  · intro b hb
    rcases hPn b hb with h | h | h
    · exact I.pnew b h
    · exact .inr (hF b h).2
    · have := I.ext.le; exact .inr (.inr (by omega))
  · intro c w hw
    cases hc : ε c with
    | none => exact hh c w hw hc
    | some u => have := hε c u hc; rw [hw] at this; cases this; exact I.hand c w hc

/-- Nothing but the table has changed: some pieces are gone. -/
theorem Inv.sub {cx : Cx} {P : PHeap} {ε : HMap} {φ : Nat → List Nat} {tab tab' : Tab} {W : World}
    (I : Inv cx P ε φ tab W) (h : ∀ c x, tab'.get c = some x → tab.get c = some x) : Inv cx P ε φ tab' W :=
  ⟨fun c x hc => I.chunk c x (h c x hc), fun c x hc => I.nodup c x (h c x hc), fun c d x y hcd hc hd => I.apart c d x y hcd (h c x hc) (h d y hd),
    fun c x hc => I.live c x (h c x hc), I.psub, I.ext, I.pmono, I.pnew, I.hand⟩

def SlotsOK (P : PHeap) (ε : HMap) (s : Slots) (a : Act) : Prop := ∀ t, DenV P ε (s.at t) (a.tmps.getD t undef)
theorem SlotsOK.mono {P Q : PHeap} {ε η : HMap} (hl : P.le Q) (he : HMap.le ε η) {s : Slots} {a : Act} (h : SlotsOK P ε s a) : SlotsOK Q η s a :=
  fun t => DenV.mono hl he _ _ (h t)

/-- The same memory, whatever was drawn. -/
theorem Inv.world {cx : Cx} {P : PHeap} {ε : HMap} {φ : Nat → List Nat} {tab : Tab} {W W' : World}
    (I : Inv cx P ε φ tab W) (h : W'.heap = W.heap) (ho : W'.os = W.os) (hu : W'.output = W.output) (ht : cx.td = true → W'.tape = W.tape ∧ W.drawn ≤ W'.drawn) : Inv cx P ε φ tab W' := by
  have hv : World.view W' = World.view W := by funext b; simp [World.view, h]
  refine ⟨fun c x hc => by rw [hv]; exact I.chunk c x hc, I.nodup, I.apart, fun c x hc b hb => by rw [h]; exact I.live c x hc b hb, fun b o hb => by rw [h]; exact I.psub b o hb, ?_, I.pmono, I.pnew, I.hand⟩
  exact ⟨by rw [h]; exact I.ext.le, fun b hb hf => by rw [h]; exact I.ext.same b hb hf, ho.trans I.ext.os, hu.trans I.ext.out, fun h => ⟨(ht h).1.trans (I.ext.tape h).1, Nat.le_trans (I.ext.tape h).2 (ht h).2⟩⟩
theorem Inv.drew {cx : Cx} {P : PHeap} {ε : HMap} {φ : Nat → List Nat} {tab : Tab} {W : World} (I : Inv cx P ε φ tab W) (n : Nat) (hn : cx.td = true → W.drawn ≤ n) :
    Inv cx P ε φ tab { W with drawn := n } := I.world rfl rfl rfl fun h => ⟨rfl, hn h⟩
/-- Tables that answer alike. -/
theorem Inv.eqv {cx : Cx} {P : PHeap} {ε : HMap} {φ : Nat → List Nat} {tab tab' : Tab} {W : World} (I : Inv cx P ε φ tab W) (h : Tab.eqv tab' tab) :
    Inv cx P ε φ tab' W := I.sub fun c x hc => by rw [← h c]; exact hc

/-! ### Constants and lists of cells -/
theorem constS_den (P : PHeap) (ε : HMap) (v : Value) : Den P ε (constS v) v := by
  unfold constS
  split
  · rename_i k n
    split
    · rename_i h
      have h' := of_decide_eq_true h
      simp only [Den, IK.toInt_ofInt, h']
    · trivial
  · rfl
  · rename_i s
    split
    · rename_i h
      refine ⟨?_, ?_⟩
      · simp
      · have h2 : s.size < 2 ^ 63 := Nat.le_of_ble_eq_true h
        rw [Array.length_toList]; exact h2
    · trivial
  · rfl
  · rename_i n c
    split
    · rename_i h
      rw [Bool.and_eq_true] at h
      have h1 := nbeq_true h.1
      have h2 := nbeq_true h.2
      subst h1; subst h2
      exact ⟨none, rfl, fun _ h => by cases h⟩
    · trivial
  · rfl
  · rfl
  · rfl
  · rfl
  · trivial
theorem denL_map_const (P : PHeap) (ε : HMap) : ∀ (l : List Value), DenL P ε (l.map constS) l
  | [] => rfl
  | v :: r => ⟨v, r, rfl, constS_den P ε v, denL_map_const P ε r⟩
theorem constV_den (P : PHeap) (ε : HMap) (v : Value) : DenV P ε (constV v) v := by
  unfold constV
  split
  · exact ⟨_, rfl, denL_map_const P ε _⟩
  · exact constS_den P ε v
theorem cellsOfV_den (P : PHeap) (ε : HMap) (v : Value) : DenL P ε (cellsOfV v) v.cells.toList := denL_map_const P ε _

theorem ev_den {P : PHeap} {ε : HMap} {s : Slots} {a : Act} (h : SlotsOK P ε s a) (x : Operand) : DenV P ε (ev s x) (a.eval x) := by
  cases x with
  | tmp t => exact h t
  | const v => exact constV_den P ε v
  | global g => rfl
  | func f => rfl

theorem DenL.length {P : PHeap} {ε : HMap} : ∀ {ss : List S1} {vs : List Value}, DenL P ε ss vs → vs.length = ss.length
  | [], _, h => by simp only [DenL] at h; simp [h]
  | _ :: ss, _, ⟨v, vs', h1, _, h3⟩ => by simp [h1, DenL.length h3]
theorem DenL.nth {P : PHeap} {ε : HMap} : ∀ {ss : List S1} {vs : List Value}, DenL P ε ss vs → ∀ {i : Nat} {s : S1}, ss[i]? = some s → ∃ v, vs[i]? = some v ∧ Den P ε s v
  | _ :: ss, _, ⟨v, vs', h1, h2, h3⟩, i, s, hi => by
    subst h1
    cases i with
    | zero => simp at hi; subst hi; exact ⟨v, rfl, h2⟩
    | succ i => simpa using DenL.nth h3 (by simpa using hi)
  | [], _, h, i, s, hi => by simp at hi
theorem DenL.append {P : PHeap} {ε : HMap} : ∀ {s1 s2 : List S1} {v1 v2 : List Value}, DenL P ε s1 v1 → DenL P ε s2 v2 → DenL P ε (s1 ++ s2) (v1 ++ v2)
  | [], _, _, _, h1, h2 => by simp only [DenL] at h1; simpa [h1] using h2
  | _ :: ss, _, _, _, ⟨v, vs', h1, h2, h3⟩, h => by subst h1; exact ⟨v, _, rfl, h2, DenL.append h3 h⟩
theorem DenL.drop {P : PHeap} {ε : HMap} : ∀ {ss : List S1} {vs : List Value} (n : Nat), DenL P ε ss vs → DenL P ε (ss.drop n) (vs.drop n)
  | [], _, n, h => by simp only [DenL] at h; simp [h, DenL]
  | _ :: ss, _, n, ⟨v, vs', h1, h2, h3⟩ => by
    subst h1
    cases n with
    | zero => exact ⟨v, vs', rfl, h2, h3⟩
    | succ n => simpa using DenL.drop n h3
theorem DenL.take {P : PHeap} {ε : HMap} : ∀ {ss : List S1} {vs : List Value} (n : Nat), DenL P ε ss vs → DenL P ε (ss.take n) (vs.take n)
  | [], _, n, h => by simp only [DenL] at h; simp [h, DenL]
  | _ :: ss, _, n, ⟨v, vs', h1, h2, h3⟩ => by
    subst h1
    cases n with
    | zero => rfl
    | succ n => exact ⟨v, _, rfl, h2, DenL.take n h3⟩

theorem solid_cell {P : PHeap} {ε : HMap} {s : S1} {v : Value} (hs : s.solid = true) (h : Den P ε s v)
    (hε : ∀ c w, ε c = some w → Handle w) : (∀ c, v ≠ .agg c) ∧ (∀ c, v ≠ .tuple c) := by
  cases s <;> simp only [Den, S1.solid] at h hs
  case int => subst h; simp
  case bool => subst h; simp
  case str => rw [h.1]; simp
  case ro => simp only [CT.Rep] at h; obtain ⟨a, cap, h1, _⟩ := h; subst h1; simp
  case rop => simp only [CT.Rep] at h; rcases h with ⟨_, h⟩ | ⟨_, _, _, h, _⟩ <;> subst h <;> simp
  case rom => simp only [CT.Rep] at h; rcases h with ⟨_, h⟩ | ⟨_, _, _, h, _⟩ <;> subst h <;> simp
  case nilp => subst h; simp
  case nils => obtain ⟨a, h1, _⟩ := h; subst h1; simp
  case own => rcases hε _ _ h with ⟨a, rfl⟩ | ⟨a, n, m, rfl⟩ | ⟨a, rfl⟩ | ⟨a, rfl⟩ <;> simp
  case pcell => obtain ⟨b, _, h1⟩ := h; subst h1; simp
  case parr => obtain ⟨b, _, h1⟩ := h; subst h1; simp
  case bnd => obtain ⟨b, _, h1⟩ := h; subst h1; unfold bndVal; split <;> simp
  case aview => obtain ⟨_, b, _, h1⟩ := h; subst h1; simp
  case rs1 =>
    rcases h with ⟨_, a, h1, _⟩ | ⟨_, b, o, cap, w, h1, _⟩ <;> subst h1 <;> simp
  case rp1 => obtain ⟨b, o, w, h1, _⟩ := h; subst h1; simp
  case pelem => obtain ⟨b, _, _, _, _, h1⟩ := h; subst h1; simp
  case view =>
    rcases h with ⟨b, _, _, _, _, _, h1, _⟩ | ⟨_, a, h1, _⟩ <;> subst h1 <;> simp
  case pro => obtain ⟨b, h1, _⟩ := h; subst h1; simp
  case const w => subst h; cases v <;> simp at hs ⊢
  case dead => cases hs

end Go.Sx
