/- A walk of Go code by plain functions is sound. -/
import Derived.Test.YtegncnhhofbmiaaSxState
namespace Go.Sx

/-! What an operation does to the pieces of memory, as a small program. -/
inductive Prog (β : Type) : Type 1 where
  | pure (x : β)
  | fail
  | get (c : Nat) (k : Chunk → Prog β)
  | set (c : Nat) (x : Chunk) (k : Prog β)
  | del (c : Nat) (k : Prog β)
  | new (c : Nat) (x : Chunk) (k : Prog β)      -- fails if there is one
  | ite (b : Bool) (x y : Prog β)
  | bindO {α : Type} (m : Option α) (k : α → Prog β)
  | elim {α : Type} (m : Option α) (n : Prog β) (s : α → Prog β)

namespace Prog
def bind {β γ : Type} : Prog β → (β → Prog γ) → Prog γ
  | .pure x, f => f x
  | .fail, _ => .fail
  | .get c k, f => .get c fun x => (k x).bind f
  | .set c x k, f => .set c x (k.bind f)
  | .del c k, f => .del c (k.bind f)
  | .new c x k, f => .new c x (k.bind f)
  | .ite b x y, f => .ite b (x.bind f) (y.bind f)
  | .bindO m k, f => .bindO m fun x => (k x).bind f
  | .elim m n s, f => .elim m (n.bind f) fun x => (s x).bind f

def run {β : Type} : Prog β → Tab → Option (β × Tab)
  | .pure x, t => some (x, t)
  | .fail, _ => none
  | .get c k, t => match t.get c with | some x => (k x).run t | none => none
  | .set c x k, t => k.run (t.set c x)
  | .del c k, t => k.run (t.del c)
  | .new c x k, t => match t.get c with | some _ => none | none => k.run (t.set c x)
  | .ite b x y, t => match b with | true => x.run t | false => y.run t
  | .bindO m k, t => match m with | some x => (k x).run t | none => none
  | .elim m n s, t => match m with | some x => (s x).run t | none => n.run t

theorem run_bindO_some {α β : Type} (x : α) (k : α → Prog β) (t : Tab) : (Prog.bindO (some x) k).run t = (k x).run t := rfl
theorem run_bindO_none {α β : Type} (k : α → Prog β) (t : Tab) : (Prog.bindO none k).run t = none := rfl
theorem run_elim_some {α β : Type} (x : α) (n : Prog β) (k : α → Prog β) (t : Tab) : (Prog.elim (some x) n k).run t = (k x).run t := rfl
theorem run_elim_none {α β : Type} (n : Prog β) (k : α → Prog β) (t : Tab) : (Prog.elim none n k).run t = n.run t := rfl
theorem run_bind {β γ : Type} (p : Prog β) (f : β → Prog γ) : ∀ t, (p.bind f).run t = (p.run t).bind fun r => (f r.1).run r.2 := by
  induction p with
  | pure x => intro t; rfl
  | fail => intro t; rfl
  | get c k ih => intro t; simp only [bind, run]; cases t.get c <;> simp [ih]
  | set c x k ih => intro t; simp only [bind, run, ih]
  | del c k ih => intro t; simp only [bind, run, ih]
  | new c x k ih => intro t; simp only [bind, run]; cases t.get c <;> simp [ih]
  | ite b x y ihx ihy => intro t; simp only [bind, run]; cases b <;> simp [ihx, ihy]
  | bindO m k ih => intro t; cases m with | none => rfl | some v => exact ih v t
  | elim m n s ihn ihs => intro t; cases m with | none => exact ihn t | some v => exact ihs v t

/-- The pieces that it looks at, and those that it changes: along the way that it goes. -/
def touches {β : Type} : Prog β → Tab → List Nat × List Nat
  | .pure _, _ => ([], [])
  | .fail, _ => ([], [])
  | .get c k, t => match t.get c with | some x => let r := (k x).touches t; (c :: r.1, r.2) | none => ([], [])
  | .set c x k, t => let r := k.touches (t.set c x); (r.1, c :: r.2)
  | .del c k, t => let r := k.touches (t.del c); (r.1, c :: r.2)
  | .new c x k, t => let r := k.touches (t.set c x); (r.1, c :: r.2)
  | .ite b x y, t => match b with | true => x.touches t | false => y.touches t
  | .bindO m k, t => match m with | some x => (k x).touches t | none => ([], [])
  | .elim m n s, t => match m with | some x => (s x).touches t | none => n.touches t
end Prog

/-! The outcome of a walk, and its ways. -/
section
variable {R : Type}
def oite (b : Bool) (x y : Option R) : Option R := match b with | true => x | false => y
def obind {α : Type} (m : Option α) (k : α → Option R) : Option R := match m with | some x => k x | none => none
def oelim {α : Type} (m : Option α) (n : Option R) (s : α → Option R) : Option R := match m with | some x => s x | none => n
/-- Ways meet again. -/
def ojoin {α : Type} (body : (α → Option R) → Option R) (J : α → Option R) : Option R := body J
/-- Whichever of so many comes next: the same. -/
noncomputable def oallN (n : Nat) (f : Nat → Option R) : Option R := open Classical in if h : ∃ r, 0 < n ∧ ∀ j, j < n → f j = some r then some h.choose else none
theorem oallN_some {n : Nat} {f : Nat → Option R} {r : R} (h : oallN n f = some r) : 0 < n ∧ ∀ j, j < n → f j = some r := by
  unfold oallN at h
  split at h
  · rename_i h'
    cases h
    exact h'.choose_spec
  · cases h
theorem oallN_mk {n : Nat} {f : Nat → Option R} {r : R} (hn : 0 < n) (h : ∀ j, j < n → f j = some r) : oallN n f = some r := by
  have h' : ∃ r, 0 < n ∧ ∀ j, j < n → f j = some r := ⟨r, hn, h⟩
  unfold oallN
  rw [dif_pos h']
  have := h'.choose_spec.2 0 hn
  rw [h 0 hn] at this
  exact this.symm
/-- A loop, of so many rounds at most. -/
def ofix {α : Type} (F : (α → Option R) → α → Option R) : Nat → α → Option R
  | 0, _ => none
  | n + 1, x => F (ofix F n) x

def Prog.runK {β : Type} : Prog β → Tab → (β → Tab → Option R) → Option R
  | .pure x, t, K => K x t
  | .fail, _, _ => none
  | .get c k, t, K => match t.get c with | some x => (k x).runK t K | none => none
  | .set c x k, t, K => k.runK (t.set c x) K
  | .del c k, t, K => k.runK (t.del c) K
  | .new c x k, t, K => match t.get c with | some _ => none | none => k.runK (t.set c x) K
  | .ite b x y, t, K => oite b (x.runK t K) (y.runK t K)
  | .bindO m k, t, K => obind m fun x => (k x).runK t K
  | .elim m n s, t, K => oelim m (n.runK t K) fun x => (s x).runK t K
theorem Prog.runK_eq {β : Type} (p : Prog β) (K : β → Tab → Option R) : ∀ t, p.runK t K = (p.run t).bind fun r => K r.1 r.2 := by
  induction p with
  | pure x => intro t; rfl
  | fail => intro t; rfl
  | get c k ih => intro t; simp only [runK, run]; cases t.get c <;> simp [ih]
  | set c x k ih => intro t; simp only [runK, run, ih]
  | del c k ih => intro t; simp only [runK, run, ih]
  | new c x k ih => intro t; simp only [runK, run]; cases t.get c <;> simp [ih]
  | ite b x y ihx ihy => intro t; simp only [runK, run, oite]; cases b <;> simp [ihx, ihy]
  | bindO m k ih => intro t; cases m with | none => rfl | some v => exact ih v t
  | elim m n s ihn ihs => intro t; cases m with | none => exact ihn t | some v => exact ihs v t
/-- The same, the pieces that are touched handed on. -/
def Prog.runT {β : Type} : Prog β → Tab → List Nat → List Nat → (β → Tab → List Nat → List Nat → Option R) → Option R
  | .pure x, t, r, w, K => K x t r w
  | .fail, _, _, _, _ => none
  | .get c k, t, r, w, K => match t.get c with | some x => (k x).runT t (c :: r) w K | none => none
  | .set c x k, t, r, w, K => k.runT (t.set c x) r (c :: w) K
  | .del c k, t, r, w, K => k.runT (t.del c) r (c :: w) K
  | .new c x k, t, r, w, K => match t.get c with | some _ => none | none => k.runT (t.set c x) r (c :: w) K
  | .ite b x y, t, r, w, K => oite b (x.runT t r w K) (y.runT t r w K)
  | .bindO m k, t, r, w, K => obind m fun x => (k x).runT t r w K
  | .elim m n s, t, r, w, K => oelim m (n.runT t r w K) fun x => (s x).runT t r w K
theorem Prog.runT_eq {β : Type} (p : Prog β) (K : β → Tab → List Nat → List Nat → Option R) : ∀ t r w,
    p.runT t r w K = (p.run t).bind fun x => K x.1 x.2 ((p.touches t).1.reverse ++ r) ((p.touches t).2.reverse ++ w) := by
  induction p with
  | pure x => intro t r w; rfl
  | fail => intro t r w; rfl
  | get c k ih => intro t r w; simp only [runT, run, touches]; cases t.get c <;> simp [ih]
  | set c x k ih => intro t r w; simp [runT, run, touches, ih]
  | del c k ih => intro t r w; simp [runT, run, touches, ih]
  | new c x k ih => intro t r w; simp only [runT, run, touches]; cases t.get c <;> simp [ih]
  | ite b x y ihx ihy => intro t r w; simp only [runT, run, oite, touches]; cases b <;> simp [ihx, ihy]
  | bindO m k ih => intro t r w; cases m with | none => rfl | some v => exact ih v t r w
  | elim m n s ihn ihs => intro t r w; cases m with | none => exact ihn t r w | some v => exact ihs v t r w
end

/-! Tables that answer alike; programs that touch nothing of one another's. -/
def Tab.eqv (s t : Tab) : Prop := ∀ c, s.get c = t.get c
theorem Tab.eqv_set {s t : Tab} (h : Tab.eqv s t) (c : Nat) (x : Chunk) : Tab.eqv (s.set c x) (t.set c x) := by
  intro d
  by_cases hd : c = d
  · subst hd; rw [Map.get_set_same, Map.get_set_same]
  · rw [Map.get_set_other _ _ hd, Map.get_set_other _ _ hd, h]
theorem Tab.eqv_del {s t : Tab} (h : Tab.eqv s t) (c : Nat) : Tab.eqv (s.del c) (t.del c) := by
  intro d
  by_cases hd : c = d
  · subst hd; rw [Map.get_del_same, Map.get_del_same]
  · rw [Map.get_del_other _ hd, Map.get_del_other _ hd, h]

/-- The run looks at its own pieces alone: over a table that answers alike at them it goes the same way, and changes the same. -/
theorem Prog.run_local {β : Type} (p : Prog β) : ∀ (s t s' : Tab) (x : β),
    p.run s = some (x, s') → (∀ c ∈ (p.touches s).1 ++ (p.touches s).2, s.get c = t.get c) →
    ∃ t', p.run t = some (x, t') ∧ p.touches t = p.touches s ∧ (∀ c ∈ (p.touches s).2, t'.get c = s'.get c) ∧
      (∀ c, c ∉ (p.touches s).2 → t'.get c = t.get c ∧ s'.get c = s.get c) := by
  induction p with
  | pure x => intro s t s' y h _; simp only [run, Option.some.injEq, Prod.mk.injEq] at h; obtain ⟨rfl, rfl⟩ := h; exact ⟨t, rfl, rfl, by simp [touches], fun _ _ => ⟨rfl, rfl⟩⟩
  | fail => intro s t s' y h _; simp [run] at h
  | get c k ih =>
    intro s t s' y h ha
    simp only [run, touches] at *
    cases hc : s.get c with
    | none => rw [hc] at h; cases h
    | some z =>
      simp only [hc] at h ha ⊢
      have htc : t.get c = some z := by rw [← ha c (by simp), hc]
      simp only [htc]
      obtain ⟨t', h1, h2, h3, h4⟩ := ih z s t s' y h (fun d hd => ha d (by simp at hd ⊢; rcases hd with hd | hd <;> simp [hd]))
      exact ⟨t', h1, by rw [h2], h3, h4⟩
  | set c z k ih =>
    intro s t s' y h ha
    simp only [run, touches] at *
    obtain ⟨t', h1, h2, h3, h4⟩ := ih (s.set c z) (t.set c z) s' y h (fun d hd => by
      by_cases e : c = d
      · subst e; rw [Map.get_set_same, Map.get_set_same]
      · rw [Map.get_set_other _ _ e, Map.get_set_other _ _ e]
        exact ha d (by simp at hd ⊢; rcases hd with hd | hd <;> simp [hd]))
    refine ⟨t', h1, by rw [h2], ?_, ?_⟩
    · intro d hd
      by_cases hd2 : d ∈ (k.touches (s.set c z)).2
      · exact h3 d hd2
      · obtain ⟨e1, e2⟩ := h4 d hd2
        simp at hd
        rcases hd with hd | hd
        · subst hd; rw [e1, e2, Map.get_set_same, Map.get_set_same]
        · exact absurd hd hd2
    · intro d hd
      simp at hd
      obtain ⟨e1, e2⟩ := h4 d hd.2
      rw [e1, e2, Map.get_set_other _ _ (Ne.symm hd.1), Map.get_set_other _ _ (Ne.symm hd.1)]; exact ⟨rfl, rfl⟩
  | del c k ih =>
    intro s t s' y h ha
    simp only [run, touches] at *
    obtain ⟨t', h1, h2, h3, h4⟩ := ih (s.del c) (t.del c) s' y h (fun d hd => by
      by_cases e : c = d
      · subst e; rw [Map.get_del_same, Map.get_del_same]
      · rw [Map.get_del_other _ e, Map.get_del_other _ e]
        exact ha d (by simp at hd ⊢; rcases hd with hd | hd <;> simp [hd]))
    refine ⟨t', h1, by rw [h2], ?_, ?_⟩
    · intro d hd
      by_cases hd2 : d ∈ (k.touches (s.del c)).2
      · exact h3 d hd2
      · obtain ⟨e1, e2⟩ := h4 d hd2
        simp at hd
        rcases hd with hd | hd
        · subst hd; rw [e1, e2, Map.get_del_same, Map.get_del_same]
        · exact absurd hd hd2
    · intro d hd
      simp at hd
      obtain ⟨e1, e2⟩ := h4 d hd.2
      rw [e1, e2, Map.get_del_other _ (Ne.symm hd.1), Map.get_del_other _ (Ne.symm hd.1)]; exact ⟨rfl, rfl⟩
  | new c z k ih =>
    intro s t s' y h ha
    simp only [run, touches] at *
    cases hc : s.get c with
    | some q => rw [hc] at h; cases h
    | none =>
    simp only [hc] at h
    have htc : t.get c = none := by rw [← ha c (by simp), hc]
    simp only [htc]
    obtain ⟨t', h1, h2, h3, h4⟩ := ih (s.set c z) (t.set c z) s' y h (fun d hd => by
      by_cases e : c = d
      · subst e; rw [Map.get_set_same, Map.get_set_same]
      · rw [Map.get_set_other _ _ e, Map.get_set_other _ _ e]
        exact ha d (by simp at hd ⊢; rcases hd with hd | hd <;> simp [hd]))
    refine ⟨t', h1, by rw [h2], ?_, ?_⟩
    · intro d hd
      by_cases hd2 : d ∈ (k.touches (s.set c z)).2
      · exact h3 d hd2
      · obtain ⟨e1, e2⟩ := h4 d hd2
        simp at hd
        rcases hd with hd | hd
        · subst hd; rw [e1, e2, Map.get_set_same, Map.get_set_same]
        · exact absurd hd hd2
    · intro d hd
      simp at hd
      obtain ⟨e1, e2⟩ := h4 d hd.2
      rw [e1, e2, Map.get_set_other _ _ (Ne.symm hd.1), Map.get_set_other _ _ (Ne.symm hd.1)]; exact ⟨rfl, rfl⟩
  | ite b x y ihx ihy =>
    intro s t s' z h ha
    cases b
    · exact ihy s t s' z h ha
    · exact ihx s t s' z h ha
  | bindO m k ih =>
    intro s t s' z h ha
    cases m with
    | none => simp [run] at h
    | some v => exact ih v s t s' z h ha
  | elim m n f ihn ihs =>
    intro s t s' z h ha
    cases m with
    | none => exact ihn s t s' z h ha
    | some v => exact ihs v s t s' z h ha

def disj (a b : List Nat) : Bool := a.all fun x => b.all fun y => match Nat.beq x y with | true => false | false => true
theorem disj_spec {a b : List Nat} (h : disj a b = true) : ∀ x ∈ a, x ∉ b := by
  intro x hx hb
  have := List.all_eq_true.1 (List.all_eq_true.1 h x hx) x hb
  simp at this
/-- Neither changes what the other one looks at or changes. -/
def indep (p q : List Nat × List Nat) : Bool := disj p.2 q.1 && disj p.2 q.2 && disj p.1 q.2

/-- Two that are apart change places. -/
theorem Prog.swap {β γ : Type} (p : Prog β) (q : Prog γ) (s s1 s2 : Tab) (x : β) (y : γ)
    (hp : p.run s = some (x, s1)) (hq : q.run s1 = some (y, s2)) (hi : indep (p.touches s) (q.touches s1) = true) :
    ∃ t1 t2, q.run s = some (y, t1) ∧ p.run t1 = some (x, t2) ∧ Tab.eqv t2 s2 ∧ q.touches s = q.touches s1 ∧ p.touches t1 = p.touches s := by
  simp only [indep, Bool.and_eq_true] at hi
  obtain ⟨⟨i1, i2⟩, i3⟩ := hi
  have d1 := disj_spec i1
  have d2 := disj_spec i2
  have d3 := disj_spec i3
  have keepP : ∀ c, c ∉ (p.touches s).2 → s1.get c = s.get c := by
    obtain ⟨_, _, _, _, h⟩ := Prog.run_local p s s s1 x hp (fun _ _ => rfl)
    exact fun c hc => (h c hc).2
  obtain ⟨t1, h1, h2, h3, h4⟩ := Prog.run_local q s1 s s2 y hq (fun c hc => keepP c (by
    intro hc'
    rcases List.mem_append.1 hc with h | h
    · exact d1 c hc' h
    · exact d2 c hc' h))
  obtain ⟨t2, k1, k2, k3, k4⟩ := Prog.run_local p s t1 s1 x hp (fun c hc => by
    have : c ∉ (q.touches s1).2 := by
      rcases List.mem_append.1 hc with h | h
      · exact d3 c h
      · exact d2 c h
    exact ((h4 c this).1).symm)
  refine ⟨t1, t2, h1, k1, ?_, h2, k2⟩
  intro c
  by_cases hc : c ∈ (p.touches s).2
  · rw [k3 c hc]; exact ((h4 c (d2 c hc)).2).symm
  · rw [(k4 c hc).1]
    by_cases hc2 : c ∈ (q.touches s1).2
    · exact h3 c hc2
    · rw [(h4 c hc2).1, (h4 c hc2).2, keepP c hc]

end Go.Sx
