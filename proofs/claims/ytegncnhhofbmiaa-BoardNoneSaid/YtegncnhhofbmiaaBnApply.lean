/- What Apply and Get do, in plain Lean. -/
import Derived.Test.YtegncnhhofbmiaaBnDoubt
import Derived.Test.YtegncnhhofbmiaaBnItem
open Go Go.Sx
namespace Go.Proofs.Ytegncnhhofbmiaa
theorem clone22 (n : Nat) (l : List Pair) (h : l.length ≤ 1000) : F22 n l = some (l, ()) := by
  unfold F22 cloneF
  rw [ble_t (by show l.length ≤ 4294967296; omega)]; rfl
abbrev textOf (l : List Pair) : List UInt8 := upTo l l.length
theorem upTo_len (l : List Pair) (h : ∀ p ∈ l, p.1.length = 1 ∧ p.2.length = 1) : ∀ k, k ≤ l.length → (upTo l k).length ≤ 4 * k
  | 0, _ => by simp [upTo, Lib.join]
  | k + 1, hk => by
    have hlt : k < l.length := by omega
    rw [upTo_succ l k _ (List.getElem?_eq_getElem hlt)]
    have h1 := upTo_len l h k (by omega)
    have h2 := h _ (List.getElem_mem hlt)
    have h3 : (eqs l[k]).length = l[k].1.length + (l[k].2.length + 1) := by simp [eqs]
    rw [List.length_append, List.length_append, h3]
    split <;> simp <;> omega
theorem text_ok (n : Nat) (l : List Pair) (h : ∀ p ∈ l, p.1.length = 1 ∧ p.2.length = 1) (hl : l.length ≤ 3) : F21 n l = some (textOf l, ()) := by
  have := upTo_len l h l.length (Nat.le_refl _)
  unfold F21
  rw [ble_t (by omega), ble_t (by omega)]; rfl
abbrev keyOf (x : ItT) : Key := (x.2.1, x.2.2.2.2.1, textOf x.2.2.2.2.2.1, x.2.2.2.2.2.2.2.2.2.1)
/-- The alert behind an event. -/
def newA (old : Option Alert) (t : UInt64) (x : ItT) : Alert :=
  (x.2.1, x.2.2.2.2.1, x.2.2.2.2.2.1, x.2.2.2.2.2.2.1, (match old with | none => t | some a => if a.2.2.2.1 = x.2.2.2.2.2.2.1 then a.2.2.2.2.1 else t), x.2.2.2.2.2.2.2.1, x.2.2.2.2.2.2.2.2.1)
/-- The entries behind an event. -/
def appl (ents : Ents) (t : UInt64) (x : ItT) : Ents := mput KV AV (keyOf x) (newA (mget KV AV (keyOf x) ents) t x) ents
theorem apply_ok (n : Nat) (hn : 20 < n) (ents : Ents) (gaps : List UInt64) (t : UInt64) (x : ItT) (hx : Small x) (hg : x.1 = false) : F7 n (some (ents, gaps, ()), t, x) = some (0, some (appl ents t x, gaps, ())) := by
  have h1 := it_eq n 30 hn x (hx.fit 30 (by omega))
  rw [hx.ok] at h1
  have h2 := text_ok n _ hx.each hx.labs
  have h3 : F22 n x.2.2.2.2.2.1 = some (x.2.2.2.2.2.1, ()) := clone22 n _ (by have := hx.labs; omega)
  obtain ⟨g, o, seq, tm, rule, labels, st, pr, va, ow, go, ga, gb⟩ := x
  simp only at hg h2 h3
  subst hg
  unfold F7
  rw [oelim_s]
  refine (congrArg (fun z => obind z _) h1).trans ?_
  rw [obind_s, show (!decide ((0 : Int64) = 0)) = false from rfl, oite_f]
  simp only [oite_f]
  refine (congrArg (fun z => obind z _) h2).trans ?_
  rw [obind_s, ojoinA_rw]
  have fin : ∀ (b : List UInt64) (v0 : UInt8) (v1 v2 : UInt64) (v3 : List UInt8) (v5 v6 : UInt8) (v7 : Int64) (v8 : UInt8) (k : Key) (a0 : UInt8) (a1 : List UInt8) (a2 : List Pair) (a3 : UInt8) (a4 : UInt64) (a5 : UInt8) (a6 : Int64) (bl : Ents),
      F7_J255 n b v0 v1 v2 v3 labels v5 v6 v7 v8 k.1 k.2.1 k.2.2.1 k.2.2.2 a0 a1 a2 a3 a4 a5 a6 bl = some (0, some (mput KV AV k (v0, v3, labels, a3, a4, v6, v7) bl, b, ())) := fun b v0 v1 v2 v3 v5 v6 v7 v8 k a0 a1 a2 a3 a4 a5 a6 bl => by
    unfold F7_J255
    refine (congrArg (fun z => obind z _) h3).trans ?_
    rfl
  unfold appl newA
  have hkey : keyOf (false, o, seq, tm, rule, labels, st, pr, va, ow, go, ga, gb) = (o, rule, textOf labels, ow) := rfl
  rw [hkey]
  cases mget KV AV (o, rule, textOf labels, ow) ents with
  | none =>
    rw [show (!Option.isSome (none : Option Alert)) = true from rfl, oite_t]
    exact fin gaps o seq tm rule st pr va ow (o, rule, textOf labels, ow) _ _ _ _ _ _ _ ents
  | some a =>
    rw [show (!Option.isSome (some a)) = false from rfl, oite_f]
    by_cases hs : a.2.2.2.1 = st
    · rw [show decide (Prod.fst (Prod.snd (Prod.snd (Prod.snd (Option.getD (some a) ((0 : UInt8), [], [], (0 : UInt8), (0 : UInt64), (0 : UInt8), (0 : Int64)))))) = st) = true from dec_t hs]
      rw [show (!true) = false from rfl, oite_f]
      refine (fin gaps o seq tm rule st pr va ow (o, rule, textOf labels, ow) _ _ _ _ _ _ _ ents).trans ?_
      show some ((0 : Int64), some (mput KV AV (o, rule, textOf labels, ow) (o, rule, labels, a.2.2.2.1, a.2.2.2.2.1, pr, va) ents, gaps, ())) = some ((0 : Int64), some (mput KV AV (o, rule, textOf labels, ow) (o, rule, labels, st, (if a.2.2.2.1 = st then a.2.2.2.2.1 else t), pr, va) ents, gaps, ()))
      rw [if_pos hs, hs]
    · rw [show decide (Prod.fst (Prod.snd (Prod.snd (Prod.snd (Option.getD (some a) ((0 : UInt8), [], [], (0 : UInt8), (0 : UInt64), (0 : UInt8), (0 : Int64)))))) = st) = false from dec_f hs]
      rw [show (!false) = true from rfl, oite_t]
      refine (fin gaps o seq tm rule st pr va ow (o, rule, textOf labels, ow) _ _ _ _ _ _ _ ents).trans ?_
      show some ((0 : Int64), some (mput KV AV (o, rule, textOf labels, ow) (o, rule, labels, st, t, pr, va) ents, gaps, ())) = some ((0 : Int64), some (mput KV AV (o, rule, textOf labels, ow) (o, rule, labels, st, (if a.2.2.2.1 = st then a.2.2.2.2.1 else t), pr, va) ents, gaps, ()))
      rw [if_neg hs]
theorem gap_ok (n : Nat) (ents : Ents) (gaps : List UInt64) (hl : gaps.length = 32) (hnd : (ents.map Prod.fst).Nodup) (hm : ents.length < n) (hn : 20 < n) (t : UInt64) (o : UInt8) (ho : o.toNat < 32) (a b : UInt64) (hc : gapCheck o a b = 0) :
    F7 n (some (ents, gaps, ()), t, true, 0, 0, 0, [], [], 0, 0, 0, 0, o, a, b) = some (0, some (ents.map (upd o t), gaps.set o.toNat (gaps.getD o.toNat 0 + (b - a + 1)), ())) := by
  have h1 := it_eq n 30 hn (true, 0, 0, 0, [], [], 0, 0, 0, 0, o, a, b) ⟨⟨by simp, by simp⟩, by simp, fun p hp => by cases hp⟩
  rw [show itCheck (true, 0, 0, 0, [], [], 0, 0, 0, 0, o, a, b) = 0 from hc] at h1
  unfold F7
  rw [oelim_s]
  refine (congrArg (fun z => obind z _) h1).trans ?_
  rw [obind_s, show (!decide ((0 : Int64) = 0)) = false from rfl, oite_f, oite_t]
  refine (congrArg (fun z => obind z _) (doubt_ok n ents gaps hl hnd hm o ho a b t)).trans ?_
  rfl
theorem get_ok (n : Nat) (ents : Ents) (gaps : List UInt64) (o : UInt8) (rule : List UInt8) (labels : List Pair) (own : UInt8) (h : ∀ p ∈ labels, p.1.length = 1 ∧ p.2.length = 1) (hl : labels.length ≤ 3) (hk : (look (o, rule, textOf labels, own) ents).2.2.1.length ≤ 1000) :
    F13 n (some (ents, gaps, ()), o, rule, labels, own) = some ((look (o, rule, textOf labels, own) ents, (mget KV AV (o, rule, textOf labels, own) ents).isSome), some (ents, gaps, ())) := by
  unfold F13
  rw [oelim_s]
  refine (congrArg (fun z => obind z _) (text_ok n labels h hl)).trans ?_
  rw [obind_s]
  refine (congrArg (fun z => obind z _) (clone22 n (look (o, rule, textOf labels, own) ents).2.2.1 hk)).trans ?_
  rfl
/-! what holds of a board -/
structure BOK (ents : Ents) : Prop where
  nd : (ents.map Prod.fst).Nodup
  key : ∀ e ∈ ents, e.1.1 = e.2.1 ∧ e.1.2.1 = e.2.2.1 ∧ e.1.2.2.1 = textOf e.2.2.2.1
  small : ∀ e ∈ ents, e.2.2.2.1.length ≤ 3 ∧ e.2.2.1.length ≤ 12
  own : ∀ e ∈ ents, (!decide (e.1.2.2.2 = 0)) = ownOK e.2.2.1
theorem BOK.keys {ents : Ents} (h : BOK ents) : KeysOK ents := ⟨h.nd, fun e he => by have := (h.small e he).1; omega, textOf, h.key⟩
theorem mput_mem {k : Key} {v : Alert} {e : Key × Alert} : ∀ {ents : Ents}, e ∈ mput KV AV k v ents → e = (k, v) ∨ e ∈ ents
  | [], h => by
    have h : e ∈ [(k, v)] := h
    simp at h; exact .inl h
  | a :: r, h => by
    have e1 : mput KV AV k v (a :: r) = if k = a.1 then (k, v) :: r else a :: mput KV AV k v r := by
      rw [mput, keqb]
      by_cases h : k = a.1
      · rw [dec_t h, if_pos h]
      · rw [dec_f h, if_neg h]
    rw [e1] at h
    by_cases hk : k = a.1
    · rw [if_pos hk] at h
      rcases List.mem_cons.1 h with h | h
      · exact .inl h
      · exact .inr (List.mem_cons_of_mem _ h)
    · rw [if_neg hk] at h
      rcases List.mem_cons.1 h with h | h
      · exact .inr (by rw [h]; exact List.mem_cons_self)
      · rcases mput_mem h with h | h
        · exact .inl h
        · exact .inr (List.mem_cons_of_mem _ h)
theorem mput_same {ents : Ents} (hn : (ents.map Prod.fst).Nodup) (k : Key) (v : Alert) : mget KV AV k (mput KV AV k v ents) = some v ∧ ((mput KV AV k v ents).map Prod.fst).Nodup ∧ (mput KV AV k v ents).length ≤ ents.length + 1 := by
  have hmem : ((mput KV AV k v ents).map Prod.fst).Nodup ∧ (k, v) ∈ mput KV AV k v ents ∧ (mput KV AV k v ents).length ≤ ents.length + 1 := by
    by_cases hk : k ∈ ents.map Prod.fst
    · rw [mput_map hn v hk]
      have hkeys : (ents.map fun e => if e.1 = k then (k, v) else e).map Prod.fst = ents.map Prod.fst := by
        rw [List.map_map]
        refine List.map_congr_left fun e _ => ?_
        show (if e.1 = k then (k, v) else e).1 = e.1
        split
        · rename_i h; exact h.symm
        · rfl
      refine ⟨by rw [hkeys]; exact hn, ?_, by simp⟩
      obtain ⟨e, he, rfl⟩ := List.mem_map.1 hk
      exact List.mem_map.2 ⟨e, he, if_pos rfl⟩
    · rw [mput_new v hk]
      refine ⟨?_, by simp, by simp⟩
      rw [List.map_append, List.nodup_append]
      exact ⟨hn, by simp, fun a ha b hb => by simp at hb; subst hb; exact fun q => hk (q ▸ ha)⟩
  exact ⟨mget_mem hmem.1 hmem.2.1, hmem.1, hmem.2.2⟩
/-- what an event's own and rule say of one another -/
theorem small_own {x : ItT} (h : Small x) (hg : x.1 = false) : (!decide (x.2.2.2.2.2.2.2.2.2.1 = 0)) = ownOK x.2.2.2.2.1 := by
  have := h.ok
  obtain ⟨g, o, seq, tm, rule, labels, st, pr, va, ow, go, ga, gb⟩ := x
  simp only at hg
  subst hg
  have h : evCheck o seq tm rule labels st pr ow = 0 := this
  unfold evCheck at h
  show (!decide (ow = 0)) = ownOK rule
  revert h
  cases decide ((32 : UInt8) ≤ o) <;> cases decide (seq < 1) <;> cases decide (seq ≤ 1099511627776) <;> cases decide (tm ≤ 1099511627776) <;> cases decide ((7 : UInt8) < pr) <;> cases nameOK rule <;>
    cases ((decide (st = 0) || decide (st = 2)) && !decide (2 < ow)) <;> simp only [cond_true, cond_false] <;> (try (intro h; exact absurd h (by decide)))
  cases hh : ((!decide (ow = 0)) == ownOK rule) with
  | true => intro _; exact beq_iff_eq.1 hh
  | false => intro h; rw [cond_false] at h; exact absurd h (by decide)
theorem BOK.appl {ents : Ents} (h : BOK ents) (t : UInt64) {x : ItT} (hx : Small x) (hg : x.1 = false) : BOK (appl ents t x) ∧ (appl ents t x).length ≤ ents.length + 1 ∧ mget KV AV (keyOf x) (appl ents t x) = some (newA (mget KV AV (keyOf x) ents) t x) := by
  obtain ⟨q1, q2, q3⟩ := mput_same h.nd (keyOf x) (newA (mget KV AV (keyOf x) ents) t x)
  refine ⟨⟨q2, fun e he => ?_, fun e he => ?_, fun e he => ?_⟩, q3, q1⟩ <;> rcases mput_mem he with rfl | he
  · exact ⟨rfl, rfl, rfl⟩
  · exact h.key e he
  · exact ⟨hx.labs, hx.rule⟩
  · exact h.small e he
  · exact small_own hx hg
  · exact h.own e he
end Go.Proofs.Ytegncnhhofbmiaa
