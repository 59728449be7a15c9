/- What a gap does to a board, in plain Lean (as for BoardDoubts). -/
import Derived.Test.YtegncnhhofbmiaaBnFns2
import Derived.Test.YtegncnhhofbmiaaBdOrd
open Go Go.Sx
namespace Go.Proofs.Ytegncnhhofbmiaa
abbrev Ents := List (Key × Alert)
/-- whether an entry isn't known behind a gap -/
abbrev hit (o : UInt8) (e : Key × Alert) : Prop := e.1.1 = o ∧ e.1.2.2.2 = 0 ∧ e.2.2.2.2.1 = 2
abbrev dim (now : UInt64) (a : Alert) : Alert := (a.1, a.2.1, a.2.2.1, 3, now, a.2.2.2.2.2.1, a.2.2.2.2.2.2)
def upd (o : UInt8) (now : UInt64) (e : Key × Alert) : Key × Alert := if hit o e then (e.1, dim now e.2) else e
theorem upd_fst (o now e) : (upd o now e).1 = e.1 := by unfold upd; split <;> rfl
theorem mput_map {ents : Ents} (hn : (ents.map Prod.fst).Nodup) {k : Key} (v : Alert) (hk : k ∈ ents.map Prod.fst) : mput KV AV k v ents = ents.map fun e => if e.1 = k then (k, v) else e := by
  induction ents with
  | nil => cases hk
  | cons a r ih =>
    rw [List.map_cons, List.nodup_cons] at hn
    unfold mput
    rw [keqb]
    by_cases h : k = a.1
    · rw [dec_t h]
      rw [List.map_cons, if_pos h.symm]
      have : (r.map fun e => if e.1 = k then (k, v) else e) = r := by
        have := List.map_congr_left (f := fun e : Key × Alert => if e.1 = k then (k, v) else e) (g := id) (l := r) fun e he => if_neg fun q => hn.1 (by rw [← h, ← q]; exact List.mem_map.2 ⟨e, he, rfl⟩)
        rw [this, List.map_id]
      show (k, v) :: r = _
      rw [this]
    · rw [dec_f h]
      rw [List.map_cons, if_neg (fun q => h q.symm)]
      show a :: mput KV AV k v r = _
      rw [ih hn.2 (by rw [List.map_cons] at hk; rcases List.mem_cons.1 hk with q | q; exact absurd q h; exact q)]
theorem mget_none_iff {ents : Ents} {k : Key} : mget KV AV k ents = none ↔ k ∉ ents.map Prod.fst := by
  induction ents with
  | nil => simp [mget]
  | cons a r ih =>
    unfold mget
    rw [keqb, List.map_cons, List.mem_cons, not_or]
    by_cases h : k = a.1
    · rw [dec_t h]; simp [h]
    · rw [dec_f h]
      show mget KV AV k r = none ↔ _
      rw [ih]
      exact ⟨fun q => ⟨h, q⟩, fun q => q.2⟩
theorem mput_new {ents : Ents} {k : Key} (v : Alert) (hk : k ∉ ents.map Prod.fst) : mput KV AV k v ents = ents ++ [(k, v)] := by
  induction ents with
  | nil => rfl
  | cons a r ih =>
    rw [List.map_cons, List.mem_cons, not_or] at hk
    unfold mput
    rw [keqb, dec_f hk.1]
    show a :: mput KV AV k v r = _
    rw [ih hk.2]; rfl
/-- What is left to come is still to be turned. -/
def turnL (o : UInt8) (now : UInt64) (tr tm : Ents) : Ents := tm.map fun e => if e.1 ∈ tr.map Prod.fst then upd o now e else e
theorem same_of {ents : Ents} (hn : (ents.map Prod.fst).Nodup) {a b : Key × Alert} (ha : a ∈ ents) (hb : b ∈ ents) (h : a.1 = b.1) : a = b := by
  have h1 := mget_mem hn ha
  rw [h, mget_mem hn hb] at h1
  exact Prod.ext h (Option.some.inj h1).symm
theorem erase_perm {α : Type} : ∀ (l : List α) (j : Nat) (h : j < l.length), l.Perm (l[j] :: l.eraseIdx j)
  | a :: r, 0, _ => List.Perm.refl _
  | a :: r, j + 1, h => by
    have := erase_perm r j (by simpa using h)
    simp only [List.getElem_cons_succ, List.eraseIdx_cons_succ]
    exact (this.cons a).trans (List.Perm.swap _ _ _)
theorem erase_keys {tr : Ents} (hn : (tr.map Prod.fst).Nodup) {j : Nat} (hj : j < tr.length) : tr[j].1 ∉ (tr.eraseIdx j).map Prod.fst ∧ (∀ k, k ∈ tr.map Prod.fst ↔ k = tr[j].1 ∨ k ∈ (tr.eraseIdx j).map Prod.fst) ∧ ((tr.eraseIdx j).map Prod.fst).Nodup := by
  have hp : (tr.map Prod.fst).Perm (tr[j].1 :: (tr.eraseIdx j).map Prod.fst) := by
    simpa using (erase_perm tr j hj).map Prod.fst
  have hn' := (hp.nodup_iff).1 hn
  rw [List.nodup_cons] at hn'
  exact ⟨hn'.1, fun k => by rw [hp.mem_iff, List.mem_cons], hn'.2⟩
theorem doubt_loop (o : UInt8) (now : UInt64) (ba : List UInt64) (g1 g2 : UInt64) : ∀ (m : Nat) (tr tm : Ents), tr.length < m → (tm.map Prod.fst).Nodup → (tr.map Prod.fst).Nodup → (∀ q ∈ tr, q ∈ tm) →
    F20_R15 m now ba o g1 g2 tm tr = some ((), some (turnL o now tr tm, ba, ())) := by
  intro m
  induction m with
  | zero => intros; omega
  | succ m ih =>
    intro tr tm hm hn ht hsub
    rw [F20_R15_s]
    unfold F20_L15
    rw [blt_iff]
    by_cases hz : 0 < tr.length
    case neg =>
      rw [dec_f hz, oite_f]
      have : tr = [] := List.eq_nil_of_length_eq_zero (by omega)
      subst this
      simp [turnL]
    rw [dec_t hz, oite_t]
    refine oallN_mk hz fun j hj => ?_
    rw [List.getElem?_eq_getElem hj, obind_s]
    obtain ⟨k1, k2, k3⟩ := erase_keys ht hj
    have hmem : tr[j] ∈ tm := hsub _ (List.getElem_mem hj)
    have hlen : (tr.eraseIdx j).length < m := by rw [List.length_eraseIdx, if_pos hj]; omega
    have hsub' : ∀ q ∈ tr.eraseIdx j, q ∈ tm := fun q hq => hsub q (List.mem_of_mem_eraseIdx hq)
    generalize hp : tr[j] = p at k1 k2 hmem
    -- nothing is turned
    have stay : ¬ hit o p → F20_R15 m now ba o g1 g2 tm (tr.eraseIdx j) = some ((), some (turnL o now tr tm, ba, ())) := fun hh => by
      rw [ih _ _ hlen hn k3 hsub']
      congr 3
      refine Prod.ext (List.map_congr_left fun e he => ?_) rfl
      show (if e.1 ∈ _ then upd o now e else e) = if e.1 ∈ _ then upd o now e else e
      by_cases h1 : e.1 ∈ (tr.eraseIdx j).map Prod.fst
      · rw [if_pos h1, if_pos ((k2 _).2 (.inr h1))]
      · rw [if_neg h1]
        by_cases h2 : e.1 = p.1
        · have := same_of hn he hmem h2
          subst this
          rw [if_pos ((k2 _).2 (.inl rfl))]
          unfold upd; rw [if_neg hh]
        · rw [if_neg fun q => by rcases (k2 _).1 q with q | q; exact h2 q; exact h1 q]
    by_cases h0 : p.1.1 = o
    case neg => rw [dec_f h0, oite_f]; exact stay fun q => h0 q.1
    rw [dec_t h0, oite_t]
    by_cases h1 : p.1.2.2.2 = 0
    case neg => rw [dec_f h1, oite_f]; exact stay fun q => h1 q.2.1
    rw [dec_t h1, oite_t]
    by_cases h2 : p.2.2.2.2.1 = 2
    case neg => rw [dec_f h2, oite_f]; exact stay fun q => h2 q.2.2
    rw [dec_t h2, oite_t]
    have e1 : (mget KV AV (p.1.1, p.1.2.1, p.1.2.2.1, p.1.2.2.2) tm) = some p.2 := mget_mem hn hmem
    have e2 : (mget KV AV (p.1.1, p.1.2.1, p.1.2.2.1, p.1.2.2.2) (tr.eraseIdx j)) = none := mget_none_iff.2 k1
    rw [e1, e2]
    rw [show (Option.isSome (some p.2) && Option.isNone (none : Option Alert)) = true from rfl, oite_t]
    have e3 : mput KV AV (p.1.1, p.1.2.1, p.1.2.2.1, p.1.2.2.2) (p.2.1, p.2.2.1, p.2.2.2.1, 3, now, p.2.2.2.2.2.2.1, p.2.2.2.2.2.2.2) tm = tm.map fun e => if e.1 = p.1 then (p.1, dim now p.2) else e :=
      mput_map hn _ (List.mem_map.2 ⟨p, hmem, rfl⟩)
    rw [e3]
    have hkeys : (tm.map fun e => if e.1 = p.1 then (p.1, dim now p.2) else e).map Prod.fst = tm.map Prod.fst := by
      rw [List.map_map]
      refine List.map_congr_left fun e _ => ?_
      show (if e.1 = p.1 then (p.1, dim now p.2) else e).1 = e.1
      split
      · rename_i h; exact h.symm
      · rfl
    rw [ih _ _ hlen (by rw [hkeys]; exact hn) k3 fun q hq => ?_]
    · congr 3
      refine Prod.ext ?_ rfl
      show turnL o now _ _ = turnL o now _ _
      unfold turnL
      rw [List.map_map]
      refine List.map_congr_left fun e he => ?_
      show (if (if e.1 = p.1 then (p.1, dim now p.2) else e).1 ∈ (tr.eraseIdx j).map Prod.fst then upd o now (if e.1 = p.1 then (p.1, dim now p.2) else e) else (if e.1 = p.1 then (p.1, dim now p.2) else e)) = if e.1 ∈ tr.map Prod.fst then upd o now e else e
      by_cases h3 : e.1 = p.1
      · have := same_of hn he hmem h3
        subst this
        rw [if_pos rfl, if_neg k1, if_pos ((k2 _).2 (.inl rfl))]
        unfold upd
        rw [if_pos ⟨h0, h1, h2⟩]
      · rw [if_neg h3]
        by_cases h4 : e.1 ∈ (tr.eraseIdx j).map Prod.fst
        · rw [if_pos h4, if_pos ((k2 _).2 (.inr h4))]
        · rw [if_neg h4, if_neg fun q => by rcases (k2 _).1 q with q | q; exact h3 q; exact h4 q]
    · refine List.mem_map.2 ⟨q, hsub' q hq, if_neg fun h => k1 ?_⟩
      rw [← h]; exact List.mem_map.2 ⟨q, hq, rfl⟩
/-- Behind a gap. -/
theorem doubt_ok (m : Nat) (ents : Ents) (gaps : List UInt64) (hg : gaps.length = 32) (hn : (ents.map Prod.fst).Nodup) (hm : ents.length < m) (o : UInt8) (ho : o.toNat < 32) (from_ to_ now : UInt64) :
    F20 m (some (ents, gaps, ()), (o, from_, to_), now) = some ((), some (ents.map (upd o now), gaps.set o.toNat (gaps.getD o.toNat 0 + (to_ - from_ + 1)), ())) := by
  have hg0 : gaps[o.toNat]? = some (gaps.getD o.toNat 0) := by
    rw [List.getD_eq_getElem?_getD, List.getElem?_eq_getElem (by omega)]; rfl
  unfold F20
  simp only [obind_s]
  rw [show decide ((0 : Int) ≤ ↑(UInt8.toNat o)) = true from dec_t (by omega), oite_t, show (Int.toNat ↑(UInt8.toNat o)) = o.toNat from rfl, blt_iff, dec_t ho, oite_t, Nat.mul_one, hg0]
  simp only [obind_s]
  rw [oite_t, oite_t, blt_iff, hg, dec_t ho, oite_t]
  refine (doubt_loop o now _ from_ to_ m ents ents hm hn hn fun q h => h).trans ?_
  congr 3
  refine Prod.ext (List.map_congr_left fun e he => ?_) rfl
  show (if e.1 ∈ ents.map Prod.fst then upd o now e else e) = _
  rw [if_pos (List.mem_map.2 ⟨e, he, rfl⟩)]
end Go.Proofs.Ytegncnhhofbmiaa
