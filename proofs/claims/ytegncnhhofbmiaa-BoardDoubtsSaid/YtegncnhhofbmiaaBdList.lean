/- What List answers, in plain Lean. -/
import Derived.Test.YtegncnhhofbmiaaBdDoubt
open Go Go.Sx
namespace Go.Proofs.Ytegncnhhofbmiaa
theorem look_len {ents : Ents} (h : KeysOK ents) (k : Key) : (look k ents).2.2.1.length ≤ 20 := by
  by_cases hk : k ∈ ents.map Prod.fst
  · obtain ⟨e, he, rfl⟩ := List.mem_map.1 hk
    rw [look_mem h.nd he]; exact h.ok e he
  · show ((mget KV AV k ents).getD zA).2.2.1.length ≤ 20
    rw [mget_none_iff.2 hk]; exact Nat.zero_le _
theorem cfK_all (k : Nat) {ents : Ents} (h : KeysOK ents) (x y : Key) : cfK (k + 30) ents x y = (cKey ents x y).toInt := by
  unfold cfK
  rw [f24 k ents x y (look_len h x) (look_len h y)]; rfl
/-- The keys in their order. -/
def sortW (ents : Ents) (xs : List Key) : List Key := xs.mergeSort fun a b => !decide ((cKey ents b a).toInt < 0)
theorem sortK_eq (k : Nat) {ents : Ents} (h : KeysOK ents) (xs : List Key) : sortK (k + 30) ents xs = sortW ents xs := by
  have e : (fun a b => !ltC (cfK (k + 30) ents) b a) = (fun a b => !decide ((cKey ents b a).toInt < 0)) := by
    funext a b
    unfold ltC
    rw [cfK_all k h]
  unfold sortK sortW
  rw [e]
theorem sortW_perm (ents : Ents) (xs : List Key) : (sortW ents xs).Perm xs := List.mergeSort_perm _ _
theorem sortW_unique {ents : Ents} (h : KeysOK ents) {xs ys : List Key} (hx : ∀ x ∈ xs, x ∈ ents.map Prod.fst) (hp : xs.Perm ys) : sortW ents xs = sortW ents ys := by
  have le : ∀ a b, (!decide ((cKey ents b a).toInt < 0)) = true ↔ ¬ klt (full ents b) (full ents a) := fun a b => by
    rw [Bool.not_eq_true', decide_eq_false_iff_not, cKey_neg]
  have tr : ∀ a b c : Key, (!decide ((cKey ents b a).toInt < 0)) = true → (!decide ((cKey ents c b).toInt < 0)) = true → (!decide ((cKey ents c a).toInt < 0)) = true := fun a b c h1 h2 => by
    rw [le] at *
    intro q
    rcases klt_tri (full ents b) (full ents a) with e | e | e
    · exact h1 e
    · exact h2 (klt_trans q e)
    · rw [e] at h2; exact h2 q
  have tot : ∀ a b : Key, (!decide ((cKey ents b a).toInt < 0) || !decide ((cKey ents a b).toInt < 0)) = true := fun a b => by
    rw [Bool.or_eq_true, le, le]
    by_cases q : klt (full ents b) (full ents a)
    · exact .inr fun q' => klt_irrefl _ (klt_trans q q')
    · exact .inl q
  refine List.Perm.eq_of_pairwise (le := fun a b => (!decide ((cKey ents b a).toInt < 0)) = true) ?_ (List.pairwise_mergeSort tr tot _) (List.pairwise_mergeSort tr tot _) ((sortW_perm ents xs).trans (hp.trans (sortW_perm ents ys).symm))
  intro a b ha hb h1 h2
  rw [le] at h1 h2
  have ha := hx a ((sortW_perm ents xs).mem_iff.1 ha)
  have hb := hx b (hp.mem_iff.2 ((sortW_perm ents ys).mem_iff.1 hb))
  rcases klt_tri (full ents a) (full ents b) with e | e | e
  · exact absurd e h2
  · exact absurd e h1
  · exact full_inj h ha hb e
theorem clone22 (n : Nat) (l : List Pair) (h : l.length ≤ 1000) : F22 n l = some (l, ()) := by
  unfold F22 cloneF
  rw [ble_t (by show l.length ≤ 4294967296; omega)]; rfl
/-- The second loop: the alerts, by the keys' order. -/
theorem out_loop (n : Nat) (ba : List UInt64) (ents : Ents) (h : KeysOK ents) (ks : List Key) (hk : ks.length < 1000) : ∀ (m j : Nat), j ≤ ks.length → ks.length - j < m →
    F9_R509 n m (I64 ks.length) (I64 j) ba ((ks.take j).map fun k => look k ents) ks ents = some (ks.map fun k => look k ents, some (ents, ba, ())) := by
  intro m
  induction m with
  | zero => intros; omega
  | succ m ih =>
    intro j hj hm
    rw [F9_R509_s]
    unfold F9_L509
    by_cases hlt : j < ks.length
    case neg =>
      rw [dec_f (fun q => hlt ((i64_lt (by omega) (by omega)).1 q)), oite_f, List.take_of_length_le (by omega)]
    rw [dec_t ((i64_lt (by omega) (by omega)).2 hlt), oite_t]
    obtain ⟨q1, q2⟩ := idx_i64 hlt (by omega)
    rw [q1, q2, oite_t]
    simp only [obind_s]
    have hl := look_len h ks[j]
    refine (congrArg (fun z => obind z _) (clone22 n (look ks[j] ents).2.2.1 (by omega))).trans ?_
    simp only [obind_s]
    rw [ble_t (by simp; omega), oite_t, i64_succ]
    have := ih (j + 1) (by omega) (by omega)
    rw [List.take_add_one, List.getElem?_eq_getElem hlt, List.map_append] at this
    exact this
theorem all_keys {tr tm : Ents} {keys : List Key} (hp : (keys ++ tr.map Prod.fst).Perm (tm.map Prod.fst)) {j : Nat} (hj : j < tr.length) : ((keys ++ [tr[j].1]) ++ (tr.eraseIdx j).map Prod.fst).Perm (tm.map Prod.fst) := by
  refine List.Perm.trans ?_ hp
  rw [List.append_assoc]
  refine List.Perm.append_left keys ?_
  have := (erase_perm tr j hj).symm.map Prod.fst
  simpa using this
theorem keys_loop (k : Nat) (ba : List UInt64) (tm : Ents) (h : KeysOK tm) (hl : tm.length < 900) : ∀ (m : Nat) (tr : Ents) (keys : List Key), tr.length < m → (keys ++ tr.map Prod.fst).Perm (tm.map Prod.fst) →
    F9_R61 (k + 1030) m ba keys tm tr = some ((sortW tm (tm.map Prod.fst)).map fun k => look k tm, some (tm, ba, ())) := by
  intro m
  induction m with
  | zero => intros; omega
  | succ m ih =>
    intro tr keys hm hp
    have hlen := hp.length_eq
    rw [List.length_append, List.length_map, List.length_map] at hlen
    rw [F9_R61_s]
    unfold F9_L61
    rw [blt_iff]
    by_cases hz : 0 < tr.length
    case pos =>
      rw [dec_t hz, oite_t]
      refine oallN_mk hz fun j hj => ?_
      rw [List.getElem?_eq_getElem hj, obind_s, ble_t (by simp; omega), oite_t]
      exact ih (tr.eraseIdx j) (keys ++ [tr[j].1]) (by rw [List.length_eraseIdx, if_pos hj]; omega) (all_keys hp hj)
    rw [dec_f hz, oite_f]
    have htr : tr = [] := List.eq_nil_of_length_eq_zero (by omega)
    subst htr
    rw [List.map_nil, List.append_nil] at hp
    have hS : SortOK (k + 1030) tm keys := sort_ok (k + 1000) h (xs := keys) (fun x hx => hp.mem_iff.1 hx) (by simp at hlen; omega)
    have e1 : F23 (k + 1030) ([], (), keys, tm) = some ((), sortK (k + 1030) tm keys) := F23_eq hS
    have e2 : sortK (k + 1030) tm keys = sortW tm (tm.map Prod.fst) := by
      rw [show sortK (k + 1030) tm keys = sortW tm keys from sortK_eq (k + 1000) h keys]
      exact sortW_unique h (fun x hx => hp.mem_iff.1 hx) hp
    rw [e2] at e1
    refine (congrArg (fun z => obind (obind z fun y => some y.2) fun x_2 => F9_R509 (k + 1030) (k + 1030) (Int64.ofInt ↑(List.length x_2)) 0 ba [] x_2 tm) e1).trans ?_
    have hn : (sortW tm (tm.map Prod.fst)).length = tm.length := by rw [(sortW_perm _ _).length_eq, List.length_map]
    exact out_loop (k + 1030) ba tm h (sortW tm (tm.map Prod.fst)) (by omega) (k + 1030) 0 (by omega) (by omega)
/-- The board's alerts, in their order. -/
def listed (ents : Ents) : List Alert := (sortW ents (ents.map Prod.fst)).map fun k => look k ents
theorem list_ok (k : Nat) (ents : Ents) (ba : List UInt64) (h : KeysOK ents) (hl : ents.length < 900) : F9 (k + 1030) (some (ents, ba, ())) = some (listed ents, some (ents, ba, ())) := by
  unfold F9
  rw [oelim_s]
  exact keys_loop k ba ents h hl (k + 1030) ents [] (by omega) (List.Perm.refl _)
/-! a gap changes no order -/
theorem mget_map (g : Key × Alert → Key × Alert) (hg : ∀ e, (g e).1 = e.1) (k : Key) : ∀ ents : Ents, mget KV AV k (ents.map g) = (mget KV AV k ents).map fun a => (g (k, a)).2
  | [] => rfl
  | a :: r => by
    have e : ∀ (b : Key × Alert) (q : Ents), mget KV AV k (b :: q) = if k = b.1 then some b.2 else mget KV AV k q := fun b q => by
      rw [mget, keqb]
      by_cases h : k = b.1
      · rw [dec_t h, if_pos h]
      · rw [dec_f h, if_neg h]
    rw [List.map_cons, e, e, hg]
    by_cases h : k = a.1
    · rw [if_pos h, if_pos h]
      subst h
      rfl
    · rw [if_neg h, if_neg h]
      exact mget_map g hg k r
theorem look_upd (o : UInt8) (now : UInt64) (k : Key) (ents : Ents) : look k (ents.map (upd o now)) = if k ∈ ents.map Prod.fst then (upd o now (k, look k ents)).2 else zA := by
  show (mget KV AV k _).getD zA = _
  rw [mget_map _ (upd_fst o now)]
  by_cases h : k ∈ ents.map Prod.fst
  · rw [if_pos h]
    cases hm : mget KV AV k ents with
    | none => exact absurd h (mget_none_iff.1 hm)
    | some a =>
      show (upd o now (k, a)).2 = (upd o now (k, (mget KV AV k ents).getD zA)).2
      rw [hm]; rfl
  · rw [if_neg h, mget_none_iff.2 h]; rfl
theorem core_upd (o : UInt8) (now : UInt64) (k : Key) (ents : Ents) : core (look k (ents.map (upd o now))) = core (look k ents) := by
  rw [look_upd]
  by_cases h : k ∈ ents.map Prod.fst
  · rw [if_pos h]
    unfold upd
    split <;> rfl
  · rw [if_neg h]
    show core zA = core ((mget KV AV k ents).getD zA)
    rw [mget_none_iff.2 h]; rfl
theorem keys_upd (o : UInt8) (now : UInt64) (ents : Ents) : (ents.map (upd o now)).map Prod.fst = ents.map Prod.fst := by
  rw [List.map_map]
  exact List.map_congr_left fun e _ => upd_fst o now e
theorem sort_upd (o : UInt8) (now : UInt64) (ents : Ents) (xs : List Key) : sortW (ents.map (upd o now)) xs = sortW ents xs := by
  have e : (fun a b => !decide ((cKey (ents.map (upd o now)) b a).toInt < 0)) = (fun a b => !decide ((cKey ents b a).toInt < 0)) := by
    funext a b
    unfold cKey
    rw [core_upd, core_upd]
  unfold sortW
  rw [e]
theorem keysOK_upd (o : UInt8) (now : UInt64) {ents : Ents} (h : KeysOK ents) : KeysOK (ents.map (upd o now)) := by
  refine ⟨by rw [keys_upd]; exact h.nd, fun e he => ?_, ?_⟩
  · obtain ⟨e', he', rfl⟩ := List.mem_map.1 he
    have := h.ok e' he'
    unfold upd
    split <;> exact this
  · obtain ⟨f, hf⟩ := h.tx
    refine ⟨f, fun e he => ?_⟩
    obtain ⟨e', he', rfl⟩ := List.mem_map.1 he
    have := hf e' he'
    unfold upd
    split <;> exact this
end Go.Proofs.Ytegncnhhofbmiaa
