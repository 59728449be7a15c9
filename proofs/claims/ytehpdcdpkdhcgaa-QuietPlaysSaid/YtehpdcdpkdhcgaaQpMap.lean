/- Silences by their numbers: the map and the list that it stands for; what each method does to both. -/
import Derived.Test.YtehpdcdpkdhcgaaQpCheck
open Go Go.Sx
namespace Go.Proofs.Ytehpdcdpkdhcgaa
abbrev QuP := List AskP × UInt64 × UInt64
abbrev Ent := Int64 × QuP
abbrev KI : VT := VT.one (CT.int IntKind.i64)
abbrev VQ : VT := VT.agg (CTs.cons (CT.ro (CTs.cons CT.str (CTs.cons (CT.int IntKind.u8) (CTs.cons CT.str CTs.nil)))) (CTs.cons (CT.int IntKind.u64) (CTs.cons (CT.int IntKind.u64) CTs.nil)))
theorem eqbI {a b : Int64} (h : VT.eqb KI a b = true) : a = b := of_decide_eq_true (show decide (a = b) = true from h)
theorem eqbI_f {a b : Int64} (h : VT.eqb KI a b = false) : a ≠ b := of_decide_eq_false (show decide (a = b) = false from h)
/-! ### The map's own laws -/
theorem get_none (k : Int64) : ∀ (m : List Ent), (∀ p ∈ m, p.1 ≠ k) → mget KI VQ k m = none
  | [], _ => rfl
  | q :: r, h => by
    unfold mget
    cases he : VT.eqb KI k q.1 with
    | true => exact absurd (eqbI he).symm (h q (by simp))
    | false => exact get_none k r fun p hp => h p (by simp [hp])
theorem put_new (k : Int64) (x : QuP) : ∀ (m : List Ent), (∀ p ∈ m, p.1 ≠ k) → mput KI VQ k x m = m ++ [(k, x)]
  | [], _ => rfl
  | q :: r, h => by
    unfold mput
    cases he : VT.eqb KI k q.1 with
    | true => exact absurd (eqbI he).symm (h q (by simp))
    | false => rw [put_new k x r fun p hp => h p (by simp [hp])]; rfl
/-- An entry of the map: what is got there, and what is left without it, or with another in its place. -/
theorem at_key (k : Int64) (x : QuP) : ∀ (m : List Ent), (m.map (·.1)).Nodup → (k, x) ∈ m → mget KI VQ k m = some x ∧ m.Perm ((k, x) :: mdel KI VQ k m) ∧ ∀ y, (mput KI VQ k y m).Perm ((k, y) :: mdel KI VQ k m)
  | [], _, h => by cases h
  | q :: r, hn, h => by
    rw [List.map_cons, List.nodup_cons] at hn
    unfold mget mdel mput
    cases he : VT.eqb KI k q.1 with
    | true =>
      have e := eqbI he
      rcases List.mem_cons.1 h with h | h
      · subst h
        exact ⟨rfl, List.Perm.refl _, fun y => List.Perm.refl _⟩
      · exact absurd (List.mem_map.2 ⟨(k, x), h, e⟩) hn.1
    | false =>
      have e := eqbI_f he
      rcases List.mem_cons.1 h with h | h
      · exact absurd (by rw [← h]) e
      · obtain ⟨h1, h2, h3⟩ := at_key k x r hn.2 h
        exact ⟨h1, (h2.cons q).trans (List.Perm.swap _ _ _), fun y => ((h3 y).cons q).trans (List.Perm.swap _ _ _)⟩
/-! ### The list that is meant -/
def Keyed (m : List Ent) : Prop := (m.map fun p => p.1.toInt).Pairwise (· < ·)
theorem keyed_nodup {m : List Ent} (h : Keyed m) : (m.map (·.1)).Nodup := by
  unfold Keyed at h
  unfold List.Nodup
  rw [List.pairwise_map] at h ⊢
  exact h.imp fun {a b} hab e => by rw [e] at hab; omega
theorem perm_nodup {t m : List Ent} (h : t.Perm m) (hk : Keyed m) : (t.map (·.1)).Nodup := (h.map (·.1)).nodup_iff.2 (keyed_nodup hk)
theorem keyed_cut {m : List Ent} (h : Keyed m) (i : Nat) : Keyed (m.take i ++ m.drop (i + 1)) := by
  unfold Keyed at *
  refine h.sublist ?_
  refine List.Sublist.map _ ?_
  have e : m = m.take i ++ m.drop i := (List.take_append_drop i m).symm
  have s : (m.take i ++ m.drop (i + 1)).Sublist (m.take i ++ m.drop i) := (List.Sublist.refl _).append (List.drop_sublist_drop_left _ (by omega))
  rw [← e] at s
  exact s
theorem keyed_set {m : List Ent} (h : Keyed m) (i : Nat) (hi : i < m.length) (q : QuP) : Keyed (m.set i (m[i].1, q)) := by
  unfold Keyed at *
  rw [List.map_set]
  have : (m.map fun p => p.1.toInt).set i m[i].1.toInt = m.map fun p => p.1.toInt := by
    apply List.ext_getElem
    · simp
    · intro j h1 h2
      rw [List.getElem_set]
      split
      · rename_i e; subst e; simp
      · rfl
  rw [this]
  exact h
theorem keyed_filter {m : List Ent} (h : Keyed m) (f : Ent → Bool) : Keyed (m.filter f) := by
  unfold Keyed at *
  exact h.sublist (List.Sublist.map _ List.filter_sublist)
theorem keyed_snoc {m : List Ent} (h : Keyed m) (k : Int64) (q : QuP) (hk : ∀ p ∈ m, p.1.toInt < k.toInt) : Keyed (m ++ [(k, q)]) := by
  unfold Keyed at *
  rw [List.map_append, List.pairwise_append]
  refine ⟨h, by simp, fun a ha b hb => ?_⟩
  obtain ⟨p, hp, rfl⟩ := List.mem_map.1 ha
  simp at hb; subst hb
  exact hk p hp
theorem cut_perm {m : List Ent} (i : Nat) (hi : i < m.length) : m.Perm (m[i] :: (m.take i ++ m.drop (i + 1))) := by
  have e : m = m.take i ++ m[i] :: m.drop (i + 1) := by rw [← List.drop_eq_getElem_cons hi, List.take_append_drop]
  have h : (m.take i ++ m[i] :: m.drop (i + 1)).Perm (m[i] :: (m.take i ++ m.drop (i + 1))) := List.perm_middle
  rw [← e] at h
  exact h
theorem set_perm {m : List Ent} (i : Nat) (hi : i < m.length) (y : Ent) : (m.set i y).Perm (y :: (m.take i ++ m.drop (i + 1))) := by
  rw [List.set_eq_take_append_cons_drop, if_pos hi]
  exact List.perm_middle
/-! ### Numbers -/
theorem sort_uniq {xs ys : List Int64} (h : xs.Perm ys) (hs : (ys.map Int64.toInt).Pairwise (· < ·)) : sortI xs = ys := by
  have h1 : (sortI xs).Pairwise fun a b => decide (a.toInt ≤ b.toInt) = true :=
    List.pairwise_mergeSort (fun a b c hab hbc => by simp only [decide_eq_true_eq] at *; omega) (fun a b => by simp only [Bool.or_eq_true, decide_eq_true_eq]; omega) xs
  have h2 : ys.Pairwise fun a b => decide (a.toInt ≤ b.toInt) = true := by
    rw [List.pairwise_map] at hs
    exact hs.imp fun {a b} hab => by simp only [decide_eq_true_eq]; omega
  refine List.Perm.eq_of_pairwise (fun a b _ _ hab hba => ?_) h1 h2 ((List.mergeSort_perm xs _).trans h)
  simp only [decide_eq_true_eq] at hab hba
  exact Int64.toInt_inj.1 (by omega)
theorem erase_perm {α : Type} : ∀ (l : List α) (j : Nat) (h : j < l.length), (l[j] :: l.eraseIdx j).Perm l
  | a :: r, 0, _ => List.Perm.refl _
  | a :: r, j + 1, h => by
    have ih := erase_perm r j (by simpa using h)
    exact (List.Perm.swap _ _ _).trans (ih.cons a)
theorem numbers_loop (n : Nat) (nx : Int64) (tm : List Ent) (keys : List Int64) (hk : (keys.map Int64.toInt).Pairwise (· < ·)) (hl : keys.length ≤ 4294967296) (k : Nat) : ∀ (tr : List Ent) (out : List Int64), tr.length < k → (out ++ tr.map (·.1)).Perm keys →
    F20_R61 n k nx out tm tr = some (keys, some (tm, nx)) := by
  induction k with
  | zero => intros; omega
  | succ k ih =>
    intro tr out ht hp
    have hlen := hp.length_eq
    rw [List.length_append, List.length_map] at hlen
    rw [F20_R61_s]
    unfold F20_L61
    by_cases h0 : 0 < tr.length
    · rw [show Nat.blt 0 tr.length = true from by rw [Nat.blt_eq]; exact h0, oite_t]
      refine oallN_mk h0 fun j hj => ?_
      rw [List.getElem?_eq_getElem hj]
      simp only [obind_s]
      rw [ble_t (by simp; omega), oite_t]
      refine ih _ _ (by rw [List.length_eraseIdx]; split <;> omega) ?_
      refine List.Perm.trans ?_ hp
      rw [List.append_assoc]
      exact List.Perm.append_left out (List.Perm.map (fun p : Ent => p.1) (erase_perm tr j hj))
    · have h0 : tr = [] := List.length_eq_zero_iff.1 (by omega)
      subst h0
      rw [show Nat.blt 0 ([] : List Ent).length = false from rfl, oite_f]
      have e : F31 n out = some ((), keys) := by
        show oite (Nat.ble out.length 4294967296) (some ((), sortI out)) none = _
        rw [ble_t (by simp at hlen; omega), sort_uniq (by simpa using hp) hk]; rfl
      rw [e]; rfl
theorem numbers_eq (n : Nat) (tm m : List Ent) (nx : Int64) (hp : tm.Perm m) (hk : Keyed m) (hl : m.length ≤ 100) (hn : 101 < n) : F20 n (some (tm, nx)) = some (m.map (·.1), some (tm, nx)) := by
  have hlen := hp.length_eq
  refine numbers_loop n nx tm (m.map (·.1)) ?_ (by simp; omega) n tm [] (by omega) (by simpa using hp.map (·.1))
  rw [List.map_map]; exact hk
/-! ### Get -/
theorem clone_eq (n : Nat) (q : List AskP) (h : q.length ≤ 12) : F29 n q = some (q, ()) := by
  show oite (Nat.ble q.length maxCells) (some (q, ())) none = _
  rw [ble_t (Nat.le_trans h (by decide))]; rfl
theorem get_eq (n : Nat) (tm m : List Ent) (nx : Int64) (hp : tm.Perm m) (hk : Keyed m) (k : Int64) (q : QuP) (hm : (k, q) ∈ m) (hq : q.1.length ≤ 12) :
    F21 n (some (tm, nx), k) = some ((q, true), some (tm, nx)) := by
  obtain ⟨h1, _, _⟩ := at_key k q tm (perm_nodup hp hk) (hp.mem_iff.2 hm)
  obtain ⟨q0, q1, q2⟩ := q
  have e : F21 n (some (tm, nx), k) = obind (F29 n ((mget KI VQ k tm).getD ([], 0, 0)).1) fun x => some (((x.1, ((mget KI VQ k tm).getD ([], 0, 0)).2.1, ((mget KI VQ k tm).getD ([], 0, 0)).2.2), (mget KI VQ k tm).isSome), some (tm, nx)) := rfl
  rw [e, h1]
  simp only [Option.getD_some]
  rw [clone_eq n q0 hq]
  rfl
/-! ### End -/
def upd (m : List Ent) (i : Nat) (e : Ent) (now : UInt64) : List Ent := if now ≤ e.2.2.1 then m.take i ++ m.drop (i + 1) else m.set i (e.1, e.2.1, e.2.2.1, IK.minI IntKind.u64 e.2.2.2 now)
theorem end_none (n : Nat) (tm : List Ent) (nx k : Int64) (now : UInt64) (h : ∀ p ∈ tm, p.1 ≠ k) : F16 n (some (tm, nx), k, now) = some (14, some (tm, nx)) := by
  have e : F16 n (some (tm, nx), k, now) = oite (!(mget KI VQ k tm).isSome) (some (14, some (tm, nx))) (oite (decide (now ≤ ((mget KI VQ k tm).getD ([], 0, 0)).2.1)) (some (0, some (mdel KI VQ k tm, nx)))
      (some (0, some (mput KI VQ k (((mget KI VQ k tm).getD ([], 0, 0)).1, ((mget KI VQ k tm).getD ([], 0, 0)).2.1, IK.minI IntKind.u64 ((mget KI VQ k tm).getD ([], 0, 0)).2.2 now) tm, nx)))) := rfl
  rw [e, get_none k tm h]; rfl
theorem end_some (n : Nat) (tm m : List Ent) (nx : Int64) (now : UInt64) (hp : tm.Perm m) (hk : Keyed m) (i : Nat) (hi : i < m.length) :
    ∃ tm', F16 n (some (tm, nx), m[i].1, now) = some (0, some (tm', nx)) ∧ tm'.Perm (upd m i m[i] now) ∧ Keyed (upd m i m[i] now) := by
  have hmem : m[i] ∈ m := List.getElem_mem hi
  have c1 := cut_perm i hi
  have ks := keyed_set hk i hi
  have s1 := set_perm i hi
  obtain ⟨k, q0, q1, q2, hme⟩ : ∃ k q0 q1 q2, m[i] = (k, q0, q1, q2) := ⟨_, _, _, _, rfl⟩
  rw [hme] at hmem c1 ks ⊢
  obtain ⟨h1, h2, h3⟩ := at_key k (q0, q1, q2) tm (perm_nodup hp hk) (hp.mem_iff.2 hmem)
  have e : F16 n (some (tm, nx), k, now) = oite (!(mget KI VQ k tm).isSome) (some (14, some (tm, nx))) (oite (decide (now ≤ ((mget KI VQ k tm).getD ([], 0, 0)).2.1)) (some (0, some (mdel KI VQ k tm, nx)))
      (some (0, some (mput KI VQ k (((mget KI VQ k tm).getD ([], 0, 0)).1, ((mget KI VQ k tm).getD ([], 0, 0)).2.1, IK.minI IntKind.u64 ((mget KI VQ k tm).getD ([], 0, 0)).2.2 now) tm, nx)))) := rfl
  have hd : (mdel KI VQ k tm).Perm (m.take i ++ m.drop (i + 1)) := List.Perm.cons_inv (h2.symm.trans (hp.trans c1))
  rw [e, h1]
  simp only [Option.isSome_some, Bool.not_true, oite_f, Option.getD_some]
  unfold upd
  by_cases hn : now ≤ q1
  · rw [dec_t hn, oite_t, if_pos hn]
    exact ⟨_, rfl, hd, keyed_cut hk i⟩
  · rw [dec_f hn, oite_f, if_neg hn]
    exact ⟨_, rfl, (h3 _).trans ((hd.cons _).trans (s1 _).symm), ks _⟩
end Go.Proofs.Ytehpdcdpkdhcgaa
