/- The law RecvPlays: calls in any order. -/
import Derived.Test.YtllfmmonieelpaaRePlays
open Go Go.Sx
namespace Go.Proofs.Ytllfmmonieelpaa
theorem same_loop (l : List Pair) (hl : l.length < 2 ^ 63) : ∀ (m k : Nat), k ≤ l.length → l.length - k < m → F26_R29 m l l (I64 k) = some (true, ()) := by
  intro m
  induction m with
  | zero => intro k _ h; omega
  | succ m ih =>
    intro k hk hm
    rw [F26_R29_s]
    unfold F26_L29
    by_cases hlt : k < l.length
    · rw [dec_t ((i64_lt (by omega) hl).2 hlt), oite_t, at_i64_lt (by omega) hlt]
      simp only [obind_s, beq_self_eq_true, Bool.and_true, Bool.not_true, oite_f]
      rw [i64_succ]; exact ih (k + 1) (by omega) (by omega)
    · rw [dec_f (fun q => hlt ((i64_lt (by omega) hl).1 q)), oite_f]
theorem same_list (n : Nat) (l : List Pair) (hl : l.length < 2 ^ 63) (hn : l.length < n) : F26 n (l, l) = some (true, ()) := by
  unfold F26
  simp only [decide_true, Bool.not_true, oite_f]
  exact same_loop l hl n 0 (by omega) (by omega)
theorem same_self (n : Nat) (x : ItT) (hl : x.2.2.2.2.2.1.length < 2 ^ 63) (hn : x.2.2.2.2.2.1.length < n) : F12 n (x, x) = some (true, ()) := by
  obtain ⟨g, o, seq, time, rule, labels, state, prio, v, own, go, ga, gb⟩ := x
  dsimp only at hl hn
  cases g with
  | true =>
    unfold F12
    simp
    rfl
  | false =>
    have := same_list n labels hl hn
    unfold F12
    simp [this, oite_t, oite_f, obind_s]

/-! ### What stays true -/
theorem pig : ∀ (w : Nat) (l : List Nat), l.Nodup → (∀ x ∈ l, x < w) → l.length ≤ w
  | 0, [], _, _ => Nat.le_refl _
  | 0, x :: _, _, h => absurd (h x (by simp)) (by omega)
  | w + 1, l, hn, h => by
    have ih := pig w (l.erase w) (hn.erase w) fun x hx => by
      have h1 := (hn.mem_erase_iff).1 hx
      have := h x h1.2
      omega
    have := List.length_erase (a := w) (l := l)
    rw [this] at ih
    split at ih <;> omega
structure Fine (W : Nat) (want : UInt64) (m : MapI) : Prop where
  nd : (m.map fun p => p.1.toNat).Nodup
  rng : ∀ p ∈ m, want.toNat ≤ p.1.toNat ∧ p.1.toNat < want.toNat + W
  lab : ∀ p ∈ m, p.2.2.2.2.2.2.1.length ≤ 12
theorem Fine.len {W : Nat} {want : UInt64} {m : MapI} (h : Fine W want m) : m.length ≤ W := by
  have := pig W ((m.map fun p => p.1.toNat).map fun k => k - want.toNat) ?_ ?_
  · simpa using this
  · have : ∀ l : List Nat, (∀ x ∈ l, want.toNat ≤ x) → l.Nodup → (l.map fun k => k - want.toNat).Nodup := by
      intro l
      induction l with
      | nil => intro _ _; simp
      | cons a r ih =>
        intro h1 h2
        rw [List.nodup_cons] at h2
        rw [List.map_cons, List.nodup_cons]
        refine ⟨fun hm => ?_, ih (fun x hx => h1 x (by simp [hx])) h2.2⟩
        obtain ⟨x, hx, e⟩ := List.mem_map.1 hm
        have e : x - want.toNat = a - want.toNat := e
        have a1 := h1 a (by simp)
        have a2 := h1 x (by simp [hx])
        exact h2.1 (by rw [show a = x by omega]; exact hx)
    refine this _ (fun x hx => ?_) h.nd
    obtain ⟨p, hp, rfl⟩ := List.mem_map.1 hx
    exact (h.rng p hp).1
  · intro x hx
    simp only [List.map_map, List.mem_map, Function.comp] at hx
    obtain ⟨p, hp, rfl⟩ := hx
    have := h.rng p hp
    omega
theorem mget_none {k : UInt64} : ∀ {m : MapI}, mget KU VI k m = none → ∀ p ∈ m, p.1 ≠ k
  | [], _, p, hp => by cases hp
  | q :: r, h, p, hp => by
    unfold mget at h
    cases he : VT.eqb KU k q.1 with
    | true => rw [he] at h; cases h
    | false =>
      rw [he] at h
      rcases List.mem_cons.1 hp with rfl | hp
      · intro e
        rw [eqb_dec, e] at he
        simp at he
      · exact mget_none h p hp
theorem mput_none {k : UInt64} {x : ItT} {m : MapI} (h : mget KU VI k m = none) : mput KU VI k x m = m ++ [(k, x)] := by
  have : Go.Sx.mix KU VI k m = none := by
    cases hm : Go.Sx.mix KU VI k m with
    | none => rfl
    | some j => obtain ⟨p, _, _, h3, _⟩ := mix_some hm; rw [h3] at h; cases h
  rw [(mix_none this).2.1]
theorem Fine.put {W : Nat} {want : UInt64} {m : MapI} (h : Fine W want m) {k : UInt64} {x : ItT} (hg : mget KU VI k m = none) (h1 : want.toNat ≤ k.toNat) (h2 : k.toNat < want.toNat + W) (h3 : x.2.2.2.2.2.1.length ≤ 12) :
    Fine W want (mput KU VI k x m) := by
  rw [mput_none hg]
  refine ⟨?_, ?_, ?_⟩
  · rw [List.map_append]
    refine List.nodup_append.2 ⟨h.nd, by simp, ?_⟩
    intro a ha b hb e
    obtain ⟨p, hp, rfl⟩ := List.mem_map.1 ha
    simp at hb
    exact mget_none hg p hp (UInt64.toNat_inj.1 (by omega))
  · intro p hp
    rcases List.mem_append.1 hp with hp | hp
    · exact h.rng p hp
    · simp at hp; subst hp; exact ⟨h1, h2⟩
  · intro p hp
    rcases List.mem_append.1 hp with hp | hp
    · exact h.lab p hp
    · simp at hp; subst hp; exact h3
theorem mdel_sub (k : UInt64) : ∀ (m : MapI), (mdel KU VI k m).Sublist m
  | [] => by simp [mdel]
  | q :: r => by
    unfold mdel
    cases he : VT.eqb KU k q.1 with
    | true => exact List.sublist_cons_self q r
    | false => exact (mdel_sub k r).cons_cons q
theorem mdel_ne (k : UInt64) : ∀ (m : MapI), (m.map fun p => p.1.toNat).Nodup → ∀ p ∈ mdel KU VI k m, p.1 ≠ k
  | [], _, p, hp => by cases hp
  | q :: r, hn, p, hp => by
    rw [List.map_cons, List.nodup_cons] at hn
    unfold mdel at hp
    cases he : VT.eqb KU k q.1 with
    | true =>
      rw [he] at hp
      intro e
      refine hn.1 (List.mem_map.2 ⟨p, hp, ?_⟩)
      rw [e, eqb_u64 he]
    | false =>
      rw [he] at hp
      rcases List.mem_cons.1 hp with rfl | hp
      · intro e
        rw [eqb_dec, e] at he
        simp at he
      · exact mdel_ne k r hn.2 p hp
theorem Fine.next {W : Nat} {want : UInt64} {m : MapI} (h : Fine W want m) (hw : want.toNat < 2 ^ 60) : Fine W (want + 1) (mdel KU VI want m) := by
  have hs := mdel_sub want m
  refine ⟨(hs.map _).nodup h.nd, fun p hp => ?_, fun p hp => h.lab p (hs.subset hp)⟩
  have h1 := h.rng p (hs.subset hp)
  have h2 := mdel_ne want m h.nd p hp
  have h3 : p.1.toNat ≠ want.toNat := fun e => h2 (UInt64.toNat_inj.1 e)
  rw [u64_succ hw]
  omega
/-- What both give. -/
theorem take_both (n : Nat) (hn : 2000 < n) (w : Int64) (hw : 1 ≤ w.toInt) (hw2 : w.toInt ≤ 64) (want : UInt64) (hwant : want.toNat ≤ 1000) (m : MapI) (old : UInt64) (h : Fine w.toInt.toNat want m) (seq : UInt64) (x : ItT) (hf : FitI x n) (hl : x.2.2.2.2.2.1.length ≤ 12) :
    ∃ c m' old', F10 n (some (w, want, m, old), seq, x) = some (c, some (w, want, m', old')) ∧ F15 n (some (w, want, old, m), seq, x) = some (c, some (w, want, old', m')) ∧ Fine w.toInt.toNat want m' := by
  have hlen := h.len
  rw [take_eq n (by omega) w want m old seq x n hf (by omega), mtake_eq n (by omega) w want old m (by omega) (by omega) seq x hf]
  by_cases h1 : seq < want ∨ (mget KU VI seq m).isSome = true
  · rw [if_pos h1, if_pos h1]; exact ⟨_, m, _, rfl, rfl, h⟩
  · rw [if_neg h1, if_neg h1]
    have hs : want.toNat ≤ seq.toNat := by
      rcases Nat.lt_or_ge seq.toNat want.toNat with q | q
      · exact absurd (.inl (UInt64.lt_iff_toNat_lt.2 q)) h1
      · exact q
    have hg : mget KU VI seq m = none := by
      cases hm : mget KU VI seq m with
      | none => rfl
      | some y => exact absurd (.inr (by rw [hm]; rfl)) h1
    have hwu : (UInt64.ofInt w.toInt).toNat = w.toInt.toNat := by
      obtain ⟨c, hc⟩ : ∃ c : Nat, w.toInt = c := ⟨w.toInt.toNat, by omega⟩
      rw [hc, u64_ofInt, UInt64.toNat_ofNat', Int.toNat_natCast]
      omega
    have c1 : (UInt64.ofInt w.toInt ≤ seq - want) ↔ want.toNat + w.toInt.toNat ≤ seq.toNat := by
      rw [UInt64.le_iff_toNat_le, hwu, UInt64.toNat_sub_of_le _ _ (UInt64.le_iff_toNat_le.2 hs)]
      omega
    have c2 : (want + UInt64.ofInt w.toInt ≤ seq) ↔ want.toNat + w.toInt.toNat ≤ seq.toNat := by
      rw [UInt64.le_iff_toNat_le, UInt64.toNat_add, hwu, Nat.mod_eq_of_lt (by omega)]
    by_cases h2 : want.toNat + w.toInt.toNat ≤ seq.toNat
    · rw [if_pos (c1.2 h2), if_pos (c2.2 h2)]; exact ⟨_, m, _, rfl, rfl, h⟩
    · rw [if_neg (fun q => h2 (c1.1 q)), if_neg (fun q => h2 (c2.1 q))]
      by_cases h3 : itCheck x = 0
      · rw [if_pos h3, if_pos h3]; exact ⟨_, _, _, rfl, rfl, h.put hg hs (by omega) hl⟩
      · rw [if_neg h3, if_neg h3]; exact ⟨_, m, _, rfl, rfl, h⟩
theorem next_both (n : Nat) (hn : 2000 < n) (w : Int64) (hw2 : w.toInt ≤ 64) (want : UInt64) (hwant : want.toNat ≤ 1000) (m : MapI) (old : UInt64) (h : Fine w.toInt.toNat want m) :
    ∃ c want' m', F13 n (some (w, want, m, old)) = some (c, some (w, want', m', old)) ∧ F14 n (some (w, want, old, m)) = some (c, some (w, want', old, m')) ∧ Fine w.toInt.toNat want' m' ∧ want'.toNat ≤ want.toNat + 1 := by
  have hlen := h.len
  rw [next_eq, mnext_eq n w want old m (by omega) (by omega)]
  by_cases h1 : (mget KU VI want m).isSome = true
  · rw [if_pos h1, if_pos h1]
    exact ⟨_, _, _, rfl, rfl, h.next (by omega), by rw [u64_succ (by omega)]; omega⟩
  · rw [if_neg h1, if_neg h1]
    exact ⟨_, _, _, rfl, rfl, h, by omega⟩
end Go.Proofs.Ytllfmmonieelpaa
