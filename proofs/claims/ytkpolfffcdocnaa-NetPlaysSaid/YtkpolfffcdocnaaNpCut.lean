/- The law NetPlays: links that are cut. -/
import Derived.Test.YtkpolfffcdocnaaNpLaw
open Go Go.Sx
namespace Go.Proofs.Ytkpolfffcdocnaa
theorem eqb2 (a b : UInt8 × UInt8) : VT.eqb K2 a b = decide (a = b) := by
  obtain ⟨a1, a2⟩ := a
  obtain ⟨b1, b2⟩ := b
  show (decide (a1 = b1) && (decide (a2 = b2) && true)) = _
  by_cases h1 : a1 = b1
  · by_cases h2 : a2 = b2
    · subst h1; subst h2; simp
    · have : ¬ (a1, a2) = (b1, b2) := fun e => h2 (by cases e; rfl)
      rw [dec_f this, dec_f h2, Bool.false_and, Bool.and_false]
  · have : ¬ (a1, a2) = (b1, b2) := fun e => h1 (by cases e; rfl)
    rw [dec_f this, dec_f h1, Bool.false_and]
theorem mget_put (o : UInt8 × UInt8) (v : Bool) (p : UInt8 × UInt8) : ∀ (m : CutT), mget K2 VB p (mput K2 VB o v m) = if p = o then some v else mget K2 VB p m
  | [] => by
    unfold mput mget
    simp only [eqb2]
    by_cases h : p = o
    · rw [dec_t h, if_pos h]
    · rw [dec_f h, if_neg h]; rfl
  | q :: r => by
    have ih := mget_put o v p r
    unfold mput
    simp only [eqb2]
    by_cases h : o = q.1
    · rw [dec_t h]
      unfold mget
      simp only [eqb2]
      by_cases hp : p = o
      · rw [if_pos hp, dec_t hp]
      · rw [if_neg hp, dec_f hp, dec_f (fun e => hp (by rw [e, h]))]
    · rw [dec_f h]
      unfold mget
      simp only [eqb2]
      by_cases hp : p = q.1
      · rw [dec_t hp, if_neg (fun e => h (by rw [← e, hp]))]
      · rw [dec_f hp]; exact ih
theorem keys_put (o : UInt8 × UInt8) (v : Bool) : ∀ (m : CutT), (m.map (·.1)).Nodup → ((mput K2 VB o v m).map (·.1)).Nodup ∧ ∀ p ∈ mput K2 VB o v m, p.1 = o ∨ p ∈ m
  | [], _ => by unfold mput; simp
  | q :: r, h => by
    rw [List.map_cons, List.nodup_cons] at h
    obtain ⟨h1, h2⟩ := keys_put o v r h.2
    unfold mput
    simp only [eqb2]
    by_cases hq : o = q.1
    · rw [dec_t hq]
      refine ⟨?_, fun p hp => ?_⟩
      · simp only [List.map_cons, List.nodup_cons]; rw [hq]; exact h
      · rcases List.mem_cons.1 hp with e | e
        · left; rw [e]
        · right; exact List.mem_cons_of_mem _ e
    · rw [dec_f hq]
      refine ⟨?_, fun p hp => ?_⟩
      · simp only [List.map_cons, List.nodup_cons]
        refine ⟨fun hm => ?_, h1⟩
        obtain ⟨p, hp, e⟩ := List.mem_map.1 hm
        rcases h2 p hp with q1 | q1
        · exact hq (by rw [← q1, e])
        · exact h.1 (List.mem_map.2 ⟨p, q1, e⟩)
      · rcases List.mem_cons.1 hp with e | e
        · right; rw [e]; simp
        · rcases h2 p e with q1 | q1
          · exact .inl q1
          · right; exact List.mem_cons_of_mem _ q1
theorem mget_none {o : UInt8 × UInt8} : ∀ {m : CutT}, o ∉ m.map (·.1) → mget K2 VB o m = none
  | [], _ => rfl
  | q :: r, h => by
    rw [List.map_cons, List.mem_cons, not_or] at h
    unfold mget
    simp only [eqb2]
    rw [dec_f h.1]; exact mget_none h.2
theorem mget_del (o p : UInt8 × UInt8) : ∀ (m : CutT), (m.map (·.1)).Nodup → mget K2 VB p (mdel K2 VB o m) = (if p = o then none else mget K2 VB p m) ∧ ((mdel K2 VB o m).map (·.1)).Nodup ∧ ∀ q ∈ mdel K2 VB o m, q ∈ m
  | [], _ => by
    unfold mdel mget
    exact ⟨by split <;> rfl, by simp, fun q h => h⟩
  | q :: r, h => by
    rw [List.map_cons, List.nodup_cons] at h
    obtain ⟨h1, h2, h3⟩ := mget_del o p r h.2
    unfold mdel
    simp only [eqb2]
    by_cases hq : o = q.1
    · rw [dec_t hq]
      refine ⟨?_, h.2, fun x hx => List.mem_cons_of_mem _ hx⟩
      by_cases hp : p = o
      · rw [if_pos hp, mget_none (by rw [hp, hq]; exact h.1)]
      · rw [if_neg hp]
        conv => rhs; unfold mget
        simp only [eqb2]
        rw [dec_f (fun e => hp (by rw [e, hq]))]
    · rw [dec_f hq]
      refine ⟨?_, ?_, fun x hx => ?_⟩
      · unfold mget
        simp only [eqb2]
        by_cases hp : p = q.1
        · rw [dec_t hp, if_neg (fun e => hq (by rw [← e, hp]))]
        · rw [dec_f hp]; exact h1
      · simp only [List.map_cons, List.nodup_cons]
        refine ⟨fun hm => ?_, h2⟩
        obtain ⟨x, hx, e⟩ := List.mem_map.1 hm
        exact h.1 (List.mem_map.2 ⟨x, h3 x hx, e⟩)
      · rcases List.mem_cons.1 hx with e | e
        · rw [e]; simp
        · exact List.mem_cons_of_mem _ (h3 x e)
/-! ### Links -/
def link (x y : UInt8) : UInt8 × UInt8 := (IK.minI IntKind.u8 x y, IK.maxI IntKind.u8 x y)
theorem link_eq (n : Nat) (x y : UInt8) : F22 n (x, y) = some (link x y, ()) := rfl
theorem link_or (x y : UInt8) : (x ≤ y ∧ link x y = (x, y)) ∨ (y ≤ x ∧ link x y = (y, x)) := by
  unfold link IK.minI IK.maxI
  by_cases h : y < x
  · right
    refine ⟨UInt8.le_of_lt h, ?_⟩
    have h1 : IK.ltb IntKind.u8 y x = true := dec_t h
    have h2 : IK.ltb IntKind.u8 x y = false := dec_f (fun q => UInt8.lt_asymm h q)
    simp [h1, h2]
  · left
    refine ⟨UInt8.not_lt.1 h, ?_⟩
    have h1 : IK.ltb IntKind.u8 y x = false := dec_f h
    by_cases h3 : x < y
    · have h2 : IK.ltb IntKind.u8 x y = true := dec_t h3
      simp [h1, h2]
    · have e : x = y := UInt8.le_antisymm (UInt8.not_lt.1 h) (UInt8.not_lt.1 h3)
      subst e
      simp [h1]
theorem link_comm (x y : UInt8) : link x y = link y x := by
  rcases link_or x y with ⟨h1, e1⟩ | ⟨h1, e1⟩ <;> rcases link_or y x with ⟨h2, e2⟩ | ⟨h2, e2⟩ <;> rw [e1, e2]
  · rw [UInt8.le_antisymm h1 h2]
  · rw [UInt8.le_antisymm h1 h2]
theorem link_inj {x y a b : UInt8} (h : link x y = link a b) : (x = a ∧ y = b) ∨ (x = b ∧ y = a) := by
  rcases link_or x y with ⟨_, e1⟩ | ⟨_, e1⟩ <;> rcases link_or a b with ⟨_, e2⟩ | ⟨_, e2⟩ <;> rw [e1, e2] at h <;> simp only [Prod.mk.injEq] at h
  · exact .inl h
  · exact .inr h
  · exact .inr ⟨h.2, h.1⟩
  · exact .inl ⟨h.2, h.1⟩
structure CutOK (cut : CutT) (ma : List Bool) : Prop where
  len : ma.length = 1024
  keys : (cut.map (·.1)).Nodup
  same : ∀ x y : UInt8, x.toNat < 32 → y.toNat < 32 → x ≠ y → Option.getD (mget K2 VB (link x y) cut) false = (ma[x.toNat * 32 + y.toNat]?).getD false
theorem cut_none : CutOK [] (List.replicate 1024 false) := ⟨List.length_replicate, List.nodup_nil, fun x y _ _ _ => by
  rw [List.getElem?_replicate]
  split <;> rfl⟩
theorem cut_turn {cut : CutT} {ma : List Bool} (h : CutOK cut ma) (x y : UInt8) (hx : x.toNat < 32) (hy : y.toNat < 32) (hne : x ≠ y) (b : Bool) :
    CutOK (if b = true then mput K2 VB (link x y) true cut else mdel K2 VB (link x y) cut) ((ma.set (x.toNat * 32 + y.toNat) b).set (y.toNat * 32 + x.toNat) b) := by
  have hl := h.len
  refine ⟨by simp [hl], ?_, fun u v hu hv huv => ?_⟩
  · cases b with
    | true => exact (keys_put _ _ _ h.keys).1
    | false => exact (mget_del (link x y) (link x y) cut h.keys).2.1
  · have e1 : Option.getD (mget K2 VB (link u v) (if b = true then mput K2 VB (link x y) true cut else mdel K2 VB (link x y) cut)) false = if link u v = link x y then b else Option.getD (mget K2 VB (link u v) cut) false := by
      cases b with
      | true => rw [if_pos rfl, mget_put]; split <;> rfl
      | false => rw [if_neg (by decide), (mget_del (link x y) (link u v) cut h.keys).1]; split <;> rfl
    rw [e1, List.getElem?_set, List.getElem?_set]
    by_cases hk : link u v = link x y
    · rw [if_pos hk]
      rcases link_inj hk with ⟨rfl, rfl⟩ | ⟨rfl, rfl⟩
      · by_cases hs : v.toNat * 32 + u.toNat = u.toNat * 32 + v.toNat
        · rw [if_pos hs, if_pos (by simp; omega)]; rfl
        · rw [if_neg hs, if_pos rfl, if_pos (by omega)]; rfl
      · rw [if_pos rfl, if_pos (by simp; omega)]; rfl
    · rw [if_neg hk, h.same u v hu hv huv]
      have n1 : ¬ y.toNat * 32 + x.toNat = u.toNat * 32 + v.toNat := fun e => by
        have a1 : y.toNat = u.toNat := by omega
        have a2 : x.toNat = v.toNat := by omega
        exact hk (by rw [← UInt8.toNat_inj.1 a1, ← UInt8.toNat_inj.1 a2]; exact link_comm _ _)
      have n2 : ¬ x.toNat * 32 + y.toNat = u.toNat * 32 + v.toNat := fun e => by
        have a1 : x.toNat = u.toNat := by omega
        have a2 : y.toNat = v.toNat := by omega
        exact hk (by rw [← UInt8.toNat_inj.1 a1, ← UInt8.toNat_inj.1 a2])
      rw [if_neg n1, if_neg n2]
end Go.Proofs.Ytkpolfffcdocnaa
