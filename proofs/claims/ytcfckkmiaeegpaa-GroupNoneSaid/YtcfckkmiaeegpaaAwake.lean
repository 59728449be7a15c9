/- group.Step at one alert and one node: in whole; and the chapter's example. -/
import Derived.Test.YtcfckkmiaeegpaaStep
open Go Go.Sx
namespace Go.Proofs.Ytcfckkmiaeegpaa
variable {nd : Node} {o : UInt8} {r : List UInt8} {l gl : List Pair} {gt lt : List UInt8}
theorem s_fire_wait (k : Nat) (E : Env (k + 10) nd o r l gl gt lt) (now sent : UInt64) (hnow : ¬ 1099511627776 < now) (st p v u) (hst : st ≠ 0) (s : St) (h : now < s.2.1) :
    F13 (k + 10) (some (some [nd], [((0, gt), s)], sent), now, [(o, r, l, st, p, v, u)], [(o, r, l, st, p, v, u)]) = some ([], some (some [nd], [((0, gt), s)], sent)) := by
  rw [step_old k E now sent hnow st p v u hst]
  exact half1 k E now sent st p v u _ _ s _ (.inr (kget _ _ _ _)) _ false _ _ _ (look0 k s gt sent now _ _ h)
theorem s_new_wait (k : Nat) (E : Env (k + 10) nd o r l gl gt lt) (now sent : UInt64) (hnow : ¬ 1099511627776 < now) (st p v u) (hst : st ≠ 0) (h : now < now + nd.2.2.2.1) :
    F13 (k + 10) (some (some [nd], [], sent), now, [(o, r, l, st, p, v, u)], [(o, r, l, st, p, v, u)]) = some ([], some (some [nd], [((0, gt), (gl, now + nd.2.2.2.1, false, 0, []))], sent)) := by
  rw [step_new k E now sent hnow st p v u hst]
  exact half1 k E now sent st p v u _ _ _ _ (.inr (kget _ _ _ _)) _ false _ _ _ (look0 k _ gt sent now _ _ h)
theorem s_tell (k : Nat) (E : Env (k + 10) nd o r l gl gt lt) (now sent due last : UInt64) (hnow : ¬ 1099511627776 < now) (st p v u) (hst : st ≠ 0) (h : ¬ now < due) :
    F13 (k + 10) (some (some [nd], [((0, gt), (gl, due, false, last, []))], sent), now, [(o, r, l, st, p, v, u)], [(o, r, l, st, p, v, u)])
      = some ([(now, nd.2.1, gl, [(o, r, l, st, p, v, u)])], some (some [nd], [((0, gt), (gl, now + nd.2.2.2.2.1, true, now, [((o, r, lt), (o, r, l, st, p, v, u))]))], sent + 1)) := by
  rw [step_old k E now sent hnow st p v u hst]
  exact half1 k E now sent st p v u _ _ _ _ (.inr (kget _ _ _ _)) _ true _ _ _ (look_tell k E _ _ _ _ hst _ _ _ _ _ h)
theorem i_wait (k : Nat) (E : Env (k + 10) nd o r l gl gt lt) (now sent : UInt64) (hnow : ¬ 1099511627776 < now) (heard : List Alert) (p v u) (s : St) (h : now < s.2.1)
    (hm : F29 (k + 10) (some (some [nd], [((0, gt), s)], sent), heard) = some ([], some (some [nd], [((0, gt), s)], sent))) :
    F13 (k + 10) (some (some [nd], [((0, gt), s)], sent), now, heard, [(o, r, l, 0, p, v, u)]) = some ([], some (some [nd], [((0, gt), s)], sent)) := by
  rw [step_gone k E now sent hnow heard 0 p v u _ _ hm]
  exact half1 k E now sent 0 p v u _ _ _ _ (.inl ⟨rfl, rfl⟩) _ false _ _ _ (look0 k s gt sent now _ _ h)
theorem i_tell (k : Nat) (E : Env (k + 10) nd o r l gl gt lt) (now sent due last : UInt64) (told : Bool) (hnow : ¬ 1099511627776 < now) (heard : List Alert) (st p v u p' v' u') (h : ¬ now < due)
    (hm : F29 (k + 10) (some (some [nd], [((0, gt), (gl, due, told, last, [((o, r, lt), (o, r, l, st, p', v', u'))]))], sent), heard) = some ([], some (some [nd], [((0, gt), (gl, due, told, last, [((o, r, lt), (o, r, l, st, p', v', u'))]))], sent))) :
    F13 (k + 10) (some (some [nd], [((0, gt), (gl, due, told, last, [((o, r, lt), (o, r, l, st, p', v', u'))]))], sent), now, heard, [(o, r, l, 0, p, v, u)])
      = some ([(now, nd.2.1, gl, [(o, r, l, 0, p, v, u)])], some (some [nd], [], sent + 1)) := by
  rw [step_gone k E now sent hnow heard 0 p v u _ _ hm]
  exact half1 k E now sent 0 p v u _ _ _ _ (.inl ⟨rfl, rfl⟩) _ true _ _ _ (look_idle k E _ _ _ _ _ _ _ _ _ _ _ _ h)
theorem i_none (k : Nat) (E : Env (k + 10) nd o r l gl gt lt) (now sent : UInt64) (hnow : ¬ 1099511627776 < now) (heard : List Alert) (p v u) (t : Option (List Node))
    (hm : F29 (k + 10) (some (t, [], sent), heard) = some ([], some (t, [], sent))) :
    F13 (k + 10) (some (t, [], sent), now, heard, [(o, r, l, 0, p, v, u)]) = some ([], some (t, [], sent)) := by
  rw [step_gone k E now sent hnow heard 0 p v u _ _ hm]
  exact half0 k E now sent 0 p v u _ _
abbrev hot : List UInt8 := [104, 111, 116]
abbrev ndA : Node := ([], [111, 112, 115], [], 2, 5, 50, false, -1)
theorem envA (k : Nat) : Env (k + 10) ndA 0 hot [] [] [] [] where
  find := fun st p v u => by kernel_rfl
  node := by kernel_rfl
  grp := fun st p v u => by kernel_rfl
  text := by kernel_rfl
  lab := by kernel_rfl
  clone := by kernel_rfl
abbrev aF : Alert := (0, hot, [], 2, 0, 0, 0)
abbrev aI : Alert := (0, hot, [], 0, 0, 0, 0)
noncomputable abbrev W (n m : Nat) (c : Int64) (now : UInt64) (g : Option Gs) (at_ : List UInt64) := F6_R2045 n m 0 c now g 0 hot 2 0 0 0 0 hot 0 0 0 0 at_
theorem w_no (n m : Nat) (c : Int64) (now : UInt64) (g g' : Option Gs) (at_ : List UInt64) (x : Alert) (h20 : now < 20) (hx : (4 ≤ now ∧ x = aI) ∨ (¬ 4 ≤ now ∧ x = aF)) (h : F13 (n + 10) (g, now, [x], [x]) = some ([], g')) :
    W (n + 10) (m + 1) c now g at_ = W (n + 10) m c (now + 1) g' at_ := by
  unfold W
  rw [F6_R2045_s]
  unfold F6_L2045
  rw [dec_t h20, oite_t]
  simp only [ojoinA_eq]
  have key : F6_J32725 (n + 10) (F6_R2045 (n + 10) m) 0 c now g 0 hot 2 0 0 0 0 hot 0 0 0 0 at_ [x] = F6_R2045 (n + 10) m 0 c (now + 1) g' 0 hot 2 0 0 0 0 hot 0 0 0 0 at_ := by
    unfold F6_J32725
    rw [h]
    simp only [obind_s]
    rw [F6_R130903_s]
    unfold F6_L130903
    rw [show decide ((0 : Int64) < Int64.ofInt ↑([] : List NotT).length) = false from rfl, oite_f]
  rcases hx with ⟨h4, rfl⟩ | ⟨h4, rfl⟩
  · rw [dec_t h4, oite_t]; exact key
  · rw [dec_f h4, oite_f]; exact key
theorem w_one (n m : Nat) (c : Int64) (now : UInt64) (g g' : Option Gs) (at_ : List UInt64) (x : Alert) (nt : NotT) (hat : at_.length < 10) (h20 : now < 20) (hx : (4 ≤ now ∧ x = aI) ∨ (¬ 4 ≤ now ∧ x = aF)) (h : F13 (n + 10) (g, now, [x], [x]) = some ([nt], g')) :
    W (n + 10) (m + 1) c now g at_ = W (n + 10) m (c + Int64.ofInt ↑nt.2.2.2.length) (now + 1) g' (at_ ++ [nt.1]) := by
  unfold W
  rw [F6_R2045_s]
  unfold F6_L2045
  rw [dec_t h20, oite_t]
  simp only [ojoinA_eq]
  have key : F6_J32725 (n + 10) (F6_R2045 (n + 10) m) 0 c now g 0 hot 2 0 0 0 0 hot 0 0 0 0 at_ [x] = F6_R2045 (n + 10) m 0 (c + Int64.ofInt ↑nt.2.2.2.length) (now + 1) g' 0 hot 2 0 0 0 0 hot 0 0 0 0 (at_ ++ [nt.1]) := by
    unfold F6_J32725
    rw [h]
    simp only [obind_s]
    rw [F6_R130903_s]
    unfold F6_L130903
    rw [lt01, oite_t, at0]
    simp only [obind_s]
    rw [ble_t (by simp; omega), oite_t, F6_R130903_s]
    unfold F6_L130903
    rw [lt11, oite_f]
  rcases hx with ⟨h4, rfl⟩ | ⟨h4, rfl⟩
  · rw [dec_t h4, oite_t]; exact key
  · rw [dec_f h4, oite_f]; exact key
theorem awake (k : Nat) : F6 (k + 40) () = some (true, ()) := by
  have e0 : F6 (k + 40) () = W (k + 30 + 10) (k + 40) 0 1 (some (some [ndA], [], 0)) [] := by kernel_rfl
  rw [e0]
  have E := envA (k + 30)
  have mi := fun g => mem_idle (k + 30) g 0 hot [] 0 0 0
  rw [w_no _ _ _ _ _ _ _ aF (by decide) (.inr ⟨by decide, rfl⟩) (s_new_wait (k + 30) E 1 0 (by decide) 2 0 0 0 (by decide) (by decide))]
  rw [w_no _ _ _ _ _ _ _ aF (by decide) (.inr ⟨by decide, rfl⟩) (s_fire_wait (k + 30) E (1 + 1) 0 (by decide) 2 0 0 0 (by decide) _ (by decide))]
  rw [w_one _ _ _ _ _ _ _ aF _ (by decide) (by decide) (.inr ⟨by decide, rfl⟩) (s_tell (k + 30) E (1 + 1 + 1) 0 _ _ (by decide) 2 0 0 0 (by decide) (by decide))]
  rw [w_no _ _ _ _ _ _ _ aI (by decide) (.inl ⟨by decide, rfl⟩) (i_wait (k + 30) E (1 + 1 + 1 + 1) _ (by decide) [aI] 0 0 0 _ (by decide) (mi _))]
  rw [w_no _ _ _ _ _ _ _ aI (by decide) (.inl ⟨by decide, rfl⟩) (i_wait (k + 30) E (1 + 1 + 1 + 1 + 1) _ (by decide) [aI] 0 0 0 _ (by decide) (mi _))]
  rw [w_no _ _ _ _ _ _ _ aI (by decide) (.inl ⟨by decide, rfl⟩) (i_wait (k + 30) E (1 + 1 + 1 + 1 + 1 + 1) _ (by decide) [aI] 0 0 0 _ (by decide) (mi _))]
  rw [w_no _ _ _ _ _ _ _ aI (by decide) (.inl ⟨by decide, rfl⟩) (i_wait (k + 30) E (1 + 1 + 1 + 1 + 1 + 1 + 1) _ (by decide) [aI] 0 0 0 _ (by decide) (mi _))]
  rw [w_one _ _ _ _ _ _ _ aI _ (by decide) (by decide) (.inl ⟨by decide, rfl⟩) (i_tell (k + 30) E (1 + 1 + 1 + 1 + 1 + 1 + 1 + 1) _ _ _ _ (by decide) [aI] 2 0 0 0 0 0 0 (by decide) (mi _))]
  have gone : ∀ (m : Nat) (c : Int64) (now s : UInt64) (at_ : List UInt64), 4 ≤ now → now < 20 → W (k + 30 + 10) (m + 1) c now (some (some [ndA], [], s)) at_ = W (k + 30 + 10) m c (now + 1) (some (some [ndA], [], s)) at_ := fun m c now s at_ h4 h20 =>
    w_no _ _ _ _ _ _ _ aI h20 (.inl ⟨h4, rfl⟩) (i_none (k + 30) E now s (fun h => by
      have a := UInt64.lt_iff_toNat_lt.1 h
      have b := UInt64.lt_iff_toNat_lt.1 h20
      have c1 : (1099511627776 : UInt64).toNat = 1099511627776 := rfl
      have c2 : (20 : UInt64).toNat = 20 := rfl
      omega) [aI] 0 0 0 _ (mi _))
  rw [gone _ _ _ _ _ (by decide) (by decide), gone _ _ _ _ _ (by decide) (by decide), gone _ _ _ _ _ (by decide) (by decide), gone _ _ _ _ _ (by decide) (by decide), gone _ _ _ _ _ (by decide) (by decide), gone _ _ _ _ _ (by decide) (by decide), gone _ _ _ _ _ (by decide) (by decide), gone _ _ _ _ _ (by decide) (by decide), gone _ _ _ _ _ (by decide) (by decide), gone _ _ _ _ _ (by decide) (by decide), gone _ _ _ _ _ (by decide) (by decide)]
  have fin : ∀ g, W (k + 30 + 10) (k + 21) 2 20 g [3, 8] = some (true, ()) := fun g => by kernel_rfl
  exact fin _
end Go.Proofs.Ytcfckkmiaeegpaa
