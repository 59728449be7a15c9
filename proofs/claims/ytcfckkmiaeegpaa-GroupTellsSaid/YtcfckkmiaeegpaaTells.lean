/- The law GroupTells in plain Lean. -/
import Derived.Test.YtcfckkmiaeegpaaSmall
open Go Go.Sx
namespace Go.Proofs.Ytcfckkmiaeegpaa
variable {w b rp : UInt64} {o : UInt8} {r : List UInt8} {l gl : List Pair} {gt lt : List UInt8}
theorem alike (n : Nat) (hs : F23 n (l, l) = some (true, ())) (st p v u) : F14 n ((o, r, l, st, p, v, u), o, r, l, st, p, v, u) = some (true, ()) := by
  unfold F14 F10
  simp only
  rw [show (r == r) = true from by simp, hs]
  rfl
theorem one1 {α : Type} (a : α) : (!decide (Int64.ofInt ↑[a].length = 1)) = false := rfl
theorem r_no (n m : Nat) (idle : UInt8) (e : Int64) (last now : UInt64) (told t t1 : Int64) (g g' : Option Gs) (p : UInt64) (v : UInt8) (u : Int64) (ht : t1 < t)
    (h : F13 n (g, now + 1, [(o, r, l, 2, p, v, u)], [(o, r, l, 2, p, v, u)]) = some ([], g')) (hn : 0 < n) :
    F4_R8189 n (m + 1) idle e last now told t t1 w b rp g o r l 2 p v u = F4_R8189 n m idle e last (now + 1) told t (t1 + 1) w b rp g' o r l 2 p v u := by
  obtain ⟨q, rfl⟩ : ∃ q, n = q + 1 := ⟨n - 1, by omega⟩
  rw [F4_R8189_s]
  unfold F4_L8189
  rw [dec_t ht, oite_t, h]
  simp only [obind_s]
  rw [F4_R524123_s]
  unfold F4_L524123
  rw [show decide ((0 : Int64) < Int64.ofInt ↑([] : List NotT).length) = false from rfl, oite_f]
theorem r_one (n m : Nat) (idle : UInt8) (e : Int64) (last now : UInt64) (told : Nat) (t t1 : Int64) (g g' : Option Gs) (p : UInt64) (v : UInt8) (u : Int64) (ht : t1 < t)
    (h : F13 n (g, now + 1, [(o, r, l, 2, p, v, u)], [(o, r, l, 2, p, v, u)]) = some ([(now + 1, [111, 112, 115], gl, [(o, r, l, 2, p, v, u)])], g')) (hn : 1 < n) (hs : F23 n (l, l) = some (true, ()))
    (htold : told < 1000) (h0 : told = 0 → now + 1 = 1 + w) (h1 : 0 < told → ¬ now + 1 - last < rp ∧ ¬ rp + b ≤ now + 1 - last) :
    F4_R8189 n (m + 1) idle e last now (I64 told) t t1 w b rp g o r l 2 p v u = F4_R8189 n m idle e (now + 1) (now + 1) (I64 (told + 1)) t (t1 + 1) w b rp g' o r l 2 p v u := by
  obtain ⟨q, rfl⟩ : ∃ q, n = q + 2 := ⟨n - 2, by omega⟩
  rw [F4_R8189_s]
  unfold F4_L8189
  rw [dec_t ht, oite_t, h]
  simp only [obind_s]
  rw [F4_R524123_s]
  unfold F4_L524123
  rw [lt01, oite_t, at0]
  simp only [obind_s, ojoinA_eq]
  rw [show (!(([111, 112, 115] : List UInt8) == [111, 112, 115])) = false from rfl, oite_f, show (!decide True) = false from rfl, oite_f, one1, oite_f, at0]
  simp only [obind_s]
  rw [alike _ hs]
  simp only [obind_s]
  rw [show (!true) = false from rfl, oite_f]
  have fin : F4_J16771949 (F4_R524123 (q + 2) (F4_R8189 (q + 2) m) (q + 1)) idle e (now + 1) (I64 told) t t1 [(now + 1, [111, 112, 115], gl, [(o, r, l, 2, p, v, u)])] (Int64.ofInt ↑[(now + 1, ([111, 112, 115] : List UInt8), gl, [(o, r, l, (2 : UInt8), p, v, u)])].length) 0 w b rp g' o r l 2 p v u
      = F4_R8189 (q + 2) m idle e (now + 1) (now + 1) (I64 (told + 1)) t (t1 + 1) w b rp g' o r l 2 p v u := by
    unfold F4_J16771949
    rw [F4_R524123_s]
    unfold F4_L524123
    rw [lt11, oite_f, i64_succ]
  have z0 : decide (I64 told = 0) = decide (told = 0) := by rw [decide_eq_decide]; exact i64_eq (b := 0) (by omega) (by omega)
  have z1 : decide ((0 : Int64) < I64 told) = decide (0 < told) := by rw [decide_eq_decide]; exact i64_lt (a := 0) (by omega) (by omega)
  rw [z0, z1]
  by_cases hz : told = 0
  · subst hz
    rw [show decide (0 = 0) = true from rfl, oite_t, h0 rfl, show (!decide (1 + w = 1 + w)) = false from by simp, oite_f, show decide (0 < 0) = false from rfl, oite_f, ← h0 rfl]
    exact fin
  · have hp : 0 < told := by omega
    rw [dec_f hz, oite_f, dec_t hp, oite_t, dec_f (h1 hp).1, oite_f, dec_f (h1 hp).2, oite_f]
    exact fin
/-- where the first part is, at a time -/
inductive Ph (nd : Node) (gt : List UInt8) (gl : List Pair) (i : Id) (X : Alert) (w b rp now last : UInt64) : Nat → Option Gs → Prop
  | a : now.toNat = 0 → last = 0 → Ph nd gt gl i X w b rp now last 0 (some (some [nd], [], 0))
  | b (due sent : UInt64) : due.toNat = 1 + w.toNat → now.toNat < due.toNat → Ph nd gt gl i X w b rp now last 0 (some (some [nd], [((0, gt), (gl, due, false, 0, []))], sent))
  | c (due sent : UInt64) (told : Nat) : 0 < told → told ≤ now.toNat → last.toNat ≤ now.toNat → now.toNat < due.toNat → due.toNat ≤ now.toNat + b.toNat → due.toNat < last.toNat + rp.toNat + b.toNat →
      Ph nd gt gl i X w b rp now last told (some (some [nd], [((0, gt), (gl, due, true, last, [(i, X)]))], sent))
theorem toNat_succ (x : UInt64) (h : x.toNat < 1000) : (x + 1).toNat = x.toNat + 1 := by
  rw [UInt64.toNat_add, show (1 : UInt64).toNat = 1 from rfl]; omega
theorem not_far (x : UInt64) (h : x.toNat < 2000) : ¬ 1099511627776 < x := fun q => by
  have := UInt64.lt_iff_toNat_lt.1 q
  have c : (1099511627776 : UInt64).toNat = 1099511627776 := rfl
  omega
theorem phase1 (k : Nat) (E : Env (k + 20 + 10) (nodeT w b rp) o r l gl gt lt) (hs : F23 (k + 20 + 10) (l, l) = some (true, ())) (hw : w.toNat < 6) (hb : 1 ≤ b.toNat ∧ b.toNat ≤ 6) (hr : b.toNat ≤ rp.toNat ∧ rp.toNat ≤ 30)
    (idle : UInt8) (e : Int64) (p : UInt64) (v : UInt8) (u : Int64) (now last : UInt64) (told : Nat) (g : Option Gs) (hP : Ph (nodeT w b rp) gt gl (o, r, lt) (o, r, l, 2, p, v, u) w b rp now last told g) (hnow : now.toNat < 900) (m : Nat) (t t1 : Int64) (ht : t1 < t) :
    ∃ last' told' g', Ph (nodeT w b rp) gt gl (o, r, lt) (o, r, l, 2, p, v, u) w b rp (now + 1) last' told' g' ∧
      F4_R8189 (k + 20 + 10) (m + 1) idle e last now (I64 told) t t1 w b rp g o r l 2 p v u = F4_R8189 (k + 20 + 10) m idle e last' (now + 1) (I64 told') t (t1 + 1) w b rp g' o r l 2 p v u := by
  have hn1 := toNat_succ now (by omega)
  have hfar := not_far (now + 1) (by omega)
  cases hP with
  | a h0 hl =>
    have hadd : (now + 1 + w).toNat = 1 + w.toNat := by rw [UInt64.toNat_add]; omega
    by_cases hw0 : w.toNat = 0
    · have hlt : ¬ now + 1 < now + 1 + (nodeT w b rp).2.2.2.1 := fun q => by
        have := UInt64.lt_iff_toNat_lt.1 q
        change (now + 1).toNat < (now + 1 + w).toNat at this
        omega
      refine ⟨_, _, _, ?_, r_one (k + 20 + 10) m idle e last now 0 t t1 _ _ p v u ht (s_new_tell (k + 20) E (now + 1) 0 hfar 2 p v u (by decide) hlt) (by omega) hs (by omega) (fun _ => UInt64.toNat_inj.1 (by rw [hn1, UInt64.toNat_add, show (1 : UInt64).toNat = 1 from rfl]; omega)) (fun q => by omega)⟩
      have hd : (now + 1 + b).toNat = 1 + b.toNat := by rw [UInt64.toNat_add]; omega
      refine Ph.c _ _ _ (by omega) (by omega) (by omega) ?_ ?_ ?_
      · show (now + 1).toNat < (now + 1 + b).toNat; omega
      · show (now + 1 + b).toNat ≤ _; omega
      · show (now + 1 + b).toNat < _; omega
    · have hlt : now + 1 < now + 1 + (nodeT w b rp).2.2.2.1 := UInt64.lt_iff_toNat_lt.2 (by
        show (now + 1).toNat < (now + 1 + w).toNat
        omega)
      refine ⟨_, _, _, ?_, r_no (k + 20 + 10) m idle e last now (I64 0) t t1 _ _ p v u ht (s_new_wait (k + 20) E (now + 1) 0 hfar 2 p v u (by decide) hlt) (by omega)⟩
      refine Ph.b _ _ ?_ ?_
      · show (now + 1 + w).toNat = _; omega
      · show (now + 1).toNat < (now + 1 + w).toNat; omega
  | b due sent hd hlt =>
    by_cases hw1 : (now + 1).toNat < due.toNat
    · exact ⟨_, _, _, Ph.b due sent hd hw1, r_no (k + 20 + 10) m idle e last now (I64 0) t t1 _ _ p v u ht (s_fire_wait (k + 20) E (now + 1) sent hfar 2 p v u (by decide) _ (UInt64.lt_iff_toNat_lt.2 hw1)) (by omega)⟩
    · have hnl : ¬ now + 1 < due := fun q => hw1 (UInt64.lt_iff_toNat_lt.1 q)
      refine ⟨_, _, _, ?_, r_one (k + 20 + 10) m idle e last now 0 t t1 _ _ p v u ht (s_tell (k + 20) E (now + 1) sent due 0 hfar 2 p v u (by decide) hnl) (by omega) hs (by omega) (fun _ => UInt64.toNat_inj.1 (by rw [hn1, UInt64.toNat_add, show (1 : UInt64).toNat = 1 from rfl]; omega)) (fun q => by omega)⟩
      have hdd : (now + 1 + b).toNat = now.toNat + 1 + b.toNat := by rw [UInt64.toNat_add]; omega
      refine Ph.c _ _ _ (by omega) (by omega) (by omega) ?_ ?_ ?_
      · show (now + 1).toNat < (now + 1 + b).toNat; omega
      · show (now + 1 + b).toNat ≤ _; omega
      · show (now + 1 + b).toNat < _; omega
  | c due sent told h0 htn hle hlt hdb hdr =>
    by_cases hw1 : (now + 1).toNat < due.toNat
    · exact ⟨_, _, _, Ph.c due sent told h0 (by omega) (by omega) hw1 (by omega) hdr, r_no (k + 20 + 10) m idle e last now (I64 told) t t1 _ _ p v u ht (s_fire_wait (k + 20) E (now + 1) sent hfar 2 p v u (by decide) _ (UInt64.lt_iff_toNat_lt.2 hw1)) (by omega)⟩
    · have hnl : ¬ now + 1 < due := fun q => hw1 (UInt64.lt_iff_toNat_lt.1 q)
      have hdd : (now + 1 + b).toNat = now.toNat + 1 + b.toNat := by rw [UInt64.toNat_add]; omega
      have hsub : (now + 1 - last).toNat = now.toNat + 1 - last.toNat := by
        rw [UInt64.toNat_sub_of_le _ _ (UInt64.le_iff_toNat_le.2 (by omega)), hn1]
      have hrb : (rp + b).toNat = rp.toNat + b.toNat := by rw [UInt64.toNat_add]; omega
      by_cases hq : now + 1 - last < rp
      · refine ⟨_, _, _, ?_, r_no (k + 20 + 10) m idle e last now (I64 told) t t1 _ _ p v u ht (s_still (k + 20) E (now + 1) sent due last hfar 2 p v u (by decide) hnl hq) (by omega)⟩
        have hq' := UInt64.lt_iff_toNat_lt.1 hq
        refine Ph.c _ _ _ h0 (by omega) (by omega) ?_ ?_ ?_
        · show (now + 1).toNat < (now + 1 + b).toNat; omega
        · show (now + 1 + b).toNat ≤ _; omega
        · show (now + 1 + b).toNat < _; omega
      · refine ⟨_, _, _, ?_, r_one (k + 20 + 10) m idle e last now told t t1 _ _ p v u ht (s_again (k + 20) E (now + 1) sent due last hfar 2 p v u (by decide) hnl hq) (by omega) hs (by omega) (fun q => by omega) (fun _ => ⟨hq, fun q => by
          have := UInt64.le_iff_toNat_le.1 q
          omega⟩)⟩
        refine Ph.c _ _ _ (by omega) (by omega) (by omega) ?_ ?_ ?_
        · show (now + 1).toNat < (now + 1 + b).toNat; omega
        · show (now + 1 + b).toNat ≤ _; omega
        · show (now + 1 + b).toNat < _; omega
end Go.Proofs.Ytcfckkmiaeegpaa
