/- The law GroupTells in plain Lean: the second part, and the whole. -/
import Derived.Test.YtcfckkmiaeegpaaTells
open Go Go.Sx
namespace Go.Proofs.Ytcfckkmiaeegpaa
variable {w b rp : UInt64} {o : UInt8} {r : List UInt8} {l gl : List Pair} {gt lt : List UInt8}
theorem q_no (n m : Nat) (e : Int64) (last now : UInt64) (told over t t1 : Int64) (g g' : Option Gs) (p : UInt64) (v : UInt8) (u : Int64) (ht : t1 < t)
    (h : F13 n (g, now + 1, [], [(o, r, l, 0, p, v, u)]) = some ([], g')) (hn : 0 < n) :
    F4_R131069 n (m + 1) e last now told over t t1 w b rp g o r l 0 p v u = F4_R131069 n m e last (now + 1) told over t (t1 + 1) w b rp g' o r l 0 p v u := by
  obtain ⟨q, rfl⟩ : ∃ q, n = q + 1 := ⟨n - 1, by omega⟩
  rw [F4_R131069_s]
  unfold F4_L131069
  rw [dec_t ht, oite_t, h]
  simp only [obind_s]
  rw [F4_R8388443_s]
  unfold F4_L8388443
  rw [show decide ((0 : Int64) < Int64.ofInt ↑([] : List NotT).length) = false from rfl, oite_f]
theorem q_one (n m : Nat) (e : Int64) (last now : UInt64) (told over t t1 : Int64) (g g' : Option Gs) (p : UInt64) (v : UInt8) (u : Int64) (ht : t1 < t)
    (h : F13 n (g, now + 1, [], [(o, r, l, 0, p, v, u)]) = some ([(now + 1, [111, 112, 115], gl, [(o, r, l, 0, p, v, u)])], g')) (hn : 1 < n) (hl : ¬ rp + 2 * b < now + 1 - last) :
    F4_R131069 n (m + 1) e last now told over t t1 w b rp g o r l 0 p v u = F4_R131069 n m e last (now + 1) told (over + 1) t (t1 + 1) w b rp g' o r l 0 p v u := by
  obtain ⟨q, rfl⟩ : ∃ q, n = q + 2 := ⟨n - 2, by omega⟩
  rw [F4_R131069_s]
  unfold F4_L131069
  rw [dec_t ht, oite_t, h]
  simp only [obind_s]
  rw [F4_R8388443_s]
  unfold F4_L8388443
  rw [lt01, oite_t, at0]
  simp only [obind_s]
  rw [one1, oite_f, at0]
  simp only [obind_s]
  rw [show (!decide True) = false from rfl, oite_f, dec_f hl, oite_f, F4_R8388443_s]
  unfold F4_L8388443
  rw [lt11, oite_f]
theorem loop1 (k : Nat) (E : Env (k + 20 + 10) (nodeT w b rp) o r l gl gt lt) (hs : F23 (k + 20 + 10) (l, l) = some (true, ())) (hw : w.toNat < 6) (hb : 1 ≤ b.toNat ∧ b.toNat ≤ 6) (hr : b.toNat ≤ rp.toNat ∧ rp.toNat ≤ 30)
    (idle : UInt8) (e : Int64) (p : UInt64) (v : UInt8) (u : Int64) (m : Nat) : ∀ (j a : Nat) (now last : UInt64) (told : Nat) (g : Option Gs), Ph (nodeT w b rp) gt gl (o, r, lt) (o, r, l, 2, p, v, u) w b rp now last told g → now.toNat + j < 900 → a + j < 2 ^ 62 →
    ∃ now' last' told' g', now'.toNat = now.toNat + j ∧ Ph (nodeT w b rp) gt gl (o, r, lt) (o, r, l, 2, p, v, u) w b rp now' last' told' g' ∧
      F4_R8189 (k + 20 + 10) (j + m) idle e last now (I64 told) (I64 (a + j)) (I64 a) w b rp g o r l 2 p v u = F4_R8189 (k + 20 + 10) m idle e last' now' (I64 told') (I64 (a + j)) (I64 (a + j)) w b rp g' o r l 2 p v u
  | 0, a, now, last, told, g, hP, _, _ => ⟨now, last, told, g, rfl, hP, by rw [Nat.zero_add]; rfl⟩
  | j + 1, a, now, last, told, g, hP, hn, ha => by
    obtain ⟨last', told', g', hP', e1⟩ := phase1 k E hs hw hb hr idle e p v u now last told g hP (by omega) (j + m) (I64 (a + (j + 1))) (I64 a) ((i64_lt (by omega) (by omega)).2 (by omega))
    have hn1 := toNat_succ now (by omega)
    obtain ⟨now2, last2, told2, g2, hn2, hP2, e2⟩ := loop1 k E hs hw hb hr idle e p v u m j (a + 1) (now + 1) last' told' g' hP' (by omega) (by omega)
    refine ⟨now2, last2, told2, g2, by omega, hP2, ?_⟩
    rw [show j + 1 + m = j + m + 1 by omega, e1, i64_succ]
    rw [show a + 1 + j = a + (j + 1) by omega] at e2
    exact e2
/-- the second part: told of, or over -/
inductive Qh (nd : Node) (gt : List UInt8) (gl : List Pair) (i : Id) (X : Alert) (due last now : UInt64) : Int64 → Option Gs → Prop
  | d (sent : UInt64) : now.toNat < due.toNat → Qh nd gt gl i X due last now 0 (some (some [nd], [((0, gt), (gl, due, true, last, [(i, X)]))], sent))
  | g (sent : UInt64) : Qh nd gt gl i X due last now 1 (some (some [nd], [], sent))
theorem phase2 (k : Nat) (E : Env (k + 20 + 10) (nodeT w b rp) o r l gl gt lt) (hb : 1 ≤ b.toNat ∧ b.toNat ≤ 6) (hr : b.toNat ≤ rp.toNat ∧ rp.toNat ≤ 30)
    (e : Int64) (p : UInt64) (v : UInt8) (u : Int64) (due last : UInt64) (hle : last.toNat ≤ due.toNat) (hdr : due.toNat < last.toNat + rp.toNat + b.toNat) (now : UInt64) (told over : Int64) (g : Option Gs) (hP : Qh (nodeT w b rp) gt gl (o, r, lt) (o, r, l, 2, p, v, u) due last now over g) (hnow : now.toNat < 950) (m : Nat) (t t1 : Int64) (ht : t1 < t) :
    ∃ over' g', Qh (nodeT w b rp) gt gl (o, r, lt) (o, r, l, 2, p, v, u) due last (now + 1) over' g' ∧
      F4_R131069 (k + 20 + 10) (m + 1) e last now told over t t1 w b rp g o r l 0 p v u = F4_R131069 (k + 20 + 10) m e last (now + 1) told over' t (t1 + 1) w b rp g' o r l 0 p v u := by
  have hn1 := toNat_succ now (by omega)
  have hfar := not_far (now + 1) (by omega)
  cases hP with
  | d sent hlt =>
    by_cases hw1 : (now + 1).toNat < due.toNat
    · exact ⟨_, _, Qh.d sent hw1, q_no (k + 20 + 10) m e last now told 0 t t1 _ _ p v u ht (i_wait (k + 20) E (now + 1) sent hfar [] p v u _ (UInt64.lt_iff_toNat_lt.2 hw1) (mem0 (k + 20) _)) (by omega)⟩
    · have hnl : ¬ now + 1 < due := fun q => hw1 (UInt64.lt_iff_toNat_lt.1 q)
      have hsub : (now + 1 - last).toNat = now.toNat + 1 - last.toNat := by
        rw [UInt64.toNat_sub_of_le _ _ (UInt64.le_iff_toNat_le.2 (by omega)), hn1]
      have hrb : (rp + 2 * b).toNat = rp.toNat + 2 * b.toNat := by rw [UInt64.toNat_add, UInt64.toNat_mul, show (2 : UInt64).toNat = 2 from rfl]; omega
      exact ⟨_, _, Qh.g (sent + 1), q_one (k + 20 + 10) m e last now told 0 t t1 _ _ p v u ht (i_tell (k + 20) E (now + 1) sent due last true hfar [] 2 p v u p v u hnl (mem0 (k + 20) _)) (by omega) (fun q => by
        have := UInt64.lt_iff_toNat_lt.1 q
        omega)⟩
  | g sent => exact ⟨_, _, Qh.g sent, q_no (k + 20 + 10) m e last now told 1 t t1 _ _ p v u ht (i_none (k + 20) E (now + 1) sent hfar [] p v u _ (mem0 (k + 20) _)) (by omega)⟩
theorem loop2 (k : Nat) (E : Env (k + 20 + 10) (nodeT w b rp) o r l gl gt lt) (hb : 1 ≤ b.toNat ∧ b.toNat ≤ 6) (hr : b.toNat ≤ rp.toNat ∧ rp.toNat ≤ 30)
    (e : Int64) (p : UInt64) (v : UInt8) (u : Int64) (due last : UInt64) (hle : last.toNat ≤ due.toNat) (hdr : due.toNat < last.toNat + rp.toNat + b.toNat) (told : Int64) (m : Nat) : ∀ (j a : Nat) (now : UInt64) (over : Int64) (g : Option Gs), Qh (nodeT w b rp) gt gl (o, r, lt) (o, r, l, 2, p, v, u) due last now over g → now.toNat + j < 950 → a + j < 2 ^ 62 →
    ∃ now' over' g', now'.toNat = now.toNat + j ∧ Qh (nodeT w b rp) gt gl (o, r, lt) (o, r, l, 2, p, v, u) due last now' over' g' ∧
      F4_R131069 (k + 20 + 10) (j + m) e last now told over (I64 (a + j)) (I64 a) w b rp g o r l 0 p v u = F4_R131069 (k + 20 + 10) m e last now' told over' (I64 (a + j)) (I64 (a + j)) w b rp g' o r l 0 p v u
  | 0, a, now, over, g, hP, _, _ => ⟨now, over, g, rfl, hP, by rw [Nat.zero_add]; rfl⟩
  | j + 1, a, now, over, g, hP, hn, ha => by
    obtain ⟨over', g', hP', e1⟩ := phase2 k E hb hr e p v u due last hle hdr now told over g hP (by omega) (j + m) (I64 (a + (j + 1))) (I64 a) ((i64_lt (by omega) (by omega)).2 (by omega))
    have hn1 := toNat_succ now (by omega)
    obtain ⟨now2, over2, g2, hn2, hP2, e2⟩ := loop2 k E hb hr e p v u due last hle hdr told m j (a + 1) (now + 1) over' g' hP' (by omega) (by omega)
    refine ⟨now2, over2, g2, by omega, hP2, ?_⟩
    rw [show j + 1 + m = j + m + 1 by omega, e1, i64_succ]
    rw [show a + 1 + j = a + (j + 1) by omega] at e2
    exact e2
theorem end2 (n m : Nat) (last now : UInt64) (told : Int64) (t : Int64) (h0 : 0 < told) (sent : UInt64) (tr : Option (List Node)) (o r l s p v u) : F4_R131069 n (m + 1) 0 last now told 1 t t w b rp (some (tr, [], sent)) o r l s p v u = some (true, ()) := by
  rw [F4_R131069_s]
  unfold F4_L131069
  rw [dec_f (fun h => by have := Int64.lt_iff_toInt_lt.1 h; omega), oite_f, show F15 n (some (tr, [], sent)) = some ((0, sent), some (tr, [], sent)) from by kernel_rfl]
  simp only [obind_s]
  rw [show decide True = true from rfl, oite_t, dec_t h0, oite_t, oite_t]
theorem run_all (k : Nat) (hk : k = 600) (E : Env (k + 20 + 10) (nodeT w b rp) o r l gl gt lt) (hs : F23 (k + 20 + 10) (l, l) = some (true, ())) (hw : w.toNat < 6) (hb : 1 ≤ b.toNat ∧ b.toNat ≤ 6) (hr : b.toNat ≤ rp.toNat ∧ rp.toNat ≤ 30)
    (fires idle : UInt8) (p : UInt64) (v : UInt8) (u : Int64) :
    F4_R8189 (k + 20 + 10) (k + 20 + 10) idle 0 0 0 0 (60 + Int64.ofInt ↑(UInt8.toNat fires)) 0 w b rp (some (some [nodeT w b rp], [], 0)) o r l 2 p v u = some (true, ()) := by
  have hf := UInt8.toNat_lt fires
  have hi : (idle % 20).toNat < 20 := by rw [UInt8.toNat_mod]; exact Nat.mod_lt _ (by decide)
  obtain ⟨now, last, told, g, hn, hP, e1⟩ := loop1 k E hs hw hb hr idle 0 p v u (570 - fires.toNat) (60 + fires.toNat) 0 0 0 0 _ (Ph.a rfl rfl) (by
    have : (0 : UInt64).toNat = 0 := rfl
    omega) (by omega)
  rw [show (60 + fires.toNat) + (570 - fires.toNat) = k + 20 + 10 by omega] at e1
  rw [show (60 : Int64) + Int64.ofInt ↑(UInt8.toNat fires) = I64 (0 + (60 + fires.toNat)) from by rw [Nat.zero_add]; exact i64_add 60 fires.toNat]
  refine Eq.trans e1 ?_
  have hn' : now.toNat = 60 + fires.toNat := by
    have : (0 : UInt64).toNat = 0 := rfl
    omega
  cases hP with
  | a h0 _ => omega
  | b due sent hd hlt => omega
  | c due sent told h0 htn hle hlt hdb hdr =>
    obtain ⟨m', hm'⟩ : ∃ m', 570 - fires.toNat = m' + 1 := ⟨569 - fires.toNat, by omega⟩
    rw [hm', F4_R8189_s]
    unfold F4_L8189
    rw [dec_f (fun h => by have := Int64.lt_iff_toInt_lt.1 h; omega), oite_f]
    obtain ⟨now2, over2, g2, hn2, hP2, e2⟩ := loop2 k E hb hr 0 p v u due last (by omega) hdr (I64 told) (610 - (idle % 20).toNat) (20 + (idle % 20).toNat) 0 now 0 _ (Qh.d sent hlt) (by omega) (by omega)
    rw [show (20 + (idle % 20).toNat) + (610 - (idle % 20).toNat) = k + 20 + 10 by omega] at e2
    rw [show (20 : Int64) + Int64.ofInt ↑(UInt8.toNat (idle % 20)) = I64 (0 + (20 + (idle % 20).toNat)) from by rw [Nat.zero_add]; exact i64_add 20 (idle % 20).toNat]
    refine Eq.trans e2 ?_
    obtain ⟨m2, hm2⟩ : ∃ m2, 610 - (idle % 20).toNat = m2 + 1 := ⟨609 - (idle % 20).toNat, by omega⟩
    rw [hm2]
    cases hP2 with
    | d sent hlt2 => omega
    | g sent => exact end2 _ _ _ _ _ _ ((i64_lt (a := 0) (by omega) (by omega)).2 h0) _ _ _ _ _ _ _ _ _
theorem mod_lt' (x c : UInt8) (hc : 0 < c.toNat) : (x % c).toNat < c.toNat := by rw [UInt8.toNat_mod]; exact Nat.mod_lt _ hc
theorem u8_64 (x : UInt8) : (UInt64.ofInt ↑(UInt8.toNat x)).toNat = x.toNat := by
  have := u64_ofInt (x.toNat : Int)
  have := UInt8.toNat_lt x
  omega
theorem groupTells_true : ∀ x : sig4.In, PTys.fits sig4.ps x → ∃ n y, F4 n x = some y ∧ PTys.hd (.one (.c .bool)) .nil y.1 = true := by
  rintro ⟨x0, x1, x2, ⟨a0, a1, a2, a3, a4, a5⟩, fires, idle⟩ _
  obtain ⟨k, hk⟩ : ∃ k, k = 600 := ⟨600, rfl⟩
  refine ⟨k + 20 + 10, (true, ()), ?_, rfl⟩
  have m0 := mod_lt' x0 6 (by decide)
  have m1 := mod_lt' x1 6 (by decide)
  have m2 := mod_lt' x2 20 (by decide)
  rw [show (6 : UInt8).toNat = 6 from rfl] at m0 m1
  rw [show (20 : UInt8).toNat = 20 from rfl] at m2
  have hw : (UInt64.ofInt ↑(UInt8.toNat (x0 % 6))).toNat < 6 := by rw [u8_64]; exact m0
  have hb : (1 + UInt64.ofInt ↑(UInt8.toNat (x1 % 6))).toNat = 1 + (x1 % 6).toNat := by rw [UInt64.toNat_add, u8_64, show (1 : UInt64).toNat = 1 from rfl]; omega
  have hr : (1 + UInt64.ofInt ↑(UInt8.toNat (x1 % 6)) + UInt64.ofInt ↑(UInt8.toNat (x2 % 20))).toNat = 1 + (x1 % 6).toNat + (x2 % 20).toNat := by rw [UInt64.toNat_add, hb, u8_64]; omega
  obtain ⟨st, p, v, u, ha⟩ := alert_ok (k + 20) a0 a1 a2 a3 a4 a5
  unfold F4
  simp only
  rw [show F6 (k + 20 + 10) () = some (true, ()) from by
    have := awake (k - 10)
    rwa [show k - 10 + 40 = k + 20 + 10 by omega] at this]
  simp only [obind_s]
  rw [show (!true) = false from rfl, oite_f]
  generalize UInt64.ofInt ↑(UInt8.toNat (x0 % 6)) = w at hw ⊢
  generalize hB : 1 + UInt64.ofInt ↑(UInt8.toNat (x1 % 6)) = b at hb hr ⊢
  generalize hR : b + UInt64.ofInt ↑(UInt8.toNat (x2 % 20)) = rp at hr ⊢
  rw [show F11 (k + 20 + 10) [(([] : List (List UInt8 × UInt8 × List UInt8)), ([111, 112, 115] : List UInt8), ([[97]] : List (List UInt8)), w, b, rp, false, (-1 : Int64))] = some ((some [nodeT w b rp], 0), ()) from tree_ok k w b rp (by omega) (by omega) (by omega) (by omega)]
  simp only [obind_s, ojoinA_eq, oelim_s]
  rw [show F12 (k + 20 + 10) (some [nodeT w b rp]) = some ((some (some [nodeT w b rp], [], 0), 0), ()) from new_ok (k + 20) _]
  simp only [obind_s]
  unfold F4_J63
  rw [ha]
  simp only [obind_s]
  exact run_all k hk (envT k w b rp a0 a1 a2 a3 a4) (same_ok (k + 20) a2 a3 a4) hw (by omega) (by omega) fires idle p v u
end Go.Proofs.Ytcfckkmiaeegpaa
