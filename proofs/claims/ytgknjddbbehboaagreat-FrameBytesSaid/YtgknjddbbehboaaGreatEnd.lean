/- The law FrameBytes: any bytes as a frame; bytes that are sealed. -/
import Derived.Test.YtgknjddbbehboaaGreatDec
open Go Go.Sx Go.Sx.Crc
namespace Go.Proofs.YtgknjddbbehboaaGreat
set_option maxRecDepth 100000
theorem node31 {o : UInt8} (h : decide ((32 : UInt8) ≤ o) = false) : decide ((31 : UInt8) < o) = false := by rw [lt31]; exact h
theorem pos0 {a : UInt64} (h : Pos a) : decide (a = 0) = false := by rw [zero64]; exact h
theorem sameitem_any (n : Nat) (x : ItT) (h : x.2.2.2.2.2.1.length < n) (h8 : x.2.2.2.2.2.1.length ≤ 8) : ∃ r, F27 n (x, zeroI) = some (r, ()) := by
  have two : ∀ (b : Bool) (p q : Option (Bool × Unit)), (∃ r, p = some (r, ())) → (∃ r, q = some (r, ())) → ∃ r, oite b p q = some (r, ()) := fun b p q hp hq => by
    cases b with
    | false => exact hq
    | true => exact hp
  have ff : ∃ r : Bool, (some (false, ()) : Option (Bool × Unit)) = some (r, ()) := ⟨false, rfl⟩
  have hl : ∃ r, F49 n (x.2.2.2.2.2.1, []) = some (r, ()) := by
    cases hx : x.2.2.2.2.2.1 with
    | nil => exact ⟨true, same_list n [] (by simp) (by rw [hx] at h; exact h)⟩
    | cons p l =>
      rw [hx] at h8
      have e : decide (I64 (List.length (p :: l)) = I64 (List.length ([] : List Pair))) = false := dec_f (fun h => by
        have := (i64_eq (a := (p :: l).length) (b := 0) (by omega) (by omega)).1 h
        simp at this)
      unfold F49
      dsimp only
      rw [e]
      exact ⟨false, rfl⟩
  obtain ⟨r, hr⟩ := hl
  unfold F27 zeroI
  dsimp only
  refine two _ _ _ ff (two _ _ _ ⟨_, rfl⟩ (two _ _ _ (two _ _ _ (two _ _ _ (two _ _ _ (two _ _ _ (two _ _ _ (two _ _ _ (two _ _ _ ?_ ff) ff) ff) ff) ff) ff) ff) ff))
  rw [hr]
  exact ⟨r, rfl⟩
/-- The document's check, of a frame that may be. -/
theorem doc_fine (n : Nat) (hn : 30 < n) {y : FrT} {b : List UInt8} (h : Fine y b) : F10 n y = some (0, ()) := by
  have hz := zero_same n (by omega)
  cases h with
  | data f t ep sq x hN he he1 hs hs1 hx =>
    obtain ⟨n1, n2, n3⟩ := hN
    obtain ⟨r, hr⟩ := sameitem_any n x (by have := hx.labs; omega) hx.labs
    have h0 := rit_eq n (by omega) x (hx.fit n hn)
    rw [hx.ok] at h0
    unfold F10 frI
    dsimp only
    unfold zeroI at hr
    have hr : F27 n ((x.1, x.2.1, x.2.2.1, x.2.2.2.1, x.2.2.2.2.1, x.2.2.2.2.2.1, x.2.2.2.2.2.2.1, x.2.2.2.2.2.2.2.1, x.2.2.2.2.2.2.2.2.1, x.2.2.2.2.2.2.2.2.2.1, x.2.2.2.2.2.2.2.2.2.2.1, x.2.2.2.2.2.2.2.2.2.2.2.1, x.2.2.2.2.2.2.2.2.2.2.2.2), false, 0, 0, 0, [], [], 0, 0, 0, 0, 0, 0, 0) = some (r, ()) := hr
    rw [node31 n1, node31 n2, n3, he, hs, pos0 he1, pos0 hs1, hr, h0]
    rfl
  | ack f t ep cu bi li hN he he1 hc hl hl1 =>
    obtain ⟨n1, n2, n3⟩ := hN
    unfold F10 frI
    unfold zeroI at hz ⊢
    dsimp only
    rw [node31 n1, node31 n2, n3, he, hc, hl, pos0 he1, pos0 hl1, hz]
    rfl
  | alive f t hN =>
    obtain ⟨n1, n2, n3⟩ := hN
    unfold F10 frI
    unfold zeroI at hz ⊢
    dsimp only
    rw [node31 n1, node31 n2, n3, hz]
    rfl
theorem zero_frame (n : Nat) (hn : 0 < n) : F11 n (zeroF, zeroF) = some (true, ()) := by
  have l1 : zeroI.2.2.2.2.2.1.length < 2 ^ 63 := by unfold zeroI; simp
  obtain ⟨r, h1, h2⟩ := same_fr n 0 0 0 0 0 0 0 0 0 0 zeroI zeroI 0 0 0 0 0 0 l1 l1 (by unfold zeroI; simp; exact hn)
  rw [h2.2 ⟨rfl, rfl, rfl, rfl, rfl, rfl, rfl, rfl, rfl⟩] at h1
  exact h1
theorem bytes_loop (n : Nat) (hn : 1200 ≤ n) (l : List (List UInt8)) (hl : l.length < 2 ^ 62) (h : ∀ i (hi : i < l.length), l[i].length ≤ 800 ∧ (0 < i → opens l[i] = true)) : ∀ (m k : Nat) (x : Option TabT) (s c : UInt64), k ≤ l.length → l.length - k < m → IsTab x s c →
    ∃ z, F3_R1021 n m (I64 l.length) (I64 k) x l = some (true, z) := by
  intro m
  induction m with
  | zero => intro k x s c _ h; omega
  | succ m ih =>
    intro k x s c hk hm hx
    rw [F3_R1021_s]
    unfold F3_L1021
    by_cases hlt : k < l.length
    · obtain ⟨k1, k2⟩ := idx_i64 (l := l) (k := k) hlt (by omega)
      have e1 : decide (I64 k < I64 l.length) = true := dec_t ((i64_lt (by omega) (by omega)).2 hlt)
      obtain ⟨hb, ho⟩ := h k hlt
      rw [e1, oite_t, k1, oite_t, k2, obind_s]
      generalize l[k] = b at hb ho
      obtain ⟨y, e, z, s', c', g1, g2, g3, g4, g5, g6⟩ := dec_any n hn b hb x s c hx
      rw [g1, obind_s]
      dsimp only
      rw [i64_succ]
      by_cases he : e = 0
      · obtain ⟨w, hw, hbw⟩ := g3 he
        have d1 := doc_fine n (by omega) hw
        have d2 := ref_fine n hn hw
        rw [← hbw] at d2
        obtain ⟨y0, y1, y2, y3, y4, y5, y6, y7, y8, y9, y10, y11, y12, y13, y14, y15, y16, y17, y18, y19, y20⟩ := y
        dsimp only
        have e2 : (!decide ((0 : Int64) = 0)) = false := rfl
        rw [dec_t he, oite_t, d1, obind_s, e2, oite_f, d2, obind_s]
        dsimp only
        have e3 : (!b == b) = false := by simp
        rw [e3, oite_f]
        exact ih (k + 1) z s' c' (by omega) (by omega) g2
      · have hy := g4 he
        subst hy
        dsimp only
        have e2 : (!true) = false := rfl
        rw [dec_f he, oite_f, zero_frame n (by omega), obind_s]
        dsimp only
        rw [e2, oite_f, ojoinA_eq]
        have hbl : b.length < 2 ^ 62 := by omega
        have fin : ∀ q, q = false → ∃ z', F3_J1045951 (F3_R1021 n m) (I64 k) e (I64 l.length) (I64 k) q z l = some (true, z') := by
          intro q hq
          subst hq
          unfold F3_J1045951
          rw [oite_f]
          by_cases h0 : 0 < k
          · have e4 : decide ((0 : Int64) < I64 k) = true := dec_t ((i64_lt (a := 0) (b := k) (by omega) (by omega)).2 h0)
            have e5 : decide (e = 10) = false := dec_f (g6 (ho h0))
            rw [e4, oite_t, e5, oite_f, i64_succ]
            exact ih (k + 1) z s' c' (by omega) (by omega) g2
          · have e4 : decide ((0 : Int64) < I64 k) = false := dec_f (fun h' => h0 ((i64_lt (a := 0) (b := k) (by omega) (by omega)).1 h'))
            rw [e4, oite_f, i64_succ]
            exact ih (k + 1) z s' c' (by omega) (by omega) g2
        by_cases h3 : e = 3
        · rw [dec_t h3, oite_t]
          exact fin _ (by simp)
        · have e6 : decide (I64 (List.length b) < 8) = false := dec_f (fun h' => h3 (g5 ((i64_lt (a := b.length) (b := 8) (by omega) (by omega)).1 h')))
          rw [dec_f h3, oite_f]
          exact fin _ (by rw [e6]; rfl)
    · have : k = l.length := by omega
      subst this
      have e1 : decide (I64 l.length < I64 l.length) = false := dec_f (fun h => by have := (i64_lt (by omega) (by omega)).1 h; omega)
      rw [e1, oite_f]
      exact ⟨_, rfl⟩
theorem bytes3 (n : Nat) (hn : 1200 ≤ n) (x : sig3.In) (hf : x.1.length < 2 ^ 63) : ∃ z, F3 n x = some (true, z) := by
  obtain ⟨b, ⟨s0, s1, s2, s3, s4, s5, s6, s7, s8, s9, s10, s11, s12, s13, s14, s15, s16, s17, s18⟩, kind, at_, c⟩ := x
  dsimp only at hf
  unfold F3
  dsimp only
  have e0 : (!true) = false := rfl
  rw [awake n hn, obind_s]
  dsimp only
  rw [e0, oite_f]
  by_cases hl : 300 < b.length
  · have e : decide ((300 : Int64) < I64 (List.length b)) = true := dec_t ((i64_lt (a := 300) (b := b.length) (by omega) hf).2 hl)
    rw [e, oite_t]
    exact ⟨_, rfl⟩
  · have e : decide ((300 : Int64) < I64 (List.length b)) = false := dec_f (fun h => hl ((i64_lt (a := 300) (b := b.length) (by omega) hf).1 h))
    obtain ⟨⟨y0, y1, y2, y3, y4, y5, y6, y7, y8, y9, y10, y11, y12, y13, y14, y15, y16, y17, y18, y19, y20⟩, w, h7, hw⟩ := frame_fine n (by omega) (s0, s1, s2, s3, s4, s5, s6, s7, s8, s9, s10, s11, s12, s13, s14, s15, s16, s17, s18)
    obtain ⟨z, hz, ht⟩ := f11 n
    have hwl := hw.len
    rw [e, oite_f, hz, obind_s, h7, obind_s]
    dsimp only
    rw [ref_fine n hn hw, obind_s]
    dsimp only
    have hxl : (w ++ l4 (b4 (Crc.sum w))).length = w.length + 4 := by simp [l4]
    generalize w ++ l4 (b4 (Crc.sum w)) = v at hxl
    have e4 : (4 : Int64) = I64 4 := by decide
    rw [hxl, e4, i64_sub (by omega), Nat.add_sub_cancel, i64_toInt (by omega), Int.toNat_natCast, Nat.sub_zero]
    have e5 : (decide ((0 : Int) ≤ ((w.length : Nat) : Int)) && Nat.ble w.length (w.length + 4) && true) = true := by rw [dec_t (by omega), ble_t (by omega)]; rfl
    have e6 : decide (I64 w.length = 0) = false := dec_f (fun h => by have := (i64_eq (a := w.length) (b := 0) (by omega) (by omega)).1 h; omega)
    have ha := at_.toNat_lt
    rw [e5, oite_t, e6, oite_f, i64_mod (by omega) (by omega) (by omega)]
    have hm : at_.toNat % w.length < w.length := Nat.mod_lt _ (by omega)
    generalize at_.toNat % w.length = r at hm
    rw [i64_toInt (by omega), Int.toNat_natCast, Nat.zero_add]
    have e7 : (decide ((0 : Int) ≤ ((r : Nat) : Int)) && Nat.blt r w.length) = true := by rw [dec_t (by omega), blt_iff, dec_t hm]; rfl
    have hv : v[r]? = some (v[r]'(by omega)) := List.getElem?_eq_getElem (by omega)
    have e8 : Nat.ble (List.length [(183 : UInt8), kind % 5] + List.length b) 4294967296 = true := ble_t (by simp; omega)
    have hin : (List.take w.length (List.drop 0 (List.set v r c))).length ≤ 700 := by simp; omega
    rw [e7, oite_t, hv, obind_s, f12 n z 0 0 ht b (by omega) (by omega), obind_s]
    dsimp only
    rw [e8, oite_t, f12 n _ _ _ (used_tab _ _) ([183, kind % 5] ++ b) (by simp; omega) (by simp; omega), obind_s]
    dsimp only
    rw [f12 n _ _ _ (used_tab _ _) _ (by omega) (by omega), obind_s]
    dsimp only
    generalize List.take w.length (List.drop 0 (List.set v r c)) = u at hin
    have hq : ∀ q : List UInt8, (q ++ l4 (b4 (Crc.sum q))).length = q.length + 4 := fun q => by simp [l4]
    refine bytes_loop n hn [b, b ++ l4 (b4 (Crc.sum b)), [183, kind % 5] ++ b ++ l4 (b4 (Crc.sum ([183, kind % 5] ++ b))), u ++ l4 (b4 (Crc.sum u))] (by simp) (fun i hi => ?_) n 0 _ _ _ (by simp) (by simp; omega) (used_tab _ _)
    have : i = 0 ∨ i = 1 ∨ i = 2 ∨ i = 3 := by simp only [List.length_cons, List.length_nil] at hi; omega
    rcases this with rfl | rfl | rfl | rfl
    · exact ⟨by show b.length ≤ 800; omega, fun h => absurd h (by decide)⟩
    · exact ⟨by show (b ++ l4 (b4 (Crc.sum b))).length ≤ 800; rw [hq]; omega, fun _ => (opens_seal b).1⟩
    · exact ⟨by show ([183, kind % 5] ++ b ++ l4 (b4 (Crc.sum ([183, kind % 5] ++ b)))).length ≤ 800; rw [hq]; simp; omega, fun _ => (opens_seal _).1⟩
    · exact ⟨by show (u ++ l4 (b4 (Crc.sum u))).length ≤ 800; rw [hq]; omega, fun _ => (opens_seal u).1⟩
theorem truth3 : ∀ x, PTys.fits sig3.ps x → ∃ n y, F3 n x = some y ∧ PTys.hd (.one (.c .bool)) .nil y.1 = true := by
  intro x hx
  obtain ⟨h1, _⟩ := hx
  simp only [PTy.fits, CT.fits] at h1
  obtain ⟨z, h⟩ := bytes3 1200 (by omega) x h1.1
  exact ⟨1200, _, h, rfl⟩
end Go.Proofs.YtgknjddbbehboaaGreat
