/- The laws of frames: turned bits, no table, what is the same. -/
import Derived.Test.YtgknjddbbehboaaLaw
open Go Go.Sx Go.Sx.Crc
namespace Go.Proofs.Ytgknjddbbehboaa
set_option maxRecDepth 100000
theorem enc_ok (n : Nat) (hn : 700 ≤ n) {y : FrT} {b : List UInt8} (h : Fine y b) (x : Option TabT) (s c : UInt64) (hx : IsTab x s c) :
    F11 n (x, y) = some ((b ++ l4 (b4 (Crc.sum b)), 0), used (s + 1) (cnt c b)) := by
  obtain ⟨⟨t0, t1, t2⟩, ta, e⟩ := hx.some
  exact enc_fine n hn h x s c hx t0 t1 t2 ta s c e
theorem awake (n : Nat) (hn : 700 ≤ n) : F6 n () = some (true, ()) := by
  obtain ⟨x, h1, h2⟩ := f11 n
  have h := enc_ok n hn (.alive 2 1 ⟨rfl, rfl, rfl⟩) x 0 0 h2
  unfold frI zeroI at h
  dsimp only at h
  unfold F6
  rw [h1, obind_s]
  dsimp only
  rw [h, obind_s]
  rfl
abbrev zeroF : FrT := (0, 0, 0, 0, 0, false, 0, 0, 0, [], [], 0, 0, 0, 0, 0, 0, 0, 0, 0, 0)
theorem dec_nil (n : Nat) (b : List UInt8) : F12 n (none, b) = some ((zeroF, 1), none) := rfl
theorem dec_short (n : Nat) (b : List UInt8) (h : b.length < 8) (x : Option TabT) (s c : UInt64) (hx : IsTab x s c) : F12 n (x, b) = some ((zeroF, 3), x) := by
  obtain ⟨⟨t0, t1, t2⟩, ta, rfl⟩ := hx.some
  unfold F12
  dsimp only
  have e : decide (I64 (List.length b) < 8) = true := dec_t ((i64_lt (a := b.length) (b := 8) (by omega) (by omega)).2 h)
  rw [oelim_s, e, oite_t]
theorem dec_sum (n : Nat) (b : List UInt8) (h : 8 ≤ b.length) (hb : b.length ≤ 100000) (hn : b.length + 300 ≤ n) (ho : opens b = false) (x : Option TabT) (s c : UInt64) (hx : IsTab x s c) : ∃ z, F12 n (x, b) = some ((zeroF, 10), z) := by
  obtain ⟨z, c', h1, _⟩ := f14 n x s c hx b hb hn
  obtain ⟨⟨t0, t1, t2⟩, ta, rfl⟩ := hx.some
  rw [ho] at h1
  unfold F12
  dsimp only
  have e : decide (I64 (List.length b) < 8) = false := dec_f (fun h' => by have := (i64_lt (a := b.length) (b := 8) (by omega) (by omega)).1 h'; omega)
  rw [oelim_s, e, oite_f, h1, obind_s]
  exact ⟨z, rfl⟩
theorem min7 {c : Nat} (h : ¬ 100 < c) : IK.minI IntKind.i64 (I64 c) 7 = I64 (min c 7) := by
  unfold IK.minI
  have e : IK.ltb .i64 (7 : Int64) (I64 c) = decide (7 < c) := by
    show decide ((7 : Int64) < I64 c) = _
    rw [decide_eq_decide]; exact i64_lt (a := 7) (b := c) (by omega) (by omega)
  rw [e]
  by_cases h7 : 7 < c
  · rw [dec_t h7, Nat.min_eq_right (by omega)]; rfl
  · rw [dec_f h7, Nat.min_eq_left (by omega)]
theorem none5 (n : Nat) (hn : 700 ≤ n) (x : sig5.In) (hf : x.1.length < 2 ^ 63) : F5 n x = some (true, ()) := by
  obtain ⟨b, s0, s1, s2, s3, s4, s5, s6, s7, s8, s9, s10, s11, s12, s13, s14, s15, s16, s17, s18⟩ := x
  dsimp only at hf
  unfold F5
  dsimp only
  rw [awake n hn, obind_s]
  have e0 : (!(true, ()).1) = false := rfl
  rw [e0, oite_f]
  by_cases hl : 100 < b.length
  · have e : decide ((100 : Int64) < I64 (List.length b)) = true := dec_t ((i64_lt (a := 100) (b := b.length) (by omega) hf).2 hl)
    rw [e, oite_t]
  · have e : decide ((100 : Int64) < I64 (List.length b)) = false := dec_f (fun h => hl ((i64_lt (a := 100) (b := b.length) (by omega) hf).1 h))
    obtain ⟨⟨y0, y1, y2, y3, y4, y5, y6, y7, y8, y9, y10, y11, y12, y13, y14, y15, y16, y17, y18, y19, y20⟩, bb, h7, _⟩ := frame_fine n (by omega) (s0, s1, s2, s3, s4, s5, s6, s7, s8, s9, s10, s11, s12, s13, s14, s15, s16, s17, s18)
    obtain ⟨z, hz, ht⟩ := f11 n
    rw [e, oite_f, h7, obind_s, encode_nil, obind_s, dec_nil, obind_s, hz, obind_s]
    dsimp only
    have em : IK.minI IntKind.i64 (I64 (List.length b)) 7 = I64 (min b.length 7) := min7 hl
    rw [em, i64_toInt (by omega)]
    have e1 : (decide ((0 : Int) ≤ ((min b.length 7 : Nat) : Int)) && Nat.ble (Int.toNat ((min b.length 7 : Nat) : Int)) (List.length b) && true) = true := by
      rw [dec_t (by omega), Int.toNat_natCast, ble_t (by omega)]; rfl
    rw [e1, oite_t, Int.toNat_natCast, dec_short n _ (by simp; omega) z 0 0 ht, obind_s]
    rfl
theorem truth5 : ∀ x, PTys.fits sig5.ps x → ∃ n y, F5 n x = some y ∧ PTys.hd (.one (.c .bool)) .nil y.1 = true := by
  intro x hx
  obtain ⟨h1, _⟩ := hx
  simp only [PTy.fits, CT.fits] at h1
  exact ⟨1000, _, none5 1000 (by omega) x h1.1, rfl⟩
/-- One bit turned: the bytes don't open. -/
theorem turned_shut (b : List UInt8) (i j : Nat) (hi : i < (b ++ l4 (b4 (Crc.sum b))).length) (d : UInt8) (hd : d.toNat = 2 ^ j) :
    opens ((b ++ l4 (b4 (Crc.sum b))).set i ((b ++ l4 (b4 (Crc.sum b)))[i] ^^^ d)) = false := by
  have hl : 4 ≤ (b ++ l4 (b4 (Crc.sum b))).length := by simp [l4]
  have hop := opens_reg (b ++ l4 (b4 (Crc.sum b))) hl
  rw [(opens_seal b).1] at hop
  have hop := of_decide_eq_true hop.symm
  rw [opens_reg _ (by rw [List.length_set]; exact hl), reg_set _ _ _ hi, hop]
  apply dec_f
  intro he
  have h1 : stpN 32 4294967295 ^^^ (stpN 32 4294967295 ^^^ stpN (8 * ((b ++ l4 (b4 (Crc.sum b))).length - i)) (u32c d)) = stpN 32 4294967295 ^^^ stpN 32 4294967295 := by rw [he]
  rw [← UInt32.xor_assoc, UInt32.xor_self, UInt32.zero_xor] at h1
  have h2 := stpN_ne _ _ h1
  have h3 := congrArg UInt32.toNat h2
  rw [byte32, hd] at h3
  have := Nat.two_pow_pos j
  have h0 : (0 : UInt32).toNat = 0 := rfl
  omega
theorem turned4 (n : Nat) (hn : 1000 ≤ n) (x : sig4.In) : F4 n x = some (true, ()) := by
  obtain ⟨⟨s0, s1, s2, s3, s4, s5, s6, s7, s8, s9, s10, s11, s12, s13, s14, s15, s16, s17, s18⟩, a⟩ := x
  unfold F4
  dsimp only
  have e0 : (!(true, ()).1) = false := rfl
  obtain ⟨⟨y0, y1, y2, y3, y4, y5, y6, y7, y8, y9, y10, y11, y12, y13, y14, y15, y16, y17, y18, y19, y20⟩, b, h7, hb⟩ := frame_fine n (by omega) (s0, s1, s2, s3, s4, s5, s6, s7, s8, s9, s10, s11, s12, s13, s14, s15, s16, s17, s18)
  obtain ⟨z, hz, ht⟩ := f11 n
  have hl := hb.len
  rw [awake n (by omega), obind_s, e0, oite_f, hz, obind_s, h7, obind_s]
  dsimp only
  rw [enc_ok n (by omega) hb z 0 0 ht, obind_s]
  dsimp only
  have hxl : (b ++ l4 (b4 (Crc.sum b))).length = b.length + 4 := by simp [l4]
  have hs := fun i j hi d hd => turned_shut b i j hi d hd
  generalize b ++ l4 (b4 (Crc.sum b)) = w at hxl hs
  rw [hxl, i64_mul8]
  have e0 : decide (I64 (8 * (b.length + 4)) = 0) = false := dec_f (fun h => by have := (i64_eq (a := 8 * (b.length + 4)) (b := 0) (by omega) (by omega)).1 h; omega)
  have ha := a.toNat_lt
  rw [e0, oite_f, i64_mod (by omega) (by omega) (by omega)]
  have hm : a.toNat % (8 * (b.length + 4)) < 8 * (b.length + 4) := Nat.mod_lt _ (by omega)
  generalize a.toNat % (8 * (b.length + 4)) = r at hm
  have e8 : (8 : Int64) = I64 8 := by decide
  rw [e8, i64_div (by omega) (by omega), i64_mod (by omega) (by omega) (by omega)]
  have hi : r / 8 < w.length := by omega
  obtain ⟨k1, k2⟩ := idx_i64 (l := w) (k := r / 8) hi (by omega)
  have k1' : (decide ((0 : Int) ≤ Int64.toInt (I64 (r / 8))) && Nat.blt (Int.toNat (Int64.toInt (I64 (r / 8)))) (b.length + 4)) = true := by rw [← hxl]; exact k1
  have hmod : r % 8 < 8 := Nat.mod_lt _ (by omega)
  have k3 : decide ((0 : Int) ≤ Int64.toInt (I64 (r % 8))) = true := by rw [i64_toInt (by omega)]; exact dec_t (by omega)
  rw [k1', oite_t, k2, obind_s, k3, oite_t, oite_t, obind_s]
  have hidx : Int.toNat (Int64.toInt (I64 (r / 8))) = r / 8 := by rw [i64_toInt (by omega), Int.toNat_natCast]
  rw [hidx, i64_toInt (k := r % 8) (by omega)]
  obtain ⟨z', h12⟩ := dec_sum n (w.set (r / 8) (w[r / 8] ^^^ IK.shl .u8 1 ((r % 8 : Nat) : Int))) (by rw [List.length_set]; omega) (by rw [List.length_set]; omega) (by rw [List.length_set]; omega) (hs (r / 8) (r % 8) hi _ (shl8 _ hmod)) _ _ _ (used_tab (0 + 1) (cnt 0 b))
  rw [h12, obind_s]
  rfl
theorem truth4 : ∀ x, PTys.fits sig4.ps x → ∃ n y, F4 n x = some y ∧ PTys.hd (.one (.c .bool)) .nil y.1 = true := fun x _ => ⟨1000, _, turned4 1000 (by omega) x, rfl⟩
theorem and_step (p q : Prop) [Decidable p] [Decidable q] : oite (decide p) (some (decide q, ())) (some (false, ())) = (some (decide (p ∧ q), ()) : Option (Bool × Unit)) := by
  by_cases h : p <;> simp [h, oite]
theorem same_fr (n : Nat) (k f t k' f' t' : UInt8) (ep sq ep' sq' : UInt64) (x x' : ItT) (cu bi li cu' bi' li' : UInt64) (hx : x.2.2.2.2.2.1.length < 2 ^ 63) (hx' : x'.2.2.2.2.2.1.length < 2 ^ 63) (hn : x.2.2.2.2.2.1.length < n) :
    ∃ r, F8 n (frI k f t ep sq x cu bi li, frI k' f' t' ep' sq' x' cu' bi' li') = some (r, ()) ∧ (r = true ↔ normI x = normI x' ∧ k = k' ∧ f = f' ∧ t = t' ∧ ep = ep' ∧ sq = sq' ∧ cu = cu' ∧ bi = bi' ∧ li = li') := by
  obtain ⟨r, h1, h2⟩ := same12 n x x' hx hx' hn
  unfold F8 frI
  dsimp only
  rw [h1, obind_s]
  cases r with
  | false => exact ⟨false, rfl, by simp; intro h; exact absurd (h2.2 h) (by simp)⟩
  | true =>
    have hh := h2.1 rfl
    refine ⟨decide (k = k' ∧ f = f' ∧ t = t' ∧ ep = ep' ∧ sq = sq' ∧ cu = cu' ∧ bi = bi' ∧ li = li'), ?_, ?_⟩
    · rw [oite_t, and_step, and_step, and_step, and_step, and_step, and_step, and_step]
    · rw [decide_eq_true_iff]
      exact ⟨fun h => ⟨hh, h⟩, fun h => h.2⟩
theorem Small.fit63 {x : ItT} (h : Small x) : Fit63 x := ⟨by have := h.rule; omega, by have := h.labs; omega, fun p hp => by have := h.each p hp; omega⟩
theorem same_fine (n : Nat) (hn : 20 < n) {y z : FrT} {b c : List UInt8} (hy : Fine y b) (hz : Fine z c) : ∃ r, F8 n (y, z) = some (r, ()) ∧ (r = true ↔ b = c) := by
  have l0 : zeroI.2.2.2.2.2.1.length < n := by unfold zeroI; simp; omega
  have l1 : zeroI.2.2.2.2.2.1.length < 2 ^ 63 := by unfold zeroI; simp
  cases hy with
  | data f t ep sq x hN he he1 hs hs1 hx =>
    have lx := hx.labs
    cases hz with
    | data f' t' ep' sq' x' hN' he' he1' hs' hs1' hx' =>
      have lx' := hx'.labs
      obtain ⟨r, h1, h2⟩ := same_fr n 1 f t 1 f' t' ep sq ep' sq' x x' 0 0 0 0 0 0 (by omega) (by omega) (by omega)
      refine ⟨r, h1, h2.trans ⟨fun ⟨h, _, hf, ht, hep, hsq, _⟩ => ?_, fun h => ?_⟩⟩
      · subst hf ht hep hsq
        rw [← itB_norm x, h, itB_norm x']
      · simp only [List.cons_append, List.nil_append, List.cons.injEq, true_and] at h
        obtain ⟨hf, ht, h⟩ := h
        obtain ⟨hep, h⟩ := enc_inj h
        obtain ⟨hsq, h⟩ := enc_inj h
        exact ⟨itB_inj hx.fit63 hx'.fit63 h, rfl, hf, ht, hep, hsq, rfl, rfl, rfl⟩
    | ack f' t' ep' cu' bi' li' =>
      obtain ⟨r, h1, h2⟩ := same_fr n 1 f t 2 f' t' ep sq ep' 0 x zeroI 0 0 0 cu' bi' li' (by omega) l1 (by omega)
      exact ⟨r, h1, h2.trans ⟨fun h => absurd h.2.1 (by decide), fun h => by simp at h⟩⟩
    | alive f' t' =>
      obtain ⟨r, h1, h2⟩ := same_fr n 1 f t 3 f' t' ep sq 0 0 x zeroI 0 0 0 0 0 0 (by omega) l1 (by omega)
      exact ⟨r, h1, h2.trans ⟨fun h => absurd h.2.1 (by decide), fun h => by simp at h⟩⟩
  | ack f t ep cu bi li =>
    cases hz with
    | data f' t' ep' sq' x' hN' he' he1' hs' hs1' hx' =>
      have lx' := hx'.labs
      obtain ⟨r, h1, h2⟩ := same_fr n 2 f t 1 f' t' ep 0 ep' sq' zeroI x' cu bi li 0 0 0 l1 (by omega) l0
      exact ⟨r, h1, h2.trans ⟨fun h => absurd h.2.1 (by decide), fun h => by simp at h⟩⟩
    | ack f' t' ep' cu' bi' li' =>
      obtain ⟨r, h1, h2⟩ := same_fr n 2 f t 2 f' t' ep 0 ep' 0 zeroI zeroI cu bi li cu' bi' li' l1 l1 l0
      refine ⟨r, h1, h2.trans ⟨fun ⟨_, _, hf, ht, hep, _, hc, hb, hl⟩ => ?_, fun h => ?_⟩⟩
      · subst hf ht hep hc hb hl; rfl
      · simp only [List.cons_append, List.nil_append, List.cons.injEq, true_and] at h
        obtain ⟨hf, ht, h⟩ := h
        obtain ⟨hep, h⟩ := enc_inj h
        obtain ⟨hc, h⟩ := enc_inj h
        obtain ⟨hb, h⟩ := enc_inj h
        have h' : enc li ++ [] = enc li' ++ [] := by rw [h]
        obtain ⟨hl, _⟩ := enc_inj h'
        exact ⟨rfl, rfl, hf, ht, hep, rfl, hc, hb, hl⟩
    | alive f' t' =>
      obtain ⟨r, h1, h2⟩ := same_fr n 2 f t 3 f' t' ep 0 0 0 zeroI zeroI cu bi li 0 0 0 l1 l1 l0
      exact ⟨r, h1, h2.trans ⟨fun h => absurd h.2.1 (by decide), fun h => by simp at h⟩⟩
  | alive f t =>
    cases hz with
    | data f' t' ep' sq' x' hN' he' he1' hs' hs1' hx' =>
      have lx' := hx'.labs
      obtain ⟨r, h1, h2⟩ := same_fr n 3 f t 1 f' t' 0 0 ep' sq' zeroI x' 0 0 0 0 0 0 l1 (by omega) l0
      exact ⟨r, h1, h2.trans ⟨fun h => absurd h.2.1 (by decide), fun h => by simp at h⟩⟩
    | ack f' t' ep' cu' bi' li' =>
      obtain ⟨r, h1, h2⟩ := same_fr n 3 f t 2 f' t' 0 0 ep' 0 zeroI zeroI 0 0 0 cu' bi' li' l1 l1 l0
      exact ⟨r, h1, h2.trans ⟨fun h => absurd h.2.1 (by decide), fun h => by simp at h⟩⟩
    | alive f' t' =>
      obtain ⟨r, h1, h2⟩ := same_fr n 3 f t 3 f' t' 0 0 0 0 zeroI zeroI 0 0 0 0 0 0 l1 l1 l0
      refine ⟨r, h1, h2.trans ⟨fun ⟨_, _, hf, ht, _⟩ => by rw [hf, ht], fun h => ?_⟩⟩
      simp only [List.cons.injEq, true_and, and_true] at h
      exact ⟨rfl, rfl, h.1, h.2, rfl, rfl, rfl, rfl, rfl⟩
theorem sealed_inj {b c : List UInt8} (h : b ++ l4 (b4 (Crc.sum b)) = c ++ l4 (b4 (Crc.sum c))) : b = c := by
  have h1 := congrArg List.length h
  rw [List.length_append, List.length_append] at h1
  have : ∀ q, (l4 q).length = 4 := fun q => rfl
  rw [this, this] at h1
  exact (List.append_inj h (by omega)).1
theorem same3 (n : Nat) (hn : 700 ≤ n) (x : sig3.In) : F3 n x = some (true, ()) := by
  obtain ⟨⟨s0, s1, s2, s3, s4, s5, s6, s7, s8, s9, s10, s11, s12, s13, s14, s15, s16, s17, s18⟩, u0, u1, u2, u3, u4, u5, u6, u7, u8, u9, u10, u11, u12, u13, u14, u15, u16, u17, u18⟩ := x
  unfold F3
  dsimp only
  have e0 : (!(true, ()).1) = false := rfl
  obtain ⟨⟨y0, y1, y2, y3, y4, y5, y6, y7, y8, y9, y10, y11, y12, y13, y14, y15, y16, y17, y18, y19, y20⟩, b, h7, hb⟩ := frame_fine n (by omega) (s0, s1, s2, s3, s4, s5, s6, s7, s8, s9, s10, s11, s12, s13, s14, s15, s16, s17, s18)
  obtain ⟨⟨z0, z1, z2, z3, z4, z5, z6, z7, z8, z9, z10, z11, z12, z13, z14, z15, z16, z17, z18, z19, z20⟩, c, h7', hc⟩ := frame_fine n (by omega) (u0, u1, u2, u3, u4, u5, u6, u7, u8, u9, u10, u11, u12, u13, u14, u15, u16, u17, u18)
  rw [awake n (by omega), obind_s, e0, oite_f, h7, obind_s, h7', obind_s]
  dsimp only
  obtain ⟨r, h1, h2⟩ := same_fine n (by omega) hb hc
  obtain ⟨q, h3, h4⟩ := same_fine n (by omega) hb hb
  rw [h4.2 rfl] at h3
  rw [h1, obind_s, ref_fine n hn hb, obind_s, ref_fine n hn hc, obind_s, h3]
  have : (r == (b ++ l4 (b4 (Crc.sum b)) == c ++ l4 (b4 (Crc.sum c)))) = true := by
    rw [beq_iff_eq]
    by_cases h : b = c
    · subst h; rw [h2.2 rfl]; simp
    · have hr : r = false := by cases r with | false => rfl | true => exact absurd (h2.1 rfl) h
      rw [hr]; symm
      rw [beq_eq_false_iff_ne]
      exact fun h' => h (sealed_inj h')
  dsimp only
  rw [this]
  rfl
theorem truth3 : ∀ x, PTys.fits sig3.ps x → ∃ n y, F3 n x = some y ∧ PTys.hd (.one (.c .bool)) .nil y.1 = true := fun x _ => ⟨1000, _, same3 1000 (by omega) x, rfl⟩
end Go.Proofs.Ytgknjddbbehboaa
