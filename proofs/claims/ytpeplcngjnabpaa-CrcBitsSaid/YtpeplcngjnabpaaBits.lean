/- CrcBits: whichever bits are turned, within 32 side by side, of sealed bytes: they don't open. -/
import Derived.Test.YtpeplcngjnabpaaLawC
open Go Go.Sx Go.Sx.Crc
namespace Go.Proofs.Ytpeplcngjnabpaa
set_option maxRecDepth 100000
abbrev u32c (c : UInt8) : UInt32 := UInt32.ofInt (c.toNat : Int)
theorem u32c_xor (c d : UInt8) : u32c (c ^^^ d) = u32c c ^^^ u32c d := by
  apply UInt32.toNat_inj.1
  rw [UInt32.toNat_xor, byte32, byte32, byte32, UInt8.toNat_xor]
theorem stpN_add : ∀ (a b : Nat) (x : UInt32), stpN (a + b) x = stpN b (stpN a x)
  | 0, b, x => by rw [Nat.zero_add]; rfl
  | a + 1, b, x => by rw [Nat.add_right_comm]; simp only [stpN]; exact stpN_add a b (stp x)
theorem stpN_shift (k : Nat) (y : UInt32) (m : Nat) (h : y.toNat = 2 ^ k * m) : (stpN k y).toNat = m := by
  have : (stpN k y).toBitVec = y.toBitVec >>> k := by
    rw [stpN_bv]
    apply LN_shift
    intro i hi
    rw [BitVec.getLsbD, UInt32.toNat_toBitVec, h, Nat.testBit_two_pow_mul]
    simp; omega
  have := congrArg BitVec.toNat this
  rw [UInt32.toNat_toBitVec, BitVec.toNat_ushiftRight, UInt32.toNat_toBitVec, h, Nat.shiftRight_eq_div_pow, Nat.mul_div_cancel_left _ (Nat.two_pow_pos k)] at this
  exact this
theorem byt_xl (n e : UInt32) (c : UInt8) : byt (n ^^^ e) c = byt n c ^^^ stpN 8 e := by
  unfold byt
  rw [UInt32.xor_assoc, UInt32.xor_comm e, ← UInt32.xor_assoc, stpN_xor]
theorem byt_xr (n : UInt32) (c d : UInt8) : byt n (c ^^^ d) = byt n c ^^^ stpN 8 (u32c d) := by
  unfold byt
  have := u32c_xor c d
  unfold u32c at this
  rw [this, ← UInt32.xor_assoc, stpN_xor]
theorem reg_xor : ∀ (b : List UInt8) (n e : UInt32), reg (n ^^^ e) b = reg n b ^^^ stpN (8 * b.length) e
  | [], n, e => rfl
  | c :: b, n, e => by
    have h : reg (n ^^^ e) (c :: b) = reg (byt (n ^^^ e) c) b := rfl
    have h' : reg n (c :: b) = reg (byt n c) b := rfl
    rw [h, h', byt_xl, reg_xor b, ← stpN_add]
    congr 2
    simp only [List.length_cons]; omega
theorem reg_set (n : UInt32) (x : List UInt8) (i : Nat) (hi : i < x.length) (d : UInt8) : reg n (x.set i (x[i] ^^^ d)) = reg n x ^^^ stpN (8 * (x.length - i)) (u32c d) := by
  have hx : x = x.take i ++ x[i] :: x.drop (i + 1) := by rw [← List.drop_eq_getElem_cons hi, List.take_append_drop]
  have h1 : x.set i (x[i] ^^^ d) = x.take i ++ (x[i] ^^^ d) :: x.drop (i + 1) := List.set_eq_take_append_cons_drop.trans (if_pos hi)
  rw [h1]
  conv => rhs; lhs; rw [hx]
  rw [reg_append, reg_append]
  generalize reg n (x.take i) = r
  have h2 : reg r ((x[i] ^^^ d) :: x.drop (i + 1)) = reg (byt r (x[i] ^^^ d)) (x.drop (i + 1)) := rfl
  have h3 : reg r (x[i] :: x.drop (i + 1)) = reg (byt r x[i]) (x.drop (i + 1)) := rfl
  rw [h2, h3, byt_xr, reg_xor, ← stpN_add]
  congr 2
  simp only [List.length_drop]; omega
/-- Four bytes, as one word. -/
theorem reg4 (r : UInt32) (t : UInt8 × UInt8 × UInt8 × UInt8) : reg r (l4 t) = stpN 32 (r ^^^ v4 t) := by
  obtain ⟨a, b, c, d⟩ := t
  have e8 : ∀ (q : UInt8) (k : Nat), k ≤ 24 → stpN k (IK.shl .u32 (UInt32.ofInt (q.toNat : Int)) (k : Int)) = u32c q := fun q k hk => by
    apply UInt32.toNat_inj.1
    rw [byte32]
    apply stpN_shift
    rw [shl32 q k hk, Nat.shiftLeft_eq, Nat.mul_comm]
  have hv : v4 (a, b, c, d) = u32c a ^^^ IK.shl .u32 (u32c b) ((8 : Nat) : Int) ^^^ IK.shl .u32 (u32c c) ((16 : Nat) : Int) ^^^ IK.shl .u32 (u32c d) ((24 : Nat) : Int) := by
    apply UInt32.toNat_inj.1
    rw [v4_nat]
    rw [UInt32.toNat_xor, UInt32.toNat_xor, UInt32.toNat_xor, shl32 _ 8 (by omega), shl32 _ 16 (by omega), shl32 _ 24 (by omega), byte32]
    have ha := a.toNat_lt
    have hb := b.toNat_lt
    have hc := c.toNat_lt
    have add : ∀ (p q k : Nat), p < 2 ^ k → p ^^^ q <<< k = p + q <<< k := fun p q k hp => by
      have h1 : p ^^^ q <<< k = q <<< k ||| p := by
        apply Nat.eq_of_testBit_eq
        intro i
        rw [Nat.testBit_xor, Nat.testBit_or, Nat.testBit_shiftLeft]
        by_cases hi : i < k
        · have : decide (i ≥ k) = false := by simp; omega
          rw [this]; simp
        · have : p.testBit i = false := Nat.testBit_lt_two_pow (Nat.lt_of_lt_of_le hp (Nat.pow_le_pow_right (by omega) (by omega)))
          rw [this]; simp
      rw [h1, ← Nat.shiftLeft_add_eq_or_of_lt hp]; omega
    rw [add a.toNat b.toNat 8 (by omega)]
    have g1 : a.toNat + b.toNat <<< 8 < 2 ^ 16 := by rw [Nat.shiftLeft_eq]; omega
    rw [add _ c.toNat 16 g1]
    have g2 : a.toNat + b.toNat <<< 8 + c.toNat <<< 16 < 2 ^ 24 := by rw [Nat.shiftLeft_eq, Nat.shiftLeft_eq]; omega
    rw [add _ d.toNat 24 g2, Nat.shiftLeft_eq, Nat.shiftLeft_eq, Nat.shiftLeft_eq]
    dsimp only
    omega
  rw [hv, stpN_xor, stpN_xor, stpN_xor, stpN_xor]
  have k1 : stpN 32 (IK.shl .u32 (u32c b) ((8 : Nat) : Int)) = stpN 24 (u32c b) := by rw [show 32 = 8 + 24 from rfl, stpN_add, e8 b 8 (by omega)]
  have k2 : stpN 32 (IK.shl .u32 (u32c c) ((16 : Nat) : Int)) = stpN 16 (u32c c) := by rw [show 32 = 16 + 16 from rfl, stpN_add, e8 c 16 (by omega)]
  have k3 : stpN 32 (IK.shl .u32 (u32c d) ((24 : Nat) : Int)) = stpN 8 (u32c d) := by rw [show 32 = 24 + 8 from rfl, stpN_add, e8 d 24 (by omega)]
  rw [k1, k2, k3]
  have step : ∀ (n : UInt32) (q : UInt8), byt n q = stpN 8 n ^^^ stpN 8 (u32c q) := fun n q => by unfold byt; rw [stpN_xor]
  have h : reg r (l4 (a, b, c, d)) = byt (byt (byt (byt r a) b) c) d := rfl
  rw [h, step, step, step, step]
  simp only [stpN_xor]
  have j : ∀ (p q : Nat) (x : UInt32), stpN p (stpN q x) = stpN (q + p) x := fun p q x => (stpN_add q p x).symm
  simp only [j, Nat.reduceAdd, UInt32.xor_assoc]
/-- Bytes open just if what comes out of all of them is always the same. -/
theorem opens_reg (b : List UInt8) (h : 4 ≤ b.length) : opens b = decide (reg 4294967295 b = stpN 32 4294967295) := by
  obtain ⟨q, q1, _⟩ := four_of (l := b.drop (b.length - 4)) (by simp; omega)
  have hb : b = b.take (b.length - 4) ++ l4 q := by rw [← q1, List.take_append_drop]
  unfold opens
  rw [dec_t h, Bool.true_and, q1]
  have hr : reg 4294967295 b = stpN 32 (reg 4294967295 (b.take (b.length - 4)) ^^^ v4 q) := by
    conv => lhs; rw [hb]
    rw [reg_append, reg4]
  rw [hr]
  generalize b.take (b.length - 4) = a
  by_cases hh : l4 (b4 (Crc.sum a)) = l4 q
  · have h1 := l4_inj hh
    have h2 : v4 q = Crc.sum a := by rw [← h1, v4_b4]
    rw [hh, beq_self_eq_true, h2]
    have : reg 4294967295 a ^^^ Crc.sum a = 4294967295 := by unfold Crc.sum; rw [← UInt32.xor_assoc, UInt32.xor_self, UInt32.zero_xor]
    rw [this]; simp
  · have h1 : (l4 (b4 (Crc.sum a)) == l4 q) = false := by simpa using hh
    rw [h1]
    symm
    apply dec_f
    intro he
    have h2 := stpN_inj 32 he
    apply hh
    have h3 : v4 q = Crc.sum a := by
      have : v4 q = reg 4294967295 a ^^^ (reg 4294967295 a ^^^ v4 q) := by rw [← UInt32.xor_assoc, UInt32.xor_self, UInt32.zero_xor]
      rw [h2] at this
      exact this
    rw [← h3, b4_v4]
theorem i64_mod {a b : Nat} (ha : a < 2 ^ 63) (hb : b < 2 ^ 63) (h0 : 0 < b) : I64 a % I64 b = I64 (a % b) := by
  apply Int64.toInt_inj.1
  have := Nat.mod_lt a h0
  rw [Int64.toInt_mod, i64_toInt ha, i64_toInt hb, i64_toInt (by omega)]
  rw [Int.tmod_eq_emod_of_nonneg (by omega)]
  rfl
theorem i64_div {a b : Nat} (ha : a < 2 ^ 63) (hb : b < 2 ^ 63) : I64 a / I64 b = I64 (a / b) := by
  apply Int64.toInt_inj.1
  have hab : a / b ≤ a := Nat.div_le_self a b
  have e : (I64 a).toInt.tdiv (I64 b).toInt = ((a / b : Nat) : Int) := by
    rw [i64_toInt ha, i64_toInt hb]; rfl
  rw [Int64.toInt_div, e, i64_toInt (by omega)]
  have h0 : (0 : Int) ≤ ((a / b : Nat) : Int) := Int.natCast_nonneg _
  have h1 : ((a / b : Nat) : Int) < 2 ^ 63 := by
    have : ((a / b : Nat) : Int) ≤ (a : Int) := Int.ofNat_le.2 hab
    omega
  generalize ((a / b : Nat) : Int) = q at h0 h1 ⊢
  apply Int.bmod_eq_of_le <;> omega
theorem i64_mul8 (a : Nat) : 8 * I64 a = I64 (8 * a) := by
  have : (8 : Int64) = I64 8 := by decide
  rw [this]
  simp [I64, Int64.ofInt_mul]
theorem shl8 (j : Nat) (hj : j < 8) : (IK.shl .u8 1 (j : Int)).toNat = 2 ^ j := by
  have : j = 0 ∨ j = 1 ∨ j = 2 ∨ j = 3 ∨ j = 4 ∨ j = 5 ∨ j = 6 ∨ j = 7 := by omega
  rcases this with rfl | rfl | rfl | rfl | rfl | rfl | rfl | rfl <;> decide
/-- which bit of a word -/
theorem bit_of (turn : UInt32) (t : Nat) (ht : t < 32) : (IK.shr .u32 turn (t : Int) &&& 1 = 1) ↔ turn.toNat / 2 ^ t % 2 = 1 := by
  rw [and1, ← UInt32.toNat_inj]
  have e2 : (IK.shr .u32 turn (t : Int) % 2).toNat = (IK.shr .u32 turn (t : Int)).toNat % 2 := by simp
  rw [e2, shr32 turn t (by omega)]
  rfl
/-- What the turned bits do to what comes out of all bytes. -/
theorem bits_loop (n0 : Nat) (hn : 1000 ≤ n0) (turn : UInt32) (s c : UInt64) (len fr : Nat) (h4 : 4 ≤ len) (hl : len ≤ 204) (hf : fr < 8 * len) : ∀ (m t : Nat) (acc : UInt32) (x : List UInt8), t ≤ 32 → 32 - t < m → x.length = len → acc.toNat < 2 ^ t →
    reg 4294967295 x = stpN 32 4294967295 ^^^ stpN (8 * len - fr) acc → (8 * len - fr ≤ t → acc.toNat < 2 ^ (8 * len - fr)) →
    F5_R1021 n0 m turn (I64 fr) (decide (acc ≠ 0)) (I64 t) (used s c) x = some (true, ()) := by
  intro m
  induction m with
  | zero => intro t acc x _ h; omega
  | succ m ih =>
    intro t acc x ht hm hx hacc hreg hM
    have hs : F5_R1021 n0 (m + 1) = F5_L1021 n0 (F5_R1021 n0 m) := rfl
    rw [hs]
    unfold F5_L1021
    by_cases h : t < 32
    · have e1 : decide (I64 t < 32) = true := dec_t ((i64_lt (a := t) (b := 32) (by omega) (by omega)).2 h)
      rw [e1, oite_t, i64_toInt (by omega), dec_t (by omega), oite_t, i64_add, i64_succ]
      by_cases hb : turn.toNat / 2 ^ t % 2 = 1
      · rw [dec_t ((bit_of turn t h).2 hb), oite_t, hx, i64_mul8]
        by_cases hin : fr + t < 8 * len
        · have e8 : (8 : Int64) = I64 8 := by decide
          rw [dec_t ((i64_lt (by omega) (by omega)).2 hin), oite_t, e8, i64_div (by omega) (by omega), i64_mod (by omega) (by omega) (by omega)]
          have hi : (fr + t) / 8 < x.length := by omega
          obtain ⟨k1, k2⟩ := idx_i64 (l := x) (k := (fr + t) / 8) hi (by omega)
          have k1' : (decide ((0 : Int) ≤ Int64.toInt (I64 ((fr + t) / 8))) && Nat.blt (Int.toNat (Int64.toInt (I64 ((fr + t) / 8)))) len) = true := by rw [← hx]; exact k1
          have hmod : (fr + t) % 8 < 8 := Nat.mod_lt _ (by omega)
          have k3 : decide ((0 : Int) ≤ Int64.toInt (I64 ((fr + t) % 8))) = true := by rw [i64_toInt (by omega)]; exact dec_t (by omega)
          rw [k1', oite_t, k2, obind_s, k3, oite_t, oite_t, obind_s]
          have hidx : Int.toNat (Int64.toInt (I64 ((fr + t) / 8))) = (fr + t) / 8 := by rw [i64_toInt (by omega), Int.toNat_natCast]
          rw [hidx, i64_toInt (k := (fr + t) % 8) (by omega)]
          have hpow : (UInt32.ofNat (2 ^ t)).toNat = 2 ^ t := by
            rw [UInt32.toNat_ofNat']
            have : 2 ^ t ≤ 2 ^ 31 := Nat.pow_le_pow_right (by omega) (by omega)
            omega
          have hadd : (acc ^^^ UInt32.ofNat (2 ^ t)).toNat = acc.toNat + 2 ^ t := by
            rw [UInt32.toNat_xor, hpow]
            have h1 : acc.toNat ^^^ 2 ^ t = 2 ^ t ||| acc.toNat := by
              apply Nat.eq_of_testBit_eq
              intro i
              rw [Nat.testBit_xor, Nat.testBit_or, Nat.testBit_two_pow]
              by_cases hi : t = i
              · subst hi
                have : acc.toNat.testBit t = false := Nat.testBit_lt_two_pow hacc
                rw [this]; simp
              · simp [hi]
            have h2 := Nat.shiftLeft_add_eq_or_of_lt hacc 1
            rw [Nat.shiftLeft_eq, Nat.one_mul] at h2
            rw [h1, ← h2]; omega
          have hne : decide (acc ^^^ UInt32.ofNat (2 ^ t) ≠ 0) = true := dec_t (fun h0 => by
            have := congrArg UInt32.toNat h0
            rw [hadd] at this
            have h2 := Nat.two_pow_pos t
            have h3 : (0 : UInt32).toNat = 0 := rfl
            omega)
          have key := ih (t + 1) (acc ^^^ UInt32.ofNat (2 ^ t)) (x.set ((fr + t) / 8) (x[(fr + t) / 8] ^^^ IK.shl .u8 1 (((fr + t) % 8 : Nat) : Int))) (by omega) (by omega) (by rw [List.length_set]; exact hx)
            (by rw [hadd, Nat.pow_succ]; omega) ?_ (fun h3 => ?_)
          · rw [hne] at key
            exact key
          · rw [reg_set _ _ _ hi, hreg, UInt32.xor_assoc, stpN_xor]
            congr 2
            have hu : (u32c (IK.shl .u8 1 (((fr + t) % 8 : Nat) : Int))).toNat = 2 ^ ((fr + t) % 8) := by rw [byte32, shl8 _ hmod]
            have hone : ∀ (j : Nat) (v : UInt32), v.toNat = 2 ^ j → stpN j v = 1 := fun j v hv => by
              apply UInt32.toNat_inj.1
              exact stpN_shift j v 1 (by rw [hv, Nat.mul_one])
            have a1 : 8 * (x.length - (fr + t) / 8) = (fr + t) % 8 + (8 * len - fr - t) := by omega
            have a2 : 8 * len - fr = t + (8 * len - fr - t) := by omega
            rw [a1, stpN_add, hone _ _ hu]
            conv => rhs; rw [a2, stpN_add, hone t _ hpow]
          · have : 8 * len - fr = t + 1 := by omega
            rw [this, hadd, Nat.pow_succ]; omega
        · rw [dec_f (fun h => hin ((i64_lt (by omega) (by omega)).1 h)), oite_f]
          exact ih (t + 1) acc x (by omega) (by omega) hx (by rw [Nat.pow_succ]; omega) hreg (fun _ => hM (by omega))
      · rw [dec_f (fun h2 => hb ((bit_of turn t h).1 h2)), oite_f]
        exact ih (t + 1) acc x (by omega) (by omega) hx (by rw [Nat.pow_succ]; omega) hreg (fun h3 => by
          rcases Nat.lt_or_ge t (8 * len - fr) with h5 | h5
          · have : 8 * len - fr = t + 1 := by omega
            rw [this, Nat.pow_succ]; omega
          · exact hM h5)
    · have ht : t = 32 := by omega
      subst ht
      have e1 : decide (I64 32 < 32) = false := by decide
      obtain ⟨z, c', g1, _⟩ := f14 n0 (used s c) s c (used_tab _ _) x (by omega) (by omega)
      rw [e1, oite_f, g1, obind_s]
      simp only
      rw [opens_reg x (by omega), hreg]
      have : (decide (stpN 32 4294967295 ^^^ stpN (8 * len - fr) acc = stpN 32 4294967295)) = !decide (acc ≠ 0) := by
        by_cases h0 : acc = 0
        · subst h0
          rw [stpN_zero, UInt32.xor_zero]; simp
        · have : ¬ (stpN 32 4294967295 ^^^ stpN (8 * len - fr) acc = stpN 32 4294967295) := fun he => by
            apply h0
            apply stpN_ne (8 * len - fr)
            have h1 : stpN 32 4294967295 ^^^ (stpN 32 4294967295 ^^^ stpN (8 * len - fr) acc) = stpN 32 4294967295 ^^^ stpN 32 4294967295 := by rw [he]
            rwa [← UInt32.xor_assoc, UInt32.xor_self, UInt32.zero_xor] at h1
          rw [dec_f this, dec_t h0]; rfl
      rw [this]
      cases decide (acc ≠ 0) <;> rfl
theorem bits (n : Nat) (hn : 1000 ≤ n) (b : List UInt8) (hb : b.length < 2 ^ 63) (a : UInt16) (turn : UInt32) : F5 n (b, a, turn) = some (true, ()) := by
  unfold F5
  rw [f7 n (by omega), obind_s]
  simp only [Bool.not_true]
  rw [oite_f]
  by_cases hlen : 200 < b.length
  · have e : decide ((200 : Int64) < I64 (List.length b)) = true := dec_t ((i64_lt (a := 200) (b := b.length) (by omega) hb).2 hlen)
    rw [e, oite_t]
  · have e : decide ((200 : Int64) < I64 (List.length b)) = false := dec_f (fun h => hlen ((i64_lt (a := 200) (b := b.length) (by omega) hb).1 h))
    obtain ⟨x, hx, ht⟩ := f11 n
    rw [e, oite_f, hx, obind_s, f12 n x 0 0 ht b (by omega) (by omega), obind_s]
    simp only
    have hxl : (b ++ l4 (b4 (Crc.sum b))).length = b.length + 4 := by simp [l4]
    have ha := a.toNat_lt
    rw [hxl, i64_mul8]
    have e0 : decide (I64 (8 * (b.length + 4)) = 0) = false := dec_f (fun h => by have := (i64_eq (a := 8 * (b.length + 4)) (b := 0) (by omega) (by omega)).1 h; omega)
    rw [e0, oite_f, i64_mod (by omega) (by omega) (by omega)]
    have hm : a.toNat % (8 * (b.length + 4)) < 8 * (b.length + 4) := Nat.mod_lt _ (by omega)
    have hop := opens_reg (b ++ l4 (b4 (Crc.sum b))) (by omega)
    rw [(opens_seal b).1] at hop
    have hop := of_decide_eq_true hop.symm
    have := bits_loop n hn turn (0 + 1) (cnt 0 b) (b.length + 4) (a.toNat % (8 * (b.length + 4))) (by omega) (by omega) hm n 0 0 (b ++ l4 (b4 (Crc.sum b))) (by omega) (by omega) hxl (by simp) (by rw [hop, stpN_zero, UInt32.xor_zero]) (fun _ => Nat.two_pow_pos _)
    exact this
theorem truth5 : ∀ x, PTys.fits sig5.ps x → ∃ n y, F5 n x = some y ∧ PTys.hd (.one (.c .bool)) .nil y.1 = true := by
  intro x hx
  obtain ⟨b, a, turn⟩ := x
  obtain ⟨h1, _⟩ := hx
  simp only [PTy.fits, CT.fits] at h1
  exact ⟨1000, _, bits 1000 (by omega) b h1.1 a turn, rfl⟩
end Go.Proofs.Ytpeplcngjnabpaa
