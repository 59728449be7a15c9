/- Items as bytes: what putting and taking them come to. -/
import Derived.Test.YtehelahnlnfofaaItText
import Derived.Test.YtehelahnlnfofaaItItem
import Derived.Test.YtehelahnlnfofaaSxRead
open Go Go.Sx
namespace Go.Proofs.Ytehelahnlnfofaa

/-! ### The reader's functions -/
theorem f53 (n : Nat) (s : RS) (e : Int64) : F53 n (some s, e) = some ((), some (rFail e s).2) := by
  obtain ⟨b, x⟩ := s
  unfold F53 rFail
  dsimp only
  rw [oelim_s]
  by_cases h : x = 0
  · rw [dec_t h, oite_t, if_pos h]
  · rw [dec_f h, oite_f, if_neg h]
theorem f52 (n : Nat) (s : RS) : F52 n (some s) = some (s.2, some s) := rfl
theorem f49 (n : Nat) (s : RS) (h : s.1.length < 2 ^ 62) : F49 n (some s) = some ((rByte s).1, some (rByte s).2) := by
  obtain ⟨b, x⟩ := s
  unfold rByte
  by_cases hx : x = 0
  · subst hx
    rw [if_pos rfl]
    cases b with
    | nil => exact byte_nil n
    | cons c r => exact byte_cons n c r (Nat.lt_trans h (by decide))
  · rw [if_neg hx]; exact byte_err n b x hx
theorem f50 (n : Nat) (hn : 10 < n) (s : RS) (h : s.1.length < 2 ^ 62) : F50 n (some s) = some ((rUint s).1, some (rUint s).2) := by
  obtain ⟨b, x⟩ := s
  unfold rUint
  by_cases hx : x = 0
  · subst hx
    rw [if_pos rfl, read_spec n hn b (Nat.lt_trans h (by decide))]
    unfold decR decF
    dsimp only
    split
    · simp
    · rfl
  · rw [if_neg hx]; exact read_err n hn b x hx
theorem f67 (n : Nat) (hn : 10 < n) (s : RS) (h : s.1.length < 2 ^ 62) (m : Nat) (hm : m < 2 ^ 62) : F67 n (some s, I64 m) = some ((rText m s).1, some (rText m s).2) := by
  obtain ⟨b, x⟩ := s
  unfold rText
  by_cases hx : x = 0
  · subst hx
    rw [if_pos rfl, text_take n hn b _ h, maxU_len (by omega)]
    dsimp only
    by_cases h0 : (dec 0 b).1 = 0
    · rw [if_pos h0, if_pos h0]
      have hd := (dec_enc_back b h0).1
      have e : UInt64.ofNat m < UInt64.ofNat (dec 0 b).2.1 ↔ m < (dec 0 b).2.1 := by
        rw [UInt64.lt_iff_toNat_lt, u64_ofNat (by omega), u64_ofNat hd]
      by_cases h1 : m < (dec 0 b).2.1
      · rw [if_pos (e.2 h1), if_pos h1]
      · rw [if_neg (fun q => h1 (e.1 q)), if_neg h1]
        split <;> rfl
    · rw [if_neg h0, if_neg h0]
  · rw [if_neg hx]
    unfold F67
    dsimp only
    rw [read_err n hn b x hx]
    simp only [obind_s]
    have : F66 n (some (b, x)) = some (decide (x = 0), some (b, x)) := rfl
    rw [this, dec_f hx]; rfl
theorem f68 (n : Nat) (hn : 10 < n) (s : RS) (h : s.1.length < 2 ^ 62) (m : UInt64) : F68 n (some s, m) = some ((rCount m s).1, some (rCount m s).2) := by
  unfold F68 rCount rbind
  dsimp only
  rw [f50 n hn s h]
  simp only [obind_s]
  by_cases hm : m < (rUint s).1
  · rw [dec_t hm, oite_t, if_pos hm, f53]; rfl
  · rw [dec_f hm, oite_f, if_neg hm]; rfl
theorem f69 (n : Nat) (hn : 10 < n) (s : RS) (h : s.1.length < 2 ^ 62) : F69 n (some s) = some ((rInt s).1, some (rInt s).2) := by
  unfold F69 rInt rbind
  rw [f50 n hn s h]; rfl
theorem f48 (n : Nat) (s : RS) (h : s.1.length < 2 ^ 62) : F48 n (some s) = some ((rBool s).1, some (rBool s).2) := by
  unfold F48 rBool rbind
  rw [f49 n s h]
  simp only [obind_s]
  by_cases hm : 1 < (rByte s).1
  · rw [dec_t hm, oite_t, if_pos hm, f53]; rfl
  · rw [dec_f hm, oite_f, if_neg hm]; rfl
def rDone : Rd Int64 := fun s => if s.2 = 0 then (if 0 < s.1.length then (25, (s.1, 25)) else (0, s)) else (s.2, s)
theorem f29 (n : Nat) (s : RS) (h : s.1.length < 2 ^ 62) : F29 n (some s) = some ((rDone s).1, some (rDone s).2) := by
  obtain ⟨b, x⟩ := s
  have e66 : F66 n (some (b, x)) = some (decide (x = 0), some (b, x)) := rfl
  unfold F29 F54 rDone
  rw [e66]
  by_cases hx : x = 0
  · subst hx
    simp only [obind_s, decide_true, Bool.not_true, oite_f, if_true]
    have e : decide ((0 : Int64) < Int64.ofInt ↑b.length) = decide (0 < b.length) := decide_eq_decide.2 (i64_lt (a := 0) (by omega) (Nat.lt_trans h (by decide)))
    rw [e]
    by_cases hb : 0 < b.length
    · rw [dec_t hb, if_pos hb]; rfl
    · rw [dec_f hb, if_neg hb]; rfl
  · rw [dec_f hx]
    simp only [obind_s, Bool.not_false, oite_t, if_neg hx]
    rfl

/-! ### An item's reader -/
def rLabs : Nat → List Pair → Rd (List Pair)
  | 0, vl => rret vl
  | k + 1, vl => rbind (rText 8) fun a => rbind (rText 16) fun b => rLabs k (vl ++ [(a, b)])
def rEnd (o : UInt8) (seq t : UInt64) (rule : List UInt8) (vl : List Pair) : Rd EvT :=
  rbind rByte fun st => rbind rByte fun p => rbind rInt fun v => rbind rByte fun w => rret (o, seq, t, rule, vl, st, p, v, w)
def rEvent : Rd EvT := rbind rByte fun o => rbind rUint fun seq => rbind rUint fun t => rbind (rText 12) fun rule => rbind (rCount 8) fun c => rbind (rLabs c.toNat []) fun vl => rEnd o seq t rule vl
def rGap : Rd (UInt8 × UInt64 × UInt64) := rbind rByte fun o => rbind rUint fun a => rbind rUint fun b => rret (o, a, b)
def gapI (g : UInt8 × UInt64 × UInt64) : ItT := (true, 0, 0, 0, [], [], 0, 0, 0, 0, g.1, g.2.1, g.2.2)
def evI (e : EvT) : ItT := (false, e.1, e.2.1, e.2.2.1, e.2.2.2.1, e.2.2.2.2.1, e.2.2.2.2.2.1, e.2.2.2.2.2.2.1, e.2.2.2.2.2.2.2.1, e.2.2.2.2.2.2.2.2, 0, 0, 0)
def zeroI : ItT := (false, 0, 0, 0, [], [], 0, 0, 0, 0, 0, 0, 0)
def rItem0 : Rd ItT := rbind rBool fun g => if g = true then rbind rGap fun g => rret (gapI g) else rbind rEvent fun e => rret (evI e)
def rCheck (x : ItT) : Rd ItT := fun s => if s.2 = 0 then (if itCheck x = 0 then (x, s) else (zeroI, (s.1, itCheck x))) else (zeroI, s)
def rItem : Rd ItT := rbind rItem0 rCheck
theorem stick_labs : ∀ k vl, Stick (rLabs k vl)
  | 0, _ => stick_ret _
  | k + 1, _ => stick_bind (stick_text _) fun _ => stick_bind (stick_text _) fun _ => stick_labs k _
theorem short_labs : ∀ k vl, Short (rLabs k vl)
  | 0, _ => short_ret _
  | k + 1, _ => short_bind (short_text _) fun _ => short_bind (short_text _) fun _ => short_labs k _
theorem stick_end (o : UInt8) (seq t : UInt64) (rule : List UInt8) (vl : List Pair) : Stick (rEnd o seq t rule vl) :=
  stick_bind stick_byte fun _ => stick_bind stick_byte fun _ => stick_bind stick_int fun _ => stick_bind stick_byte fun _ => stick_ret _
theorem short_end (o : UInt8) (seq t : UInt64) (rule : List UInt8) (vl : List Pair) : Short (rEnd o seq t rule vl) :=
  short_bind short_byte fun _ => short_bind short_byte fun _ => short_bind short_int fun _ => short_bind short_byte fun _ => short_ret _
theorem stick_event : Stick rEvent := stick_bind stick_byte fun _ => stick_bind stick_uint fun _ => stick_bind stick_uint fun _ => stick_bind (stick_text _) fun _ => stick_bind (stick_count _) fun _ => stick_bind (stick_labs _ _) fun _ => stick_end _ _ _ _ _
theorem short_event : Short rEvent := short_bind short_byte fun _ => short_bind short_uint fun _ => short_bind short_uint fun _ => short_bind (short_text _) fun _ => short_bind (short_count _) fun _ => short_bind (short_labs _ _) fun _ => short_end _ _ _ _ _
theorem stick_gap : Stick rGap := stick_bind stick_byte fun _ => stick_bind stick_uint fun _ => stick_bind stick_uint fun _ => stick_ret _
theorem short_gap : Short rGap := short_bind short_byte fun _ => short_bind short_uint fun _ => short_bind short_uint fun _ => short_ret _
theorem stick_item0 : Stick rItem0 := stick_bind stick_bool fun _ => stick_if (stick_bind stick_gap fun _ => stick_ret _) (stick_bind stick_event fun _ => stick_ret _)
theorem short_item0 : Short rItem0 := short_bind short_bool fun _ => short_if (short_bind short_gap fun _ => short_ret _) (short_bind short_event fun _ => short_ret _)
theorem stick_check (x : ItT) : Stick (rCheck x) := fun s hs => by unfold rCheck; rw [if_neg hs]
theorem short_check (x : ItT) : Short (rCheck x) := fun s => by
  unfold rCheck
  split
  · split <;> exact Nat.le_refl _
  · exact Nat.le_refl _
theorem stick_item : Stick rItem := stick_bind stick_item0 stick_check
theorem short_item : Short rItem := short_bind short_item0 short_check

/-! what is read is short -/
def Vals {α : Type} (r : Rd α) (P : α → Prop) : Prop := ∀ s, P (r s).1
theorem vals_bind {α β : Type} {r : Rd α} {f : α → Rd β} {P : α → Prop} {Q : β → Prop} (h : Vals r P) (hf : ∀ x, P x → Vals (f x) Q) : Vals (rbind r f) Q := fun s => hf _ (h s) _
theorem vals_ret {α : Type} {x : α} {P : α → Prop} (h : P x) : Vals (rret x) P := fun _ => h
theorem vals_any {α : Type} (r : Rd α) : Vals r fun _ => True := fun _ => trivial
theorem vals_text (m : Nat) : Vals (rText m) fun s => s.length ≤ m := fun s => by
  unfold rText
  split
  · split
    · split
      · simp
      · split
        · simp
        · simp; omega
    · simp
  · simp
theorem vals_count (m : UInt64) : Vals (rCount m) fun c => c.toNat ≤ m.toNat := by
  refine vals_bind (vals_any _) fun v _ => ?_
  by_cases h : m < v
  · rw [if_pos h]; exact fun _ => by show (0 : UInt64).toNat ≤ _; exact Nat.zero_le _
  · rw [if_neg h]; exact fun _ => by have := mt UInt64.lt_iff_toNat_lt.2 h; show v.toNat ≤ _; omega
def Tiny (vl : List Pair) : Prop := ∀ p ∈ vl, p.1.length ≤ 8 ∧ p.2.length ≤ 16
theorem vals_labs : ∀ k vl, Tiny vl → Vals (rLabs k vl) fun l => l.length = vl.length + k ∧ Tiny l
  | 0, _, h => vals_ret ⟨rfl, h⟩
  | k + 1, vl, h => vals_bind (vals_text 8) fun a ha => vals_bind (vals_text 16) fun b hb => fun s => by
    have := vals_labs k (vl ++ [(a, b)]) (fun p hp => by
      rcases List.mem_append.1 hp with hp | hp
      · exact h p hp
      · simp at hp; subst hp; exact ⟨ha, hb⟩) s
    refine ⟨?_, this.2⟩
    have h1 := this.1
    simp only [List.length_append, List.length_singleton] at h1
    omega
theorem vals_event : Vals rEvent fun e => e.2.2.2.1.length ≤ 12 ∧ e.2.2.2.2.1.length ≤ 8 ∧ Tiny e.2.2.2.2.1 :=
  vals_bind (vals_any _) fun _ _ => vals_bind (vals_any _) fun _ _ => vals_bind (vals_any _) fun _ _ => vals_bind (vals_text 12) fun _ h1 => vals_bind (vals_count 8) fun c h2 =>
    vals_bind (vals_labs _ [] (by intro p hp; cases hp)) fun _ h3 => vals_bind (vals_any _) fun _ _ => vals_bind (vals_any _) fun _ _ => vals_bind (vals_any _) fun _ _ => vals_bind (vals_any _) fun _ _ => vals_ret
      ⟨h1, by have := h3.1; have e : (8 : UInt64).toNat = 8 := rfl; simp at this; dsimp only; omega, h3.2⟩
theorem vals_item0 : Vals rItem0 fun x => x.2.2.2.2.1.length ≤ 12 ∧ x.2.2.2.2.2.1.length ≤ 8 ∧ Tiny x.2.2.2.2.2.1 :=
  vals_bind (vals_any _) fun g _ => by
    cases g with
    | true => rw [if_pos rfl]; exact vals_bind (vals_any _) fun _ _ => vals_ret ⟨by simp [gapI], by simp [gapI], by intro p hp; cases hp⟩
    | false => rw [if_neg (by decide)]; exact vals_bind vals_event fun _ h => vals_ret h
theorem tiny_fit {x : ItT} (h : x.2.2.2.2.1.length ≤ 12 ∧ x.2.2.2.2.2.1.length ≤ 8 ∧ Tiny x.2.2.2.2.2.1) : FitI x 30 := by
  refine ⟨⟨by omega, by omega⟩, by omega, fun p hp => ?_⟩
  have := h.2.2 p hp
  omega

/-! ### The code is that reader -/
theorem u64_lt {a b : Nat} (ha : a < 2 ^ 64) (hb : b < 2 ^ 64) : (UInt64.ofNat a < UInt64.ofNat b) ↔ a < b := by
  rw [UInt64.lt_iff_toNat_lt, u64_ofNat ha, u64_ofNat hb]
theorem u64_succ (a : Nat) : UInt64.ofNat a + 1 = UInt64.ofNat (a + 1) := by
  apply UInt64.toNat.inj
  rw [UInt64.toNat_add, UInt64.toNat_ofNat', UInt64.toNat_ofNat']; simp
theorem labs_loop (n : Nat) (hn : 10 < n) (T : Nat) (hT : T ≤ 8) (t0 : UInt8) (t1 t2 : UInt64) (t3 : List UInt8) (t5 t6 : UInt8) (t7 : Int64) (t8 : UInt8) (v0 : UInt8) (v1 v2 : UInt64) (v3 : List UInt8) (v5 v6 : UInt8) (v7 : Int64) (v8 : UInt8) :
    ∀ (k i m : Nat) (s : RS) (vl : List Pair), i + k = T → k < m → vl.length ≤ i → s.1.length < 2 ^ 62 →
      F51_R1021 n m (UInt64.ofNat T) (UInt64.ofNat i) (some s) t0 t1 t2 t3 t5 t6 t7 t8 v0 v1 v2 v3 v5 v6 v7 v8 vl =
        some ((rbind (rLabs k vl) (rEnd v0 v1 v2 v3) s).1, some (rbind (rLabs k vl) (rEnd v0 v1 v2 v3) s).2) := by
  intro k
  induction k with
  | zero =>
    intro i m s vl hi hm hvl hs
    obtain ⟨m, rfl⟩ : ∃ j, m = j + 1 := ⟨m - 1, by omega⟩
    have h1 := short_byte s
    have h2 := short_byte (rByte s).2
    have h3 := short_int (rByte (rByte s).2).2
    rw [F51_R1021_s]
    unfold F51_L1021
    rw [dec_f (fun q => by have := (u64_lt (by omega) (by omega)).1 q; omega), oite_f, f49 n s hs]
    simp only [obind_s]
    rw [f49 n _ (by omega)]
    simp only [obind_s]
    rw [f69 n hn _ (by omega)]
    simp only [obind_s]
    rw [f49 n _ (by omega)]
    rfl
  | succ k ih =>
    intro i m s vl hi hm hvl hs
    obtain ⟨m, rfl⟩ : ∃ j, m = j + 1 := ⟨m - 1, by omega⟩
    have h1 := short_text 8 s
    have h2 := short_text 16 (rText 8 s).2
    rw [F51_R1021_s]
    unfold F51_L1021
    rw [dec_t ((u64_lt (by omega) (by omega)).2 (by omega)), oite_t, show (8 : Int64) = I64 8 from rfl, f67 n hn s hs 8 (by omega)]
    simp only [obind_s]
    rw [show (16 : Int64) = I64 16 from rfl, f67 n hn _ (by omega) 16 (by omega)]
    simp only [obind_s]
    rw [ble_t (by simp; omega), oite_t, u64_succ, ih (i + 1) m _ _ (by omega) (by omega) (by simp; omega) (by omega)]
    rfl
theorem shorter {α : Type} {r : Rd α} (h : Short r) {s : RS} {v : α} {t : RS} (e : r s = (v, t)) (hs : s.1.length < 2 ^ 62) : t.1.length < 2 ^ 62 := by
  have := h s; rw [e] at this; exact Nat.lt_of_le_of_lt this hs
theorem f51 (n : Nat) (hn : 30 < n) (s : RS) (hs : s.1.length < 2 ^ 62) : F51 n (some s) = some ((rEvent s).1, some (rEvent s).2) := by
  rcases e1 : rByte s with ⟨o, s1⟩
  have l1 := shorter short_byte e1 hs
  rcases e2 : rUint s1 with ⟨seq, s2⟩
  have l2 := shorter short_uint e2 l1
  rcases e3 : rUint s2 with ⟨t, s3⟩
  have l3 := shorter short_uint e3 l2
  rcases e4 : rText 12 s3 with ⟨rule, s4⟩
  have l4 := shorter (short_text 12) e4 l3
  rcases e5 : rCount 8 s4 with ⟨c, s5⟩
  have l5 := shorter (short_count 8) e5 l4
  have hc : c.toNat ≤ (8 : UInt64).toNat := by have := vals_count 8 s4; rw [e5] at this; exact this
  have e8 : (8 : UInt64).toNat = 8 := rfl
  have hE : rEvent s = rbind (rLabs c.toNat []) (rEnd o seq t rule) s5 := by simp only [rEvent, rbind, e1, e2, e3, e4, e5]
  unfold F51
  rw [f49 n s hs, e1]
  simp only [obind_s]
  rw [f50 n (by omega) _ l1, e2]
  simp only [obind_s]
  rw [f50 n (by omega) _ l2, e3]
  simp only [obind_s]
  rw [show (12 : Int64) = I64 12 from rfl, f67 n (by omega) _ l3 12 (by omega), e4]
  simp only [obind_s]
  rw [f68 n (by omega) _ l4, e5]
  simp only [obind_s]
  have := labs_loop n (by omega) c.toNat (by omega) 0 0 0 [] 0 0 0 0 o seq t rule 0 0 0 0 c.toNat 0 n s5 [] (by omega) (by omega) (by simp) l5
  rw [UInt64.ofNat_toNat] at this
  rw [hE]
  exact this
theorem f28 (n : Nat) (hn : 30 < n) (s : RS) (hs : s.1.length < 2 ^ 62) : F28 n (some s) = some ((rItem s).1, some (rItem s).2) := by
  have hv := vals_item0 s
  -- the check
  have fin : ∀ (x : ItT) (q : RS) (t0 : Bool) (t1 : UInt8) (t2 t3 : UInt64) (t4 : List UInt8) (t6 t7 : UInt8) (t8 : Int64) (t9 t10 : UInt8) (t11 t12 : UInt64), (x.2.2.2.2.1.length ≤ 12 ∧ x.2.2.2.2.2.1.length ≤ 8 ∧ Tiny x.2.2.2.2.2.1) →
      F28_J7 n (some q) t0 t1 t2 t3 t4 t6 t7 t8 t9 t10 t11 t12 x.1 x.2.1 x.2.2.1 x.2.2.2.1 x.2.2.2.2.1 x.2.2.2.2.2.1 x.2.2.2.2.2.2.1 x.2.2.2.2.2.2.2.1 x.2.2.2.2.2.2.2.2.1 x.2.2.2.2.2.2.2.2.2.1 x.2.2.2.2.2.2.2.2.2.2.1 x.2.2.2.2.2.2.2.2.2.2.2.1 x.2.2.2.2.2.2.2.2.2.2.2.2 =
        some ((rCheck x q).1, some (rCheck x q).2) := by
    intro x q t0 t1 t2 t3 t4 t6 t7 t8 t9 t10 t11 t12 hx
    have hi := it_eq n 30 (by omega) x (tiny_fit hx)
    unfold F28_J7 F28_J15 rCheck
    rw [ojoinA_eq, f52]
    simp only [obind_s, f52]
    by_cases hq : q.2 = 0
    · rw [dec_t hq, oite_t, if_pos hq, show (x.1, x.2.1, x.2.2.1, x.2.2.2.1, x.2.2.2.2.1, x.2.2.2.2.2.1, x.2.2.2.2.2.2.1, x.2.2.2.2.2.2.2.1, x.2.2.2.2.2.2.2.2.1, x.2.2.2.2.2.2.2.2.2.1, x.2.2.2.2.2.2.2.2.2.2.1, x.2.2.2.2.2.2.2.2.2.2.2.1, x.2.2.2.2.2.2.2.2.2.2.2.2) = x from rfl, hi]
      simp only [obind_s, f53]
      by_cases hc : itCheck x = 0
      · rw [dec_t hc, if_pos hc]
        simp only [Bool.not_true, oite_f]
      · rw [dec_f hc, if_neg hc]
        unfold rFail
        simp only [Bool.not_false, oite_t, if_pos hq, f52, obind_s, dec_f hc]
        rfl
    · rw [dec_f hq, if_neg hq]
      simp only [oite_f, Bool.not_false, oite_t]
      rfl
  rcases e1 : rBool s with ⟨g, s1⟩
  have l1 := shorter short_bool e1 hs
  unfold F28
  rw [f48 n s hs, e1]
  simp only [obind_s, ojoinA_eq]
  have hsplit : rItem s = rCheck (rItem0 s).1 (rItem0 s).2 := rfl
  have h0 : rItem0 s = (if g = true then rbind rGap (fun g => rret (gapI g)) else rbind rEvent fun e => rret (evI e)) s1 := by simp only [rItem0, rbind, e1]
  cases g with
  | true =>
    rw [if_pos rfl] at h0
    rcases e2 : rByte s1 with ⟨o, s2⟩
    have l2 := shorter short_byte e2 l1
    rcases e3 : rUint s2 with ⟨a, s3⟩
    have l3 := shorter short_uint e3 l2
    rcases e4 : rUint s3 with ⟨b, s4⟩
    have h0' : rItem0 s = (gapI (o, a, b), s4) := by rw [h0]; simp only [rGap, rbind, e2, e3, e4, rret]
    rw [h0'] at hv
    rw [hsplit, h0', oite_t, f49 n _ l1, e2]
    simp only [obind_s]
    rw [f50 n (by omega) _ l2, e3]
    simp only [obind_s]
    rw [f50 n (by omega) _ l3, e4]
    simp only [obind_s]
    exact fin (gapI (o, a, b)) s4 _ _ _ _ _ _ _ _ _ _ _ _ hv
  | false =>
    rw [if_neg (by decide)] at h0
    rcases e2 : rEvent s1 with ⟨e, s2⟩
    have h0' : rItem0 s = (evI e, s2) := by rw [h0]; simp only [rbind, e2, rret]
    rw [h0'] at hv
    rw [hsplit, h0', oite_f, f51 n hn _ l1, e2]
    simp only [obind_s]
    exact fin (evI e) s2 _ _ _ _ _ _ _ _ _ _ _ _ hv
end Go.Proofs.Ytehelahnlnfofaa
