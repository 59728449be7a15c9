/- A part of the proof: a walk of Go code by plain functions, and that it is sound. -/
import Derived.Test.YtblldmpkljcnjaaSxCodec
import Derived.Test.YtblldmpkljcnjaaSxZig
namespace Go.Sx
/-! Reading what was put, plain: what is left and the error. -/
abbrev RS := List UInt8 × Int64
abbrev Rd (α : Type) := RS → α × RS
section
variable {α β : Type}
def rret (x : α) : Rd α := fun s => (x, s)
def rbind (r : Rd α) (f : α → Rd β) : Rd β := fun s => f (r s).1 (r s).2
def rByte : Rd UInt8 := fun s => if s.2 = 0 then (match s.1 with | [] => (0, ([], 3)) | c :: r => (c, (r, 0))) else (0, s)
def rUint : Rd UInt64 := fun s => if s.2 = 0 then
    (if (dec 0 s.1).1 = 0 then (UInt64.ofNat (dec 0 s.1).2.1, ((dec 0 s.1).2.2, 0)) else (0, ((dec 0 s.1).2.2, (dec 0 s.1).1))) else (0, s)
def rFail (e : Int64) : Rd Unit := fun s => ((), if s.2 = 0 then (s.1, e) else s)
def rText (most : Nat) : Rd (List UInt8) := fun s => if s.2 = 0 then
    (if (dec 0 s.1).1 = 0 then
      (if most < (dec 0 s.1).2.1 then ([], ((dec 0 s.1).2.2, 4)) else if (dec 0 s.1).2.2.length < (dec 0 s.1).2.1 then ([], ((dec 0 s.1).2.2, 3))
       else ((dec 0 s.1).2.2.take (dec 0 s.1).2.1, ((dec 0 s.1).2.2.drop (dec 0 s.1).2.1, 0))) else ([], ((dec 0 s.1).2.2, (dec 0 s.1).1))) else ([], s)
def rCount (most : UInt64) : Rd UInt64 := rbind rUint fun v => if most < v then rbind (rFail 6) fun _ => rret 0 else rret v
def unzig (u : UInt64) : Int64 := Int64.ofInt ↑(UInt64.toNat (IK.shr IntKind.u64 u ↑(UInt64.toNat (1 : UInt64)))) ^^^ (0 : Int64) - Int64.ofInt ↑(UInt64.toNat (u &&& (1 : UInt64)))
def rInt : Rd Int64 := rbind rUint fun v => rret (unzig v)
def rBool : Rd Bool := rbind rByte fun v => if 1 < v then rbind (rFail 2) fun _ => rret (decide (v = 1)) else rret (decide (v = 1))

/-! An error stays; no more is left than was there. -/
def Stick (r : Rd α) : Prop := ∀ s, s.2 ≠ 0 → (r s).2 = s
def Short (r : Rd α) : Prop := ∀ s, (r s).2.1.length ≤ s.1.length
theorem stick_ret (x : α) : Stick (rret x) := fun _ _ => rfl
theorem short_ret (x : α) : Short (rret x) := fun _ => Nat.le_refl _
theorem stick_bind {r : Rd α} {f : α → Rd β} (h : Stick r) (hf : ∀ x, Stick (f x)) : Stick (rbind r f) := fun s hs => by
  have := h s hs
  show (f (r s).1 (r s).2).2 = s
  rw [this]; exact hf _ s hs
theorem short_bind {r : Rd α} {f : α → Rd β} (h : Short r) (hf : ∀ x, Short (f x)) : Short (rbind r f) := fun s => Nat.le_trans (hf _ _) (h s)
theorem stick_byte : Stick rByte := fun s hs => by unfold rByte; rw [if_neg hs]
theorem short_byte : Short rByte := fun s => by
  unfold rByte
  split
  · split
    · simp
    · rename_i c r h; simp [h]
  · simp
theorem dec_short (b : List UInt8) : ∀ i, (dec i b).2.2.length ≤ b.length := by
  induction b with
  | nil => intro i; simp [dec]
  | cons c r ih =>
    intro i
    have := ih (i + 1)
    simp only [dec]
    split
    · simp
    · split
      · split <;> simp
      · split <;> simp <;> omega
theorem stick_uint : Stick rUint := fun s hs => by unfold rUint; rw [if_neg hs]
theorem short_uint : Short rUint := fun s => by
  unfold rUint
  have := dec_short s.1 0
  split
  · split <;> exact this
  · exact Nat.le_refl _
theorem stick_fail (e : Int64) : Stick (rFail e) := fun s hs => by unfold rFail; simp only [if_neg hs]
theorem short_fail (e : Int64) : Short (rFail e) := fun s => by unfold rFail; dsimp only; split <;> exact Nat.le_refl _
theorem stick_text (m : Nat) : Stick (rText m) := fun s hs => by unfold rText; rw [if_neg hs]
theorem short_text (m : Nat) : Short (rText m) := fun s => by
  unfold rText
  have := dec_short s.1 0
  split
  · split
    · split
      · exact this
      · split
        · exact this
        · simp; omega
    · exact this
  · exact Nat.le_refl _
theorem stick_if {c : Prop} [Decidable c] {r q : Rd α} (h : Stick r) (h' : Stick q) : Stick (if c then r else q) := by split <;> assumption
theorem short_if {c : Prop} [Decidable c] {r q : Rd α} (h : Short r) (h' : Short q) : Short (if c then r else q) := by split <;> assumption
theorem stick_count (m : UInt64) : Stick (rCount m) := stick_bind stick_uint fun _ => stick_if (stick_bind (stick_fail _) fun _ => stick_ret _) (stick_ret _)
theorem short_count (m : UInt64) : Short (rCount m) := short_bind short_uint fun _ => short_if (short_bind (short_fail _) fun _ => short_ret _) (short_ret _)
theorem stick_int : Stick rInt := stick_bind stick_uint fun _ => stick_ret _
theorem short_int : Short rInt := short_bind short_uint fun _ => short_ret _
theorem stick_bool : Stick rBool := stick_bind stick_byte fun _ => stick_if (stick_bind (stick_fail _) fun _ => stick_ret _) (stick_ret _)
theorem short_bool : Short rBool := short_bind short_byte fun _ => short_if (short_bind (short_fail _) fun _ => short_ret _) (short_ret _)

/-! What was put is taken; cut, it is too short. -/
structure RdOf (r : Rd α) (w : List UInt8) (v : α) : Prop where
  full : ∀ rest, r (w ++ rest, 0) = (v, (rest, 0))
  cut : ∀ k, k < w.length → (r (w.take k, 0)).2.2 = 3
theorem good_ret (x : α) : RdOf (rret x) [] x := ⟨fun _ => rfl, fun k h => absurd h (by simp)⟩
theorem good_bind {r : Rd α} {f : α → Rd β} {w w' : List UInt8} {v : α} {v' : β} (h : RdOf r w v) (h' : RdOf (f v) w' v') (hs : ∀ x, Stick (f x)) : RdOf (rbind r f) (w ++ w') v' := by
  refine ⟨fun rest => ?_, fun k hk => ?_⟩
  · show f (r (w ++ w' ++ rest, 0)).1 (r (w ++ w' ++ rest, 0)).2 = _
    rw [List.append_assoc, h.full]; exact h'.full rest
  · show (f (r ((w ++ w').take k, 0)).1 (r ((w ++ w').take k, 0)).2).2.2 = 3
    by_cases hc : k < w.length
    · rw [List.take_append_of_le_length (by omega)]
      have := h.cut k hc
      have hne : (r (w.take k, 0)).2.2 ≠ 0 := by rw [this]; decide
      rw [hs _ _ hne, this]
    · have e : (w ++ w').take k = w ++ w'.take (k - w.length) := by rw [List.take_append, List.take_of_length_le (by omega)]
      rw [e, h.full]
      exact h'.cut _ (by simp at hk; omega)
theorem good_byte (c : UInt8) : RdOf rByte [c] c := ⟨fun _ => rfl, fun k hk => by simp at hk; subst hk; rfl⟩
theorem good_uint (v : UInt64) : RdOf rUint (enc v) v := by
  refine ⟨fun rest => ?_, fun k hk => ?_⟩
  · unfold rUint; rw [if_pos rfl]; simp only [dec_enc64, if_true]; simp
  · unfold rUint
    have : dec 0 ((enc v).take k) = (3, 0, []) := dec_cut 9 _ 0 k (toNat_lt128 _) (by have := UInt64.toNat_lt v; simpa using this) hk
    rw [if_pos rfl]; simp only [this]; rw [if_neg (by decide)]
def encT (s : List UInt8) : List UInt8 := enc (UInt64.ofNat s.length) ++ s
theorem good_text (m : Nat) (s : List UInt8) (hs : s.length ≤ m) (hm : m < 2 ^ 63) : RdOf (rText m) (encT s) s := by
  have e : (UInt64.ofNat s.length).toNat = s.length := by rw [UInt64.toNat_ofNat']; omega
  unfold encT
  refine ⟨fun rest => ?_, fun k hk => ?_⟩
  · unfold rText
    rw [if_pos rfl, List.append_assoc]
    simp only [dec_enc64, if_true, e]
    rw [if_neg (by omega), if_neg (by simp)]
    simp
  · unfold rText
    rw [if_pos rfl]
    by_cases h : k < (enc (UInt64.ofNat s.length)).length
    · have : dec 0 ((enc (UInt64.ofNat s.length) ++ s).take k) = (3, 0, []) := by
        rw [List.take_append_of_le_length (by omega)]
        exact dec_cut 9 _ 0 k (toNat_lt128 _) (by have := UInt64.toNat_lt (UInt64.ofNat s.length); simpa using this) h
      simp only [this]; rw [if_neg (by decide)]
    · have e2 : (enc (UInt64.ofNat s.length) ++ s).take k = enc (UInt64.ofNat s.length) ++ s.take (k - (enc (UInt64.ofNat s.length)).length) := by
        rw [List.take_append, List.take_of_length_le (by omega)]
      rw [e2]
      simp only [dec_enc64, if_true, e]
      rw [if_neg (by omega), if_pos (by simp at hk ⊢; omega)]
theorem good_count (m v : UInt64) (h : ¬ m < v) : RdOf (rCount m) (enc v) v := by
  have := good_bind (f := fun v => if m < v then rbind (rFail 6) fun _ => rret 0 else rret v) (good_uint v) (w' := []) (v' := v) (by rw [if_neg h]; exact good_ret v)
    (fun _ => stick_if (stick_bind (stick_fail _) fun _ => stick_ret _) (stick_ret _))
  rwa [List.append_nil] at this
theorem good_int (x : Int64) : RdOf rInt (enc (zig x)) x := by
  have := good_bind (f := fun v => rret (unzig v)) (good_uint (zig x)) (w' := []) (v' := x) (by unfold unzig; rw [zag]; exact good_ret x) (fun _ => stick_ret _)
  rwa [List.append_nil] at this
theorem good_bool (b : Bool) : RdOf rBool [if b then 1 else 0] b := by
  have := good_bind (f := fun v => if 1 < v then rbind (rFail 2) fun _ => rret (decide (v = 1)) else rret (decide (v = 1))) (good_byte (if b then 1 else 0)) (w' := []) (v' := b)
    (by cases b <;> exact good_ret _) (fun _ => stick_if (stick_bind (stick_fail _) fun _ => stick_ret _) (stick_ret _))
  rwa [List.append_nil] at this

/-! What was taken without an error was put so. -/
theorem bind_ok {r : Rd α} {f : α → Rd β} (hs : ∀ x, Stick (f x)) {b : List UInt8} {v : β} {rest : List UInt8} (h : rbind r f (b, 0) = (v, (rest, 0))) :
    ∃ v1 r1, r (b, 0) = (v1, (r1, 0)) ∧ f v1 (r1, 0) = (v, (rest, 0)) := by
  have h : f (r (b, 0)).1 (r (b, 0)).2 = (v, (rest, 0)) := h
  rcases hr : r (b, 0) with ⟨v1, r1, e1⟩
  rw [hr] at h
  by_cases he : e1 = 0
  · subst he; exact ⟨v1, r1, rfl, h⟩
  · have := hs v1 (r1, e1) he
    rw [h] at this
    exact absurd (congrArg Prod.snd this).symm he
theorem back_byte {b : List UInt8} {c : UInt8} {rest : List UInt8} (h : rByte (b, 0) = (c, (rest, 0))) : b = c :: rest := by
  unfold rByte at h
  rw [if_pos rfl] at h
  split at h
  · simp only [Prod.mk.injEq] at h; exact absurd h.2.2 (by decide)
  · rename_i c' r' e
    simp only [Prod.mk.injEq] at h
    obtain ⟨rfl, rfl, _⟩ := h
    exact e
theorem back_uint {b : List UInt8} {v : UInt64} {rest : List UInt8} (h : rUint (b, 0) = (v, (rest, 0))) : b = enc v ++ rest := by
  unfold rUint at h
  rw [if_pos rfl] at h
  by_cases h0 : (dec 0 b).1 = 0
  · rw [if_pos h0] at h
    simp only [Prod.mk.injEq] at h
    obtain ⟨rfl, rfl, _⟩ := h
    exact (dec_enc_back b h0).2
  · rw [if_neg h0] at h
    simp only [Prod.mk.injEq] at h
    exact absurd h.2.2 h0
theorem back_text {m : Nat} {b s rest : List UInt8} (h : rText m (b, 0) = (s, (rest, 0))) : b = encT s ++ rest ∧ s.length ≤ m := by
  unfold rText at h
  rw [if_pos rfl] at h
  by_cases h0 : (dec 0 b).1 = 0
  · rw [if_pos h0] at h
    obtain ⟨g1, g2⟩ := dec_enc_back b h0
    by_cases h1 : m < (dec 0 b).2.1
    · rw [if_pos h1] at h
      simp only [Prod.mk.injEq] at h; exact absurd h.2.2 (by decide)
    · rw [if_neg h1] at h
      by_cases h2 : (dec 0 b).2.2.length < (dec 0 b).2.1
      · rw [if_pos h2] at h
        simp only [Prod.mk.injEq] at h; exact absurd h.2.2 (by decide)
      · rw [if_neg h2] at h
        simp only [Prod.mk.injEq] at h
        obtain ⟨rfl, rfl, _⟩ := h
        refine ⟨?_, by rw [List.length_take]; omega⟩
        unfold encT
        rw [List.length_take, Nat.min_eq_left (by omega), List.append_assoc, List.take_append_drop]
        exact g2
  · rw [if_neg h0] at h
    simp only [Prod.mk.injEq] at h
    exact absurd h.2.2 h0
theorem back_count {m : UInt64} {b : List UInt8} {v : UInt64} {rest : List UInt8} (h : rCount m (b, 0) = (v, (rest, 0))) : b = enc v ++ rest ∧ ¬ m < v := by
  obtain ⟨v1, r1, h1, h2⟩ := bind_ok (fun _ => stick_if (stick_bind (stick_fail _) fun _ => stick_ret _) (stick_ret _)) h
  have := back_uint h1
  by_cases hm : m < v1
  · rw [if_pos hm] at h2
    have h2 : ((0 : UInt64), (r1, (6 : Int64))) = (v, (rest, 0)) := h2
    simp only [Prod.mk.injEq] at h2; exact absurd h2.2.2 (by decide)
  · rw [if_neg hm] at h2
    have h2 : (v1, (r1, (0 : Int64))) = (v, (rest, 0)) := h2
    simp only [Prod.mk.injEq] at h2
    obtain ⟨rfl, rfl, _⟩ := h2
    exact ⟨this, hm⟩
theorem zig_onto (u : UInt64) : ∃ x, zig x = u := by
  have hu := UInt64.toNat_lt u
  by_cases h : u.toNat % 2 = 0
  · have e : (Int64.ofInt (u.toNat / 2 : Nat)).toInt = (u.toNat / 2 : Nat) := Int64.toInt_ofInt_of_le (by omega) (by omega)
    refine ⟨Int64.ofInt (u.toNat / 2 : Nat), UInt64.toNat.inj ?_⟩
    have := zig_toNat (Int64.ofInt (u.toNat / 2 : Nat))
    rw [e, if_neg (by omega)] at this
    omega
  · have e : (Int64.ofInt (-((u.toNat / 2 : Nat) + 1 : Int))).toInt = -((u.toNat / 2 : Nat) + 1 : Int) := Int64.toInt_ofInt_of_le (by omega) (by omega)
    refine ⟨Int64.ofInt (-((u.toNat / 2 : Nat) + 1 : Int)), UInt64.toNat.inj ?_⟩
    have := zig_toNat (Int64.ofInt (-((u.toNat / 2 : Nat) + 1 : Int)))
    rw [e, if_pos (by omega)] at this
    omega
theorem zig_unzig (u : UInt64) : zig (unzig u) = u := by
  obtain ⟨x, rfl⟩ := zig_onto u
  unfold unzig
  rw [zag]
theorem back_int {b : List UInt8} {x : Int64} {rest : List UInt8} (h : rInt (b, 0) = (x, (rest, 0))) : b = enc (zig x) ++ rest := by
  obtain ⟨v1, r1, h1, h2⟩ := bind_ok (fun _ => stick_ret _) h
  have := back_uint h1
  have h2 : (unzig v1, (r1, (0 : Int64))) = (x, (rest, 0)) := h2
  simp only [Prod.mk.injEq] at h2
  obtain ⟨rfl, rfl, _⟩ := h2
  rw [zig_unzig]; exact this
theorem back_bool {b : List UInt8} {x : Bool} {rest : List UInt8} (h : rBool (b, 0) = (x, (rest, 0))) : b = (if x then 1 else 0) :: rest := by
  obtain ⟨v1, r1, h1, h2⟩ := bind_ok (fun _ => stick_if (stick_bind (stick_fail _) fun _ => stick_ret _) (stick_ret _)) h
  have hb := back_byte h1
  by_cases hm : 1 < v1
  · rw [if_pos hm] at h2
    have h2 : (decide (v1 = 1), (r1, (2 : Int64))) = (x, (rest, 0)) := h2
    simp only [Prod.mk.injEq] at h2; exact absurd h2.2.2 (by decide)
  · rw [if_neg hm] at h2
    have h2 : (decide (v1 = 1), (r1, (0 : Int64))) = (x, (rest, 0)) := h2
    simp only [Prod.mk.injEq] at h2
    obtain ⟨rfl, rfl, _⟩ := h2
    rw [hb]
    congr 1
    have : v1.toNat ≤ 1 := by
      have := mt (UInt8.lt_iff_toNat_lt (a := 1) (b := v1)).2 hm
      have e : (1 : UInt8).toNat = 1 := rfl
      omega
    by_cases h1 : v1 = 1
    · subst h1; rfl
    · rw [dec_f h1]
      apply UInt8.toNat.inj
      have : v1.toNat ≠ 1 := fun q => h1 (UInt8.toNat.inj q)
      show v1.toNat = 0
      omega
end
end Go.Sx
