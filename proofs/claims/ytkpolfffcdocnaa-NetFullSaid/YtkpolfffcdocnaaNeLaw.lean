/- A nil net; places that there aren't; as many packets as may be. -/
import Derived.Test.YtkpolfffcdocnaaNeFns1
import Derived.Test.YtkpolfffcdocnaaSxPlain
open Go Go.Sx
namespace Go.Proofs.Ytkpolfffcdocnaa
abbrev Net := List (UInt8 × UInt8 × List UInt8 × Bool) × List ((UInt8 × UInt8) × Bool) × Int64 × Int64 × Int64
theorem awake (n : Nat) : F7 n () = some (true, ()) := by kernel_rfl
def Bare0 (m : Option Net) : Prop := m = none ∨ m = some ([], [], 0, 0, 0)
theorem has_none (n : Nat) (m : Option Net) (h : Bare0 m) (i : Int64) : F23 n (m, i) = some (false, m) := by
  unfold F23
  dsimp only
  by_cases h0 : (0 : Int64) ≤ i
  · rw [dec_t h0, oite_t]
    have hf : ¬ i < (0 : Int64) := by rw [Int64.lt_iff_toInt_lt]; rw [Int64.le_iff_toInt_le] at h0; omega
    rcases h with rfl | rfl
    · show some (decide (i < 0), none) = _
      rw [dec_f hf]
    · show some (decide (i < 0), _) = _
      rw [dec_f hf]
  · rw [dec_f h0]; rfl
section
variable (n : Nat) (m : Option Net) (h : Bare0 m) (i bit : Int64)
include h
theorem peek_none : F12 n (m, i) = some (((0, 0, []), false), m) := by
  unfold F12; dsimp only; rw [has_none n m h]; rfl
theorem deliver_none : F14 n (m, i) = some (((0, 0, []), false), m) := by
  unfold F14; dsimp only; rw [has_none n m h]; rfl
theorem drop_none : F16 n (m, i) = some (false, m) := by
  unfold F16; dsimp only; rw [has_none n m h]; rfl
theorem double_none : F10 n (m, i) = some (false, m) := by
  unfold F10; dsimp only; rw [peek_none n m h]; rfl
theorem spoil_none : F13 n (m, i, bit) = some (false, m) := by
  unfold F13; dsimp only; rw [peek_none n m h]; rfl
end
theorem none_some (n : Nat) (i bit : Int64) (a b : UInt8) : F6 n (i, bit, a, b) = some (true, ()) := by
  have hn : Bare0 none := .inl rfl
  have hs : Bare0 (some ([], [], 0, 0, 0)) := .inr rfl
  unfold F6
  dsimp only
  rw [awake]
  show obind (F12 n (none, i)) _ = _
  rw [peek_none n none hn, obind_s, deliver_none n none hn, obind_s]
  show obind (F14 n (some ([], [], 0, 0, 0), i)) _ = _
  rw [deliver_none n _ hs]
  show obind (F16 n (none, i)) _ = _
  rw [drop_none n none hn]
  show obind (F10 n (none, i)) _ = _
  rw [double_none n none hn]
  show obind (F13 n (none, i, bit)) _ = _
  rw [spoil_none n none hn]
  show obind (F16 n (some ([], [], 0, 0, 0), i)) _ = _
  rw [drop_none n _ hs]
  show obind (F10 n (some ([], [], 0, 0, 0), i)) _ = _
  rw [double_none n _ hs]
  show obind (F13 n (some ([], [], 0, 0, 0), i, bit)) _ = _
  rw [spoil_none n _ hs]
  rfl
theorem none_true : ∀ x : sig6.In, PTys.fits sig6.ps x → ∃ y, F6 200 x = some y ∧ PTys.hd (.one (.c .bool)) .nil y.1 = true := by
  rintro ⟨i, bit, a, b⟩ _
  exact ⟨(true, ()), none_some 200 i bit a b, rfl⟩

/-! ### As many as may be -/
def filled (b : UInt8) (i : Nat) : Option Net := some (List.replicate (min i 4096) (2, 3, [b], false), [], I64 i, 0, I64 (i - 4096))
theorem send_more (n : Nat) (b : UInt8) (i : Nat) (hi : i < 5000) : F9 n (filled b i, 2, 3, [b]) = some (if i < 4096 then 0 else 13, filled b (i + 1)) := by
  have hl : (List.replicate (min i 4096) ((2, 3, [b], false) : UInt8 × UInt8 × List UInt8 × Bool)).length = min i 4096 := by simp
  unfold F9 filled
  show oite (decide (Int64.ofInt ↑(List.replicate (min i 4096) ((2, 3, [b], false) : UInt8 × UInt8 × List UInt8 × Bool)).length = (4096 : Int64))) _ _ = _
  rw [hl]
  have e : decide (Int64.ofInt ↑(min i 4096) = (4096 : Int64)) = decide (min i 4096 = 4096) := decide_eq_decide.2 (i64_eq (a := min i 4096) (b := 4096) (by omega) (by omega))
  rw [e]
  by_cases h : i < 4096
  · rw [dec_f (by omega), oite_f, if_pos h]
    dsimp only
    rw [ble_t (by simp), oite_t, ble_t (by simp; omega), oite_t]
    have e1 : min i 4096 = i := by omega
    have e2 : min (i + 1) 4096 = i + 1 := by omega
    have e3 : i - 4096 = 0 := by omega
    have e4 : i + 1 - 4096 = 0 := Nat.sub_eq_zero_of_le h
    have e5 : List.replicate (i + 1) ((2, 3, [b], false) : UInt8 × UInt8 × List UInt8 × Bool) = List.replicate i (2, 3, [b], false) ++ [(2, 3, [b], false)] := List.replicate_succ'
    rw [e1, e2, e3, e4, e5, ← i64_succ i]
    rfl
  · rw [dec_t (by omega), oite_t, if_neg h]
    have e1 : min i 4096 = 4096 := by omega
    have e2 : min (i + 1) 4096 = 4096 := by omega
    have e4 : i + 1 - 4096 = (i - 4096) + 1 := by omega
    rw [e1, e2, e4, ← i64_succ i, ← i64_succ (i - 4096)]
abbrev Ent := UInt8 × UInt8 × List UInt8 × Bool
theorem len_some (n : Nat) (st : Net) : F11 n (some st) = some (I64 st.1.length, some st) := rfl
theorem has_zero (n : Nat) (v : Ent) (t : List Ent) (r : List ((UInt8 × UInt8) × Bool) × Int64 × Int64 × Int64) (h : t.length < 2 ^ 60) : F23 n (some (v :: t, r), 0) = some (true, some (v :: t, r)) := by
  show some (decide ((0 : Int64) < I64 (v :: t).length), some (v :: t, r)) = _
  have e : decide ((0 : Int64) < I64 (v :: t).length) = true := dec_t ((i64_lt (a := 0) (b := (v :: t).length) (by omega) (by simp; omega)).2 (by simp))
  rw [e]
theorem peek_zero (n : Nat) (a b : UInt8) (s : List UInt8) (c : Bool) (t : List Ent) (r : List ((UInt8 × UInt8) × Bool) × Int64 × Int64 × Int64) (h : t.length < 2 ^ 60) (hs : s.length ≤ 10) :
    F12 n (some ((a, b, s, c) :: t, r), 0) = some (((a, b, s), true), some ((a, b, s, c) :: t, r)) := by
  unfold F12
  dsimp only
  rw [has_zero n _ t r h]
  show oite (Nat.ble (0 + s.length) 4294967296) _ none = _
  rw [ble_t (by omega)]
  rfl
theorem double_zero (n : Nat) (a b : UInt8) (s : List UInt8) (c : Bool) (t : List Ent) (r : List ((UInt8 × UInt8) × Bool) × Int64 × Int64 × Int64) (h : t.length < 10000) (hs : s.length ≤ 10) :
    F10 n (some ((a, b, s, c) :: t, r), 0) = if t.length + 1 = 4096 then some (false, some ((a, b, s, c) :: t, r)) else some (true, some ((a, b, s, c) :: t ++ [(a, b, s, c)], r)) := by
  unfold F10
  dsimp only
  rw [peek_zero n a b s c t r (by omega) hs]
  show oite (decide (I64 (t.length + 1) = (4096 : Int64))) (some (false, some ((a, b, s, c) :: t, r))) (oite (Nat.ble (t.length + 1 + 1) 4294967296) (some (true, some ((a, b, s, c) :: t ++ [(a, b, s, c)], r))) none) = _
  have e : decide (I64 (t.length + 1) = (4096 : Int64)) = decide (t.length + 1 = 4096) := decide_eq_decide.2 (i64_eq (a := t.length + 1) (b := 4096) (by omega) (by omega))
  rw [e, ble_t (by omega)]
  by_cases h4 : t.length + 1 = 4096
  · rw [dec_t h4, if_pos h4]; rfl
  · rw [dec_f h4, if_neg h4]; rfl
theorem send_long (n : Nat) (st : Net) (L : List UInt8) (hL : L.length = 65537) : F9 n (some st, 1, 2, L) = some (4, some st) := by
  unfold F9
  show oite (decide ((65536 : Int64) < Int64.ofInt ↑(List.length L))) _ _ = _
  rw [hL, dec_t (by decide)]
  rfl
theorem full_end (n m : Nat) (b : UInt8) (many : Nat) (h1 : 4090 ≤ many) (h2 : many < 5000) : F3_R125 n (m + 1) b (I64 many) (I64 many) (I64 many) (filled b many) = some (true, ()) := by
  rw [F3_R125_s]
  unfold F3_L125
  rw [dec_f (Int64.lt_irrefl), oite_f]
  obtain ⟨q, hq⟩ : ∃ q, min many 4096 = q + 1 := ⟨min many 4096 - 1, by omega⟩
  have hf : filled b many = some ((2, 3, [b], false) :: List.replicate q (2, 3, [b], false), [], I64 many, 0, I64 (many - 4096)) := by
    unfold filled
    rw [hq, List.replicate_succ]
  have hmin : IK.minI IntKind.i64 (I64 many + (1 : Int64)) (4096 : Int64) = I64 (min (many + 1) 4096) := by
    unfold IK.minI
    have e : IK.ltb .i64 (4096 : Int64) (I64 many + 1) = decide (4096 < many + 1) := by
      show decide ((4096 : Int64) < I64 many + 1) = _
      rw [i64_succ, decide_eq_decide]; exact i64_lt (a := 4096) (b := many + 1) (by omega) (by omega)
    rw [e]
    by_cases h : 4096 < many + 1
    · rw [dec_t h, Nat.min_eq_right (by omega)]; rfl
    · rw [dec_f h, Nat.min_eq_left (by omega)]; exact i64_succ many
  have hge : decide ((4096 : Int64) ≤ I64 many) = decide (4096 ≤ many) := decide_eq_decide.2 (i64_le (a := 4096) (b := many) (by omega) (by omega))
  have hlong : (List.replicate (Int.toNat (Int64.toInt (65537 : Int64))) (0 : UInt8)).length = 65537 := by rw [List.length_replicate]; decide
  rw [hf, double_zero n 2 3 [b] false _ _ (by simp; omega) (by simp), List.length_replicate, hge, hmin]
  by_cases h4 : q + 1 = 4096
  · rw [if_pos h4, obind_s]
    dsimp only
    rw [dec_t (by omega : 4096 ≤ many), show (false == !true) = true from rfl, oite_t]
    rw [len_some, obind_s]
    have e : (((2, 3, [b], false) : Ent) :: List.replicate q (2, 3, [b], false)).length = min (many + 1) 4096 := by simp; omega
    dsimp only
    rw [e, dec_t rfl, oite_t, send_long n _ _ hlong]
    rfl
  · rw [if_neg h4, obind_s]
    dsimp only
    rw [dec_f (by omega : ¬ 4096 ≤ many), show (true == !false) = true from rfl, oite_t]
    rw [len_some, obind_s]
    have e : (((2, 3, [b], false) : Ent) :: List.replicate q (2, 3, [b], false) ++ [(2, 3, [b], false)]).length = min (many + 1) 4096 := by simp; omega
    dsimp only
    rw [e, dec_t rfl, oite_t, send_long n _ _ hlong]
    rfl
theorem full_loop (n : Nat) (b : UInt8) (many : Nat) (h1 : 4090 ≤ many) (h2 : many < 5000) : ∀ (m i : Nat), i ≤ many → many - i < m → F3_R125 n m b (I64 many) (I64 many) (I64 i) (filled b i) = some (true, ())
  | 0, i, _, h => by omega
  | m + 1, i, hi, h => by
    by_cases he : i = many
    · subst he; exact full_end n m b i h1 h2
    · have ih := full_loop n b many h1 h2 m (i + 1) (by omega) (by omega)
      rw [F3_R125_s]
      unfold F3_L125
      rw [dec_t ((i64_lt (a := i) (b := many) (by omega) (by omega)).2 (by omega)), oite_t, send_more n b i (by omega), obind_s, i64_succ]
      have e : decide (Int64.ofInt ↑i < (4096 : Int64)) = decide (i < 4096) := decide_eq_decide.2 (i64_lt (a := i) (b := 4096) (by omega) (by omega))
      dsimp only
      rw [show decide (I64 i < (4096 : Int64)) = decide (i < 4096) from e]
      by_cases h4 : i < 4096
      · rw [dec_t h4, if_pos h4]; exact ih
      · rw [dec_f h4, if_neg h4]; exact ih
theorem full_some (n : Nat) (hn : 5000 < n) (k b : UInt8) : F3 n (k, b) = some (true, ()) := by
  unfold F3
  dsimp only
  rw [awake]
  have hk : (k % 12).toNat = k.toNat % 12 := UInt8.toNat_mod k 12
  have e : (4090 : Int64) + Int64.ofInt ↑(UInt8.toNat (k % 12)) = I64 (4090 + k.toNat % 12) := by
    rw [hk]; exact i64_add 4090 (k.toNat % 12)
  show F3_R125 n n b ((4090 : Int64) + Int64.ofInt ↑(UInt8.toNat (k % 12))) ((4090 : Int64) + Int64.ofInt ↑(UInt8.toNat (k % 12))) 0 (some ([], [], 0, 0, 0)) = _
  rw [e]
  exact full_loop n b (4090 + k.toNat % 12) (by omega) (by omega) n 0 (by omega) (by omega)
theorem full_true : ∀ x : sig3.In, PTys.fits sig3.ps x → ∃ n y, F3 n x = some y ∧ PTys.hd (.one (.c .bool)) .nil y.1 = true := by
  rintro ⟨k, b⟩ _
  exact ⟨5001, (true, ()), full_some 5001 (by omega) k b, rfl⟩
end Go.Proofs.Ytkpolfffcdocnaa
