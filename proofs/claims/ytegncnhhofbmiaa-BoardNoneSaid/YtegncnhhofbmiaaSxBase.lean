/- A walk of Go code by plain functions is sound. -/
import Derived.Orders
namespace Go.Sx

/-! Machine integers of each kind, as Lean's own fixed-width types. -/
@[reducible] def IK : IntKind → Type
  | .i8 => Int8 | .i16 => Int16 | .i32 => Int32 | .i64 => Int64
  | .u8 => UInt8 | .u16 => UInt16 | .u32 => UInt32 | .u64 => UInt64

def IK.toInt : (k : IntKind) → IK k → Int
  | .i8, x => Int8.toInt x | .i16, x => Int16.toInt x | .i32, x => Int32.toInt x | .i64, x => Int64.toInt x
  | .u8, x => (UInt8.toNat x : Int) | .u16, x => (UInt16.toNat x : Int) | .u32, x => (UInt32.toNat x : Int) | .u64, x => (UInt64.toNat x : Int)

def IK.ofInt : (k : IntKind) → Int → IK k
  | .i8, n => Int8.ofInt n | .i16, n => Int16.ofInt n | .i32, n => Int32.ofInt n | .i64, n => Int64.ofInt n
  | .u8, n => UInt8.ofInt n | .u16, n => UInt16.ofInt n | .u32, n => UInt32.ofInt n | .u64, n => UInt64.ofInt n

theorem wrap_eq (k : IntKind) (n : Int) : k.wrap n = if k.signed then n.bmod (2 ^ k.bits) else n % (2 ^ k.bits : Int) := by
  cases k <;> simp only [IntKind.wrap, IntKind.signed, IntKind.bits, Int.bmod_def] <;> simp <;> grind

theorem u8_ofInt (n : Int) : ((UInt8.ofInt n).toNat : Int) = n % 256 := by
  simp [UInt8.ofInt]; omega
theorem u16_ofInt (n : Int) : ((UInt16.ofInt n).toNat : Int) = n % 65536 := by
  simp [UInt16.ofInt]; omega
theorem u32_ofInt (n : Int) : ((UInt32.ofInt n).toNat : Int) = n % 4294967296 := by
  simp [UInt32.ofInt]; omega
theorem u64_ofInt (n : Int) : ((UInt64.ofInt n).toNat : Int) = n % 18446744073709551616 := by
  simp [UInt64.ofInt]; omega

theorem IK.toInt_ofInt (k : IntKind) (n : Int) : IK.toInt k (IK.ofInt k n) = k.wrap n := by
  rw [wrap_eq]
  cases k <;> simp [IK.toInt, IK.ofInt, IntKind.signed, IntKind.bits, u8_ofInt, u16_ofInt, u32_ofInt, u64_ofInt]

theorem IK.toInt_range (k : IntKind) (x : IK k) : k.min ≤ IK.toInt k x ∧ IK.toInt k x ≤ k.max := by
  cases k <;> simp only [IK.toInt, IntKind.min, IntKind.max, IntKind.signed, IntKind.bits]
  case i8 => have := Int8.le_toInt x; have := Int8.toInt_lt x; simp at *; omega
  case i16 => have := Int16.le_toInt x; have := Int16.toInt_lt x; simp at *; omega
  case i32 => have := Int32.le_toInt x; have := Int32.toInt_lt x; simp at *; omega
  case i64 => have := Int64.le_toInt x; have := Int64.toInt_lt x; simp at *; omega
  case u8 => have := UInt8.toNat_lt x; simp at *; omega
  case u16 => have := UInt16.toNat_lt x; simp at *; omega
  case u32 => have := UInt32.toNat_lt x; simp at *; omega
  case u64 => have := UInt64.toNat_lt x; simp at *; omega

theorem wrap_id (k : IntKind) (n : Int) (h : k.min ≤ n ∧ n ≤ k.max) : k.wrap n = n := by
  cases k <;> simp only [IntKind.min, IntKind.max, IntKind.signed, IntKind.bits, IntKind.wrap] at * <;> simp at * <;> (try split) <;> omega

theorem IK.ofInt_toInt (k : IntKind) (x : IK k) : IK.ofInt k (IK.toInt k x) = x := by
  cases k <;> simp [IK.toInt, IK.ofInt]
  case u8 => apply UInt8.toNat.inj; have := u8_ofInt (x.toNat : Int); have := UInt8.toNat_lt x; omega
  case u16 => apply UInt16.toNat.inj; have := u16_ofInt (x.toNat : Int); have := UInt16.toNat_lt x; omega
  case u32 => apply UInt32.toNat.inj; have := u32_ofInt (x.toNat : Int); have := UInt32.toNat_lt x; omega
  case u64 => apply UInt64.toNat.inj; have := u64_ofInt (x.toNat : Int); have := UInt64.toNat_lt x; omega

theorem IK.toInt_inj {k : IntKind} {x y : IK k} (h : IK.toInt k x = IK.toInt k y) : x = y := by
  rw [← IK.ofInt_toInt k x, ← IK.ofInt_toInt k y, h]

/-! Arithmetic, natively. -/
def IK.add : (k : IntKind) → IK k → IK k → IK k
  | .i8, x, y => (x + y : Int8) | .i16, x, y => (x + y : Int16) | .i32, x, y => (x + y : Int32) | .i64, x, y => (x + y : Int64)
  | .u8, x, y => (x + y : UInt8) | .u16, x, y => (x + y : UInt16) | .u32, x, y => (x + y : UInt32) | .u64, x, y => (x + y : UInt64)
def IK.sub : (k : IntKind) → IK k → IK k → IK k
  | .i8, x, y => (x - y : Int8) | .i16, x, y => (x - y : Int16) | .i32, x, y => (x - y : Int32) | .i64, x, y => (x - y : Int64)
  | .u8, x, y => (x - y : UInt8) | .u16, x, y => (x - y : UInt16) | .u32, x, y => (x - y : UInt32) | .u64, x, y => (x - y : UInt64)
def IK.mul : (k : IntKind) → IK k → IK k → IK k
  | .i8, x, y => (x * y : Int8) | .i16, x, y => (x * y : Int16) | .i32, x, y => (x * y : Int32) | .i64, x, y => (x * y : Int64)
  | .u8, x, y => (x * y : UInt8) | .u16, x, y => (x * y : UInt16) | .u32, x, y => (x * y : UInt32) | .u64, x, y => (x * y : UInt64)
def IK.quo : (k : IntKind) → IK k → IK k → IK k
  | .i8, x, y => (x / y : Int8) | .i16, x, y => (x / y : Int16) | .i32, x, y => (x / y : Int32) | .i64, x, y => (x / y : Int64)
  | .u8, x, y => (x / y : UInt8) | .u16, x, y => (x / y : UInt16) | .u32, x, y => (x / y : UInt32) | .u64, x, y => (x / y : UInt64)
def IK.rem : (k : IntKind) → IK k → IK k → IK k
  | .i8, x, y => (x % y : Int8) | .i16, x, y => (x % y : Int16) | .i32, x, y => (x % y : Int32) | .i64, x, y => (x % y : Int64)
  | .u8, x, y => (x % y : UInt8) | .u16, x, y => (x % y : UInt16) | .u32, x, y => (x % y : UInt32) | .u64, x, y => (x % y : UInt64)
def IK.and : (k : IntKind) → IK k → IK k → IK k
  | .i8, x, y => (x &&& y : Int8) | .i16, x, y => (x &&& y : Int16) | .i32, x, y => (x &&& y : Int32) | .i64, x, y => (x &&& y : Int64)
  | .u8, x, y => (x &&& y : UInt8) | .u16, x, y => (x &&& y : UInt16) | .u32, x, y => (x &&& y : UInt32) | .u64, x, y => (x &&& y : UInt64)
def IK.or : (k : IntKind) → IK k → IK k → IK k
  | .i8, x, y => (x ||| y : Int8) | .i16, x, y => (x ||| y : Int16) | .i32, x, y => (x ||| y : Int32) | .i64, x, y => (x ||| y : Int64)
  | .u8, x, y => (x ||| y : UInt8) | .u16, x, y => (x ||| y : UInt16) | .u32, x, y => (x ||| y : UInt32) | .u64, x, y => (x ||| y : UInt64)
def IK.xor : (k : IntKind) → IK k → IK k → IK k
  | .i8, x, y => (x ^^^ y : Int8) | .i16, x, y => (x ^^^ y : Int16) | .i32, x, y => (x ^^^ y : Int32) | .i64, x, y => (x ^^^ y : Int64)
  | .u8, x, y => (x ^^^ y : UInt8) | .u16, x, y => (x ^^^ y : UInt16) | .u32, x, y => (x ^^^ y : UInt32) | .u64, x, y => (x ^^^ y : UInt64)
def IK.eqb : (k : IntKind) → IK k → IK k → Bool
  | .i8, x, y => decide ((x : Int8) = y) | .i16, x, y => decide ((x : Int16) = y) | .i32, x, y => decide ((x : Int32) = y) | .i64, x, y => decide ((x : Int64) = y)
  | .u8, x, y => decide ((x : UInt8) = y) | .u16, x, y => decide ((x : UInt16) = y) | .u32, x, y => decide ((x : UInt32) = y) | .u64, x, y => decide ((x : UInt64) = y)
def IK.ltb : (k : IntKind) → IK k → IK k → Bool
  | .i8, x, y => decide ((x : Int8) < y) | .i16, x, y => decide ((x : Int16) < y) | .i32, x, y => decide ((x : Int32) < y) | .i64, x, y => decide ((x : Int64) < y)
  | .u8, x, y => decide ((x : UInt8) < y) | .u16, x, y => decide ((x : UInt16) < y) | .u32, x, y => decide ((x : UInt32) < y) | .u64, x, y => decide ((x : UInt64) < y)
def IK.leb : (k : IntKind) → IK k → IK k → Bool
  | .i8, x, y => decide ((x : Int8) ≤ y) | .i16, x, y => decide ((x : Int16) ≤ y) | .i32, x, y => decide ((x : Int32) ≤ y) | .i64, x, y => decide ((x : Int64) ≤ y)
  | .u8, x, y => decide ((x : UInt8) ≤ y) | .u16, x, y => decide ((x : UInt16) ≤ y) | .u32, x, y => decide ((x : UInt32) ≤ y) | .u64, x, y => decide ((x : UInt64) ≤ y)

theorem wrap_mod (k : IntKind) (n : Int) : k.wrap (n % 2 ^ k.bits) = k.wrap n := by
  cases k <;> simp [IntKind.wrap, IntKind.bits]

theorem IK.add_toInt (k : IntKind) (x y : IK k) : IK.toInt k (IK.add k x y) = k.wrap (IK.toInt k x + IK.toInt k y) := by
  rw [wrap_eq]; cases k <;> simp [IK.toInt, IK.add, IntKind.signed, IntKind.bits, UInt8.toNat_add, UInt16.toNat_add, UInt32.toNat_add, UInt64.toNat_add]
theorem IK.sub_toInt (k : IntKind) (x y : IK k) : IK.toInt k (IK.sub k x y) = k.wrap (IK.toInt k x - IK.toInt k y) := by
  rw [wrap_eq]; cases k <;> simp [IK.toInt, IK.sub, IntKind.signed, IntKind.bits, UInt8.toNat_sub, UInt16.toNat_sub, UInt32.toNat_sub, UInt64.toNat_sub]
  case u8 => have := UInt8.toNat_lt x; have := UInt8.toNat_lt y; omega
  case u16 => have := UInt16.toNat_lt x; have := UInt16.toNat_lt y; omega
  case u32 => have := UInt32.toNat_lt x; have := UInt32.toNat_lt y; omega
  case u64 => have := UInt64.toNat_lt x; have := UInt64.toNat_lt y; omega
theorem IK.mul_toInt (k : IntKind) (x y : IK k) : IK.toInt k (IK.mul k x y) = k.wrap (IK.toInt k x * IK.toInt k y) := by
  rw [wrap_eq]; cases k <;> simp [IK.toInt, IK.mul, IntKind.signed, IntKind.bits, UInt8.toNat_mul, UInt16.toNat_mul, UInt32.toNat_mul, UInt64.toNat_mul]
theorem div_mod_lt (a b m : Nat) (h : a < m) : (a : Int) / (b : Int) = (a : Int) / (b : Int) % (m : Int) := by
  have h2 := Nat.div_le_self a b
  have h3 : (a / b) % m = a / b := Nat.mod_eq_of_lt (by omega)
  have h4 : ((a / b : Nat) : Int) % (m : Int) = ((a / b : Nat) : Int) := by rw [← Int.natCast_emod, h3]
  rw [Int.natCast_ediv] at h4; exact h4.symm
theorem IK.quo_toInt (k : IntKind) (x y : IK k) : IK.toInt k (IK.quo k x y) = k.wrap ((IK.toInt k x).tdiv (IK.toInt k y)) := by
  rw [wrap_eq]; cases k <;> simp only [IK.toInt, IK.quo, IntKind.signed, IntKind.bits, Int8.toInt_div, Int16.toInt_div, Int32.toInt_div, Int64.toInt_div, if_true] <;> simp
  case u8 => have h := UInt8.toNat_lt x; have h2 := Nat.div_le_self (UInt8.toNat x) (UInt8.toNat y); exact div_mod_lt _ _ 256 (by simpa using h)
  case u16 => have h := UInt16.toNat_lt x; have h2 := Nat.div_le_self (UInt16.toNat x) (UInt16.toNat y); exact div_mod_lt _ _ 65536 (by simpa using h)
  case u32 => have h := UInt32.toNat_lt x; have h2 := Nat.div_le_self (UInt32.toNat x) (UInt32.toNat y); exact div_mod_lt _ _ 4294967296 (by simpa using h)
  case u64 => have h := UInt64.toNat_lt x; have h2 := Nat.div_le_self (UInt64.toNat x) (UInt64.toNat y); exact div_mod_lt _ _ 18446744073709551616 (by simpa using h)
theorem IK.rem_toInt (k : IntKind) (x y : IK k) : IK.toInt k (IK.rem k x y) = (IK.toInt k x).tmod (IK.toInt k y) := by
  cases k <;> simp [IK.toInt, IK.rem, Int8.toInt_mod, Int16.toInt_mod, Int32.toInt_mod, Int64.toInt_mod]
  all_goals exact (Int.tmod_eq_emod_of_nonneg (by omega)).symm
theorem IK.eqb_eq (k : IntKind) (x y : IK k) : IK.eqb k x y = (IK.toInt k x == IK.toInt k y) := by
  have h : IK.eqb k x y = true ↔ x = y := by cases k <;> exact decide_eq_true_iff
  rw [Bool.eq_iff_iff, h]; simp
  exact ⟨fun e => e ▸ rfl, IK.toInt_inj⟩
theorem IK.ltb_eq (k : IntKind) (x y : IK k) : IK.ltb k x y = decide (IK.toInt k x < IK.toInt k y) := by
  cases k <;> simp [IK.toInt, IK.ltb, Int8.lt_iff_toInt_lt, Int16.lt_iff_toInt_lt, Int32.lt_iff_toInt_lt, Int64.lt_iff_toInt_lt, UInt8.lt_iff_toNat_lt, UInt16.lt_iff_toNat_lt, UInt32.lt_iff_toNat_lt, UInt64.lt_iff_toNat_lt] <;> rfl
theorem IK.leb_eq (k : IntKind) (x y : IK k) : IK.leb k x y = decide (IK.toInt k x ≤ IK.toInt k y) := by
  cases k <;> simp [IK.toInt, IK.leb, Int8.le_iff_toInt_le, Int16.le_iff_toInt_le, Int32.le_iff_toInt_le, Int64.le_iff_toInt_le, UInt8.le_iff_toNat_le, UInt16.le_iff_toNat_le, UInt32.le_iff_toNat_le, UInt64.le_iff_toNat_le] <;> rfl

theorem IK.toBV (k : IntKind) (x : IK k) : BitVec.ofInt k.bits (IK.toInt k x) = (match k, x with
    | .i8, x => Int8.toBitVec x | .i16, x => Int16.toBitVec x | .i32, x => Int32.toBitVec x | .i64, x => Int64.toBitVec x
    | .u8, x => UInt8.toBitVec x | .u16, x => UInt16.toBitVec x | .u32, x => UInt32.toBitVec x | .u64, x => UInt64.toBitVec x) := by
  cases k <;> simp only [IK.toInt, IntKind.bits]
  case i8 => exact BitVec.ofInt_toInt
  case i16 => exact BitVec.ofInt_toInt
  case i32 => exact BitVec.ofInt_toInt
  case i64 => exact BitVec.ofInt_toInt
  case u8 => apply BitVec.eq_of_toNat_eq; have := UInt8.toNat_lt x; simp
  case u16 => apply BitVec.eq_of_toNat_eq; have := UInt16.toNat_lt x; simp
  case u32 => apply BitVec.eq_of_toNat_eq; have := UInt32.toNat_lt x; simp
  case u64 => apply BitVec.eq_of_toNat_eq; have := UInt64.toNat_lt x; simp

theorem bv_wrap_s (n : Nat) (b : BitVec n) : (b.toNat : Int).bmod (2 ^ n) = b.toInt := by
  rw [BitVec.toInt_eq_toNat_bmod]
theorem bv_wrap_u (n : Nat) (b : BitVec n) : (b.toNat : Int) % (2 ^ n : Int) = b.toNat := by
  have := b.isLt; exact_mod_cast Nat.mod_eq_of_lt this

theorem IK.and_toInt (k : IntKind) (x y : IK k) : IK.toInt k (IK.and k x y) = k.wrap (BitVec.ofInt k.bits (IK.toInt k x) &&& BitVec.ofInt k.bits (IK.toInt k y)).toNat := by
  rw [IK.toBV, IK.toBV, wrap_eq]
  cases k <;> simp only [IntKind.signed, IntKind.bits, if_true, Bool.false_eq_true, if_false, IK.toInt, IK.and, bv_wrap_s]
  case i8 => rfl
  case i16 => rfl
  case i32 => rfl
  case i64 => rfl
  all_goals rw [bv_wrap_u]; rfl
theorem IK.or_toInt (k : IntKind) (x y : IK k) : IK.toInt k (IK.or k x y) = k.wrap (BitVec.ofInt k.bits (IK.toInt k x) ||| BitVec.ofInt k.bits (IK.toInt k y)).toNat := by
  rw [IK.toBV, IK.toBV, wrap_eq]
  cases k <;> simp only [IntKind.signed, IntKind.bits, if_true, Bool.false_eq_true, if_false, IK.toInt, IK.or, bv_wrap_s]
  case i8 => rfl
  case i16 => rfl
  case i32 => rfl
  case i64 => rfl
  all_goals rw [bv_wrap_u]; rfl
theorem IK.xor_toInt (k : IntKind) (x y : IK k) : IK.toInt k (IK.xor k x y) = k.wrap (BitVec.ofInt k.bits (IK.toInt k x) ^^^ BitVec.ofInt k.bits (IK.toInt k y)).toNat := by
  rw [IK.toBV, IK.toBV, wrap_eq]
  cases k <;> simp only [IntKind.signed, IntKind.bits, if_true, Bool.false_eq_true, if_false, IK.toInt, IK.xor, bv_wrap_s]
  case i8 => rfl
  case i16 => rfl
  case i32 => rfl
  case i64 => rfl
  all_goals rw [bv_wrap_u]; rfl

/-- a &^ b -/
def IK.andNot (k : IntKind) (x y : IK k) : IK k := IK.ofInt k (BitVec.ofInt k.bits (IK.toInt k x) &&& ~~~BitVec.ofInt k.bits (IK.toInt k y)).toNat
def IK.shl (k : IntKind) (x : IK k) (n : Int) : IK k := IK.ofInt k (IK.toInt k x * 2 ^ (min n.toNat k.bits))
def IK.shr (k : IntKind) (x : IK k) (n : Int) : IK k := IK.ofInt k ((IK.toInt k x).fdiv (2 ^ (min n.toNat k.bits)))
def IK.neg (k : IntKind) (x : IK k) : IK k := IK.sub k (IK.ofInt k 0) x
/-- ^x -/
def IK.com (k : IntKind) (x : IK k) : IK k := IK.ofInt k (BitVec.ofInt k.bits (if k.signed then -1 else k.max) ^^^ BitVec.ofInt k.bits (IK.toInt k x)).toNat
def IK.conv (k k' : IntKind) (x : IK k) : IK k' := IK.ofInt k' (IK.toInt k x)

theorem IK.andNot_toInt (k : IntKind) (x y : IK k) : IK.toInt k (IK.andNot k x y) = k.wrap (BitVec.ofInt k.bits (IK.toInt k x) &&& ~~~BitVec.ofInt k.bits (IK.toInt k y)).toNat :=
  IK.toInt_ofInt _ _
theorem IK.shl_toInt (k : IntKind) (x : IK k) (n : Int) : IK.toInt k (IK.shl k x n) = k.wrap (IK.toInt k x * 2 ^ (min n.toNat k.bits)) := IK.toInt_ofInt _ _
theorem IK.neg_toInt (k : IntKind) (x : IK k) : IK.toInt k (IK.neg k x) = k.wrap (0 - IK.toInt k x) := by
  unfold IK.neg; rw [IK.sub_toInt, IK.toInt_ofInt]; cases k <;> simp [IntKind.wrap, IntKind.signed, IntKind.bits]
theorem IK.com_toInt (k : IntKind) (x : IK k) : IK.toInt k (IK.com k x) = k.wrap (BitVec.ofInt k.bits (if k.signed then -1 else k.max) ^^^ BitVec.ofInt k.bits (IK.toInt k x)).toNat := IK.toInt_ofInt _ _
theorem IK.conv_toInt (k k' : IntKind) (x : IK k) : IK.toInt k' (IK.conv k k' x) = k'.wrap (IK.toInt k x) := IK.toInt_ofInt _ _
theorem fdiv_range (k : IntKind) (x : Int) (n : Nat) (h : k.min ≤ x ∧ x ≤ k.max) : k.min ≤ x.fdiv (2 ^ n) ∧ x.fdiv (2 ^ n) ≤ k.max := by
  have hp : (0 : Int) < 2 ^ n := Int.pow_pos (by decide)
  have hd : x.fdiv (2 ^ n) = x / 2 ^ n := Int.fdiv_eq_ediv_of_nonneg _ (by omega)
  rw [hd]
  by_cases hx : 0 ≤ x
  · have h1 : 0 ≤ x / 2 ^ n := Int.ediv_nonneg hx (by omega)
    have h2 : x / 2 ^ n ≤ x := Int.ediv_le_self _ hx
    have h3 : k.min ≤ 0 := by cases k <;> simp [IntKind.min, IntKind.signed, IntKind.bits]
    omega
  · have h1 : x / 2 ^ n < 0 := Int.ediv_neg_of_neg_of_pos (by omega) hp
    have h2 : x ≤ x / 2 ^ n := by
      have := Int.le_ediv_of_mul_le (a := x) (b := x) hp (by
        have : x * 2 ^ n ≤ x * 1 := Int.mul_le_mul_of_nonpos_left (by omega) (by omega)
        omega)
      exact this
    have h3 : 0 ≤ k.max := by cases k <;> simp [IntKind.max, IntKind.signed, IntKind.bits]
    omega
theorem IK.shr_toInt (k : IntKind) (x : IK k) (n : Int) : IK.toInt k (IK.shr k x n) = (IK.toInt k x).fdiv (2 ^ (min n.toNat k.bits)) := by
  unfold IK.shr; rw [IK.toInt_ofInt]; exact wrap_id k _ (fdiv_range k _ _ (IK.toInt_range k x))
end Go.Sx
