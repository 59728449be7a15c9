/- The law GroupOrder in plain Lean. -/
import Derived.Test.YtcfckkmiaeegpaaSmall
open Go Go.Sx
namespace Go.Proofs.Ytcfckkmiaeegpaa
def Ord3 {α : Type} (c : α → α → Int64) : Prop := ∀ a b, (c a b = -1 ∧ c b a = 1) ∨ (c a b = 1 ∧ c b a = -1) ∨ (c a b = 0 ∧ c b a = 0 ∧ a = b)
def or3 (x y : Int64) : Int64 := if x = 0 then y else x
theorem Ord3.both {α β : Type} {c : α → α → Int64} {d : β → β → Int64} (hc : Ord3 c) (hd : Ord3 d) : Ord3 fun (a b : α × β) => or3 (c a.1 b.1) (d a.2 b.2) := by
  rintro ⟨a, x⟩ ⟨b, y⟩
  simp only [or3]
  rcases hc a b with ⟨h1, h2⟩ | ⟨h1, h2⟩ | ⟨h1, h2, rfl⟩
  · rw [h1, h2]; exact .inl ⟨rfl, rfl⟩
  · rw [h1, h2]; exact .inr (.inl ⟨rfl, rfl⟩)
  · rw [h1]
    rcases hd x y with ⟨k1, k2⟩ | ⟨k1, k2⟩ | ⟨k1, k2, rfl⟩
    · exact .inl ⟨k1, k2⟩
    · exact .inr (.inl ⟨k1, k2⟩)
    · exact .inr (.inr ⟨k1, k2, rfl⟩)
theorem bl_irrefl : ∀ a : List UInt8, bytesLt a a = false
  | [] => rfl
  | x :: a => by
    have := bl_irrefl a
    show (decide (x < x) || (x == x && bytesLt a a)) = false
    rw [this]
    simp
theorem bl_tri : ∀ a b : List UInt8, (bytesLt a b = true ∧ bytesLt b a = false) ∨ (bytesLt a b = false ∧ bytesLt b a = true) ∨ (bytesLt a b = false ∧ bytesLt b a = false ∧ a = b)
  | [], [] => .inr (.inr ⟨rfl, rfl, rfl⟩)
  | [], y :: b => .inl ⟨rfl, rfl⟩
  | x :: a, [] => .inr (.inl ⟨rfl, rfl⟩)
  | x :: a, y :: b => by
    have e1 : bytesLt (x :: a) (y :: b) = (decide (x < y) || (x == y && bytesLt a b)) := rfl
    have e2 : bytesLt (y :: b) (x :: a) = (decide (y < x) || (y == x && bytesLt b a)) := rfl
    rw [e1, e2]
    rcases Nat.lt_trichotomy x.toNat y.toNat with h | h | h
    · refine .inl ⟨?_, ?_⟩
      · rw [dec_t (UInt8.lt_iff_toNat_lt.2 h)]; rfl
      · rw [dec_f (fun q => by have := UInt8.lt_iff_toNat_lt.1 q; omega), show (y == x) = false from beq_eq_false_iff_ne.2 (fun q => by rw [q] at h; omega)]; rfl
    · have hxy : x = y := UInt8.toNat_inj.1 h
      subst hxy
      rw [dec_f (fun q => by have := UInt8.lt_iff_toNat_lt.1 q; omega), show (x == x) = true from beq_self_eq_true x]
      simp only [Bool.false_or, Bool.true_and]
      rcases bl_tri a b with h | h | ⟨h1, h2, rfl⟩
      · exact .inl h
      · exact .inr (.inl h)
      · exact .inr (.inr ⟨h1, h2, rfl⟩)
    · refine .inr (.inl ⟨?_, ?_⟩)
      · rw [dec_f (fun q => by have := UInt8.lt_iff_toNat_lt.1 q; omega), show (x == y) = false from beq_eq_false_iff_ne.2 (fun q => by rw [q] at h; omega)]; rfl
      · rw [dec_t (UInt8.lt_iff_toNat_lt.2 h)]; rfl
def cS (a b : List UInt8) : Int64 := if bytesLt a b then -1 else if bytesLt b a then 1 else 0
theorem cS_ord : Ord3 cS := by
  intro a b
  unfold cS
  rcases bl_tri a b with ⟨h1, h2⟩ | ⟨h1, h2⟩ | ⟨h1, h2, rfl⟩
  · rw [h1, h2]; exact .inl ⟨rfl, rfl⟩
  · rw [h1, h2]; exact .inr (.inl ⟨rfl, rfl⟩)
  · rw [h1]; exact .inr (.inr ⟨rfl, rfl, rfl⟩)
theorem f20 (n : Nat) (x y : List UInt8) : F20 n (x, y) = some (cS x y, ()) := by
  unfold F20 F36
  simp only [obind_s]
  rw [show (!(x == x)) = false from by simp, show (!(y == y)) = false from by simp, oite_f, oite_f]
  unfold cS
  rcases bl_tri x y with ⟨h1, h2⟩ | ⟨h1, h2⟩ | ⟨h1, h2, rfl⟩
  · rw [h1]; rfl
  · have hne : (x == y) = false := beq_eq_false_iff_ne.2 (fun q => by rw [q, bl_irrefl] at h2; cases h2)
    rw [h1, h2, hne]; rfl
  · rw [h1, show (x == x) = true from by simp]; rfl
theorem f18_2 (k : Nat) (a b : Int64) : F18 (k + 5) [a, b] = some (or3 a b, ()) := by
  have e : F18 (k + 5) [a, b] = oite (!decide (a = 0)) (some (a, ())) (oite (!decide (b = 0)) (some (b, ())) (some (0, ()))) := by kernel_rfl
  rw [e]
  unfold or3
  by_cases h : a = 0
  · rw [dec_t h, if_pos h]
    by_cases h' : b = 0
    · rw [dec_t h', h']; rfl
    · rw [dec_f h']; rfl
  · rw [dec_f h, if_neg h]; rfl
end Go.Proofs.Ytcfckkmiaeegpaa
