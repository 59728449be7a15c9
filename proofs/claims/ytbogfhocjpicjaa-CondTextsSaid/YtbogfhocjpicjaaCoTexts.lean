/- The text of a condition is split into its own words again; the whole statement. -/
import Derived.Test.YtbogfhocjpicjaaCoParse
open Go Go.Sx
namespace Go.Proofs.Ytbogfhocjpicjaa
def flat : List (List UInt8) → List UInt8
  | [] => []
  | w :: ws => w ++ 32 :: flat ws
theorem join_flat : ∀ ws : List (List UInt8), ws ≠ [] → joinW ws ++ [32] = flat ws
  | [], h => absurd rfl h
  | [a], _ => rfl
  | a :: b :: l, _ => by
    have := join_flat (b :: l) (by simp)
    show a ++ [32] ++ joinW (b :: l) ++ [32] = a ++ 32 :: flat (b :: l)
    rw [List.append_assoc, this]
    simp
section
variable (n : Nat) (rec : Arr [PT.int IntKind.i64, PT.int IntKind.i64, PT.int IntKind.u8, PT.int IntKind.i16, PT.int IntKind.u8, PT.list (CTs.cons (CT.int IntKind.u8) (CTs.cons (CT.int IntKind.i64) (CTs.cons (CT.int IntKind.u64) CTs.nil)))] (Option (Bool × Unit)))
variable (t t1 : Int64) (s0 : UInt8) (s1 : Int16) (s2 : UInt8) (z0 : UInt8) (z1 : Int64) (z2 : UInt64) (cs : List (UInt8 × Int64 × UInt64))
theorem get_mid (p : List UInt8) (c : UInt8) (r : List UInt8) : (p ++ c :: r)[p.length]? = some c := by
  simp
theorem at_mid (S p : List UInt8) (c : UInt8) (r : List UInt8) (h : S = p ++ c :: r) (hs : S.length < 2 ^ 63) : at? S (Int64.toInt (I64 p.length)) = some c := by
  have : p.length < S.length := by rw [h]; simp
  rw [at_i64 (by omega), h]; exact get_mid p c r
theorem split_word (S : List UInt8) (hs : S.length < 2 ^ 32) (m : Nat) (pre rest : List UInt8) (l : List (List UInt8)) (hl : l.length < 100) : ∀ (b a : List UInt8), S = pre ++ a ++ b ++ 32 :: rest → (∀ c ∈ b, c ≠ 32) →
    F6_R1043325 n rec (m + b.length + 1) (I64 pre.length) S t t1 (I64 S.length) (I64 (pre.length + a.length)) s0 s1 s2 z0 z1 z2 l cs
      = F6_R1043325 n rec m (I64 (pre.length + a.length + b.length + 1)) S t t1 (I64 S.length) (I64 (pre.length + a.length + b.length + 1)) s0 s1 s2 z0 z1 z2 (l ++ [a ++ b]) cs
  | [], a, hS, _ => by
    have hS' : S = (pre ++ a) ++ 32 :: rest := by rw [hS]; simp
    have hlen : S.length = pre.length + a.length + (rest.length + 1) := by rw [hS']; simp [Nat.add_assoc]
    have hat := at_mid S (pre ++ a) 32 rest hS' (by omega)
    rw [List.length_append] at hat
    rw [F6_R1043325_s]
    unfold F6_L1043325
    rw [dec_t ((i64_lt (by omega) (by omega)).2 (by omega)), oite_t, hat, obind_s, dec_t rfl, oite_t, i64_toInt (by omega), i64_toInt (by omega), i64_succ]
    have e1 : (decide ((0 : Int) ≤ ((pre.length + a.length : Nat) : Int)) && Nat.ble (Int.toNat ((pre.length + a.length : Nat) : Int)) (List.length S) && (decide ((0 : Int) ≤ ((pre.length : Nat) : Int)) && Nat.ble (Int.toNat ((pre.length : Nat) : Int)) (Int.toNat ((pre.length + a.length : Nat) : Int)))) = true := by
      rw [Int.toNat_natCast, Int.toNat_natCast, dec_t (by omega), dec_t (by omega), ble_t (by omega), ble_t (by omega)]
      rfl
    have e2 : List.drop (Int.toNat ((pre.length : Nat) : Int)) (List.take (Int.toNat ((pre.length + a.length : Nat) : Int)) S) = a := by
      rw [Int.toNat_natCast, Int.toNat_natCast, hS', ← List.length_append, List.take_left, List.drop_left]
    rw [e1, oite_t, e2, ble_t (by simp only [List.length_cons, List.length_nil]; omega), oite_t, List.append_nil]
    rfl
  | c :: b, a, hS, hc => by
    have hS' : S = (pre ++ a) ++ c :: (b ++ 32 :: rest) := by rw [hS]; simp
    have hlen : S.length = pre.length + a.length + (b.length + (rest.length + 1) + 1) := by rw [hS']; simp; omega
    have hat := at_mid S (pre ++ a) c (b ++ 32 :: rest) hS' (by omega)
    rw [List.length_append] at hat
    have hc0 := hc c (by simp)
    have ih := split_word S hs m pre rest l hl b (a ++ [c]) (by rw [hS]; simp) (fun d hd => hc d (by simp [hd]))
    have la : (a ++ [c]).length = a.length + 1 := by simp
    rw [la] at ih
    rw [show m + (c :: b).length + 1 = (m + b.length + 1) + 1 by simp; omega, F6_R1043325_s]
    unfold F6_L1043325
    rw [dec_t ((i64_lt (by omega) (by omega)).2 (by omega)), oite_t, hat, obind_s, dec_f hc0, oite_f, i64_succ]
    rw [show pre.length + a.length + 1 = pre.length + (a.length + 1) by omega]
    refine ih.trans ?_
    rw [show pre.length + (a.length + 1) + b.length + 1 = pre.length + a.length + (c :: b).length + 1 by simp; omega]
    simp
theorem split_all (S : List UInt8) (hs : S.length < 2 ^ 32) (m : Nat) : ∀ (ws : List (List UInt8)) (pre : List UInt8) (l : List (List UInt8)), S = pre ++ flat ws → l.length + ws.length < 100 → (∀ w ∈ ws, ∀ c ∈ w, c ≠ 32) →
    F6_R1043325 n rec (m + (flat ws).length) (I64 pre.length) S t t1 (I64 S.length) (I64 pre.length) s0 s1 s2 z0 z1 z2 l cs
      = F6_R1043325 n rec m (I64 S.length) S t t1 (I64 S.length) (I64 S.length) s0 s1 s2 z0 z1 z2 (l ++ ws) cs
  | [], pre, l, hS, _, _ => by
    have : S.length = pre.length := by rw [hS]; simp [flat]
    rw [this]
    simp [flat]
  | w :: ws, pre, l, hS, hl, hw => by
    have h1 := split_word n rec t t1 s0 s1 s2 z0 z1 z2 cs S hs (m + (flat ws).length) pre (flat ws) l (by simp at hl; omega) w [] (by rw [hS]; simp [flat]) (hw w (by simp))
    have h2 := split_all S hs m ws (pre ++ w ++ [32]) (l ++ [w]) (by rw [hS]; simp [flat]) (by simp at hl ⊢; omega) (fun v hv => hw v (by simp [hv]))
    have e1 : m + (flat (w :: ws)).length = m + (flat ws).length + w.length + 1 := by simp [flat]; omega
    have e2 : (pre ++ w ++ [32]).length = pre.length + w.length + 1 := by simp; omega
    rw [e2] at h2
    rw [e1]
    simp only [List.length_nil, Nat.add_zero, List.nil_append] at h1
    rw [h1, h2]
    simp
theorem split_end (S : List UInt8) (m : Nat) (l : List (List UInt8)) (f : Int64) (h : F20 n l = some (((z0, z1, z2), 0), ())) :
    F6_R1043325 n rec (m + 1) f S t t1 (I64 S.length) (I64 S.length) s0 s1 s2 z0 z1 z2 l cs = rec t (t1 + 1) s0 s1 s2 cs := by
  rw [F6_R1043325_s]
  unfold F6_L1043325
  rw [dec_f (Int64.lt_irrefl), oite_f, h, obind_s]
  simp only [decide_true, Bool.and_self, Bool.not_true, oite_f]
end
/-! ### A state's condition is one -/
theorem tick_ok (s2 : UInt8) : ¬ ((1 : UInt64) + UInt64.ofInt ↑(UInt8.toNat s2) % 20) < 1 ∧ ¬ (1048576 : UInt64) < (1 : UInt64) + UInt64.ofInt ↑(UInt8.toNat s2) % 20 := by
  generalize UInt64.ofInt ↑(UInt8.toNat s2) = u
  have h20 : (20 : UInt64).toNat = 20 := rfl
  have h1 : (u % 20).toNat = u.toNat % 20 := UInt64.toNat_mod u 20
  have h : ((1 : UInt64) + u % 20).toNat = 1 + u.toNat % 20 := by
    rw [UInt64.toNat_add, h1]
    have : (1 : UInt64).toNat = 1 := rfl
    omega
  have z1 : (1 : UInt64).toNat = 1 := rfl
  have z2 : (1048576 : UInt64).toNat = 1048576 := rfl
  constructor
  · intro q; rw [UInt64.lt_iff_toNat_lt, h] at q; omega
  · intro q; rw [UInt64.lt_iff_toNat_lt, h] at q; omega
theorem maxI_ok (s1 : Int16) : ¬ IK.maxI IntKind.i64 (Int64.ofInt (Int16.toInt s1)) ((0 : Int64) - Int64.ofInt (Int16.toInt s1)) < (0 : Int64) := by
  have r1 := Int16.toInt_lt s1
  have r2 := Int16.le_toInt s1
  have h : (Int64.ofInt (Int16.toInt s1)).toInt = s1.toInt := Int64.toInt_ofInt_of_le (by omega) (by omega)
  have h' : ((0 : Int64) - Int64.ofInt (Int16.toInt s1)).toInt = - s1.toInt := by
    rw [Int64.toInt_sub, h]
    have : (0 : Int64).toInt = 0 := rfl
    rw [this, bmod_id (by omega) (by omega)]; omega
  unfold IK.maxI
  have e : IK.ltb .i64 (Int64.ofInt (Int16.toInt s1)) ((0 : Int64) - Int64.ofInt (Int16.toInt s1)) = decide (Int64.ofInt (Int16.toInt s1) < (0 : Int64) - Int64.ofInt (Int16.toInt s1)) := rfl
  rw [e]
  have z : (0 : Int64).toInt = 0 := rfl
  by_cases hlt : Int64.ofInt (Int16.toInt s1) < (0 : Int64) - Int64.ofInt (Int16.toInt s1)
  · rw [dec_t hlt]
    rw [Int64.lt_iff_toInt_lt, h, h'] at hlt
    show ¬ ((0 : Int64) - Int64.ofInt (Int16.toInt s1)) < 0
    rw [Int64.lt_iff_toInt_lt, h']; omega
  · rw [dec_f hlt]
    rw [Int64.lt_iff_toInt_lt, h, h'] at hlt
    show ¬ (Int64.ofInt (Int16.toInt s1)) < 0
    rw [Int64.lt_iff_toInt_lt, h]; omega
theorem five (s0 : UInt8) : (1 : UInt8) + s0 % 5 = 1 ∨ (1 : UInt8) + s0 % 5 = 2 ∨ (1 : UInt8) + s0 % 5 = 3 ∨ (1 : UInt8) + s0 % 5 = 4 ∨ (1 : UInt8) + s0 % 5 = 5 := by
  have h : (s0 % 5).toNat = s0.toNat % 5 := UInt8.toNat_mod s0 5
  have hk : ((1 : UInt8) + s0 % 5).toNat = 1 + s0.toNat % 5 := by
    rw [UInt8.toNat_add, h]
    have : (1 : UInt8).toNat = 1 := rfl
    omega
  have : s0.toNat % 5 = 0 ∨ s0.toNat % 5 = 1 ∨ s0.toNat % 5 = 2 ∨ s0.toNat % 5 = 3 ∨ s0.toNat % 5 = 4 := by omega
  rcases this with q | q | q | q | q
  · exact Or.inl (UInt8.toNat_inj.1 (by rw [hk, q]; rfl))
  · exact Or.inr (Or.inl (UInt8.toNat_inj.1 (by rw [hk, q]; rfl)))
  · exact Or.inr (Or.inr (Or.inl (UInt8.toNat_inj.1 (by rw [hk, q]; rfl))))
  · exact Or.inr (Or.inr (Or.inr (Or.inl (UInt8.toNat_inj.1 (by rw [hk, q]; rfl)))))
  · exact Or.inr (Or.inr (Or.inr (Or.inr (UInt8.toNat_inj.1 (by rw [hk, q]; rfl)))))
theorem J26_ok {k : UInt8} {l : Int64} {t : UInt64} (hl : ¬ l < 0) (h1 : ¬ t < 1) (h2 : ¬ (1048576 : UInt64) < t) : F22_J26 k l t = some (0, ()) := by
  unfold F22_J26
  rw [dec_f hl, dec_f h1, dec_f h2]
  rfl
theorem state_ok (n : Nat) (s0 : UInt8) (s1 : Int16) (s2 : UInt8) : ∃ k lim t, F11 n (s0, s1, s2) = some ((k, lim, t), ()) ∧ F22 n (k, lim, t) = some (0, ()) := by
  obtain ⟨h1, h2⟩ := tick_ok s2
  have hm := maxI_ok s1
  unfold F11
  dsimp only
  rcases five s0 with h | h | h | h | h <;> rw [h]
  · exact ⟨1, Int64.ofInt (Int16.toInt s1), 0, rfl, rfl⟩
  · exact ⟨2, Int64.ofInt (Int16.toInt s1), 0, rfl, rfl⟩
  · exact ⟨3, 0, _, rfl, J26_ok (k := 3) (l := 0) (by decide) h1 h2⟩
  · exact ⟨4, _, _, rfl, J26_ok (k := 4) hm h1 h2⟩
  · exact ⟨5, _, _, rfl, J26_ok (k := 5) hm h1 h2⟩
/-! ### The words are what they should be -/
theorem each_chr (k : UInt8) (lim : Int64) (t : UInt64) : ∀ w ∈ each k lim t, ∀ c ∈ w, c ≠ 32 := by
  have hn : ∀ i, ∀ c ∈ nm i, c ≠ 32 := fun i => by unfold nm; split <;> decide
  have hs := sgn_chr lim
  have hd := dg_chr t.toNat
  intro w hw
  unfold each at hw
  have two : ∀ i (d : List UInt8), (∀ c ∈ d, c ≠ 32) → w ∈ [nm i, d] → ∀ c ∈ w, c ≠ 32 := by
    intro i d h hw
    simp only [List.mem_cons, List.not_mem_nil, or_false] at hw
    rcases hw with rfl | rfl
    · exact hn i
    · exact h
  have three : ∀ i, w ∈ [nm i, sgn lim, dg 20 t.toNat] → ∀ c ∈ w, c ≠ 32 := by
    intro i hw
    simp only [List.mem_cons, List.not_mem_nil, or_false] at hw
    rcases hw with rfl | rfl | rfl
    · exact hn i
    · exact hs
    · exact hd
  split at hw
  · exact two 1 _ hs hw
  split at hw
  · exact two 2 _ hs hw
  split at hw
  · exact two 3 _ hd hw
  split at hw
  · exact three 4 hw
  split at hw
  · exact three 5 hw
  · simp at hw
theorem each_some (k : UInt8) (lim : Int64) (t : UInt64) (h : kinds k) : each k lim t ≠ [] := by
  rcases h with rfl | rfl | rfl | rfl | rfl <;> simp [each]
theorem each_len (k : UInt8) (lim : Int64) (t : UInt64) : (each k lim t).length ≤ 3 ∧ (flat (each k lim t)).length ≤ 60 := by
  have hl := sgn_len lim
  have ht := dgl t
  unfold each
  split
  · simp [flat, nm]; omega
  split
  · simp [flat, nm]; omega
  split
  · simp [flat, nm]; omega
  split
  · simp [flat, nm]; omega
  split
  · simp [flat, nm]; omega
  · simp [flat]
theorem text_split (n : Nat) (hn : 100 < n) (rec : Arr [PT.int IntKind.i64, PT.int IntKind.i64, PT.int IntKind.u8, PT.int IntKind.i16, PT.int IntKind.u8, PT.list (CTs.cons (CT.int IntKind.u8) (CTs.cons (CT.int IntKind.i64) (CTs.cons (CT.int IntKind.u64) CTs.nil)))] (Option (Bool × Unit)))
    (t t1 : Int64) (s0 : UInt8) (s1 : Int16) (s2 : UInt8) (k : UInt8) (lim : Int64) (tk : UInt64) (cs : List (UInt8 × Int64 × UInt64)) (h : F22 n (k, lim, tk) = some (0, ())) :
    F6_R1043325 n rec n 0 (text k lim tk ++ [32]) t t1 (Int64.ofInt ↑(List.length (text k lim tk ++ [32]))) 0 s0 s1 s2 k lim tk [] cs = rec t (t1 + 1) s0 s1 s2 cs := by
  obtain ⟨e, h1, _, h3⟩ := check_same n k lim tk
  have he : e = 0 := by rw [h] at h1; injection h1 with h1; exact (congrArg Prod.fst h1).symm
  have hk := (h3 he).1
  have hS : text k lim tk ++ [32] = flat (each k lim tk) := join_flat _ (each_some k lim tk hk)
  obtain ⟨l3, l60⟩ := each_len k lim tk
  rw [hS]
  obtain ⟨m, rfl⟩ : ∃ m, n = m + 1 + (flat (each k lim tk)).length := ⟨n - 1 - (flat (each k lim tk)).length, by omega⟩
  generalize hN : m + 1 + (flat (each k lim tk)).length = N at *
  have := split_all N rec t t1 s0 s1 s2 k lim tk cs (flat (each k lim tk)) (by omega) (m + 1) (each k lim tk) [] [] rfl (by simp; omega) (each_chr k lim tk)
  rw [hN] at this
  refine this.trans ?_
  obtain ⟨p, rfl⟩ : ∃ p, N = p + 6 := ⟨N - 6, by omega⟩
  exact split_end (p + 6) rec t t1 s0 s1 s2 k lim tk cs _ m _ _ (read_back p (by omega) k lim tk h)
/-! ### The loop over both -/
theorem conds_one (n m : Nat) (hn : 100 < n) (t t1 : Int64) (s0 : UInt8) (s1 : Int16) (s2 : UInt8) (cs : List (UInt8 × Int64 × UInt64)) (k : UInt8) (lim : Int64) (tk : UInt64) (h : t1 < t)
    (hi : (decide ((0 : Int) ≤ Int64.toInt t1) && Nat.blt (Int.toNat (Int64.toInt t1)) (List.length cs)) = true) (hg : cs[Int.toNat (Int64.toInt t1)]? = some (k, lim, tk)) :
    F6_R509 n (m + 1) t t1 s0 s1 s2 cs = F6_R509 n m t (t1 + 1) s0 s1 s2 cs := by
  rw [F6_R509_s]
  unfold F6_L509
  rw [dec_t h, oite_t, hi, oite_t, hg, obind_s]
  obtain ⟨e, h1, h2, _⟩ := check_same n k lim tk
  show obind (F13 n (Int64.ofInt ↑(UInt8.toNat k), lim, tk)) _ = _
  rw [h2]
  by_cases he : e = 0
  · subst he
    show obind (F23 n (k, lim, tk)) (fun x : List UInt8 × Unit => oite (Nat.ble (x.1.length + List.length [(32 : UInt8)]) 4294967296) (F6_R1043325 n (F6_R509 n m) n 0 (x.1 ++ [32]) t t1 (Int64.ofInt ↑(List.length (x.1 ++ [32]))) 0 s0 s1 s2 k lim tk [] cs) none) = _
    rw [text_a n (by omega)]
    show oite (Nat.ble ((text k lim tk).length + List.length [(32 : UInt8)]) 4294967296) (F6_R1043325 n (F6_R509 n m) n 0 (text k lim tk ++ [32]) t t1 (Int64.ofInt ↑(List.length (text k lim tk ++ [32]))) 0 s0 s1 s2 k lim tk [] cs) none = _
    rw [text_split n hn _ _ _ _ _ _ _ _ _ _ h1]
    by_cases hk : kinds k
    · have hS : text k lim tk ++ [32] = flat (each k lim tk) := join_flat _ (each_some k lim tk hk)
      have := (each_len k lim tk).2
      rw [← hS, List.length_append] at this
      rw [ble_t (by omega), oite_t]
    · obtain ⟨e', q1, _, q3⟩ := check_same n k lim tk
      rw [h1] at q1; injection q1 with q1
      exact absurd (q3 (congrArg Prod.fst q1).symm).1 hk
  · show oite (!decide (e = 0)) (F6_R509 n m t (t1 + 1) s0 s1 s2 cs) _ = _
    rw [dec_f he]
    rfl
theorem conds_end (n m : Nat) (t : Int64) (s0 : UInt8) (s1 : Int16) (s2 : UInt8) (cs : List (UInt8 × Int64 × UInt64)) : F6_R509 n (m + 1) t t s0 s1 s2 cs = some (true, ()) := by
  rw [F6_R509_s]
  unfold F6_L509
  rw [dec_f (Int64.lt_irrefl), oite_f]
  obtain ⟨k, lim, tk, h1, h2⟩ := state_ok n s0 s1 s2
  rw [h1]
  obtain ⟨e, q1, q2, _⟩ := check_same n k lim tk
  rw [h2] at q1
  injection q1 with q1
  have he : e = 0 := (congrArg Prod.fst q1).symm
  subst he
  show obind (F13 n (Int64.ofInt ↑(UInt8.toNat k), lim, tk)) _ = _
  rw [q2]
  rfl
theorem texts_some (n : Nat) (hn : 106 < n) (h7 : F7 n () = some (true, ())) (ws : List (List UInt8)) (hw : ∀ w ∈ ws, w.length < 2 ^ 63) (hl : ws.length < 2 ^ 63) (k : UInt8) (lim : Int64) (tk : UInt64) (s0 : UInt8) (s1 : Int16) (s2 : UInt8) :
    F6 n (ws, (k, lim, tk), (s0, s1, s2)) = some (true, ()) := by
  unfold F6
  dsimp only
  rw [h7, obind_s]
  simp only [Bool.not_true, oite_f]
  by_cases hlen : 6 < ws.length
  · have h6 : decide ((6 : Int64) < Int64.ofInt ↑(List.length ws)) = true := dec_t ((i64_lt (a := 6) (b := ws.length) (by omega) (by omega)).2 hlen)
    rw [h6, oite_t]
  have h6 : decide ((6 : Int64) < Int64.ofInt ↑(List.length ws)) = false := dec_f (fun h => hlen ((i64_lt (a := 6) (b := ws.length) (by omega) (by omega)).1 h))
  rw [h6, oite_f]
  obtain ⟨p, hp⟩ : ∃ p, n = p + 6 := ⟨n - 6, by omega⟩
  obtain ⟨k1, l1, t1, e1, ha, hb⟩ : Same (F20 n ws) (F21 n ws) := by rw [hp]; exact parse_same p (by omega) ws (by omega) hw
  rw [ha, obind_s, hb, obind_s]
  simp only [decide_true, Bool.not_true, oite_f]
  show oite (!(decide (Int64.ofInt ↑(UInt8.toNat k1) = Int64.ofInt ↑(UInt8.toNat k1)) && (decide (l1 = l1) && (decide (t1 = t1) && true)))) (some (false, ())) _ = _
  simp only [decide_true, Bool.and_self, Bool.not_true, oite_f]
  obtain ⟨e, h1, h2, _⟩ := check_same n k lim tk
  rw [h1, obind_s]
  show obind (F13 n (Int64.ofInt ↑(UInt8.toNat k), lim, tk)) _ = _
  rw [h2]
  show oite (!decide (e = e)) (some (false, ())) _ = _
  rw [dec_t rfl]
  show obind (F23 n (k, lim, tk)) _ = _
  rw [text_a n (by omega)]
  show obind (F24 n (Int64.ofInt ↑(UInt8.toNat k), lim, tk)) _ = _
  rw [text_b n (by omega)]
  show oite (!(text k lim tk == text k lim tk)) (some (false, ())) _ = _
  rw [beq_self_eq_true]
  obtain ⟨k2, lim2, tk2, q1, _⟩ := state_ok n s0 s1 s2
  show obind (F11 n (s0, s1, s2)) _ = _
  rw [q1]
  obtain ⟨m, hm⟩ : ∃ m, n = m + 1 + 1 + 1 := ⟨n - 3, by omega⟩
  show F6_R509 n n 2 0 s0 s1 s2 [(k, lim, tk), (k2, lim2, tk2)] = _
  have a1 := conds_one n (m + 1 + 1) (by omega) 2 0 s0 s1 s2 [(k, lim, tk), (k2, lim2, tk2)] k lim tk (by decide) rfl rfl
  have a2 := conds_one n (m + 1) (by omega) 2 1 s0 s1 s2 [(k, lim, tk), (k2, lim2, tk2)] k2 lim2 tk2 (by decide) rfl rfl
  have a3 := conds_end n m 2 s0 s1 s2 [(k, lim, tk), (k2, lim2, tk2)]
  rw [← hm] at a1
  exact a1.trans (a2.trans a3)
theorem texts_true : ∀ x : sig6.In, PTys.fits sig6.ps x → ∃ y, F6 200 x = some y ∧ PTys.hd (.one (.c .bool)) .nil y.1 = true := by
  rintro ⟨ws, ⟨k, lim, tk⟩, ⟨s0, s1, s2⟩⟩ hfit
  have h := hfit.1
  simp only [PTy.fits, CT.fits] at h
  have hw : ∀ w ∈ ws, w.length < 2 ^ 63 := by
    intro w hw
    obtain ⟨i, hi, rfl⟩ := List.getElem_of_mem hw
    have := (h.2 i hi).1
    simp only [CT.fits] at this
    exact this
  exact ⟨(true, ()), texts_some 200 (by omega) awakeC ws hw h.1 k lim tk s0 s1 s2, rfl⟩
end Go.Proofs.Ytbogfhocjpicjaa
