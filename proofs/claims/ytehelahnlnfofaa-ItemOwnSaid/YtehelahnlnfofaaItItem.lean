/- An item of small numbers: one that may be. -/
import Derived.Test.YtehelahnlnfofaaItCheck
open Go Go.Sx
namespace Go.Proofs.Ytehelahnlnfofaa
theorem mod_lt8 (x c : UInt8) (hc : 0 < c.toNat) : (x % c).toNat < c.toNat := by rw [UInt8.toNat_mod]; exact Nat.mod_lt _ hc
theorem const_idx {α : Type} (l : List α) (x c : UInt8) (hc : 0 < c.toNat) (hl : l.length = c.toNat) :
    (decide ((0 : Int) ≤ ↑(UInt8.toNat (x % c))) && Nat.blt (Int.toNat ↑(UInt8.toNat (x % c))) (List.length l)) = true ∧ ∃ y ∈ l, l[Int.toNat ↑(UInt8.toNat (x % c))]? = some y := by
  have h := mod_lt8 x c hc
  obtain ⟨h1, h2⟩ := idx_nat (l := l) (k := (x % c).toNat) (by omega)
  exact ⟨h1, _, List.getElem_mem (by omega), h2⟩
def labs3 (c : UInt8) : List Pair := [([97], [c]), ([98], [c]), ([99], [c])]
theorem lab_run (n j : Nat) (s0 : Bool) (s1 s2 s3 : UInt8) (s4 s5 s6 : UInt16) (s7 s8 s9 : UInt8) (s10 t0 : Bool) (t1 : UInt8) (t2 t3 : UInt64) (t4 : List UInt8) (t6 t7 : UInt8) (t8 : Int64)
    (t9 t10 : UInt8) (t11 t12 : UInt64) (v0 : UInt8) (v1 v2 : UInt64) (v3 : List UInt8) (v5 v6 : UInt8) (v7 : Int64) (v8 : UInt8) (d : Fin 4) :
    F9_R1021 n (j + 4) (UInt8.ofNat d.val) 0 s0 s1 s2 s3 s4 s5 s6 s7 s8 s9 s10 t0 t1 t2 t3 t4 t6 t7 t8 t9 t10 t11 t12 v0 v1 v2 v3 v5 v6 v7 v8 [] =
      some ((false, v0, v1, v2, v3, (labs3 (48 + s8 / 4 % 10)).take d.val, v5, v6, v7, v8, 0, 0, 0), ()) := by
  generalize hc : (48 : UInt8) + s8 / 4 % 10 = c
  have hL : ∀ r t1' vl, F9_L1021 n r (UInt8.ofNat d.val) t1' s0 s1 s2 s3 s4 s5 s6 s7 s8 s9 s10 t0 t1 t2 t3 t4 t6 t7 t8 t9 t10 t11 t12 v0 v1 v2 v3 v5 v6 v7 v8 vl =
      oite (decide (t1' < UInt8.ofNat d.val)) (oite (Nat.ble (vl.length + 1) 4294967296) (r (UInt8.ofNat d.val) (t1' + 1) s0 s1 s2 s3 s4 s5 s6 s7 s8 s9 s10 t0 t1 t2 t3 t4 t6 t7 t8 t9 t10 t11 t12 v0 v1 v2 v3 v5 v6 v7 v8 (vl ++ [([97 + t1'], [c])])) none)
        (some ((false, v0, v1, v2, v3, vl, v5, v6, v7, v8, 0, 0, 0), ())) := by
    intro r t1' vl; rw [← hc]; rfl
  have hR : ∀ m, F9_R1021 n (m + 1) = F9_L1021 n (F9_R1021 n m) := F9_R1021_s n
  rw [hR, hL]
  match d with
  | 0 => rfl
  | 1 => rw [show decide ((0 : UInt8) < UInt8.ofNat (1 : Fin 4).val) = true from by decide, oite_t, show Nat.ble (List.length ([] : List Pair) + 1) 4294967296 = true from rfl, oite_t, hR, hL]; rfl
  | 2 =>
    rw [show decide ((0 : UInt8) < UInt8.ofNat (2 : Fin 4).val) = true from by decide, oite_t, show Nat.ble (List.length ([] : List Pair) + 1) 4294967296 = true from rfl, oite_t, hR, hL,
      show decide ((0 : UInt8) + 1 < UInt8.ofNat (2 : Fin 4).val) = true from by decide, oite_t, show Nat.ble (List.length (([] : List Pair) ++ [([97 + 0], [c])]) + 1) 4294967296 = true from rfl, oite_t, hR, hL]; rfl
  | 3 =>
    rw [show decide ((0 : UInt8) < UInt8.ofNat (3 : Fin 4).val) = true from by decide, oite_t, show Nat.ble (List.length ([] : List Pair) + 1) 4294967296 = true from rfl, oite_t, hR, hL,
      show decide ((0 : UInt8) + 1 < UInt8.ofNat (3 : Fin 4).val) = true from by decide, oite_t, show Nat.ble (List.length (([] : List Pair) ++ [([97 + 0], [c])]) + 1) 4294967296 = true from rfl, oite_t, hR, hL,
      show decide ((0 : UInt8) + 1 + 1 < UInt8.ofNat (3 : Fin 4).val) = true from by decide, oite_t, show Nat.ble (List.length (([] : List Pair) ++ [([97 + 0], [c])] ++ [([97 + (0 + 1)], [c])]) + 1) 4294967296 = true from rfl, oite_t, hR, hL]; rfl
theorem mod4 (x : UInt8) : ∃ d : Fin 4, x % 4 = UInt8.ofNat d.val := by
  have h : ∀ k : Fin 256, ∃ d : Fin 4, UInt8.ofNat k.val % 4 = UInt8.ofNat d.val := by decide +kernel
  have := h ⟨x.toNat, UInt8.toNat_lt x⟩
  simpa using this
theorem j127 (n : Nat) (hn : 4 ≤ n) (s0 : Bool) (s1 s2 s3 : UInt8) (s4 s5 s6 : UInt16) (s7 s8 s9 : UInt8) (s10 t0 : Bool) (t1 : UInt8) (t2 t3 : UInt64) (t4 : List UInt8) (t6 t7 : UInt8) (t8 : Int64)
    (t9 t10 : UInt8) (t11 t12 : UInt64) (v0 : UInt8) (v1 v2 : UInt64) (v3 : List UInt8) (v5 v6 : UInt8) (v7 : Int64) (v8 : UInt8) :
    ∃ d : Nat, F9_J127 n s0 s1 s2 s3 s4 s5 s6 s7 s8 s9 s10 t0 t1 t2 t3 t4 t6 t7 t8 t9 t10 t11 t12 v0 v1 v2 v3 v5 v6 v7 v8 =
      some ((false, v0, v1, v2, v3, (labs3 (48 + s8 / 4 % 10)).take d, v5, v6, v7, v8, 0, 0, 0), ()) := by
  obtain ⟨j, rfl⟩ : ∃ j, n = j + 4 := ⟨n - 4, by omega⟩
  obtain ⟨d, hd⟩ := mod4 s8
  refine ⟨d.val, ?_⟩
  unfold F9_J127
  rw [hd]
  exact lab_run (j + 4) j s0 s1 s2 s3 s4 s5 s6 s7 s8 s9 s10 t0 t1 t2 t3 t4 t6 t7 t8 t9 t10 t11 t12 v0 v1 v2 v3 v5 v6 v7 v8 d
theorem byte_all (P : UInt8 → Bool) (h : ∀ k : Fin 256, P (UInt8.ofNat k.val) = true) (x : UInt8) : P x = true := by
  have := h ⟨x.toNat, UInt8.toNat_lt x⟩
  simpa using this
theorem labs_ok (x : UInt8) (d : Nat) : labCheck ((labs3 (48 + x / 4 % 10)).take d) = 0 := by
  have hb := byte_all (fun x => okb true (48 + x / 4 % 10)) (by decide +kernel) x
  have hb : okb true (48 + x / 4 % 10) = true := hb
  generalize (48 : UInt8) + x / 4 % 10 = c at hb
  have hw : wordOK 16 true [c] = true := by unfold wordOK; simp [hb]
  have k1 : wordOK 8 false [97] = true := by decide
  have k2 : wordOK 8 false [98] = true := by decide
  have k3 : wordOK 8 false [99] = true := by decide
  have e1 : ([97] == ([98] : List UInt8)) = false := by decide
  have e2 : ([98] == ([99] : List UInt8)) = false := by decide
  have b1 : bytesLt [97] [98] = true := by decide
  have b2 : bytesLt [98] [99] = true := by decide
  match d with
  | 0 => rfl
  | 1 => simp only [labs3, List.take, labCheck, labGo, labStep, hw, k1, cond_true, List.length]; rfl
  | 2 => simp only [labs3, List.take, labCheck, labGo, labStep, hw, k1, k2, e1, b1, cond_true, cond_false, List.length]; rfl
  | 3 => simp only [labs3, List.take, labCheck, labGo, labStep, hw, k1, k2, k3, e1, e2, b1, b2, cond_true, cond_false, List.length]; rfl
  | d + 4 =>
    have : (labs3 c).take (d + 4) = labs3 c := List.take_of_length_le (by simp [labs3])
    rw [this]
    simp only [labs3, labCheck, labGo, labStep, hw, k1, k2, k3, e1, e2, b1, b2, cond_true, cond_false, List.length]; rfl
theorem labs_len (c : UInt8) (d : Nat) : ((labs3 c).take d).length ≤ 3 ∧ ∀ p ∈ (labs3 c).take d, p.1.length = 1 ∧ p.2.length = 1 := by
  refine ⟨by rw [List.length_take]; exact Nat.le_trans (Nat.min_le_right _ _) (by simp [labs3]), fun p hp => ?_⟩
  have := List.mem_of_mem_take hp
  simp [labs3] at this
  rcases this with rfl | rfl | rfl <;> simp
abbrev SmT := Bool × UInt8 × UInt8 × UInt8 × UInt16 × UInt16 × UInt16 × UInt8 × UInt8 × UInt8 × Bool
theorem u64of16 (x : UInt16) : (UInt64.ofInt ↑(UInt16.toNat x)).toNat = x.toNat := by
  have := u64_ofInt ((x.toNat : Nat) : Int)
  have h := UInt16.toNat_lt x
  omega
theorem seq_ok (x : UInt16) : decide ((1 : UInt64) + UInt64.ofInt ↑(UInt16.toNat x) < 1) = false ∧ decide ((1 : UInt64) + UInt64.ofInt ↑(UInt16.toNat x) ≤ 1099511627776) = true ∧ ((1 : UInt64) + UInt64.ofInt ↑(UInt16.toNat x)).toNat = 1 + x.toNat := by
  have h := UInt16.toNat_lt x
  have e : ((1 : UInt64) + UInt64.ofInt ↑(UInt16.toNat x)).toNat = 1 + x.toNat := by
    rw [UInt64.toNat_add, u64of16]; show (1 + x.toNat) % _ = _; omega
  refine ⟨dec_f fun q => ?_, dec_t ?_, e⟩
  · have := UInt64.lt_iff_toNat_lt.1 q; rw [e] at this; have e1 : (1 : UInt64).toNat = 1 := rfl; omega
  · rw [UInt64.le_iff_toNat_le, e]; show 1 + x.toNat ≤ 1099511627776; omega
/-- what such an item is like -/
structure Small (x : ItT) : Prop where
  ok : itCheck x = 0
  rule : x.2.2.2.2.1.length ≤ 12
  labs : x.2.2.2.2.2.1.length ≤ 3
  each : ∀ p ∈ x.2.2.2.2.2.1, p.1.length = 1 ∧ p.2.length = 1
theorem Small.fit {x : ItT} (h : Small x) (n : Nat) (hn : 20 < n) : FitI x n := by
  refine ⟨⟨by have := h.rule; omega, by have := h.rule; omega⟩, by have := h.labs; omega, fun p hp => ?_⟩
  have := h.each p hp
  omega
theorem ev_ok (o s2 : UInt8) (s4 s6 : UInt16) (rule : List UInt8) (state own : UInt8) (l : List Pair) (hr : nameOK rule = true) (hs : (decide (state = 0) || decide (state = 2)) = true)
    (ho : decide (2 < own) = false) (hw : ((!decide (own = 0)) == ownOK rule) = true) (hl : labCheck l = 0) :
    evCheck (o % 32) (1 + UInt64.ofInt ↑(UInt16.toNat s4)) (UInt64.ofInt ↑(UInt16.toNat s6)) rule l state (s2 % 8) own = 0 := by
  obtain ⟨q1, q2, _⟩ := seq_ok s4
  have q3 : decide (UInt64.ofInt ↑(UInt16.toNat s6) ≤ 1099511627776) = true := by
    refine dec_t ?_
    rw [UInt64.le_iff_toNat_le, u64of16]
    have := UInt16.toNat_lt s6
    show s6.toNat ≤ 1099511627776; omega
  have q4 := byte_all (fun o => !decide ((32 : UInt8) ≤ o % 32)) (by decide +kernel) o
  have q5 := byte_all (fun o => !decide ((7 : UInt8) < o % 8)) (by decide +kernel) s2
  simp only [Bool.not_eq_true'] at q4 q5
  unfold evCheck
  rw [q1, q2, q3, q4, q5, hr, hs, ho, hw, hl]; rfl
theorem item_small (n : Nat) (hn : 20 < n) (z : SmT) : ∃ x, F9 n z = some (x, ()) ∧ Small x := by
  obtain ⟨s0, s1, s2, s3, s4, s5, s6, s7, s8, s9, s10⟩ := z
  cases s0 with
  | true =>
    refine ⟨_, rfl, ?_, by simp, by simp, by simp⟩
    obtain ⟨q1, q2, q3⟩ := seq_ok s4
    have q4 := byte_all (fun o => !decide ((32 : UInt8) ≤ o % 32)) (by decide +kernel) s1
    simp only [Bool.not_eq_true'] at q4
    have h4 := UInt16.toNat_lt s4
    have h5 := UInt16.toNat_lt s5
    have e : ((1 : UInt64) + UInt64.ofInt ↑(UInt16.toNat s4) + UInt64.ofInt ↑(UInt16.toNat s5)).toNat = 1 + s4.toNat + s5.toNat := by
      rw [UInt64.toNat_add, q3, u64of16]; omega
    have g1 : decide ((1 : UInt64) + UInt64.ofInt ↑(UInt16.toNat s4) + UInt64.ofInt ↑(UInt16.toNat s5) < (1 : UInt64) + UInt64.ofInt ↑(UInt16.toNat s4)) = false :=
      dec_f fun q => by have := UInt64.lt_iff_toNat_lt.1 q; rw [e, q3] at this; omega
    have g2 : decide ((1 : UInt64) + UInt64.ofInt ↑(UInt16.toNat s4) + UInt64.ofInt ↑(UInt16.toNat s5) ≤ 1099511627776) = true :=
      dec_t (by rw [UInt64.le_iff_toNat_le, e]; show _ ≤ 1099511627776; omega)
    show gapCheck (s1 % 32) _ _ = 0
    unfold gapCheck
    rw [q4, q1, g1, g2]; rfl
  | false =>
    obtain ⟨f1, rule, f2, f3⟩ := const_idx [[(104 : UInt8), (111 : UInt8), (116 : UInt8)], [(99 : UInt8), (111 : UInt8), (108 : UInt8), (100 : UInt8)],
        [(100 : UInt8), (105 : UInt8), (115 : UInt8), (107 : UInt8), (46 : UInt8), (102 : UInt8), (117 : UInt8), (108 : UInt8), (108 : UInt8)], [(120 : UInt8)]] s7 4 (by decide) rfl
    have hr : nameOK rule = true ∧ ownOK rule = false ∧ rule.length ≤ 12 := by
      simp only [List.mem_cons, List.not_mem_nil, or_false] at f2
      rcases f2 with rfl | rfl | rfl | rfl <;> decide
    have key : ∀ state : UInt8, (decide (state = 0) || decide (state = 2)) = true → ∃ x, F9_J63 n false s1 s2 s3 s4 s5 s6 s7 s8 s9 s10 false 0 0 0 [] 0 0 0 0 0 0 0 (s1 % 32) (1 + UInt64.ofInt ↑(UInt16.toNat s4)) (UInt64.ofInt ↑(UInt16.toNat s6)) rule state (s2 % 8)
        (Int64.ofInt ↑(UInt8.toNat s9) - 100) 0 = some (x, ()) ∧ Small x := by
      intro state hst
      unfold F9_J63
      rw [ojoinA_eq]
      by_cases h7 : s3 % 8 = 7
      · rw [dec_t h7, oite_t]
        obtain ⟨d, hd⟩ := j127 n (by omega) false s1 s2 s3 s4 s5 s6 s7 s8 s9 s10 false 0 0 0 [] 0 0 0 0 0 0 0 (s1 % 32) (1 + UInt64.ofInt ↑(UInt16.toNat s4)) (UInt64.ofInt ↑(UInt16.toNat s6)) [111, 119, 110, 46, 120] state (s2 % 8)
          (Int64.ofInt ↑(UInt8.toNat s9) - 100) (1 + s3 / 8 % 2)
        have o1 := byte_all (fun o => !decide ((2 : UInt8) < 1 + o / 8 % 2)) (by decide +kernel) s3
        have o2 := byte_all (fun o => !decide ((1 : UInt8) + o / 8 % 2 = 0)) (by decide +kernel) s3
        simp only [Bool.not_eq_true'] at o1 o2
        refine ⟨_, hd, ev_ok s1 s2 s4 s6 _ state _ _ (by decide) hst o1 ?_ (labs_ok s8 d), (by simp), (labs_len _ d).1, (labs_len _ d).2⟩
        rw [o2]; decide
      · rw [dec_f h7, oite_f]
        obtain ⟨d, hd⟩ := j127 n (by omega) false s1 s2 s3 s4 s5 s6 s7 s8 s9 s10 false 0 0 0 [] 0 0 0 0 0 0 0 (s1 % 32) (1 + UInt64.ofInt ↑(UInt16.toNat s4)) (UInt64.ofInt ↑(UInt16.toNat s6)) rule state (s2 % 8)
          (Int64.ofInt ↑(UInt8.toNat s9) - 100) 0
        refine ⟨_, hd, ev_ok s1 s2 s4 s6 _ state 0 _ hr.1 hst (by decide) ?_ (labs_ok s8 d), hr.2.2, (labs_len _ d).1, (labs_len _ d).2⟩
        rw [hr.2.1]; decide
    unfold F9
    dsimp only
    rw [oite_f, f1, f3, oite_t, obind_s, ojoinA_eq]
    cases s10 with
    | true => rw [oite_t]; exact key 2 (by decide)
    | false => rw [oite_f]; exact key 0 (by decide)
end Go.Proofs.Ytehelahnlnfofaa
