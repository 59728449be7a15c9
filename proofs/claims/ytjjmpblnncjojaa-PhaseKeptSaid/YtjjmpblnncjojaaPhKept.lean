/- The law PhaseKept: an alert that fired goes on for as long as it may, and a new hold keeps it. -/
import Derived.Test.YtjjmpblnncjojaaPhFnsKept
open Go Go.Sx
namespace Go.Proofs.Ytjjmpblnncjojaa

def P5 : List PT := [PT.int IntKind.u32, PT.int IntKind.i64, PT.int IntKind.u64, PT.int IntKind.u64, PT.int IntKind.u64,
                    PT.int IntKind.u64, PT.int IntKind.u64, PT.int IntKind.u8, PT.int IntKind.u64, PT.int IntKind.u64,
                    PT.int IntKind.i64]
def L5 (n : Nat) : Arr P5 (Option (Bool × Unit)) → Arr P5 (Option (Bool × Unit)) := (fun
                      (rec :
                        Arr
                          [PT.int IntKind.u32, PT.int IntKind.i64, PT.int IntKind.u64, PT.int IntKind.u64,
                            PT.int IntKind.u64, PT.int IntKind.u64, PT.int IntKind.u64, PT.int IntKind.u8,
                            PT.int IntKind.u64, PT.int IntKind.u64, PT.int IntKind.i64]
                          (Option (Bool × Unit)))
                      (x_4 : UInt32) (x_5 : Int64) (x_6 x_7 x_8 x_9 x_10 : UInt64) (x_11 : UInt8) (x_12 x_13 : UInt64)
                      (x_14 : Int64) =>
                    oite (decide (x_8 < x_7))
                      (obind
                        (F8 n
                          ((x_11, x_12, x_13, x_14), (x_9, x_10), UInt64.ofInt ↑(UInt32.toNat x_4) + x_8, false,
                            (0 : Int64)))
                        fun (x_15 : (UInt8 × UInt64 × UInt64 × Int64) × Unit) =>
                        obind
                          (F9 n
                            (Prod.fst (Prod.fst x_15), Prod.fst (Prod.snd (Prod.fst x_15)),
                              Prod.fst (Prod.snd (Prod.snd (Prod.fst x_15))),
                              Prod.snd (Prod.snd (Prod.snd (Prod.fst x_15)))))
                          fun (x_16 : Bool × Unit) =>
                          oite (!Prod.fst x_16 == decide (x_8 < x_10)) (some (false, ()))
                            (rec x_4 x_5 x_6 x_7 (x_8 + (1 : UInt64)) x_9 x_10 (Prod.fst (Prod.fst x_15))
                              (Prod.fst (Prod.snd (Prod.fst x_15))) (Prod.fst (Prod.snd (Prod.snd (Prod.fst x_15))))
                              (Prod.snd (Prod.snd (Prod.snd (Prod.fst x_15))))))
                      (obind (F10 n (UInt64.ofInt ↑(UInt32.toNat x_4), x_5))
                        fun (x_15 : (UInt8 × UInt64 × UInt64 × Int64) × Unit) =>
                        obind
                          (F8 n
                            ((Prod.fst (Prod.fst x_15), Prod.fst (Prod.snd (Prod.fst x_15)),
                                Prod.fst (Prod.snd (Prod.snd (Prod.fst x_15))),
                                Prod.snd (Prod.snd (Prod.snd (Prod.fst x_15)))),
                              (x_9, x_10), UInt64.ofInt ↑(UInt32.toNat x_4) + (1 : UInt64) + x_6 % (1000 : UInt64),
                              true, (9 : Int64)))
                          fun (x_16 : (UInt8 × UInt64 × UInt64 × Int64) × Unit) =>
                          obind
                            (F9 n
                              (Prod.fst (Prod.fst x_16), Prod.fst (Prod.snd (Prod.fst x_16)),
                                Prod.fst (Prod.snd (Prod.snd (Prod.fst x_16))),
                                Prod.snd (Prod.snd (Prod.snd (Prod.fst x_16)))))
                            fun (x_17 : Bool × Unit) =>
                            oite (Prod.fst x_17)
                              (oite (decide (Prod.snd (Prod.snd (Prod.snd (Prod.fst x_16))) = (9 : Int64)))
                                (some
                                  (decide (Prod.fst (Prod.snd (Prod.fst x_16)) = UInt64.ofInt ↑(UInt32.toNat x_4)),
                                    ()))
                                (some (false, ())))
                              (some (false, ()))))

theorem awake' : F7 100 () = some (true, ()) := by kernel_rfl

theorem s64 (s : UInt32) : (UInt64.ofInt (s.toNat : Int)).toNat = s.toNat := by
  have := s.toNat_lt
  rw [UInt64.ofInt, UInt64.toNat_ofNat']
  omega

theorem stays (n : Nat) (S i k : UInt64) (v : Int64) (hS : S.toNat < 2 ^ 32) (hi : i.toNat ≤ 40) :
    F8 n ((2, S, S, v), (1, k), S + i, false, 0) = if k ≤ i then some ((0, S + i, S, 0), ()) else some ((2, S, S, v), ()) := by
  have h1 : ¬ S + i < S := by
    rw [UInt64.lt_iff_toNat_lt, UInt64.toNat_add]; omega
  have h2 : S + i - S = i := by
    apply UInt64.toNat_inj.1
    rw [UInt64.toNat_sub, UInt64.toNat_add]; omega
  by_cases h3 : k ≤ i
  · simp [F8, oite, h1, h2, h3]
  · simp [F8, oite, h1, h2, h3]
theorem rests (n : Nat) (a b now : UInt64) (w : UInt64 × UInt64) (v : Int64) : F8 n ((0, a, b, v), w, now, false, 0) = some ((0, a, b, v), ()) := by simp [F8, oite]

theorem kept_loop (m : Nat) : ∀ (since : UInt32) (value : Int64) (after bound i keep : UInt64) (st : UInt8) (a b : UInt64) (v : Int64),
    bound.toNat - i.toNat < m → bound.toNat ≤ 40 → i.toNat ≤ bound.toNat →
    ((i.toNat ≤ keep.toNat ∧ st = 2 ∧ a = UInt64.ofInt (since.toNat : Int) ∧ b = UInt64.ofInt (since.toNat : Int)) ∨ (keep.toNat < i.toNat ∧ st = 0)) →
    ofixA P5 (L5 100) m since value after bound i 1 keep st a b v = some (true, ()) := by
  induction m with
  | zero => intros; omega
  | succ m ih =>
    intro since value after bound i keep st a b v hm hb hi hst
    have hS : (UInt64.ofInt (since.toNat : Int)).toNat < 2 ^ 32 := by rw [s64]; exact since.toNat_lt
    simp only [ofixA, L5]
    by_cases hlt : i < bound
    · have hlt' := UInt64.lt_iff_toNat_lt.1 hlt
      have hi1 : (i + 1).toNat = i.toNat + 1 := by
        rw [UInt64.toNat_add]
        have : (1 : UInt64).toNat = 1 := rfl
        omega
      have hnext := fun st a b v => ih since value after bound (i + 1) keep st a b v (by omega) hb (by omega)
      rcases hst with ⟨h1, rfl, rfl, rfl⟩ | ⟨h1, rfl⟩
      · rw [stays _ _ _ _ _ hS (by omega)]
        by_cases hk : keep ≤ i
        · have hk' := UInt64.le_iff_toNat_le.1 hk
          have hn : ¬ i < keep := UInt64.not_lt.2 hk
          have := hnext 0 (UInt64.ofInt (since.toNat : Int) + i) (UInt64.ofInt (since.toNat : Int)) 0 (.inr ⟨by omega, rfl⟩)
          simpa [hlt, hk, hn, obind, oite, F9] using this
        · have hn : i < keep := UInt64.not_le.1 hk
          have hn' := UInt64.lt_iff_toNat_lt.1 hn
          have := hnext 2 (UInt64.ofInt (since.toNat : Int)) (UInt64.ofInt (since.toNat : Int)) v (.inl ⟨by omega, rfl, rfl, rfl⟩)
          simpa [hlt, hk, hn, obind, oite, F9] using this
      · rw [rests]
        have hn : ¬ i < keep := by rw [UInt64.lt_iff_toNat_lt]; omega
        have := hnext 0 a b v (.inr ⟨by omega, rfl⟩)
        simpa [hlt, hn, obind, oite, F9] using this
    · simp [hlt, obind, oite, F8, F9, F10]

theorem kept_true : ∀ x : sig5.In, ∃ y, F5 100 x = some y ∧ PTys.hd (.one (.c .bool)) .nil y.1 = true := by
  rintro ⟨since, value, keep, gone, after⟩
  refine ⟨(true, ()), ?_, rfl⟩
  have hb : (UInt64.ofInt (((gone % 40 : UInt8).toNat : Nat) : Int)).toNat < 40 := by
    have h1 : (gone % 40).toNat < 40 := by rw [UInt8.toNat_mod]; exact Nat.mod_lt _ (by decide)
    rw [UInt64.ofInt, UInt64.toNat_ofNat']
    omega
  have key := kept_loop 100 since value after (UInt64.ofInt ((gone % 40 : UInt8).toNat : Int)) 0 (UInt64.ofInt ((keep % 20 : UInt8).toNat : Int)) 2 (UInt64.ofInt (since.toNat : Int)) (UInt64.ofInt (since.toNat : Int)) value
    (by omega) (by omega) (Nat.zero_le _) (.inl ⟨Nat.zero_le _, rfl, rfl, rfl⟩)
  have h5 : F5 100 (since, value, keep, gone, after) = ofixA P5 (L5 100) 100 since value after (UInt64.ofInt ((gone % 40 : UInt8).toNat : Int)) 0 1 (UInt64.ofInt ((keep % 20 : UInt8).toNat : Int)) 2 (UInt64.ofInt (since.toNat : Int)) (UInt64.ofInt (since.toNat : Int)) value := by
    show obind (F7 100 ()) _ = _
    rw [awake']
    simp only [obind, F10, F9]
    simp only [oite]
    simp
    rfl
  rw [h5]; exact key
end Go.Proofs.Ytjjmpblnncjojaa
