/- The law RecvOrder: however items come, they are taken over by their numbers, each once. -/
import Derived.Test.YtllfmmonieelpaaReNone
open Go Go.Sx
namespace Go.Proofs.Ytllfmmonieelpaa
/-! A map's entries -/
theorem eqb_u64 {a b : UInt64} (h : VT.eqb KU a b = true) : a = b := by
  have h : decide ((a : UInt64) = b) = true := h
  exact of_decide_eq_true h
theorem mget_mem (k : UInt64) : ∀ (m : MapI) (y : ItT), mget KU VI k m = some y → (k, y) ∈ m
  | [], _, h => by cases h
  | p :: r, y, h => by
    unfold mget at h
    cases he : VT.eqb KU k p.1 with
    | true => rw [he] at h; simp only [Option.some.injEq] at h; rw [eqb_u64 he, ← h]; exact List.mem_cons_self
    | false => rw [he] at h; exact List.mem_cons_of_mem _ (mget_mem k r y h)
theorem mput_mem (k : UInt64) (x : ItT) : ∀ (m : MapI) (p : UInt64 × ItT), p ∈ mput KU VI k x m → p ∈ m ∨ p = (k, x)
  | [], p, h => by right; simpa [mput] using h
  | q :: r, p, h => by
    unfold mput at h
    cases he : VT.eqb KU k q.1 with
    | true =>
      rw [he] at h
      rcases List.mem_cons.1 h with h | h
      · exact .inr h
      · exact .inl (List.mem_cons_of_mem _ h)
    | false =>
      rw [he] at h
      rcases List.mem_cons.1 h with h | h
      · exact .inl (h ▸ List.mem_cons_self)
      · rcases mput_mem k x r p h with h | h
        · exact .inl (List.mem_cons_of_mem _ h)
        · exact .inr h
theorem mput_len (k : UInt64) (x : ItT) : ∀ (m : MapI), (mput KU VI k x m).length ≤ m.length + 1
  | [] => by simp [mput]
  | q :: r => by
    unfold mput
    cases he : VT.eqb KU k q.1 with
    | true => simp
    | false => have := mput_len k x r; simp only [List.length_cons]; omega
theorem mdel_mem (k : UInt64) : ∀ (m : MapI) (p : UInt64 × ItT), p ∈ mdel KU VI k m → p ∈ m
  | [], _, h => h
  | q :: r, p, h => by
    unfold mdel at h
    cases he : VT.eqb KU k q.1 with
    | true => rw [he] at h; exact List.mem_cons_of_mem _ h
    | false =>
      rw [he] at h
      rcases List.mem_cons.1 h with h | h
      · exact h ▸ List.mem_cons_self
      · exact List.mem_cons_of_mem _ (mdel_mem k r p h)
theorem mdel_len (k : UInt64) : ∀ (m : MapI), (mget KU VI k m).isSome = true → (mdel KU VI k m).length + 1 = m.length
  | [], h => by cases h
  | q :: r, h => by
    unfold mget at h
    unfold mdel
    cases he : VT.eqb KU k q.1 with
    | true => rfl
    | false => rw [he] at h; have := mdel_len k r h; simp only [List.length_cons]; omega

/-! Each item bears its number -/
def Ent (m : MapI) : Prop := ∀ p ∈ m, p.2.2.2.1 = 1 + p.1 ∧ p.2.2.2.2.2.2.1.length ≤ 1000
theorem Ent.put {m : MapI} (h : Ent m) {k : UInt64} {x : ItT} (h1 : x.2.2.1 = 1 + k) (h2 : x.2.2.2.2.2.1.length ≤ 1000) : Ent (mput KU VI k x m) := fun p hp => by
  rcases mput_mem k x m p hp with hp | hp
  · exact h p hp
  · subst hp; exact ⟨h1, h2⟩
theorem Ent.del {m : MapI} (h : Ent m) (k : UInt64) : Ent (mdel KU VI k m) := fun p hp => h p (mdel_mem k m p hp)
theorem peek_none (n : Nat) (w : Int64) (want : UInt64) (m : MapI) (old : UInt64) (hg : mget KU VI want m = none) :
    F11 n (some (w, want, m, old)) = some (((false, 0, 0, 0, [], [], 0, 0, 0, 0, 0, 0, 0), false), some (w, want, m, old)) := by
  unfold F11
  dsimp only [oelim]
  rw [has_eq, obind_s]
  dsimp only
  rw [hg]
  rfl
theorem peek_some (n : Nat) (w : Int64) (want : UInt64) (m : MapI) (old : UInt64) (y : ItT) (hl : y.2.2.2.2.2.1.length ≤ 1000) (hg : mget KU VI want m = some y) :
    F11 n (some (w, want, m, old)) = some ((y, true), some (w, want, m, old)) := by
  have hc := clone_eq n y hl
  obtain ⟨y0, y1, y2, y3, y4, y5, y6, y7, y8, y9, y10, y11, y12⟩ := y
  unfold F11
  dsimp only [oelim]
  rw [has_eq, obind_s]
  dsimp only
  rw [hg]
  dsimp only [Option.isSome, Option.getD]
  simp only [Bool.not_true, oite_f, obind_s]
  rw [hg]
  dsimp only
  rw [hc, obind_s]
theorem u64_succ {a : UInt64} (h : a.toNat < 2 ^ 60) : (a + 1).toNat = a.toNat + 1 := by
  rw [UInt64.toNat_add]
  show (a.toNat + 1) % 2 ^ 64 = _
  omega
theorem inner (n : Nat) (rec : Int64 → Int64 → UInt64 → List UInt8 → Int64 → Int64 → Option RecT → Option (Bool × Unit)) (w e : Int64) (t : List UInt8) (t1 t2 : Int64) (win : Int64) (old : UInt64) :
    ∀ (f : Nat) (next : UInt64) (m : MapI), m.length < f → Ent m → next.toNat + m.length ≤ 2000 →
    ∃ next' m', Ent m' ∧ next'.toNat + m'.length = next.toNat + m.length ∧ next.toNat ≤ next'.toNat ∧ F5_R259519 n rec f w e next t t1 t2 (some (win, next, m, old)) = rec w e next' t t1 (t2 + 1) (some (win, next', m', old)) := by
  intro f
  induction f with
  | zero => intro next m h; omega
  | succ f ih =>
    intro next m hm hE hb
    rw [F5_R259519_s]
    unfold F5_L259519
    cases hg : mget KU VI next m with
    | none =>
      rw [peek_none n win next m old hg, obind_s]
      dsimp only
      simp only [Bool.not_false, oite_t]
      exact ⟨next, m, hE, rfl, Nat.le_refl _, rfl⟩
    | some y =>
      have hy := hE _ (mget_mem next m y hg)
      dsimp only at hy
      rw [peek_some n win next m old y hy.2 hg, obind_s]
      dsimp only
      simp only [Bool.not_true, oite_f]
      rw [dec_t hy.1]
      simp only [Bool.not_true, oite_f]
      have hs : (mget KU VI next m).isSome = true := by rw [hg]; rfl
      rw [next_eq, if_pos hs, obind_s]
      dsimp only
      simp only [decide_true, Bool.not_true, oite_f]
      have hlen := mdel_len next m hs
      have hsu := u64_succ (a := next) (by omega)
      obtain ⟨next', m', q1, q2, q3, q4⟩ := ih (next + 1) (mdel KU VI next m) (by omega) (hE.del next) (by omega)
      exact ⟨next', m', q1, by omega, by omega, q4⟩
theorem item_seq (n : Nat) (s : UInt16) : F9 (n + 20) (false, 0, 0, 0, s, 0, 0, 0, 0, 0, false) = some ((false, 0, 1 + UInt64.ofInt ↑(UInt16.toNat s), 0, [104, 111, 116], [], 0, 0, -100, 0, 0, 0, 0), ()) := by kernel_rfl
theorem seq16 {s : UInt64} (h : s.toNat < 65536) : UInt64.ofInt ↑(UInt16.toNat (UInt16.ofInt ↑(UInt64.toNat s))) = s := by
  apply UInt64.toNat_inj.1
  rw [u64of16]
  show (UInt16.ofInt ((s.toNat : Nat) : Int)).toNat = _
  have : UInt16.ofInt ((s.toNat : Nat) : Int) = UInt16.ofNat s.toNat := by
    apply UInt16.toNat_inj.1
    rw [UInt16.toNat_ofNat']
    simp [UInt16.ofInt]
    omega
  rw [this, UInt16.toNat_ofNat']
  omega
theorem take_any (n : Nat) (hn : 40 < n) (w : Int64) (want : UInt64) (m : MapI) (old seq : UInt64) (hE : Ent m) (x : ItT) (hx : Small x) (hs : x.2.2.1 = 1 + seq) :
    ∃ c m' old', F10 n (some (w, want, m, old), seq, x) = some (c, some (w, want, m', old')) ∧ Ent m' ∧ m'.length ≤ m.length + 1 := by
  have hl := hx.labs
  rw [take_eq n (by omega) w want m old seq x n (hx.fit n (by omega)) (by omega)]
  by_cases h1 : seq < want ∨ (mget KU VI seq m).isSome = true
  · rw [if_pos h1]; exact ⟨_, m, _, rfl, hE, by omega⟩
  · rw [if_neg h1]
    by_cases h2 : UInt64.ofInt w.toInt ≤ seq - want
    · rw [if_pos h2]; exact ⟨_, m, _, rfl, hE, by omega⟩
    · rw [if_neg h2]
      by_cases h3 : itCheck x = 0
      · rw [if_pos h3]; exact ⟨_, _, _, rfl, hE.put hs (by omega), mput_len seq x m⟩
      · rw [if_neg h3]; exact ⟨_, m, _, rfl, hE, by omega⟩

theorem u64_ofInt (c : Nat) : UInt64.ofInt (c : Int) = UInt64.ofNat c := by
  apply UInt64.toNat_inj.1
  rw [UInt64.toNat_ofNat']
  simp [UInt64.ofInt]
  omega
theorem put_one (n : Nat) (hn : 2000 < n) (rec : Int64 → Int64 → UInt64 → List UInt8 → Int64 → Int64 → Option RecT → Option (Bool × Unit)) (w e : Int64) (t : List UInt8) (t1 t2 : Int64) (win : Int64) (old : UInt64) (next : UInt64) (m : MapI) (seq : UInt64)
    (hE : Ent m) (hb : next.toNat + m.length ≤ 1000) (hs : seq.toNat < 65536) :
    ∃ next' m' old', Ent m' ∧ next'.toNat + m'.length ≤ next.toNat + m.length + 1 ∧ next.toNat ≤ next'.toNat ∧ F5_J32439 n rec w e next seq t t1 t2 (some (win, next, m, old)) = rec w e next' t t1 (t2 + 1) (some (win, next', m', old')) := by
  obtain ⟨x, q1, hx⟩ := item_small n (by omega) (false, 0, 0, 0, UInt16.ofInt ↑(UInt64.toNat seq), 0, 0, 0, 0, 0, false)
  have q2 : F9 n (false, 0, 0, 0, UInt16.ofInt ↑(UInt64.toNat seq), 0, 0, 0, 0, 0, false) = some ((false, 0, 1 + UInt64.ofInt ↑(UInt16.toNat (UInt16.ofInt ↑(UInt64.toNat seq))), 0, [104, 111, 116], [], 0, 0, -100, 0, 0, 0, 0), ()) := by
    have := item_seq (n - 20) (UInt16.ofInt ↑(UInt64.toNat seq))
    rwa [show n - 20 + 20 = n by omega] at this
  rw [q2] at q1
  simp only [Option.some.injEq, Prod.mk.injEq, and_true] at q1
  subst q1
  obtain ⟨c, m', old', k1, k2, k3⟩ := take_any n (by omega) win next m old seq hE _ hx (by dsimp only; rw [seq16 hs])
  unfold F5_J32439
  rw [q2, obind_s]
  dsimp only
  rw [k1, obind_s]
  dsimp only
  obtain ⟨next', m2, g1, g2, g3, g4⟩ := inner n rec w e t t1 t2 win old' n next m' (by omega) k2 (by omega)
  exact ⟨next', m2, old', g1, by omega, g3, g4⟩
theorem order_loop (n : Nat) (hn : 2000 < n) (t : List UInt8) (ht : t.length < 2 ^ 63) (w : Int64) (hw : 1 ≤ w.toInt) (hw2 : w.toInt ≤ 64) : ∀ (f k : Nat) (next : UInt64) (m : MapI) (old : UInt64), k ≤ t.length → t.length - k < f → Ent m → next.toNat + m.length ≤ 1 + k → k ≤ 201 → 1 ≤ next.toNat →
    F5_R253 n (F5_J63 n) f w 0 next t (I64 t.length) (I64 k) (some (w, next, m, old)) = some (true, ()) := by
  have fin : ∀ (next : UInt64) (m : MapI) (old : UInt64), m.length ≤ 1000 → F5_J63 n 0 next (some (w, next, m, old)) = some (true, ()) := by
    intro next m old hm
    unfold F5_J63
    have : F18 n (some (w, next, m, old)) = some ((next, I64 m.length, old), some (w, next, m, old)) := by
      unfold F18
      dsimp only [oelim]
      rw [ble_t (by omega), oite_t]
    rw [this, obind_s]
    simp only [decide_true, oite_t]
  intro f
  induction f with
  | zero => intro k next m old _ h; omega
  | succ f ih =>
    intro k next m old hk hf hE hb hk2 h1
    rw [F5_R253_s]
    unfold F5_L253
    by_cases hlt : k < t.length
    · rw [dec_t ((i64_lt (by omega) ht).2 hlt), oite_t, at_i64_lt (by omega) hlt, obind_s]
      by_cases hbr : 200 < k
      · have c : (200 : Int64) < I64 k := (i64_lt (a := 200) (by omega) (by omega)).2 hbr
        rw [dec_t c, oite_t]
        exact fin next m old (by omega)
      · have c : ¬ (200 : Int64) < I64 k := fun q => hbr ((i64_lt (a := 200) (by omega) (by omega)).1 q)
        rw [dec_f c, oite_f]
        have hwu : (UInt64.ofInt w.toInt).toNat = w.toInt.toNat := by
          obtain ⟨c, hc⟩ : ∃ c : Nat, w.toInt = c := ⟨w.toInt.toNat, by omega⟩
          rw [hc, u64_ofInt, UInt64.toNat_ofNat', Int.toNat_natCast]
          omega
        have c0 : ¬ (UInt64.ofInt w.toInt = 0) := fun h => by rw [h] at hwu; have : (0 : UInt64).toNat = 0 := rfl; omega
        rw [dec_f c0, oite_f, ojoinA_eq]
        have go : ∀ seq : UInt64, seq.toNat < 65536 → F5_J32439 n (F5_R253 n (F5_J63 n) f) w 0 next seq t (I64 t.length) (I64 k) (some (w, next, m, old)) = some (true, ()) := by
          intro seq hs
          obtain ⟨next', m', old', g1, g2, g3, g4⟩ := put_one n hn (F5_R253 n (F5_J63 n) f) w 0 t (I64 t.length) (I64 k) w old next m seq hE (by omega) hs
          rw [g4, i64_succ]
          exact ih (k + 1) next' m' old' (by omega) (by omega) g1 (by omega) (by omega) (by omega)
        have s1 : (next + UInt64.ofInt ↑(UInt8.toNat t[k]) % UInt64.ofInt w.toInt).toNat < 65536 := by
          rw [UInt64.toNat_add, UInt64.toNat_mod, hwu]
          have := Nat.mod_lt (UInt64.ofInt ↑(UInt8.toNat t[k])).toNat (show w.toInt.toNat > 0 by omega)
          rw [Nat.mod_eq_of_lt (by omega)]
          omega
        by_cases hx : (200 : UInt8) < t[k]
        · rw [dec_t hx, oite_t]
          by_cases hn1 : (1 : UInt64) < next
          · rw [dec_t hn1, oite_t]
            refine go _ ?_
            have h2 : 1 < next.toNat := UInt64.lt_iff_toNat_lt.1 hn1
            rw [UInt64.toNat_sub_of_le _ _ (UInt64.le_iff_toNat_le.2 (by show 1 ≤ _; omega))]
            show next.toNat - 1 < _
            omega
          · rw [dec_f hn1, oite_f]; exact go _ s1
        · rw [dec_f hx, oite_f]; exact go _ s1
    · rw [dec_f (fun q => hlt ((i64_lt (by omega) ht).1 q)), oite_f]
      exact fin next m old (by omega)
theorem order_law (n : Nat) (hn : 3000 < n) (x : UInt8) (t : List UInt8) (ht : t.length < 2 ^ 63) (hnt : t.length < n) : F5 (n + 100) (x, t) = some (true, ()) := by
  unfold F5
  dsimp only
  rw [awakeR, obind_s]
  simp only [Bool.not_true, oite_f]
  have hw : ((1 : Int64) + Int64.ofInt ↑(UInt8.toNat (x % 64))) = I64 (1 + (x % 64).toNat) := by
    show I64 1 + I64 _ = _
    rw [i64_add]
  have h64 : (x % 64).toNat < 64 := by rw [UInt8.toNat_mod]; exact Nat.mod_lt _ (by decide)
  rw [hw]
  generalize (x % 64).toNat = c at h64
  have hi : (I64 (1 + c)).toInt = ((1 + c : Nat) : Int) := i64_toInt (by omega)
  rw [new_eq, if_pos (by omega), obind_s, ojoinA_eq]
  dsimp only
  exact order_loop (n + 100) (by omega) t ht (I64 (1 + c)) (by omega) (by omega) (n + 100) 0 1 [] 0 (by omega) (by omega) (fun p hp => by cases hp) (by show (1 : Nat) + 0 ≤ 1 + 0; omega) (by omega) (by decide)
theorem order_true : ∀ x : sig5.In, PTys.fits sig5.ps x → ∃ n y, F5 n x = some y ∧ PTys.hd (.one (.c .bool)) .nil y.1 = true := by
  rintro ⟨x, t⟩ h
  have ht := h.2.1
  simp only [PTy.fits, CT.fits] at ht
  exact ⟨_, _, order_law (3001 + t.length) (by omega) x t ht.1 (by omega), rfl⟩
end Go.Proofs.Ytllfmmonieelpaa
