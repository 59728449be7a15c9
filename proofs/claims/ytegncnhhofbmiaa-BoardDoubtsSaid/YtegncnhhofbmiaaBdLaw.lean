/- The law BoardDoubts in plain Lean. -/
import Derived.Test.YtegncnhhofbmiaaBdApply
open Go Go.Sx
namespace Go.Proofs.Ytegncnhhofbmiaa
theorem same16_loop (l : List Pair) (hl : l.length < 2 ^ 63) : ∀ (m k : Nat), k ≤ l.length → l.length - k < m → F16_R29 m l l (I64 k) = some (true, ()) := by
  intro m
  induction m with
  | zero => intro k _ h; omega
  | succ m ih =>
    intro k hk hm
    rw [F16_R29_s]
    unfold F16_L29
    by_cases hlt : k < l.length
    · rw [dec_t ((i64_lt (by omega) hl).2 hlt), oite_t, at_i64_lt (by omega) hlt]
      simp only [obind_s, beq_self_eq_true, Bool.and_true, Bool.not_true, oite_f]
      rw [i64_succ]; exact ih (k + 1) (by omega) (by omega)
    · rw [dec_f (fun q => hlt ((i64_lt (by omega) hl).1 q)), oite_f]
theorem same16 (n : Nat) (l : List Pair) (hl : l.length < 2 ^ 63) (hn : l.length < n) : F16 n (l, l) = some (true, ()) := by
  unfold F16
  simp only [decide_true, Bool.not_true, oite_f]
  exact same16_loop l hl n 0 (by omega) (by omega)
theorem same12 (n : Nat) (a : Alert) (hl : a.2.2.1.length ≤ 3) (hn : 20 < n) : F12 n (a, a) = some (true, ()) := by
  obtain ⟨a0, a1, a2, a3, a4, a5, a6⟩ := a
  have h : F27 n ((a0, a1, a2, a3, a4, a5, a6), a0, a1, a2, a3, a4, a5, a6) = some (true, ()) := by
    unfold F27
    simp only [decide_true, oite_t, beq_self_eq_true]
    have hl : a2.length ≤ 3 := hl
    rw [same16 n a2 (by omega) (by omega)]
    rfl
  unfold F12
  simp only
  rw [h]
  simp only [obind_s, oite_t, decide_true]
theorem event_ok (n : Nat) (hn : 20 < n) (a b c : UInt8) (d e f : UInt16) (g h i : UInt8) (j : Bool) : ∃ x : ItT, F8 n (false, a, b, c, d, e, f, g, h, i, j) = some (x, ()) ∧ Small x ∧ x.1 = false := by
  obtain ⟨x, h1, h2, h3⟩ := item_small n hn (false, a, b, c, d, e, f, g, h, i, j)
  exact ⟨x, h1, h2, h3⟩
theorem upd_hit (o : UInt8) (now : UInt64) {e : Key × Alert} (h : hit o e) : upd o now e = (e.1, dim now e.2) := if_pos h
theorem upd_miss (o : UInt8) (now : UInt64) {e : Key × Alert} (h : ¬ hit o e) : upd o now e = e := if_neg h
theorem BOK.upd {ents : Ents} {o : UInt8} {now : UInt64} (h : BOK ents) : BOK (ents.map (upd o now)) := by
  refine ⟨by rw [keys_upd]; exact h.nd, fun e he => ?_, fun e he => ?_, fun e he => ?_⟩ <;> obtain ⟨e', he', rfl⟩ := List.mem_map.1 he
  · have := h.key e' he'
    unfold Ytegncnhhofbmiaa.upd
    split <;> exact this
  · have := h.small e' he'
    unfold Ytegncnhhofbmiaa.upd
    split <;> exact this
  · have := h.own e' he'
    unfold Ytegncnhhofbmiaa.upd
    split <;> exact this
theorem listed_at {ents : Ents} {o : UInt8} {now : UInt64} (hb : BOK ents) {k : Nat} (hk : k < ents.length) : ∃ y ∈ ents, (listed ents)[k]? = some y.2 ∧ (listed (ents.map (upd o now)))[k]? = some (upd o now y).2 := by
  have hlen : (sortW ents (ents.map Prod.fst)).length = ents.length := by rw [(sortW_perm _ _).length_eq, List.length_map]
  have hk' : k < (sortW ents (ents.map Prod.fst)).length := by omega
  have hmem : (sortW ents (ents.map Prod.fst))[k] ∈ ents.map Prod.fst := (sortW_perm _ _).mem_iff.1 (List.getElem_mem hk')
  obtain ⟨y, hy, hye⟩ := List.mem_map.1 hmem
  refine ⟨y, hy, ?_, ?_⟩
  · unfold listed
    rw [List.getElem?_map, List.getElem?_eq_getElem hk', ← hye]
    show some (look y.1 ents) = _
    rw [look_mem hb.nd hy]
  · unfold listed
    rw [keys_upd, sort_upd, List.getElem?_map, List.getElem?_eq_getElem hk', ← hye]
    show some (look y.1 (ents.map (upd o now))) = _
    have hn : ((ents.map (upd o now)).map Prod.fst).Nodup := by rw [keys_upd]; exact hb.nd
    have := look_mem hn (List.mem_map.2 ⟨y, hy, rfl⟩ : upd o now y ∈ ents.map (upd o now))
    rw [upd_fst] at this
    rw [this]
section
variable (n : Nat) (hn : 20 < n)
include hn
/-- An event makes an alert known again. -/
theorem again_ok (ents : Ents) (gaps : List UInt64) (hb : BOK ents) (was l : List Alert) (o : UInt8) (L : Nat) (hL : L < 1000) (b0 : Bool) (a b c : UInt8) (d e f : UInt16) (g h i : UInt8) (j : Bool) (m : Nat) :
    F3_R2045 n (m + 1) was o 0 l (I64 L) (I64 L) b0 a b c d e f g h i j (some (ents, gaps, ())) = some (true, ()) := by
  rw [F3_R2045_s]
  unfold F3_L2045
  rw [dec_f (fun q => by have := (i64_lt (by omega) (by omega)).1 q; omega), oite_f]
  obtain ⟨x, h1, h2, h3⟩ := event_ok n hn a b c d e f g h i j
  rw [h1, obind_s]
  refine (congrArg (fun z => obind z _) (apply_ok n hn ents gaps 200 x h2 h3)).trans ?_
  rw [obind_s]
  obtain ⟨k1, k2, k3⟩ := hb.appl 200 h2 h3
  have hlook : look (keyOf x) (appl ents 200 x) = newA (mget KV AV (keyOf x) ents) 200 x := by
    show (mget KV AV (keyOf x) (appl ents 200 x)).getD zA = _
    rw [k3]; rfl
  have hg := get_ok n (appl ents 200 x) gaps x.2.1 x.2.2.2.2.1 x.2.2.2.2.2.1 x.2.2.2.2.2.2.2.2.2.1 h2.each h2.labs (by
    show (look (keyOf x) (appl ents 200 x)).2.2.1.length ≤ 1000
    rw [hlook]; show x.2.2.2.2.2.1.length ≤ 1000; have := h2.labs; omega)
  refine (congrArg (fun z => obind z _) hg).trans ?_
  rw [obind_s]
  have hl' : look (x.2.1, x.2.2.2.2.1, textOf x.2.2.2.2.2.1, x.2.2.2.2.2.2.2.2.2.1) (appl ents 200 x) = newA (mget KV AV (keyOf x) ents) 200 x := hlook
  have hs' : (mget KV AV (x.2.1, x.2.2.2.2.1, textOf x.2.2.2.2.2.1, x.2.2.2.2.2.2.2.2.2.1) (appl ents 200 x)).isSome = true := by
    show (mget KV AV (keyOf x) (appl ents 200 x)).isSome = true
    rw [k3]; rfl
  simp only [hl', hs', decide_true, oite_t]
  unfold newA
  simp only [decide_true, oite_t]
theorem round_ok (rec_) (was : List Alert) (o : UInt8) (t : List Alert) (t1 t2 : Int64) (b0 : Bool) (a b c : UInt8) (d e f : UInt16) (g h i : UInt8) (j : Bool) (bd) (x : Alert) (hx : x.2.2.1.length ≤ 3) :
    F3_J130907 n rec_ was o 0 t t1 t2 b0 a b c d e f g h i j bd x.1 x.2.1 x.2.2.1 x.2.2.2.1 x.2.2.2.2.1 x.2.2.2.2.2.1 x.2.2.2.2.2.2 x.1 x.2.1 x.2.2.1 x.2.2.2.1 x.2.2.2.2.1 x.2.2.2.2.2.1 x.2.2.2.2.2.2 =
      rec_ was o 0 t t1 (t2 + 1) b0 a b c d e f g h i j bd := by
  unfold F3_J130907
  refine (congrArg (fun z => obind z _) (same12 n x hx hn)).trans ?_
  rfl
theorem list_loop (ents : Ents) (gaps : List UInt64) (hb : BOK ents) (hl : ents.length < 900) (o : UInt8) (hb' : BOK (ents.map (upd o 100))) (b0 : Bool) (a b c : UInt8) (d e f : UInt16) (g h i : UInt8) (j : Bool) :
    ∀ (m k : Nat), k ≤ ents.length → ents.length - k < m →
    F3_R2045 n m (listed ents) o 0 (listed (ents.map (upd o 100))) (I64 ents.length) (I64 k) b0 a b c d e f g h i j (some (ents.map (upd o 100), gaps, ())) = some (true, ()) := by
  intro m
  induction m with
  | zero => intros; omega
  | succ m ih =>
    intro k hk hm
    by_cases hlt : k < ents.length
    case neg =>
      rw [show k = ents.length by omega]
      exact again_ok n hn _ gaps hb' (listed ents) (listed (ents.map (upd o 100))) o ents.length (by omega) b0 a b c d e f g h i j m
    obtain ⟨y, hy, q1, q2⟩ := listed_at (o := o) (now := 100) hb hlt
    rw [F3_R2045_s]
    unfold F3_L2045
    rw [dec_t ((i64_lt (by omega) (by omega)).2 hlt), oite_t, at_i64 (by omega), q2, obind_s, at_i64 (by omega), q1, obind_s, ojoinA_rw]
    have rest := ih (k + 1) (by omega) (by omega)
    have hk1 := (hb.key y hy).1
    have hk2 := hb.own y hy
    have hk3 := (hb.small y hy).1
    have hk4 := (hb.small y hy).2
    have hJ := round_ok n hn (F3_R2045 n m) (listed ents) o (listed (ents.map (upd o 100))) (I64 ents.length) (I64 k) b0 a b c d e f g h i j (some (ents.map (upd o 100), gaps, ()))
    rw [i64_succ] at hJ
    by_cases hh : hit o y
    · rw [upd_hit o 100 hh]
      have h0 : y.2.1 = o := by rw [← hk1]; exact hh.1
      rw [show decide ((dim 100 y.2).1 = o) = true from dec_t h0, oite_t, dec_t hh.2.2, oite_t]
      have hown : F11 n (dim 100 y.2).2.1 = some (false, ()) := by
        show F11 n y.2.2.1 = _
        rw [own_eq n _ (by omega), ← hk2, dec_t hh.2.1]; rfl
      rw [hown, obind_s, show (!false) = true from rfl, oite_t]
      exact (hJ (dim 100 y.2) hk3).trans rest
    · rw [upd_miss o 100 hh]
      have hJ' := (hJ y.2 hk3).trans rest
      by_cases h0 : y.2.1 = o
      case neg => rw [dec_f h0, oite_f]; exact hJ'
      rw [dec_t h0, oite_t]
      by_cases h1 : y.2.2.2.2.1 = 2
      case neg => rw [dec_f h1, oite_f]; exact hJ'
      rw [dec_t h1, oite_t]
      have hown : F11 n y.2.2.1 = some (true, ()) := by
        rw [own_eq n _ (by omega), ← hk2, dec_f (fun q => hh ⟨hk1.trans h0, q, h1⟩)]; rfl
      rw [hown, obind_s, show (!true) = false from rfl, oite_f]
      exact hJ'
/-- The events, one by one; then the gap. -/
theorem fill_loop (N : Nat) (hN : n = N + 1030) (origin : UInt8) (t : List SmT) (ht : t.length ≤ 50) (b0 : Bool) (a b c : UInt8) (d e f : UInt16) (g h i : UInt8) (j : Bool) :
    ∀ (m k : Nat) (ents : Ents) (gaps : List UInt64), BOK ents → gaps.length = 32 → ents.length ≤ k → k ≤ t.length → t.length - k < m →
    F3_R125 n m origin t (I64 t.length) (I64 k) b0 a b c d e f g h i j (some (ents, gaps, ())) = some (true, ()) := by
  intro m
  induction m with
  | zero => intros; omega
  | succ m ih =>
    intro k ents gaps hb hg hek hk hm
    rw [F3_R125_s]
    unfold F3_L125
    by_cases hlt : k < t.length
    case pos =>
      rw [dec_t ((i64_lt (by omega) (by omega)).2 hlt), oite_t, at_i64_lt (by omega) hlt, obind_s]
      obtain ⟨x, h1, h2, h3⟩ := event_ok n hn (t[k].2.1 % 3) t[k].2.2.1 t[k].2.2.2.1 t[k].2.2.2.2.1 t[k].2.2.2.2.2.1 t[k].2.2.2.2.2.2.1 t[k].2.2.2.2.2.2.2.1 t[k].2.2.2.2.2.2.2.2.1 t[k].2.2.2.2.2.2.2.2.2.1 t[k].2.2.2.2.2.2.2.2.2.2
      rw [h1, obind_s]
      refine (congrArg (fun z => obind z _) (apply_ok n hn ents gaps (UInt64.ofInt (Int64.toInt (I64 k))) x h2 h3)).trans ?_
      rw [obind_s, show (!decide ((0 : Int64) = 0)) = false from rfl, oite_f, i64_succ]
      obtain ⟨k1, k2, _⟩ := hb.appl (UInt64.ofInt (Int64.toInt (I64 k))) h2 h3
      exact ih (k + 1) _ gaps k1 hg (by omega) (by omega) (by omega)
    rw [dec_f (fun q => hlt ((i64_lt (by omega) (by omega)).1 q)), oite_f]
    have ho : (origin % 3).toNat < 32 := by rw [UInt8.toNat_mod]; show origin.toNat % 3 < 32; omega
    have hc : gapCheck (origin % 3) 7 9 = 0 := by
      unfold gapCheck
      rw [show decide ((32 : UInt8) ≤ origin % 3) = false from dec_f fun q => by
        have := UInt8.le_iff_toNat_le.1 q
        have e : (32 : UInt8).toNat = 32 := rfl
        omega]
      rfl
    subst hN
    have hl1 := list_ok N ents gaps hb.keys (by omega)
    have hg1 := gap_ok (N + 1030) ents gaps hg hb.nd (by omega) (by omega) 100 (origin % 3) ho 7 9 hc
    have hb' : BOK (ents.map (upd (origin % 3) 100)) := hb.upd
    have hl2 := list_ok N (ents.map (upd (origin % 3) 100)) (gaps.set (origin % 3).toNat (gaps.getD (origin % 3).toNat 0 + (9 - 7 + 1))) hb'.keys (by rw [List.length_map]; omega)
    rw [hl1, obind_s]
    have h10 : F10 (N + 1030) (origin % 3, 7, 9) = some ((true, 0, 0, 0, [], [], 0, 0, 0, 0, origin % 3, 7, 9), ()) := rfl
    rw [h10, obind_s]
    refine (congrArg (fun z => obind z _) hg1).trans ?_
    rw [obind_s]
    refine (congrArg (fun z => obind z _) hl2).trans ?_
    rw [obind_s]
    have hlen : (listed (ents.map (upd (origin % 3) 100))).length = ents.length := by
      unfold listed
      rw [List.length_map, (sortW_perm _ _).length_eq, List.length_map, List.length_map]
    show F3_R2045 (N + 1030) (N + 1030) (listed ents) (origin % 3) 0 (listed (ents.map (upd (origin % 3) 100))) (Int64.ofInt ↑(List.length (listed (ents.map (upd (origin % 3) 100))))) 0 b0 a b c d e f g h i j (some (ents.map (upd (origin % 3) 100), _, ())) = _
    rw [hlen]
    exact list_loop (N + 1030) hn ents _ hb (by omega) (origin % 3) hb' b0 a b c d e f g h i j (N + 1030) 0 (by omega) (by omega)
end
theorem BOK.nil : BOK [] := ⟨List.nodup_nil, fun e h => (by cases h), fun e h => (by cases h), fun e h => (by cases h)⟩
theorem awake (n : Nat) (hn : 20 < n) : F5 n () = some (true, ()) := by
  have hx : Small (false, 0, 1, 0, [120], [], 2, 0, 0, 0, 0, 0, 0) := ⟨by decide, by simp, by simp, by simp⟩
  have h17 : F17 n [((1 : UInt64), ((false, 0, 1, 0, [120], [], 2, 0, 0, 0, 0, 0, 0) : ItT)), ((2 : UInt64), ((true, 0, 0, 0, [], [], 0, 0, 0, 0, 0, 2, 4) : ItT))] =
      some ((some ((appl [] 1 (false, 0, 1, 0, [120], [], 2, 0, 0, 0, 0, 0, 0)).map (upd 0 2), (List.replicate 32 (0 : UInt64)).set 0 3, ()), 0), ()) := by
    have h6 : F6 n () = some (some ([], List.replicate 32 0, ()), ()) := rfl
    unfold F17
    rw [h6, obind_s]
    obtain ⟨m, rfl⟩ : ∃ m, n = m + 3 := ⟨n - 3, by omega⟩
    show F17_R29 (m + 3) (m + 2 + 1) _ (I64 2) (I64 0) _ = _
    rw [F17_R29_s]
    unfold F17_L29
    rw [dec_t ((i64_lt (a := 0) (b := 2) (by omega) (by omega)).2 (by omega)), oite_t, at_i64_lt (by omega) (by simp), obind_s]
    refine (congrArg (fun z => obind z _) (apply_ok (m + 3) hn [] (List.replicate 32 0) 1 (false, 0, 1, 0, [120], [], 2, 0, 0, 0, 0, 0, 0) hx rfl)).trans ?_
    rw [obind_s, show (!decide ((0 : Int64) = 0)) = false from rfl, oite_f, i64_succ]
    show F17_R29 (m + 3) (m + 1 + 1) _ _ _ _ = _
    rw [F17_R29_s]
    unfold F17_L29
    rw [dec_t ((i64_lt (a := 1) (b := 2) (by omega) (by omega)).2 (by omega)), oite_t, at_i64_lt (by omega) (by simp), obind_s]
    obtain ⟨k1, k2, _⟩ := BOK.nil.appl 1 hx rfl
    refine (congrArg (fun z => obind z _) (gap_ok (m + 3) (appl [] 1 (false, 0, 1, 0, [120], [], 2, 0, 0, 0, 0, 0, 0)) (List.replicate 32 0) (by simp) k1.nd (by simp at k2; omega) hn 2 0 (by decide) 2 4 (by decide))).trans ?_
    rw [obind_s, show (!decide ((0 : Int64) = 0)) = false from rfl, oite_f, i64_succ]
    show F17_R29 (m + 3) (m + 1) _ _ _ _ = _
    rw [F17_R29_s]
    unfold F17_L29
    rw [dec_f (fun q => by have := (i64_lt (a := 2) (b := 2) (by omega) (by omega)).1 q; omega), oite_f]
    rfl
  unfold F5
  have h18 : F18 n (0, 1, 0, [120], [], 2, 0, 0, 0) = some ((false, 0, 1, 0, [120], [], 2, 0, 0, 0, 0, 0, 0), ()) := rfl
  have h10 : F10 n (0, 2, 4) = some ((true, 0, 0, 0, [], [], 0, 0, 0, 0, 0, 2, 4), ()) := rfl
  rw [h18, obind_s, h10, obind_s]
  refine (congrArg (fun z => obind z _) h17).trans ?_
  rw [obind_s]
  have hl : look (0, [120], textOf [], 0) ((appl [] 1 (false, 0, 1, 0, [120], [], 2, 0, 0, 0, 0, 0, 0)).map (upd 0 2)) = (0, [120], [], 3, 2, 0, 0) := rfl
  have hs : (mget KV AV (0, [120], textOf [], 0) ((appl [] 1 (false, 0, 1, 0, [120], [], 2, 0, 0, 0, 0, 0, 0)).map (upd 0 2))).isSome = true := rfl
  have hg := get_ok n ((appl [] 1 (false, 0, 1, 0, [120], [], 2, 0, 0, 0, 0, 0, 0)).map (upd 0 2)) ((List.replicate 32 (0 : UInt64)).set 0 3) 0 [120] [] 0 (by simp) (by simp) (by rw [hl]; simp)
  refine (congrArg (fun z => obind z _) hg).trans ?_
  rw [obind_s, hl, hs]
  rfl
theorem boardDoubts_true : ∀ x : sig3.In, PTys.fits sig3.ps x → ∃ n y, F3 n x = some y ∧ PTys.hd (.one (.c .bool)) .nil y.1 = true := by
  rintro ⟨t, origin, b0, a, b, c, d, e, f, g, h, i, j⟩ hfit
  have ht := hfit.1
  simp only [PTy.fits, CT.fits] at ht
  have hlen : t.length < 2 ^ 63 := ht.1
  refine ⟨1030, (true, ()), ?_, rfl⟩
  unfold F3
  rw [awake 1030 (by omega), obind_s, show (!true) = false from rfl, oite_f]
  by_cases h50 : t.length ≤ 50
  case neg =>
    rw [show decide ((50 : Int64) < Int64.ofInt ↑(List.length t)) = true from dec_t ((i64_lt (a := 50) (by omega) hlen).2 (by omega)), oite_t]
  rw [show decide ((50 : Int64) < Int64.ofInt ↑(List.length t)) = false from dec_f fun q => by have := (i64_lt (a := 50) (by omega) hlen).1 q; omega, oite_f]
  have h6 : F6 1030 () = some (some ([], List.replicate 32 0, ()), ()) := rfl
  rw [h6, obind_s]
  exact fill_loop 1030 (by omega) 0 rfl origin t h50 b0 a b c d e f g h i j 1030 0 [] (List.replicate 32 0) BOK.nil (by simp) (by simp) (by omega) (by omega)
end Go.Proofs.Ytegncnhhofbmiaa
