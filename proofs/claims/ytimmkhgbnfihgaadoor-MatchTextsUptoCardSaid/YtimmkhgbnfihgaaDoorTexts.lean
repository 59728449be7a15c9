/- The law MatchTexts in plain Lean: any text read, and any questions written: the code's answer is the document's. -/
import Derived.Test.YtimmkhgbnfihgaaDoorBack
import Derived.Test.YtimmkhgbnfihgaaDoorSxLaw3
open Go Go.Sx
namespace Go.Proofs.YtimmkhgbnfihgaaDoor
abbrev someL : List (List UInt8) := [[97, 61, 98], [44], [97, 33, 61, 98], [97, 94, 61, 98, 46], [33, 97], [97], [42], [61], [33], [97, 61, 98, 33, 61, 99], [65, 61, 98], [97, 61], [97, 94, 61], [120, 61, 121, 94, 61, 122], [116, 111, 111, 108, 111, 110, 103, 107, 101, 121, 61, 97], [97, 61, 33]]
theorem some_len : ∀ p ∈ someL, p.length ≤ 12 := by decide
theorem asks_bulk : ∀ l : List AskP, tot l ≤ (l.map fun x => CTs.bulk (.cons .str (.cons (.int .u8) (.cons .str .nil))) x + 1).sum + 2 * l.length
  | [] => by simp [tot]
  | a :: r => by
    have h := asks_bulk r
    have e : CTs.bulk (.cons .str (.cons (.int .u8) (.cons .str .nil))) a = a.1.length + (0 + (a.2.2.length + 0)) := by simp only [CTs.bulk, CT.bulk]; rfl
    simp only [List.map_cons, List.sum_cons, List.length_cons, tot, szA]
    omega
theorem all_texts (n : Nat) (hn : 80000 < n) (asks : List AskP) (ha : asks.length ≤ 12) (hf : FitAs n asks) (ht : tot asks + 1 ≤ 4294967296) (t : List (List UInt8)) (ht3 : t.length ≤ 3) (hx : ∀ p ∈ t, p.length < 2 ^ 63) (m : Nat) : ∀ k, k ≤ t.length → t.length - k < m →
    F5_R509 n m asks (I64 t.length) (I64 k) t = some (true, ()) := by
  induction m with
  | zero => intros; omega
  | succ m ih =>
    intro k hk hm
    rw [F5_R509_s]
    unfold F5_L509
    by_cases hlt : k < t.length
    · obtain ⟨b1, b2⟩ := idx_i64 (l := t) hlt (by omega)
      have hp := hx t[k] (List.getElem_mem hlt)
      have h8 := parseV_len t[k]
      rw [dec_t ((i64_lt (by omega) (by omega)).2 hlt), oite_t, b1, oite_t, b2]
      simp only [obind_s]
      rw [parseA n (by omega) _ hp, parseB n (by omega) _ hp]
      simp only [obind_s, decide_true, Bool.not_true, oite_f]
      rw [refs_eq n (by omega) _ (by omega)]
      simp only [obind_s]
      rw [(asks_refl n (by omega) _ (by omega)).2]
      simp only [obind_s, Bool.not_true, oite_f, i64_succ]
      exact ih (k + 1) (by omega) (by omega)
    · rw [dec_f (fun q => hlt ((i64_lt (by omega) (by omega)).1 q)), oite_f, text_eq n (by omega) asks ha (by omega)]
      simp only [obind_s]
      rw [refs_eq n (by omega) asks ha]
      simp only [obind_s]
      rw [ref_text n (by omega) asks ha ht]
      simp only [obind_s, beq_self_eq_true, oite_t]
      rw [asks_eq n (by omega) asks hf]
      simp only [obind_s]
      rw [rasks_eq n (by omega) asks hf]
      simp only [obind_s, decide_true]
theorem build_text (n : Nat) (hn : 80000 < n) (s : List UInt8) (hs : s.length ≤ 300) (asks : List AskP) (ha : asks.length ≤ 12) (hf : FitAs n asks) (ht : tot asks + 1 ≤ 4294967296) (l : List UInt8) (hl : l.length < 2 ^ 63) (m : Nat) :
    ∀ (k : Nat) (text : List UInt8), k ≤ l.length → l.length - k < m → text.length ≤ 12 * min k 20 → F5_R253 n m s asks text l (I64 l.length) (I64 k) someL = some (true, ()) := by
  induction m with
  | zero => intros; omega
  | succ m ih =>
    intro k text hk hm hx
    rw [F5_R253_s]
    unfold F5_L253
    by_cases hlt : k < l.length
    · rw [dec_t ((i64_lt (by omega) (by omega)).2 hlt), oite_t, at_i64_lt (by omega) hlt]
      simp only [obind_s, i64_succ]
      by_cases h20 : k < 20
      · have hb := UInt8.toNat_lt l[k]
        have e0 : Int64.toInt (Int64.ofInt ↑(UInt8.toNat l[k])) = ((l[k].toNat : Nat) : Int) := i64_toInt (by omega)
        rw [dec_t (p := I64 k < 20) ((i64_lt (b := 20) (by omega) (by omega)).2 h20), oite_t]
        by_cases h16 : l[k].toNat < someL.length
        · have hd : decide (Int64.ofInt ↑(UInt8.toNat l[k]) < Int64.ofInt ↑(List.length someL)) = true := dec_t ((i64_lt (by omega) (by decide)).2 h16)
          have hp := some_len someL[l[k].toNat] (List.getElem_mem h16)
          rw [hd, oite_t, e0]
          obtain ⟨b1, b2⟩ := idx_nat (l := someL) (k := l[k].toNat) h16
          rw [b1, oite_t, b2]
          simp only [obind_s]
          rw [ble_t (by omega), oite_t]
          exact ih (k + 1) _ (by omega) (by omega) (by simp only [List.length_append]; omega)
        · have hd : decide (Int64.ofInt ↑(UInt8.toNat l[k]) < Int64.ofInt ↑(List.length someL)) = false := dec_f fun q => h16 ((i64_lt (by omega) (by decide)).1 q)
          rw [hd, oite_f, ble_t (by simp; omega), oite_t]
          exact ih (k + 1) _ (by omega) (by omega) (by simp only [List.length_append, List.length_cons, List.length_nil]; omega)
      · rw [dec_f (p := I64 k < 20) (fun q => h20 ((i64_lt (b := 20) (by omega) (by omega)).1 q)), oite_f]
        exact ih (k + 1) _ (by omega) (by omega) (by omega)
    · rw [dec_f (fun q => hlt ((i64_lt (by omega) (by omega)).1 q)), oite_f, text_eq n (by omega) asks ha (by omega)]
      simp only [obind_s]
      have h3 := textL_len asks
      exact all_texts n hn asks ha hf ht [s, text, textL asks] (by simp) (fun p hp => by
        simp only [List.mem_cons, List.not_mem_nil, or_false] at hp
        rcases hp with rfl | rfl | rfl <;> omega) n 0 (by omega) (by simp; omega)
theorem matchTexts_true : ∀ x : sig5.In, PTys.fits sig5.ps x → PTys.bulk sig5.ps x ≤ 1048576 → ∃ n y, F5 n x = some y ∧ PTys.hd (.one (.c .bool)) .nil y.1 = true := by
  rintro ⟨s, l, asks⟩ hfit hbulk
  have h1 := hfit.1
  have h2 := hfit.2.1
  have h3 := hfit.2.2.1
  simp only [PTy.fits, CTs.fits, CT.fits] at h1 h2 h3
  have s0 : s.length < 2 ^ 63 := h1
  have l0 : l.length < 2 ^ 63 := h2.1
  have a0 : asks.length < 2 ^ 63 := h3.1
  have hb : PTys.bulk sig5.ps (s, l, asks) = s.length + ((l.map fun x => CTs.bulk (.cons (.int .u8) .nil) x + 1).sum + ((asks.map fun x => CTs.bulk (.cons .str (.cons (.int .u8) (.cons .str .nil))) x + 1).sum + 0)) := by
    rfl
  have hbulk := hb ▸ hbulk
  have hk := asks_bulk asks
  obtain ⟨n, hn⟩ : ∃ n, n = l.length + tot asks + 90000 := ⟨_, rfl⟩
  refine ⟨n, (true, ()), ?_, rfl⟩
  have e0 : F5 n (s, l, asks) = obind (F7 n ()) fun b => oite (!b.1) (some (false, ())) (oite (decide ((300 : Int64) < I64 s.length)) (some (true, ())) (oite (decide ((12 : Int64) < I64 asks.length)) (some (true, ()))
      (F5_R253 n n s asks [] l (I64 l.length) 0 someL))) := rfl
  refine e0.trans ?_
  rw [awakeN n (by omega), obind_s, lenD 12 asks.length 12 rfl (by omega) a0]
  simp only [Bool.not_true, oite_f]
  by_cases q1 : 300 < s.length
  · rw [dec_t (p := (300 : Int64) < _) ((i64_lt (a := 300) (by omega) s0).2 q1)]; rfl
  rw [dec_f (p := (300 : Int64) < _) (fun q => q1 ((i64_lt (a := 300) (by omega) s0).1 q)), oite_f]
  by_cases q2 : 12 < asks.length
  · rw [dec_t q2]; rfl
  rw [dec_f q2, oite_f]
  have hf : FitAs n asks := by
    refine ⟨by omega, fun a ha => ?_⟩
    have := tot_le asks a ha
    unfold szA at this
    exact ⟨⟨by omega, by omega⟩, by omega, by omega⟩
  exact build_text n (by omega) s (by omega) asks (by omega) hf (by omega) l l0 n 0 [] (by omega) (by omega) (by simp)
end Go.Proofs.YtimmkhgbnfihgaaDoor
