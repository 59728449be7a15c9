/- The law QuietCovers: any silence, any alert, any time. -/
import Derived.Test.YtehpdcdpkdhcgaaQpFns2
import Derived.Test.YtehpdcdpkdhcgaaSxPlain
open Go Go.Sx
namespace Go.Proofs.Ytehpdcdpkdhcgaa
abbrev Pair := List UInt8 × List UInt8
def getP : List Pair → List UInt8 → Option (List UInt8)
  | [], _ => none
  | x :: r, k => if x.1 == k then some x.2 else getP r k
def gotV (o : Option (List UInt8)) : List UInt8 × Bool := match o with | some v => (v, true) | none => ([], false)
theorem get_loop (l : List Pair) (hl : l.length < 2 ^ 62) (key : List UInt8) (m : Nat) : ∀ k, k ≤ l.length → l.length - k < m →
    F34_R13 m key l (I64 l.length) (I64 k) = some (gotV (getP (l.drop k) key), ()) ∧ F24_R13 m l key (I64 k) = some (gotV (getP (l.drop k) key), ()) := by
  induction m with
  | zero => intros; omega
  | succ m ih =>
    intro k hk hm
    rw [F34_R13_s, F24_R13_s]
    unfold F34_L13 F24_L13
    by_cases hlt : k < l.length
    · have hd : l.drop k = l[k] :: l.drop (k + 1) := List.drop_eq_getElem_cons hlt
      rw [dec_t ((i64_lt (by omega) (by omega)).2 hlt), hd]
      simp only [oite_t]
      rw [at_i64_lt (by omega) hlt]
      simp only [obind_s, getP]
      cases h : (l[k].1 == key) with
      | true => exact ⟨rfl, rfl⟩
      | false =>
        simp only [oite_f, i64_succ]
        exact ih (k + 1) (by omega) (by omega)
    · have : l.drop k = [] := List.drop_eq_nil_of_le (by omega)
      rw [dec_f (fun q => hlt ((i64_lt (by omega) (by omega)).1 q)), this]
      exact ⟨rfl, rfl⟩
theorem get_a (n : Nat) (l : List Pair) (key : List UInt8) (h : l.length < n) (hl : l.length < 2 ^ 62) : F34 n (l, key) = some (gotV (getP l key), ()) := (get_loop l hl key n 0 (by omega) (by omega)).1
theorem get_b (n : Nat) (l : List Pair) (key : List UInt8) (h : l.length < n) (hl : l.length < 2 ^ 62) : F24 n (l, key) = some (gotV (getP l key), ()) := (get_loop l hl key n 0 (by omega) (by omega)).2

/-! digits -/
def dig (x : Nat) : List UInt8 := if x ≤ 9 then [UInt8.ofNat (48 + x)] else if x ≤ 99 then [UInt8.ofNat (48 + x / 10), UInt8.ofNat (48 + x % 10)] else [UInt8.ofNat (48 + x / 100), UInt8.ofNat (48 + x / 10 % 10), UInt8.ofNat (48 + x % 10)]
theorem dig_len (x : Nat) : (dig x).length ≤ 3 := by
  unfold dig
  split
  · simp
  · split <;> simp
def okDig (m : Option (List UInt8 × Unit)) (a : Nat) : Bool := match m with | some (d, _) => d == dig a | none => false
def chk (a : Nat) : Bool := okDig (selfN (sig := sig33) (G33 0) 5 (UInt8.ofNat a)) a && okDig (selfN (sig := sig25) (G25 0) 5 (UInt64.ofNat a)) a
theorem chk_all : ∀ a : Fin 256, chk a.val = true := by decide +kernel
theorem of_chk {m : Option (List UInt8 × Unit)} {a : Nat} (h : okDig m a = true) : m = some (dig a, ()) := by
  unfold okDig at h
  match m, h with
  | some (d, _), h => rw [beq_iff_eq] at h; rw [h]
theorem digits (a : Nat) (ha : a < 256) : (selfN (sig := sig33) (G33 0) 5 (UInt8.ofNat a) : Option (List UInt8 × Unit)) = some (dig a, ()) ∧ (selfN (sig := sig25) (G25 0) 5 (UInt64.ofNat a) : Option (List UInt8 × Unit)) = some (dig a, ()) := by
  have h := chk_all ⟨a, ha⟩
  unfold chk at h
  rw [Bool.and_eq_true] at h
  exact ⟨of_chk h.1, of_chk h.2⟩
theorem self_more {sig : Sig} {G : (sig.In → Option sig.Out) → sig.In → Option sig.Out} (hG : ∀ f g : sig.In → Option sig.Out, (∀ x y, f x = some y → g x = some y) → ∀ x y, G f x = some y → G g x = some y) :
    ∀ (m d : Nat) (x : sig.In) (y : sig.Out), selfN G m x = some y → selfN G (m + d) x = some y := by
  intro m
  induction m with
  | zero => intro d x y h; cases h
  | succ m ih =>
    intro d x y h
    have e : m + 1 + d = (m + d) + 1 := by omega
    rw [e]
    exact hG (selfN G m) (selfN G (m + d)) (fun x y h => ih d x y h) x y h
theorem oite_mono {R : Type} {b : Bool} {x y x' y' : Option R} {r : R} (hx : x = some r → x' = some r) (hy : y = some r → y' = some r) (h : oite b x y = some r) : oite b x' y' = some r := by
  cases b
  · exact hy h
  · exact hx h
theorem obind_mono {R α : Type} {m m' : Option α} {k k' : α → Option R} {r : R} (hm : ∀ a, m = some a → m' = some a) (hk : ∀ a, k a = some r → k' a = some r) (h : obind m k = some r) : obind m' k' = some r := by
  cases m with
  | none => cases h
  | some a => rw [hm a rfl]; exact hk a h
theorem digits_a (n : Nat) (hn : 5 ≤ n) (x : UInt8) : (F33 n x : Option (List UInt8 × Unit)) = some (dig x.toNat, ()) := by
  have h := (digits x.toNat (UInt8.toNat_lt x)).1
  simp only [UInt8.ofNat_toNat] at h
  have := self_more (sig := sig33) (G := G33 n) (fun f g hfg x y h => by
    refine oite_mono (fun h => obind_mono (fun a ha => hfg _ _ ha) (fun a h => obind_mono (fun a ha => hfg _ _ ha) (fun _ h => h) h) h) (fun h => h) h) 5 (n - 5) x _ h
  rw [show 5 + (n - 5) = n from by omega] at this
  exact this
theorem digits_b (n : Nat) (hn : 5 ≤ n) (x : UInt8) : (F25 n (UInt64.ofInt ↑(UInt8.toNat x)) : Option (List UInt8 × Unit)) = some (dig x.toNat, ()) := by
  have h := (digits x.toNat (UInt8.toNat_lt x)).2
  have e : UInt64.ofNat x.toNat = UInt64.ofInt ↑(UInt8.toNat x) := by
    apply UInt64.toNat.inj
    have := u64_ofInt (x.toNat : Int)
    have := UInt8.toNat_lt x
    rw [UInt64.toNat_ofNat']; omega
  simp only [e] at h
  have := self_more (sig := sig25) (G := G25 n) (fun f g hfg x y h => by
    refine oite_mono (fun h => obind_mono (fun a ha => hfg _ _ ha) (fun _ h => h) h) (fun h => h) h) 5 (n - 5) (UInt64.ofInt ↑(UInt8.toNat x)) _ h
  rw [show 5 + (n - 5) = n from by omega] at this
  exact this

/-! names -/
def ruleK : List UInt8 := [114, 117, 108, 101]
def origK : List UInt8 := [111, 114, 105, 103, 105, 110]
def namesOf (o : UInt8) (rule : List UInt8) (l : List Pair) : List Pair :=
  l ++ (if (getP l ruleK).isSome then [] else [(ruleK, rule)]) ++ (if (getP l origK).isSome then [] else [(origK, dig o.toNat)])
theorem names_len (o : UInt8) (rule : List UInt8) (l : List Pair) : (namesOf o rule l).length ≤ l.length + 2 := by
  unfold namesOf
  split <;> split <;> simp
theorem got_snd (o : Option (List UInt8)) : (gotV o).2 = o.isSome := by cases o <;> rfl
theorem names_a (n : Nat) (hn : 20 < n) (o : UInt8) (rule : List UInt8) (l : List Pair) (hl : l.length ≤ 10) (s : UInt8) (p : UInt64) (v : UInt8) (u : Int64) : F27 n (o, rule, l, s, p, v, u) = some (namesOf o rule l, ()) := by
  obtain ⟨n, rfl⟩ : ∃ k, n = k + 3 := ⟨n - 3, by omega⟩
  unfold F27
  simp only
  rw [ble_t (by omega), oite_t, digits_a (n + 3) (by omega)]
  simp only [List.nil_append]
  have step : ∀ (m k : Nat) (out : List Pair) (q : Pair) (r : List Pair), (k < 2) → out.length ≤ 12 → r[k]? = some q → r.length = 2 →
      F27_R29 (n + 3) (m + 1) (I64 2) (I64 k) o rule l s p v u out r = F27_R29 (n + 3) m (I64 2) (I64 (k + 1)) o rule l s p v u (out ++ (if (getP l q.1).isSome then [] else [q])) r := by
    intro m k out q r hk ho hr hr2
    obtain ⟨h1, h2⟩ := idx_i64 (l := r) (k := k) (by omega) (by omega)
    have hq : r[k]'(by omega) = q := by have := List.getElem?_eq_getElem (l := r) (i := k) (by omega); rw [this] at hr; exact Option.some.inj hr
    rw [F27_R29_s]
    rw [show F27_L29 (n + 3) (F27_R29 (n + 3) m) (I64 2) (I64 k) o rule l s p v u out r = oite (decide (I64 k < I64 2)) (oite (decide ((0 : Int) ≤ Int64.toInt (I64 k)) && Nat.blt (Int.toNat (Int64.toInt (I64 k))) (List.length r)) (obind r[Int.toNat (Int64.toInt (I64 k))]? fun x_2 => obind (F34 (n + 3) (l, x_2.1)) fun x_3 => oite (!x_3.1.2) (oite (Nat.ble (out.length + [(x_2.1, x_2.2)].length) 4294967296) (F27_R29 (n + 3) m (I64 2) (I64 k + 1) o rule l s p v u (out ++ [(x_2.1, x_2.2)]) r) none) (F27_R29 (n + 3) m (I64 2) (I64 k + 1) o rule l s p v u out r)) none) (some (out, ())) from rfl]
    rw [dec_t ((i64_lt (by omega) (by omega)).2 hk), h1, h2, hq]
    simp only [oite_t, obind_s, i64_succ]
    rw [get_a (n + 3) l q.1 (by omega) (by omega)]
    simp only [obind_s, got_snd]
    cases (getP l q.1).isSome with
    | true => simp [oite]
    | false =>
      simp only [Bool.not_false, oite_t]
      rw [ble_t (by simp; omega)]; rfl
  have last : ∀ (m : Nat) (out r : List Pair), F27_R29 (n + 3) (m + 1) (I64 2) (I64 2) o rule l s p v u out r = some (out, ()) := by
    intro m out r
    rw [F27_R29_s]
    unfold F27_L29
    rw [dec_f (by decide)]; rfl
  have e0 := step (n + 2) 0 l (ruleK, rule) [(ruleK, rule), (origK, dig o.toNat)] (by omega) (by omega) rfl rfl
  have e1 := step (n + 1) 1 (l ++ (if (getP l ruleK).isSome then [] else [(ruleK, rule)])) (origK, dig o.toNat) [(ruleK, rule), (origK, dig o.toNat)] (by omega) (by split <;> simp <;> omega) rfl rfl
  exact e0.trans (e1.trans (last n _ _))
theorem names_b (n : Nat) (hn : 20 < n) (o : UInt8) (rule : List UInt8) (l : List Pair) (hl : l.length ≤ 10) (s : UInt8) (p : UInt64) (v : UInt8) (u : Int64) : F12 n (o, rule, l, s, p, v, u) = some (namesOf o rule l, ()) := by
  have j7 : ∀ out : List Pair, out.length ≤ 12 → F12_J7 n o rule l s p v u out = some (out ++ (if (getP l origK).isSome then [] else [(origK, dig o.toNat)]), ()) := by
    intro out ho
    unfold F12_J7
    rw [show ([(111 : UInt8), (114 : UInt8), (105 : UInt8), (103 : UInt8), (105 : UInt8), (110 : UInt8)]) = origK from rfl, get_b n l origK (by omega) (by omega)]
    simp only [obind_s, got_snd]
    cases (getP l origK).isSome with
    | true => simp [oite]
    | false =>
      simp only [Bool.not_false, oite_t]
      rw [digits_b n (by omega)]
      simp only [obind_s]
      rw [ble_t (by simp; omega)]; rfl
  unfold F12
  simp only [ojoinA_eq, List.nil_append]
  rw [ble_t (by omega), oite_t, show ([(114 : UInt8), (117 : UInt8), (108 : UInt8), (101 : UInt8)]) = ruleK from rfl, get_b n l ruleK (by omega) (by omega)]
  simp only [obind_s, got_snd]
  unfold namesOf
  cases (getP l ruleK).isSome with
  | true =>
    simp only [Bool.not_true, oite_f]
    rw [j7 _ (by omega)]; simp
  | false =>
    simp only [Bool.not_false, oite_t]
    rw [ble_t (by simp; omega), oite_t, j7 _ (by simp; omega)]; rfl

/-! questions -/
abbrev AskP := List UInt8 × UInt8 × List UInt8
def refA (x : AskP) : List UInt8 × Int64 × List UInt8 := (x.1, Int64.ofInt ↑(UInt8.toNat x.2.1), x.2.2)
def ansA (op : UInt8) (val : List UInt8) (g : List UInt8 × Bool) : Bool :=
  if op = 1 then g.2 && (g.1 == val) else if op = 2 then !(g.2 && (g.1 == val)) else if op = 3 then g.2 && (decide (val.length ≤ g.1.length) && (g.1.take val.length == val)) else if op = 4 then g.2 else if op = 5 then !g.2 else false
theorem kDec (k c : UInt8) : decide (Int64.ofInt ↑(UInt8.toNat k) = Int64.ofInt ↑(UInt8.toNat c)) = decide (k = c) := by
  have h1 := UInt8.toNat_lt k
  have h2 := UInt8.toNat_lt c
  rw [decide_eq_decide, show Int64.ofInt ↑(UInt8.toNat k) = I64 k.toNat from rfl, show Int64.ofInt ↑(UInt8.toNat c) = I64 c.toNat from rfl, i64_eq (by omega) (by omega)]
  exact UInt8.toNat_inj
theorem pre (s p : List UInt8) (hs : s.length < 2 ^ 63) (hp : p.length < 2 ^ 63) : (oite (decide (Int64.ofInt ↑(List.length p) ≤ Int64.ofInt ↑(List.length s)))
    (oite (decide ((0 : Int) ≤ Int64.toInt (Int64.ofInt ↑(List.length p))) && Nat.ble (Int.toNat (Int64.toInt (Int64.ofInt ↑(List.length p)))) (List.length s) && true)
      (some (List.drop (0 : Nat) (List.take (Int.toNat (Int64.toInt (Int64.ofInt ↑(List.length p)))) s) == p, ())) none) (some (false, ()))) = some (decide (p.length ≤ s.length) && (s.take p.length == p), ()) := by
  by_cases h : p.length ≤ s.length
  · have e : Int64.toInt (Int64.ofInt ↑(List.length p)) = p.length := i64_toInt hp
    have : (decide ((0 : Int) ≤ (p.length : Int)) && Nat.ble (Int.toNat (p.length : Int)) s.length && true) = true := by rw [ble_t (by omega)]; simp
    rw [dec_t ((i64_le hp hs).2 h), oite_t, e, dec_t h, this, oite_t]
    simp
  · rw [dec_f (fun c => h ((i64_le hp hs).1 c)), oite_f, dec_f h]; rfl
/-- how long the labels' values are -/
def Fit (l : List Pair) : Prop := ∀ p ∈ l, p.2.length < 2 ^ 62
theorem getP_fit : ∀ (l : List Pair) (k : List UInt8), Fit l → (gotV (getP l k)).1.length < 2 ^ 62
  | [], _, _ => by simp [getP, gotV]
  | x :: r, k, h => by
    simp only [getP]
    split
    · exact h x List.mem_cons_self
    · exact getP_fit r k fun p hp => h p (List.mem_cons_of_mem _ hp)
theorem holds_both (n : Nat) (hn : 20 < n) (x : AskP) (l : List Pair) (hl : l.length ≤ 15) (hf : Fit l) (hx : x.2.2.length < 2 ^ 63) :
    F32 n (x, l) = some (ansA x.2.1 x.2.2 (gotV (getP l x.1)), ()) ∧ F23 n (refA x, l) = some (ansA x.2.1 x.2.2 (gotV (getP l x.1)), ()) := by
  have hg := getP_fit l x.1 hf
  obtain ⟨key, op, val⟩ := x
  unfold F32 F23 refA
  simp only
  rw [get_a n l key (by omega) (by omega), get_b n l key (by omega) (by omega)]
  simp only [obind_s]
  simp only at hg hx
  generalize gotV (getP l key) = g at hg
  obtain ⟨gv, gb⟩ := g
  simp only at hg
  have c1 : decide (Int64.ofInt ↑(UInt8.toNat op) = (1 : Int64)) = decide (op = 1) := kDec op 1
  have c2 : decide (Int64.ofInt ↑(UInt8.toNat op) = (2 : Int64)) = decide (op = 2) := kDec op 2
  have c3 : decide (Int64.ofInt ↑(UInt8.toNat op) = (3 : Int64)) = decide (op = 3) := kDec op 3
  have c4 : decide (Int64.ofInt ↑(UInt8.toNat op) = (4 : Int64)) = decide (op = 4) := kDec op 4
  have c5 : decide (Int64.ofInt ↑(UInt8.toNat op) = (5 : Int64)) = decide (op = 5) := kDec op 5
  have f40 : F40 n (gv, val) = some (decide (val.length ≤ gv.length) && (gv.take val.length == val), ()) := by
    unfold F40 F54
    simp only
    rw [pre gv val (by omega) hx]; rfl
  rw [c1, c2, c3, c4, c5, f40, pre gv val (by omega) hx]
  unfold ansA
  simp only
  by_cases h1 : op = 1
  · rw [dec_t h1, if_pos h1]; cases gb <;> exact ⟨rfl, rfl⟩
  · rw [dec_f h1, if_neg h1]
    by_cases h2 : op = 2
    · rw [dec_t h2, if_pos h2]; cases gb <;> exact ⟨rfl, rfl⟩
    · rw [dec_f h2, if_neg h2]
      by_cases h3 : op = 3
      · rw [dec_t h3, if_pos h3]; cases gb <;> exact ⟨rfl, rfl⟩
      · rw [dec_f h3, if_neg h3]
        by_cases h4 : op = 4
        · rw [dec_t h4, if_pos h4]; cases gb <;> exact ⟨rfl, rfl⟩
        · rw [dec_f h4, if_neg h4]
          by_cases h5 : op = 5
          · rw [dec_t h5, if_pos h5]; cases gb <;> exact ⟨rfl, rfl⟩
          · rw [dec_f h5, if_neg h5]; exact ⟨rfl, rfl⟩
def allA (asks : List AskP) (l : List Pair) : Bool := asks.all fun x => ansA x.2.1 x.2.2 (gotV (getP l x.1))
def AskFit (asks : List AskP) : Prop := ∀ x ∈ asks, x.2.2.length < 2 ^ 63
theorem all_loop (n : Nat) (hn : 20 < n) (asks : List AskP) (ha : asks.length ≤ 12) (hx : AskFit asks) (l : List Pair) (hl : l.length ≤ 15) (hf : Fit l) (m : Nat) : ∀ k, k ≤ asks.length → asks.length - k < m →
    F26_R13 n m l asks (I64 asks.length) (I64 k) = some (allA (asks.drop k) l, ()) ∧ F10_R13 n m (asks.map refA) l (I64 k) = some (allA (asks.drop k) l, ()) := by
  induction m with
  | zero => intros; omega
  | succ m ih =>
    intro k hk hm
    rw [F26_R13_s, F10_R13_s]
    unfold F26_L13 F10_L13
    have hlm : (asks.map refA).length = asks.length := by simp
    rw [hlm]
    by_cases hlt : k < asks.length
    · have hd : asks.drop k = asks[k] :: asks.drop (k + 1) := List.drop_eq_getElem_cons hlt
      obtain ⟨h1, h2⟩ := holds_both n hn asks[k] l hl hf (hx _ (List.getElem_mem hlt))
      have hm2 : (asks.map refA)[k]'(by rw [hlm]; exact hlt) = refA asks[k] := by simp
      rw [dec_t ((i64_lt (by omega) (by omega)).2 hlt), hd]
      simp only [oite_t]
      rw [at_i64_lt (by omega) hlt, at_i64_lt (by omega) (by rw [hlm]; exact hlt), hm2]
      simp only [obind_s]
      have h1' : F32 n ((Prod.fst asks[k], Prod.fst (Prod.snd asks[k]), Prod.snd (Prod.snd asks[k])), l) = _ := h1
      have h2' : F23 n ((Prod.fst (refA asks[k]), Prod.fst (Prod.snd (refA asks[k])), Prod.snd (Prod.snd (refA asks[k]))), l) = _ := h2
      rw [h1', h2']
      simp only [obind_s, i64_succ]
      unfold allA
      rw [List.all_cons]
      cases ansA asks[k].2.1 asks[k].2.2 (gotV (getP l asks[k].1)) with
      | false => exact ⟨rfl, rfl⟩
      | true => exact ih (k + 1) (by omega) (by omega)
    · have : asks.drop k = [] := List.drop_eq_nil_of_le (by omega)
      rw [dec_f (fun q => hlt ((i64_lt (by omega) (by omega)).1 q)), this]
      exact ⟨rfl, rfl⟩
theorem ref_loop (asks : List AskP) (ha : asks.length ≤ 12) (m : Nat) : ∀ k, k ≤ asks.length → asks.length - k < m → F11_R29 m asks (I64 asks.length) (I64 k) ((asks.take k).map refA) = some (asks.map refA, ()) := by
  induction m with
  | zero => intros; omega
  | succ m ih =>
    intro k hk hm
    rw [F11_R29_s]
    unfold F11_L29
    by_cases hlt : k < asks.length
    · rw [dec_t ((i64_lt (by omega) (by omega)).2 hlt)]
      simp only [oite_t]
      rw [at_i64_lt (by omega) hlt]
      simp only [obind_s]
      rw [ble_t (by simp; omega), oite_t, i64_succ]
      have ht : (asks.take (k + 1)).map refA = (asks.take k).map refA ++ [refA asks[k]] := by rw [List.take_add_one, List.getElem?_eq_getElem hlt, List.map_append]; rfl
      have := ih (k + 1) (by omega) (by omega)
      rw [ht] at this
      exact this
    · have : asks.take k = asks := List.take_of_length_le (by omega)
      rw [dec_f (fun q => hlt ((i64_lt (by omega) (by omega)).1 q)), this]
      rfl
theorem ref_spec (n : Nat) (hn : 20 < n) (asks : List AskP) (ha : asks.length ≤ 12) : F11 n asks = some (asks.map refA, ()) := ref_loop asks ha n 0 (by omega) (by omega)
theorem covers_spec (n : Nat) (hn : 20 < n) (asks : List AskP) (ha : asks.length ≤ 12) (hx : AskFit asks) (f t : UInt64) (o : UInt8) (rule : List UInt8) (l : List Pair) (hl : l.length ≤ 10) (hf : Fit (namesOf o rule l)) (s : UInt8) (p : UInt64) (v : UInt8) (u : Int64) (now : UInt64) :
    F13 n ((asks, f, t), (o, rule, l, s, p, v, u), now) = some (decide (f ≤ now) && (decide (now < t) && allA asks (namesOf o rule l)), ()) := by
  have hnl := names_len o rule l
  unfold F13
  simp only
  rw [names_a n hn o rule l hl]
  simp only [obind_s]
  have h26 : F26 n (asks, namesOf o rule l) = some (allA asks (namesOf o rule l), ()) := (all_loop n hn asks ha hx _ (by omega) hf n 0 (by omega) (by omega)).1
  rw [h26]
  generalize decide (f ≤ now) = b1
  generalize decide (now < t) = b2
  cases b1 <;> cases b2 <;> rfl
end Go.Proofs.Ytehpdcdpkdhcgaa
