/- A part of the proof: a walk of Go code by plain functions, and that it is sound. -/
import Derived.Test.YtgknjddbbehboaaGreatSxLaw2
namespace Go.Sx

/-- The functions that may be called keep their contracts. -/
def FsOK (Pg : Program) (fs : List Fun) : Prop := ∀ f as g, findFun fs f as = some g → g.f = f ∧ AnyOK Pg g
theorem FsOK.nil {Pg : Program} : FsOK Pg [] := fun f as g h => by simp [findFun] at h
theorem FsOK.consA {Pg : Program} {g : Fun} {fs : List Fun} (h : AnyOK Pg g) (hs : FsOK Pg fs) : FsOK Pg (g :: fs) := fun f as g' hf => by
  unfold findFun at hf
  cases hb : Nat.beq g.f f with
  | true =>
    rw [hb] at hf
    simp only at hf
    split at hf
    · cases hf; exact ⟨nbeq_true hb, h⟩
    · split at hf
      · split at hf
        · cases hf; exact ⟨nbeq_true hb, h⟩
        · exact hs f as g' hf
      · cases hf; exact ⟨nbeq_true hb, h⟩
  | false => rw [hb] at hf; exact hs f as g' hf
theorem FsOK.cons {Pg : Program} {g : Fun} {fs : List Fun} (h : FunOK Pg g) (hs : FsOK Pg fs) : FsOK Pg (g :: fs) := FsOK.consA (.inl h) hs
theorem FsOK.consE {Pg : Program} {g : Fun} {fs : List Fun} (h : ExtOK Pg g) (hs : FsOK Pg fs) : FsOK Pg (g :: fs) := FsOK.consA (.inr h) hs

theorem fun_ok {Pg : Program} {tt : TT} (htt : TTOK Pg tt) (hmix : Pg.follows .mixedOrders = true) {fs : List Fun} (hfs : FsOK Pg fs) {ntmps : Nat} {pins : List Nat} {hints : Hints} {fuel : Nat} {f : Nat} {fn : Func} {c : Code} {sig : Sig} {F : sig.In → Option sig.Out}
    (hf : Pg.funcs[f]? = some fn) (hname : (fn.name == "runtime.NumGoroutine") = false) (hb : fn.body = some c) (hn : fn.ntmps = ntmps)
    (hsz : Nat.ble (plen sig.ps) ntmps = true) (hpins : pins = ptrPins sig.ps 0) {rs : List ResultVar} (hrs : fn.results.toList = rs)
    (hF : sxFun ⟨tt, fs, ntmps, pins, hints, fuel⟩ sig c rs = F) (hat : plainSig sig = true := by rfl) : FunOK Pg ⟨f, sig, F⟩ := by
  subst hF
  subst hrs
  exact ⟨CallOK.of (fun_sound (E := ⟨tt, fs, ntmps, pins, hints, fuel⟩) ⟨htt, hfs, hmix⟩ hf hb hn hsz hpins) hat, fn, hf, hname, by rw [hb]; rfl⟩
/-- Nothing is said. -/
theorem fun_none {Pg : Program} {f : Nat} {fn : Func} {c : Code} {sig : Sig} (hf : Pg.funcs[f]? = some fn) (hname : (fn.name == "runtime.NumGoroutine") = false) (hb : fn.body = some c) (hat : plainSig sig = true := by rfl) :
    FunOK Pg ⟨f, sig, fun _ => none⟩ :=
  ⟨CallOK.of (fun _ _ _ _ _ _ _ _ _ _ h => by cases h) hat, fn, hf, hname, by rw [hb]; rfl⟩
/-- A function that calls itself, so many times deep. -/
def selfN {sig : Sig} (G : (sig.In → Option sig.Out) → sig.In → Option sig.Out) : Nat → sig.In → Option sig.Out
  | 0 => fun _ => none
  | m + 1 => G (selfN G m)
theorem self_ok {Pg : Program} {f : Nat} {fn : Func} {c : Code} {sig : Sig} {G : (sig.In → Option sig.Out) → sig.In → Option sig.Out}
    (hf : Pg.funcs[f]? = some fn) (hname : (fn.name == "runtime.NumGoroutine") = false) (hb : fn.body = some c)
    (h : ∀ F, FunOK Pg ⟨f, sig, F⟩ → FunOK Pg ⟨f, sig, G F⟩) (hat : plainSig sig = true := by rfl) : ∀ m, FunOK Pg ⟨f, sig, selfN G m⟩
  | 0 => fun_none hf hname hb hat
  | m + 1 => h _ (self_ok hf hname hb h hat m)
end Go.Sx
