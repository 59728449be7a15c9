/- A part of the proof: a walk of Go code by plain functions, and that it is sound. -/
import Derived.Test.YtjjmpblnncjojaaSxLaw2
namespace Go.Sx

/-- The functions that may be called keep their contracts. -/
def FsOK (Pg : Program) (fs : List Fun) : Prop := ∀ f g, findFun fs f = some g → g.f = f ∧ FunOK Pg g
theorem FsOK.nil {Pg : Program} : FsOK Pg [] := fun f g h => by simp [findFun] at h
theorem FsOK.cons {Pg : Program} {g : Fun} {fs : List Fun} (h : FunOK Pg g) (hs : FsOK Pg fs) : FsOK Pg (g :: fs) := fun f g' hf => by
  unfold findFun at hf
  cases hb : Nat.beq g.f f with
  | true => rw [hb] at hf; cases hf; exact ⟨nbeq_true hb, h⟩
  | false => rw [hb] at hf; exact hs f g' hf

theorem fun_ok {Pg : Program} {tt : TT} (htt : TTOK Pg tt) (hmix : Pg.follows .mixedOrders = true) {fs : List Fun} (hfs : FsOK Pg fs) {ntmps : Nat} {pins : List Nat} {hints : Hints} {fuel : Nat} {f : Nat} {fn : Func} {c : Code} {sig : Sig} {F : sig.In → Option sig.Out}
    (hf : Pg.funcs[f]? = some fn) (hname : (fn.name == "runtime.NumGoroutine") = false) (hb : fn.body = some c) (hn : fn.ntmps = ntmps)
    (hsz : Nat.ble (psize sig.ps) ntmps = true) (hpins : pins = ptrPins sig.ps 0) {rs : List ResultVar} (hrs : fn.results.toList = rs)
    (hF : sxFun ⟨tt, fs, ntmps, pins, hints, fuel⟩ sig c rs = F) : FunOK Pg ⟨f, sig, F⟩ := by
  subst hF
  subst hrs
  exact ⟨fun_sound (E := ⟨tt, fs, ntmps, pins, hints, fuel⟩) ⟨htt, hfs, hmix⟩ hf hb hn hsz hpins, fn, hf, hname, by rw [hb]; rfl⟩
end Go.Sx
