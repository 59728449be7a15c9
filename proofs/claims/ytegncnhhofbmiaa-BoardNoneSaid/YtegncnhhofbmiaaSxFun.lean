/- A walk of Go code by plain functions is sound. -/
import Derived.Test.YtegncnhhofbmiaaSxLaw2
namespace Go.Sx

/-- The functions that may be called keep their contracts. -/
def FsOK (Pg : Program) (fs : List Fun) (td : Bool := false) : Prop := ∀ f as g, findFun fs f as = some g → g.f = f ∧ AnyOK Pg g td
theorem FsOK.nil {Pg : Program} {td : Bool} : FsOK Pg [] td := fun f as g h => by simp [findFun] at h
theorem FsOK.consA {Pg : Program} {g : Fun} {fs : List Fun} {td : Bool} (h : AnyOK Pg g td) (hs : FsOK Pg fs td) : FsOK Pg (g :: fs) td := fun f as g' hf => by
  unfold findFun at hf
  cases hb : Nat.beq g.f f with
  | true =>
    rw [hb] at hf
    simp only at hf
    split at hf
    · cases hf; exact ⟨nbeq_true hb, h⟩
    · split at hf
      · split at hf
        · cases hf; exact ⟨nbeq_true hb, h⟩
        · exact hs f as g' hf
      · cases hf; exact ⟨nbeq_true hb, h⟩
  | false => rw [hb] at hf; exact hs f as g' hf
theorem FsOK.cons {Pg : Program} {g : Fun} {fs : List Fun} {td : Bool} (h : FunOK Pg g td) (hs : FsOK Pg fs td) : FsOK Pg (g :: fs) td := FsOK.consA (.inl h) hs
theorem FsOK.consE {Pg : Program} {g : Fun} {fs : List Fun} {td : Bool} (h : ExtOK Pg g td) (hs : FsOK Pg fs td) : FsOK Pg (g :: fs) td := FsOK.consA (.inr h) hs

theorem fun_ok {Pg : Program} {tt : TT} (htt : TTOK Pg tt) (hmix : Pg.follows .mixedOrders = true) {fs : List Fun} {td : Bool} (hfs : FsOK Pg fs td) {ntmps : Nat} {pins : List Nat} {hints : Hints} {fuel : Nat} {f : Nat} {fn : Func} {c : Code} {sig : Sig} {F : sig.In → Option sig.Out}
    (hf : Pg.funcs[f]? = some fn) (hname : (fn.name == "runtime.NumGoroutine") = false) (hb : fn.body = some c) (hn : fn.ntmps = ntmps)
    (hsz : Nat.ble (plen sig.ps) ntmps = true) (hpins : pins = ptrPins sig.ps 0) {rs : List ResultVar} (hrs : fn.results.toList = rs)
    (hF : sxFun ⟨tt, fs, ntmps, pins, hints, fuel⟩ sig c rs = F) (hat : plainSig sig = true := by rfl) : FunOK Pg ⟨f, sig, F⟩ td := by
  subst hF
  subst hrs
  exact ⟨CallOK.of (fun_sound (E := ⟨tt, fs, ntmps, pins, hints, fuel⟩) ⟨htt, hfs, hmix⟩ hf hb hn hsz hpins) hat, fn, hf, hname, by rw [hb]; rfl⟩
/-- A contract that says less. -/
theorem FunOK.weak {Pg : Program} {f : Nat} {sig : Sig} {td : Bool} {F F' : sig.In → Option sig.Out} (h : FunOK Pg ⟨f, sig, F⟩ td) (hat : plainSig sig = true := by rfl) (hle : ∀ x y, F' x = some y → F x = some y) : FunOK Pg ⟨f, sig, F'⟩ td :=
  ⟨CallOK.of (fun P W args x fp h0 h1 h2 h3 h4 r hr => (h.con hat P W args x fp h0 h1 h2 h3 h4 r (hle x r hr)).mono fun _ _ ⟨v, P', vs, fr, fo, he, D⟩ => ⟨v, P', vs, fr, fo, he, ⟨D.val, D.ple, D.psub, D.res, D.outs, D.nd, D.fps, D.ext, D.pnew⟩⟩) hat, h.fn⟩
/-- Where the walk has been worked out for some inputs alone. -/
theorem fun_ok_le {Pg : Program} {tt : TT} (htt : TTOK Pg tt) (hmix : Pg.follows .mixedOrders = true) {fs : List Fun} {td : Bool} (hfs : FsOK Pg fs td) {ntmps : Nat} {pins : List Nat} {hints : Hints} {fuel : Nat} {f : Nat} {fn : Func} {c : Code} {sig : Sig} {F : sig.In → Option sig.Out}
    (hf : Pg.funcs[f]? = some fn) (hname : (fn.name == "runtime.NumGoroutine") = false) (hb : fn.body = some c) (hn : fn.ntmps = ntmps)
    (hsz : Nat.ble (plen sig.ps) ntmps = true) (hpins : pins = ptrPins sig.ps 0) {rs : List ResultVar} (hrs : fn.results.toList = rs)
    (hF : ∀ x y, F x = some y → sxFun ⟨tt, fs, ntmps, pins, hints, fuel⟩ sig c rs x = some y) (hat : plainSig sig = true := by rfl) : FunOK Pg ⟨f, sig, F⟩ td :=
  FunOK.weak (fun_ok htt hmix hfs hf hname hb hn hsz hpins hrs rfl hat) hat hF
/-- The same, where the last parameter is a bound method: which one, says e's size. -/
theorem fun_okB {Pg : Program} {tt : TT} (htt : TTOK Pg tt) (hmix : Pg.follows .mixedOrders = true) {fs : List Fun} {td : Bool} (hfs : FsOK Pg fs td) {ntmps : Nat} {pins : List Nat} {hints : Hints} {fuel : Nat} {f : Nat} {fn : Func} {c : Code} {e : CTs} {p : PTy} {ps rs : PTys} {F : (bndSig e p ps rs).In → Option (bndSig e p ps rs).Out}
    (hf : Pg.funcs[f]? = some fn) (hname : (fn.name == "runtime.NumGoroutine") = false) (hb : fn.body = some c) (hn : fn.ntmps = ntmps)
    (hsz : Nat.ble (plen (.cons p ps)) ntmps = true) (hpins : pins = ptrPins (.cons p ps) 0) {rv : List ResultVar} (hrs : fn.results.toList = rv)
    (hF : sxFunB e.size ⟨tt, fs, ntmps, pins, hints, fuel⟩ ⟨.cons p ps, rs⟩ c rv = fun x => F ([], (), (), x)) : FunOK Pg ⟨f, bndSig e p ps rs, F⟩ td := by
  subst hrs
  refine ⟨?_, fn, hf, hname, by rw [hb]; rfl⟩
  have h := fun_soundB (m := e.size) (E := ⟨tt, fs, ntmps, pins, hints, fuel⟩) (sig := ⟨.cons p ps, rs⟩) ⟨htt, hfs, hmix⟩ hf hb hn hsz hpins
  rw [hF] at h
  exact h
/-- Nothing is said. -/
theorem fun_none {Pg : Program} {td : Bool} {f : Nat} {fn : Func} {c : Code} {sig : Sig} (hf : Pg.funcs[f]? = some fn) (hname : (fn.name == "runtime.NumGoroutine") = false) (hb : fn.body = some c) (hat : plainSig sig = true := by rfl) :
    FunOK Pg ⟨f, sig, fun _ => none⟩ td :=
  ⟨CallOK.of (fun _ _ _ _ _ _ _ _ _ _ _ h => by cases h) hat, fn, hf, hname, by rw [hb]; rfl⟩
/-- A function that calls itself, so many times deep. -/
def selfN {sig : Sig} (G : (sig.In → Option sig.Out) → sig.In → Option sig.Out) : Nat → sig.In → Option sig.Out
  | 0 => fun _ => none
  | m + 1 => G (selfN G m)
theorem self_ok {Pg : Program} {td : Bool} {f : Nat} {fn : Func} {c : Code} {sig : Sig} {G : (sig.In → Option sig.Out) → sig.In → Option sig.Out}
    (hf : Pg.funcs[f]? = some fn) (hname : (fn.name == "runtime.NumGoroutine") = false) (hb : fn.body = some c)
    (h : ∀ F, FunOK Pg ⟨f, sig, F⟩ td → FunOK Pg ⟨f, sig, G F⟩ td) (hat : plainSig sig = true := by rfl) : ∀ m, FunOK Pg ⟨f, sig, selfN G m⟩ td
  | 0 => fun_none hf hname hb hat
  | m + 1 => h _ (self_ok hf hname hb h hat m)
theorem Ext.plain {fp : List Nat} {W W' : World} {td : Bool} (h : Ext fp W W' td) : Ext fp W W' := ⟨h.le, h.same, h.os, h.out, fun h => by cases h⟩
end Go.Sx
