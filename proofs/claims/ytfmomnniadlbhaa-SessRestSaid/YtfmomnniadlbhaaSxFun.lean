/- A walk of Go code by plain functions is sound. -/
import Derived.Test.YtfmomnniadlbhaaSxLaw2
namespace Go.Sx

def FsOK (Pg : Program) (fs : List Fun) : Prop := ∀ f as g, findFun fs f as = some g → g.f = f ∧ AnyOK Pg g
theorem FsOK.nil {Pg : Program} : FsOK Pg [] := fun f as g h => by simp [findFun] at h
theorem FsOK.consA {Pg : Program} {g : Fun} {fs : List Fun} (h : AnyOK Pg g) (hs : FsOK Pg fs) : FsOK Pg (g :: fs) := fun f as g' hf => by
 unfold findFun at hf
 cases hb : Nat.beq g.f f with
 | true =>
  rw [hb] at hf
  simp only at hf
  split at hf
  ·cases hf; exact ⟨nbeq_true hb, h⟩
  ·split at hf
   ·split at hf
    ·cases hf; exact ⟨nbeq_true hb, h⟩
    ·exact hs f as g' hf
   ·cases hf; exact ⟨nbeq_true hb, h⟩
 | false => rw [hb] at hf; exact hs f as g' hf
theorem FsOK.cons {Pg : Program} {g : Fun} {fs : List Fun} (h : FunOK Pg g) (hs : FsOK Pg fs) : FsOK Pg (g :: fs) := FsOK.consA (.inl h) hs
theorem fun_ok {Pg : Program} {tt : TT} (htt : TTOK Pg tt) (hmix : Pg.follows .mixedOrders = true) {fs : List Fun} (hfs : FsOK Pg fs) {ntmps : Nat} {pins : List Nat} {hints : Hints} {fuel : Nat} {f : Nat} {fn : Func} {c : Code} {sig : Sig} {F : sig.In → Option sig.Out}
  (hf : Pg.funcs[f]? = some fn) (hname : (fn.name == "runtime.NumGoroutine") = false) (hb : fn.body = some c) (hn : fn.ntmps = ntmps)
  (hsz : Nat.ble (plen sig.ps) ntmps = true) (hpins : pins = ptrPins sig.ps 0) {rs : List ResultVar} (hrs : fn.results.toList = rs)
  (hF : sxFun ⟨tt, fs, ntmps, pins, hints, fuel⟩ sig c rs = F) (hat : plainSig sig = true := by rfl) : FunOK Pg ⟨f, sig, F⟩ := by
 subst hF
 subst hrs
 exact ⟨CallOK.of (fun_sound (E := ⟨tt, fs, ntmps, pins, hints, fuel⟩) ⟨htt, hfs, hmix⟩ hf hb hn hsz hpins) hat, fn, hf, hname, by rw [hb]; rfl⟩
theorem fun_okB {Pg : Program} {tt : TT} (htt : TTOK Pg tt) (hmix : Pg.follows .mixedOrders = true) {fs : List Fun} (hfs : FsOK Pg fs) {ntmps : Nat} {pins : List Nat} {hints : Hints} {fuel : Nat} {f : Nat} {fn : Func} {c : Code} {e : CTs} {p : PTy} {ps rs : PTys} {F : (bndSig e p ps rs).In → Option (bndSig e p ps rs).Out}
  (hf : Pg.funcs[f]? = some fn) (hname : (fn.name == "runtime.NumGoroutine") = false) (hb : fn.body = some c) (hn : fn.ntmps = ntmps)
  (hsz : Nat.ble (plen (.cons p ps)) ntmps = true) (hpins : pins = ptrPins (.cons p ps) 0) {rv : List ResultVar} (hrs : fn.results.toList = rv)
  (hF : sxFunB e.size ⟨tt, fs, ntmps, pins, hints, fuel⟩ ⟨.cons p ps, rs⟩ c rv = fun x => F ([], (), (), x)) : FunOK Pg ⟨f, bndSig e p ps rs, F⟩ := by
 subst hrs
 refine ⟨?_, fn, hf, hname, by rw [hb]; rfl⟩
 have h := fun_soundB (m := e.size) (E := ⟨tt, fs, ntmps, pins, hints, fuel⟩) (sig := ⟨.cons p ps, rs⟩) ⟨htt, hfs, hmix⟩ hf hb hn hsz hpins
 rw [hF] at h
 exact h
end Go.Sx
