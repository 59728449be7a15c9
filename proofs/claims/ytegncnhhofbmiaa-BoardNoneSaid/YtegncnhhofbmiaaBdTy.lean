/- Types of the board's seat, and what the sort's contract asks. -/
import Derived.Test.YtegncnhhofbmiaaBdFnsA
import Derived.Sort.LotA
open Go Go.Sx
namespace Go.Proofs.Ytegncnhhofbmiaa
open Go.Sort
abbrev Pair := List UInt8 × List UInt8
def ltC {α : Type} (cf : α → α → Int) (x y : α) : Bool := decide (cf x y < 0)
abbrev keyE : CTs := .cons (.int .u8) (.cons .str (.cons .str (.cons (.int .u8) .nil)))
abbrev alertE : CTs := .cons (.int .u8) (.cons .str (.cons (.ro (.cons .str (.cons .str .nil))) (.cons (.int .u8) (.cons (.int .u64) (.cons (.int .u8) (.cons (.int .i64) .nil))))))
abbrev Key := UInt8 × List UInt8 × List UInt8 × UInt8
abbrev Alert := UInt8 × List UInt8 × List (List UInt8 × List UInt8) × UInt8 × UInt64 × UInt8 × Int64
def sig23 : Sig := srtSig (repCT .bool 24) keyE (.agg keyE) (.agg alertE)
/-- What the closure answers. -/
def cfK (n : Nat) (ents : List (Key × Alert)) (a b : Key) : Int := match F24 n (a, b, some (some ents)) with | some r => r.1.toInt | none => 0
structure SortOK (n : Nat) (ents : List (Key × Alert)) (xs : List Key) : Prop where
  len : xs.length < 4611686018427387904
  tot : ∀ a ∈ xs, ∀ b ∈ xs, (F24 n (a, b, some (some ents))).isSome = true
  swo : SWO fun a b : {a // a ∈ xs} => ltC (cfK n ents) a.1 b.1
  anti : ∀ a ∈ xs, ∀ b ∈ xs, ltC (cfK n ents) a b = false → ltC (cfK n ents) b a = false → a = b
def sortK (n : Nat) (ents : List (Key × Alert)) (xs : List Key) : List Key := xs.mergeSort fun a b => !ltC (cfK n ents) b a
open Classical in
noncomputable def F23 (n : Nat) (x : sig23.In) : Option sig23.Out :=
  if SortOK n x.2.2.2 x.2.2.1 then some ((), sortK n x.2.2.2 x.2.2.1) else none
theorem F23_eq {n : Nat} {mk : List _} {xs : List Key} {ents : List (Key × Alert)} (h : SortOK n ents xs) : F23 n (mk, (), xs, ents) = some ((), sortK n ents xs) := if_pos h
end Go.Proofs.Ytegncnhhofbmiaa
