/- A map from texts to []byte, in the model's own words: look-up, store, delete as run equations. -/
import Derived.Test.YtngmipppgnlkdaaDoorDN1
import Derived.MapKept
set_option linter.unusedVariables false
set_option linter.unusedSimpArgs false
namespace Go.Proofs.YtngmipppgnlkdaaDoor
open Go.RowKit

/-- A map's entries: key, value, born. -/
abbrev Ents := List (ByteArray × Value × Nat)
def ents (m : Ents) : List MapEntry := m.map fun x => { key := .string x.1, val := x.2.1, born := x.2.2 }
def mfind (s : ByteArray) : Ents → Nat → Option (Nat × Value)
  | [], _ => none
  | x :: r, i => if s = x.1 then some (i, x.2.1) else mfind s r (i + 1)
theorem findNow_ents (s : ByteArray) : ∀ (m : Ents) (i : Nat), Instr.findNow .string (.string s) (ents m) i = some (mfind s m i)
  | [], _ => rfl
  | x :: r, i => by
    show (match Instr.sameNow .string (.string s) (.string x.1) with
      | some true => some (some (i, x.2.1))
      | some false => Instr.findNow .string (.string s) (ents r) (i + 1)
      | none => none) = _
    unfold mfind
    obtain ⟨r', hr, hiff⟩ := MapKept.sameNow_of_keys (d := .string) (a := .string s) (by simp [MapKept.IsKey]) (show MapKept.IsKey .string (.string x.1) by simp [MapKept.IsKey])
    rw [hr]
    by_cases h : s = x.1
    · rw [if_pos h]
      obtain rfl : r' = true := by rw [hiff, h]
      rfl
    · rw [if_neg h]
      have : r' = false := by
        cases r'
        · rfl
        · have := hiff.1 rfl
          injection this with this
          first | exact absurd this h | exact absurd this.symm h
      rw [this]
      exact findNow_ents s r (i + 1)
end Go.Proofs.YtngmipppgnlkdaaDoor
