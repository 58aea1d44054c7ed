/- names.Valid, at every text. -/
import Derived.Test.YtfjndjbpgcggkaaDoorDN2
import Derived.Test.YtfjndjbpgcggkaaDoorDVs
set_option linter.unusedVariables false
set_option linter.unusedSimpArgs false
namespace Go.Proofs.YtfjndjbpgcggkaaDoor
open Go.RowKit

/-- How many runes, if each may stand where it stands. -/
def countFrom (s : ByteArray) : Nat → Nat → Nat → Option Nat
  | 0, _, n => some n
  | fuel + 1, pos, n => if pos < s.size then (if may (Utf8.decode s pos).1 = false ∨ (n = 0 ∧ among signs (Utf8.decode s pos).1 = true) then none else countFrom s fuel (pos + (Utf8.decode s pos).2) (n + 1)) else some n
def validOf (s : ByteArray) : Option Nat → Bool
  | none => false
  | some n => decide (0 < n) && decide (n ≤ 40) && Lib.validD s.data.toList
def validName (s : ByteArray) : Bool := validOf s (countFrom s s.size 0 0)
def Tabs (w : World) : Prop := Lib.Utf8Tabs (Tryd.lays196_ren.g 3) (Tryd.lays196_ren.g 4) w
def TabsBelow (B : Nat) (w : World) : Prop := ∀ w', Below B w w' → Tabs w'
end Go.Proofs.YtfjndjbpgcggkaaDoor
