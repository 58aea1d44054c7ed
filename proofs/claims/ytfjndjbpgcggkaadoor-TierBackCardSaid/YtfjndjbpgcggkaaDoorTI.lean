/- strconv.Itoa, off the shelf: a number's decimal text. -/
import Derived.Test.YtfjndjbpgcggkaaDoorTShelf
import Derived.Lib.ItoaMem
import Derived.Lib.AppendIntMem
import Derived.Lib.Hide
set_option linter.unusedVariables false
set_option linter.unusedSimpArgs false
namespace Go.Proofs.YtfjndjbpgcggkaaDoor
open Go.RowKit

def PowTab (w : World) : Prop := Lib.TabIs Tryd.prog w "internal/strconv.uint64pow10" .u64 Lib.pow10Tab
def PowBelow (B : Nat) (w : World) : Prop := Lib.TabBelow Tryd.prog B w "internal/strconv.uint64pow10" .u64 Lib.pow10Tab
def dec (i : Nat) : ByteArray := ⟨(Lib.decDigits i).toArray⟩
theorem itoa_any (i : Nat) (hi : i ≤ 9223372036854775807) (w : World) (hT : i < 100 ∨ PowTab w) :
    Calls Tryd.prog 105 #[.int .i64 i] w fun e w' => e = .returned (.string (dec i)) ∧ Below w.heap.size w w' := by
  rcases hT with hT | hT
  · refine (Tryd.strconv_Itoa_small i hT w).mono ?_
    rintro e w' ⟨rfl, rfl⟩
    exact ⟨rfl, Below.refl _ _⟩
  · refine (Tryd.strconv_Itoa i (by omega) (by omega) w hT).mono ?_
    rintro e w' ⟨rfl, k, os, rfl⟩
    refine ⟨?_, Lib.below_grow _ w (Nat.le_refl _) k os⟩
    have : Lib.itoa (i : Int) = Lib.decDigits i := by
      unfold Lib.itoa
      rw [if_neg (by omega)]
      simp
    rw [this]
    rfl
theorem PowBelow.here {B : Nat} {w : World} (h : PowBelow B w) : PowTab w := Lib.TabBelow.here h
theorem PowBelow.on {B : Nat} {w w' : World} (h : PowBelow B w) (hb : Below B w w') : PowBelow B w' := Lib.TabBelow.on h hb
theorem PowTab.below {w : World} (h : PowTab w) (hg : Tryd.prog.globalNamed "internal/strconv.uint64pow10" = some 2) (hs : 2 < w.heap.size) : PowBelow w.heap.size w := by
  intro w' hb
  have h1 : w.var? Tryd.prog "internal/strconv.uint64pow10" = _ := h
  show w'.var? Tryd.prog "internal/strconv.uint64pow10" = _
  rw [← h1]
  unfold World.var?
  rw [hg]
  simp only [Option.bind_some, hb.block 2 hs]
theorem PowTab.lt {w : World} (h : PowTab w) (hg : Tryd.prog.globalNamed "internal/strconv.uint64pow10" = some 2) : 2 < w.heap.size := by
  have h1 : w.var? Tryd.prog "internal/strconv.uint64pow10" = some _ := h
  unfold World.var? at h1
  rw [hg] at h1
  simp only [Option.bind_some] at h1
  by_cases hn : 2 < w.heap.size
  · exact hn
  · rw [Array.getElem?_eq_none (by omega)] at h1
    cases h1
end Go.Proofs.YtfjndjbpgcggkaaDoor
