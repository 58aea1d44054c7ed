/- strconv.Itoa at a number from 0 on. -/
import Derived.Test.YtngmipppgnlkdaaDoorDB
import Derived.Test.YtngmipppgnlkdaaDoorDShelf
import Derived.Lib.AppendIntMem
set_option linter.unusedVariables false
set_option linter.unusedSimpArgs false
namespace Go.Proofs.YtngmipppgnlkdaaDoor
open Go.RowKit

def PowTab (w : World) : Prop := Lib.TabIs Tryd.prog w "internal/strconv.uint64pow10" .u64 Lib.pow10Tab
def PowBelow (B : Nat) (w : World) : Prop := Lib.TabBelow Tryd.prog B w "internal/strconv.uint64pow10" .u64 Lib.pow10Tab
def dec (i : Nat) : ByteArray := ⟨(Lib.decDigits i).toArray⟩
theorem itoa_any (i : Nat) (hi : i ≤ 1000000) (w : World) (hT : i < 100 ∨ PowTab w) :
    Calls Tryd.prog 63 #[.int .i64 i] w fun e w' => e = .returned (.string (dec i)) ∧ Below w.heap.size w w' := by
  rcases hT with hT | hT
  · refine (Tryd.strconv_Itoa_small i hT w).mono ?_
    rintro e w' ⟨rfl, rfl⟩
    exact ⟨rfl, Below.refl _ _⟩
  · refine (Tryd.strconv_Itoa i (by omega) (by omega) w hT).mono ?_
    rintro e w' ⟨rfl, k, os, rfl⟩
    refine ⟨?_, Lib.below_grow _ w (Nat.le_refl _) k os⟩
    have : Lib.itoa (i : Int) = Lib.decDigits i := by
      unfold Lib.itoa
      rw [if_neg (by omega)]
      simp
    rw [this]
    rfl
theorem dec_len : ∀ n i : Nat, i ≤ n → (Lib.decDigits i).length ≤ i + 1
  | 0, i, h => by
    obtain rfl : i = 0 := by omega
    unfold Lib.decDigits
    simp
  | n + 1, i, h => by
    unfold Lib.decDigits
    split
    · simp
    · rename_i h10
      rw [List.length_append, List.length_singleton]
      have := dec_len n (i / 10) (by omega)
      omega
theorem dec_size (i : Nat) : (dec i).size ≤ i + 1 := by
  have := dec_len i i (Nat.le_refl _)
  simpa [dec, ByteArray.size] using this
theorem PowBelow.here {B : Nat} {w : World} (h : PowBelow B w) : PowTab w := Lib.TabBelow.here h
theorem PowBelow.on {B : Nat} {w w' : World} (h : PowBelow B w) (hb : Below B w w') : PowBelow B w' := Lib.TabBelow.on h hb
theorem PowBelow.keeps {B g : Nat} {w w' : World} (h : PowBelow B w) (hB : B ≤ w.heap.size) (hg : B ≤ g) (hk : Keeps (fun k => k = g) w w') : PowBelow B w' :=
  h.on ⟨hk.os, hk.tape, hk.output, hk.size, fun k hlt => hk.block k (by omega) (fun e => by have : k = g := e; omega)⟩
end Go.Proofs.YtngmipppgnlkdaaDoor
