/- The array of two ints opened. -/
import Derived.Test.YtikpbhhnllchmaaRVt
import Derived.Test.YtikpbhhnllchmaaTO
set_option linter.unusedVariables false
set_option linter.unusedSimpArgs false
namespace Go.Proofs.Ytikpbhhnllchmaa
open Go.RowKit
theorem cells_46 : Try.prog.cellsOf 46 = 2 := by kernel_rfl
theorem bytes_46 : Try.prog.bytesOf 46 = 16 := by kernel_rfl
theorem two_of_length {α : Type} : ∀ {l : List α}, l.length = 2 → ∃ a b, l = [a, b]
  | [a, b], _ => ⟨a, b, rfl⟩
set_option maxRecDepth 100000 in
theorem opens_Two : Opens Try.prog 46 kTwo (fun _ => True) := by
  intro H enc W fuel cs d ps h _
  obtain ⟨xs, m, _, _, hlen, hl, hel⟩ := DataW.trod_array Try.underlying46 h
  rw [cells_46] at hlen
  have h0 := hel 0 (by omega)
  have h1 := hel 1 (by omega)
  rw [show Try.prog.cellsOf 3 = 1 from cells_3] at h0 h1
  obtain ⟨c0, c1, rfl⟩ := two_of_length hlen
  obtain ⟨⟨d0, p0⟩, ⟨d1, p1⟩, rfl⟩ := two_of_length hl
  have h0' : DataW.trod enc Try.prog W 0 (fun _ => true) true m 3 [c0] = some (d0, p0) := h0
  have h1' : DataW.trod enc Try.prog W 0 (fun _ => true) true m 3 [c1] = some (d1, p1) := h1
  obtain ⟨n0, e0, _, _⟩ := DataW.trod_int Try.underlying3 h0'
  obtain ⟨n1, e1, _, _⟩ := DataW.trod_int Try.underlying3 h1'
  injection e0 with e0 _
  injection e1 with e1 _
  subst e0 e1
  exact ⟨⟨n0, n1⟩, rfl, trivial⟩
end Go.Proofs.Ytikpbhhnllchmaa
