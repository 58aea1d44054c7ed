/- The program's types, opened. Printed by gen_kinds.py (own work). -/
import Derived.Test.YtfjndjbpgcggkaaDoorT
import Derived.Test.YtfjndjbpgcggkaaDoorO
import Derived.Test.YtfjndjbpgcggkaaDoorProg
set_option linter.unusedVariables false
set_option linter.unusedSimpArgs false
namespace Go.Proofs.YtfjndjbpgcggkaaDoor
open Go.RowKit
set_option maxRecDepth 100000

theorem cells_72 : Tryd.prog.cellsOf 72 = 6 := by kernel_rfl
theorem bytes_72 : Tryd.prog.bytesOf 72 = 96 := by kernel_rfl
theorem cells_3 : Tryd.prog.cellsOf 3 = 1 := by kernel_rfl
theorem bytes_3 : Tryd.prog.bytesOf 3 = 8 := by kernel_rfl
theorem cells_9 : Tryd.prog.cellsOf 9 = 1 := by kernel_rfl
theorem bytes_9 : Tryd.prog.bytesOf 9 = 16 := by kernel_rfl
theorem cells_26 : Tryd.prog.cellsOf 26 = 1 := by kernel_rfl
theorem bytes_26 : Tryd.prog.bytesOf 26 = 24 := by kernel_rfl
theorem cells_35 : Tryd.prog.cellsOf 35 = 1 := by kernel_rfl
theorem bytes_35 : Tryd.prog.bytesOf 35 = 24 := by kernel_rfl
theorem cells_5 : Tryd.prog.cellsOf 5 = 1 := by kernel_rfl
theorem bytes_5 : Tryd.prog.bytesOf 5 = 1 := by kernel_rfl
def okDAct (x : DAct) : Prop := IntOk .i64 x.Way ∧ IntOk .i64 x.N ∧ x.P.size ≤ reachBytes ∧ x.Q.size ≤ reachBytes ∧ (x.B.length * 1 ≤ reachBytes ∧ ∀ y ∈ x.B, IntOk .u8 y) ∧ (x.Keep.length * 8 ≤ reachBytes ∧ ∀ y ∈ x.Keep, IntOk .i64 y)
theorem opens_DAct : Opens Tryd.prog 72 kDAct okDAct := by
  intro H enc W fuel cs d ps h hw
  obtain ⟨hlen, hf⟩ := open_fields Tryd.underlying72 h hw
  rw [cells_72] at hlen
  obtain ⟨x0, r0, o0⟩ := hf 0 _ rfl (opens_int Tryd.underlying3)
  replace r0 : (kInt .i64).rep W (Old W) x0 ((cs.drop 0).take (Tryd.prog.cellsOf 3)) := r0
  rw [cells_3] at r0
  obtain ⟨x1, r1, o1⟩ := hf 1 _ rfl (opens_int Tryd.underlying3)
  replace r1 : (kInt .i64).rep W (Old W) x1 ((cs.drop 1).take (Tryd.prog.cellsOf 3)) := r1
  rw [cells_3] at r1
  obtain ⟨x2, r2, o2⟩ := hf 2 _ rfl (opens_string Tryd.underlying9)
  replace r2 : kString.rep W (Old W) x2 ((cs.drop 2).take (Tryd.prog.cellsOf 9)) := r2
  rw [cells_9] at r2
  obtain ⟨x3, r3, o3⟩ := hf 3 _ rfl (opens_string Tryd.underlying9)
  replace r3 : kString.rep W (Old W) x3 ((cs.drop 3).take (Tryd.prog.cellsOf 9)) := r3
  rw [cells_9] at r3
  obtain ⟨x4, r4, o4⟩ := hf 4 _ rfl (opens_slice Tryd.underlying26 cells_5 bytes_5 (opens_int Tryd.underlying5))
  replace r4 : (kSlice (kInt .u8)).rep W (Old W) x4 ((cs.drop 4).take (Tryd.prog.cellsOf 26)) := r4
  rw [cells_26] at r4
  obtain ⟨x5, r5, o5⟩ := hf 5 _ rfl (opens_slice Tryd.underlying35 cells_3 bytes_3 (opens_int Tryd.underlying3))
  replace r5 : (kSlice (kInt .i64)).rep W (Old W) x5 ((cs.drop 5).take (Tryd.prog.cellsOf 35)) := r5
  rw [cells_35] at r5
  match cs, hlen with
  | [c0, c1, c2, c3, c4, c5], _ =>
    have e0 : [c0] = [.int .i64 x0] := r0
    injection e0 with e0 _
    subst e0
    have e1 : [c1] = [.int .i64 x1] := r1
    injection e1 with e1 _
    subst e1
    have e2 : [c2] = [.string x2] := r2
    injection e2 with e2 _
    subst e2
    have e3 : [c3] = [.string x3] := r3
    injection e3 with e3 _
    subst e3
    obtain ⟨a4, n4, e4, l4, m4, q4⟩ := (r4 : repSlice (kInt .u8) W (Old W) x4 [c4])
    injection e4 with e4 _
    subst e4
    obtain ⟨a5, n5, e5, l5, m5, q5⟩ := (r5 : repSlice (kInt .i64) W (Old W) x5 [c5])
    injection e5 with e5 _
    subst e5
    exact ⟨⟨x0, x1, x2, x3, x4, x5⟩, ⟨a4, n4, a5, n5, rfl, l4, m4, q4, l5, m5, q5⟩, o0, o1, o2, o3, o4, o5⟩

end Go.Proofs.YtfjndjbpgcggkaaDoor
