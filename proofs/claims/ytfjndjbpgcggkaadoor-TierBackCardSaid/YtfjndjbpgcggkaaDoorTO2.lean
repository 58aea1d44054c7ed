/- The program's types, opened. Printed by gen_kinds.py (own work). -/
import Derived.Test.YtfjndjbpgcggkaaDoorT2
import Derived.Test.YtfjndjbpgcggkaaDoorO
import Derived.Test.YtfjndjbpgcggkaaDoorProg
set_option linter.unusedVariables false
set_option linter.unusedSimpArgs false
namespace Go.Proofs.YtfjndjbpgcggkaaDoor
open Go.RowKit
set_option maxRecDepth 100000

theorem cells_79 : Tryd.prog.cellsOf 79 = 5 := by kernel_rfl
theorem bytes_79 : Tryd.prog.bytesOf 79 = 56 := by kernel_rfl
theorem cells_3 : Tryd.prog.cellsOf 3 = 1 := by kernel_rfl
theorem bytes_3 : Tryd.prog.bytesOf 3 = 8 := by kernel_rfl
theorem cells_9 : Tryd.prog.cellsOf 9 = 1 := by kernel_rfl
theorem bytes_9 : Tryd.prog.bytesOf 9 = 16 := by kernel_rfl
theorem cells_4 : Tryd.prog.cellsOf 4 = 1 := by kernel_rfl
theorem bytes_4 : Tryd.prog.bytesOf 4 = 1 := by kernel_rfl
def okRecord (x : Record) : Prop := IntOk .i64 x.Offset ∧ IntOk .i64 x.Time ∧ x.Key.size ≤ reachBytes ∧ x.Value.size ≤ reachBytes ∧ True
theorem opens_Record : Opens Tryd.prog 79 kRecord okRecord := by
  intro H enc W fuel cs d ps h hw
  obtain ⟨hlen, hf⟩ := open_fields Tryd.underlying79 h hw
  rw [cells_79] at hlen
  obtain ⟨x0, r0, o0⟩ := hf 0 _ rfl (opens_int Tryd.underlying3)
  replace r0 : (kInt .i64).rep W (Old W) x0 ((cs.drop 0).take (Tryd.prog.cellsOf 3)) := r0
  rw [cells_3] at r0
  obtain ⟨x1, r1, o1⟩ := hf 1 _ rfl (opens_int Tryd.underlying3)
  replace r1 : (kInt .i64).rep W (Old W) x1 ((cs.drop 1).take (Tryd.prog.cellsOf 3)) := r1
  rw [cells_3] at r1
  obtain ⟨x2, r2, o2⟩ := hf 2 _ rfl (opens_string Tryd.underlying9)
  replace r2 : kString.rep W (Old W) x2 ((cs.drop 2).take (Tryd.prog.cellsOf 9)) := r2
  rw [cells_9] at r2
  obtain ⟨x3, r3, o3⟩ := hf 3 _ rfl (opens_string Tryd.underlying9)
  replace r3 : kString.rep W (Old W) x3 ((cs.drop 3).take (Tryd.prog.cellsOf 9)) := r3
  rw [cells_9] at r3
  obtain ⟨x4, r4, o4⟩ := hf 4 _ rfl (opens_bool Tryd.underlying4)
  replace r4 : kBool.rep W (Old W) x4 ((cs.drop 4).take (Tryd.prog.cellsOf 4)) := r4
  rw [cells_4] at r4
  match cs, hlen with
  | [c0, c1, c2, c3, c4], _ =>
    have e0 : [c0] = [.int .i64 x0] := r0
    injection e0 with e0 _
    subst e0
    have e1 : [c1] = [.int .i64 x1] := r1
    injection e1 with e1 _
    subst e1
    have e2 : [c2] = [.string x2] := r2
    injection e2 with e2 _
    subst e2
    have e3 : [c3] = [.string x3] := r3
    injection e3 with e3 _
    subst e3
    have e4 : [c4] = [.bool x4] := r4
    injection e4 with e4 _
    subst e4
    exact ⟨⟨x0, x1, x2, x3, x4⟩, rfl, o0, o1, o2, o3, o4⟩

end Go.Proofs.YtfjndjbpgcggkaaDoor
