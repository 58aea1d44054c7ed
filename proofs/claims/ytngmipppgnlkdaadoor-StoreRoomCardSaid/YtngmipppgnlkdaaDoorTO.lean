/- The program's types, opened. Printed by gen_kinds.py (own work). -/
import Derived.Test.YtngmipppgnlkdaaDoorT
import Derived.Test.YtngmipppgnlkdaaDoorO
import Derived.Test.YtngmipppgnlkdaaDoorProg
set_option linter.unusedVariables false
set_option linter.unusedSimpArgs false
namespace Go.Proofs.YtngmipppgnlkdaaDoor
open Go.RowKit
set_option maxRecDepth 100000

theorem cells_84 : Tryd.prog.cellsOf 84 = 5 := by kernel_rfl
theorem bytes_84 : Tryd.prog.bytesOf 84 = 56 := by kernel_rfl
theorem cells_3 : Tryd.prog.cellsOf 3 = 1 := by kernel_rfl
theorem bytes_3 : Tryd.prog.bytesOf 3 = 8 := by kernel_rfl
theorem cells_9 : Tryd.prog.cellsOf 9 = 1 := by kernel_rfl
theorem bytes_9 : Tryd.prog.bytesOf 9 = 16 := by kernel_rfl
theorem cells_4 : Tryd.prog.cellsOf 4 = 1 := by kernel_rfl
theorem bytes_4 : Tryd.prog.bytesOf 4 = 1 := by kernel_rfl
def okRecord (x : Record) : Prop := IntOk .i64 x.Offset ∧ IntOk .i64 x.Time ∧ x.Key.size ≤ reachBytes ∧ x.Value.size ≤ reachBytes ∧ True
theorem opens_Record : Opens Tryd.prog 84 kRecord okRecord := by
  intro H enc W fuel cs d ps h hw
  obtain ⟨hlen, hf⟩ := open_fields Tryd.underlying84 h hw
  rw [cells_84] at hlen
  obtain ⟨x0, r0, o0⟩ := hf 0 _ rfl (opens_int Tryd.underlying3)
  replace r0 : (kInt .i64).rep W (Old W) x0 ((cs.drop 0).take (Tryd.prog.cellsOf 3)) := r0
  rw [cells_3] at r0
  obtain ⟨x1, r1, o1⟩ := hf 1 _ rfl (opens_int Tryd.underlying3)
  replace r1 : (kInt .i64).rep W (Old W) x1 ((cs.drop 1).take (Tryd.prog.cellsOf 3)) := r1
  rw [cells_3] at r1
  obtain ⟨x2, r2, o2⟩ := hf 2 _ rfl (opens_string Tryd.underlying9)
  replace r2 : kString.rep W (Old W) x2 ((cs.drop 2).take (Tryd.prog.cellsOf 9)) := r2
  rw [cells_9] at r2
  obtain ⟨x3, r3, o3⟩ := hf 3 _ rfl (opens_string Tryd.underlying9)
  replace r3 : kString.rep W (Old W) x3 ((cs.drop 3).take (Tryd.prog.cellsOf 9)) := r3
  rw [cells_9] at r3
  obtain ⟨x4, r4, o4⟩ := hf 4 _ rfl (opens_bool Tryd.underlying4)
  replace r4 : kBool.rep W (Old W) x4 ((cs.drop 4).take (Tryd.prog.cellsOf 4)) := r4
  rw [cells_4] at r4
  match cs, hlen with
  | [c0, c1, c2, c3, c4], _ =>
    have e0 : [c0] = [.int .i64 x0] := r0
    injection e0 with e0 _
    subst e0
    have e1 : [c1] = [.int .i64 x1] := r1
    injection e1 with e1 _
    subst e1
    have e2 : [c2] = [.string x2] := r2
    injection e2 with e2 _
    subst e2
    have e3 : [c3] = [.string x3] := r3
    injection e3 with e3 _
    subst e3
    have e4 : [c4] = [.bool x4] := r4
    injection e4 with e4 _
    subst e4
    exact ⟨⟨x0, x1, x2, x3, x4⟩, rfl, o0, o1, o2, o3, o4⟩

theorem cells_48 : Tryd.prog.cellsOf 48 = 4 := by kernel_rfl
theorem bytes_48 : Tryd.prog.bytesOf 48 = 32 := by kernel_rfl
def okConf (x : Conf) : Prop := IntOk .i64 x.Segment ∧ IntOk .i64 x.Keep ∧ IntOk .i64 x.Age ∧ IntOk .i64 x.Grace
theorem opens_Conf : Opens Tryd.prog 48 kConf okConf := by
  intro H enc W fuel cs d ps h hw
  obtain ⟨hlen, hf⟩ := open_fields Tryd.underlying48 h hw
  rw [cells_48] at hlen
  obtain ⟨x0, r0, o0⟩ := hf 0 _ rfl (opens_int Tryd.underlying3)
  replace r0 : (kInt .i64).rep W (Old W) x0 ((cs.drop 0).take (Tryd.prog.cellsOf 3)) := r0
  rw [cells_3] at r0
  obtain ⟨x1, r1, o1⟩ := hf 1 _ rfl (opens_int Tryd.underlying3)
  replace r1 : (kInt .i64).rep W (Old W) x1 ((cs.drop 1).take (Tryd.prog.cellsOf 3)) := r1
  rw [cells_3] at r1
  obtain ⟨x2, r2, o2⟩ := hf 2 _ rfl (opens_int Tryd.underlying3)
  replace r2 : (kInt .i64).rep W (Old W) x2 ((cs.drop 2).take (Tryd.prog.cellsOf 3)) := r2
  rw [cells_3] at r2
  obtain ⟨x3, r3, o3⟩ := hf 3 _ rfl (opens_int Tryd.underlying3)
  replace r3 : (kInt .i64).rep W (Old W) x3 ((cs.drop 3).take (Tryd.prog.cellsOf 3)) := r3
  rw [cells_3] at r3
  match cs, hlen with
  | [c0, c1, c2, c3], _ =>
    have e0 : [c0] = [.int .i64 x0] := r0
    injection e0 with e0 _
    subst e0
    have e1 : [c1] = [.int .i64 x1] := r1
    injection e1 with e1 _
    subst e1
    have e2 : [c2] = [.int .i64 x2] := r2
    injection e2 with e2 _
    subst e2
    have e3 : [c3] = [.int .i64 x3] := r3
    injection e3 with e3 _
    subst e3
    exact ⟨⟨x0, x1, x2, x3⟩, rfl, o0, o1, o2, o3⟩

theorem cells_50 : Tryd.prog.cellsOf 50 = 13 := by kernel_rfl
theorem bytes_50 : Tryd.prog.bytesOf 50 = 128 := by kernel_rfl
theorem cells_45 : Tryd.prog.cellsOf 45 = 1 := by kernel_rfl
theorem bytes_45 : Tryd.prog.bytesOf 45 = 24 := by kernel_rfl
theorem cells_46 : Tryd.prog.cellsOf 46 = 1 := by kernel_rfl
theorem bytes_46 : Tryd.prog.bytesOf 46 = 4 := by kernel_rfl
def okCommand (x : Command) : Prop := IntOk .i64 x.Kind ∧ IntOk .i64 x.Pid ∧ IntOk .i64 x.Seq ∧ (x.Records.length * 56 ≤ reachBytes ∧ ∀ y ∈ x.Records, okRecord y) ∧ x.Group.size ≤ reachBytes ∧ IntOk .i64 x.Offset ∧ IntOk .i64 x.Max ∧ IntOk .i64 x.Now ∧ IntOk .u32 x.Sum ∧ okConf x.Conf
theorem opens_Command : Opens Tryd.prog 50 kCommand okCommand := by
  intro H enc W fuel cs d ps h hw
  obtain ⟨hlen, hf⟩ := open_fields Tryd.underlying50 h hw
  rw [cells_50] at hlen
  obtain ⟨x0, r0, o0⟩ := hf 0 _ rfl (opens_int Tryd.underlying3)
  replace r0 : (kInt .i64).rep W (Old W) x0 ((cs.drop 0).take (Tryd.prog.cellsOf 3)) := r0
  rw [cells_3] at r0
  obtain ⟨x1, r1, o1⟩ := hf 1 _ rfl (opens_int Tryd.underlying3)
  replace r1 : (kInt .i64).rep W (Old W) x1 ((cs.drop 1).take (Tryd.prog.cellsOf 3)) := r1
  rw [cells_3] at r1
  obtain ⟨x2, r2, o2⟩ := hf 2 _ rfl (opens_int Tryd.underlying3)
  replace r2 : (kInt .i64).rep W (Old W) x2 ((cs.drop 2).take (Tryd.prog.cellsOf 3)) := r2
  rw [cells_3] at r2
  obtain ⟨x3, r3, o3⟩ := hf 3 _ rfl (opens_slice Tryd.underlying45 cells_84 bytes_84 opens_Record)
  replace r3 : (kSlice kRecord).rep W (Old W) x3 ((cs.drop 3).take (Tryd.prog.cellsOf 45)) := r3
  rw [cells_45] at r3
  obtain ⟨x4, r4, o4⟩ := hf 4 _ rfl (opens_string Tryd.underlying9)
  replace r4 : kString.rep W (Old W) x4 ((cs.drop 4).take (Tryd.prog.cellsOf 9)) := r4
  rw [cells_9] at r4
  obtain ⟨x5, r5, o5⟩ := hf 5 _ rfl (opens_int Tryd.underlying3)
  replace r5 : (kInt .i64).rep W (Old W) x5 ((cs.drop 5).take (Tryd.prog.cellsOf 3)) := r5
  rw [cells_3] at r5
  obtain ⟨x6, r6, o6⟩ := hf 6 _ rfl (opens_int Tryd.underlying3)
  replace r6 : (kInt .i64).rep W (Old W) x6 ((cs.drop 6).take (Tryd.prog.cellsOf 3)) := r6
  rw [cells_3] at r6
  obtain ⟨x7, r7, o7⟩ := hf 7 _ rfl (opens_int Tryd.underlying3)
  replace r7 : (kInt .i64).rep W (Old W) x7 ((cs.drop 7).take (Tryd.prog.cellsOf 3)) := r7
  rw [cells_3] at r7
  obtain ⟨x8, r8, o8⟩ := hf 8 _ rfl (opens_int Tryd.underlying46)
  replace r8 : (kInt .u32).rep W (Old W) x8 ((cs.drop 8).take (Tryd.prog.cellsOf 46)) := r8
  rw [cells_46] at r8
  obtain ⟨x9, r9, o9⟩ := hf 9 _ rfl opens_Conf
  replace r9 : kConf.rep W (Old W) x9 ((cs.drop 9).take (Tryd.prog.cellsOf 48)) := r9
  rw [cells_48] at r9
  match cs, hlen with
  | [c0, c1, c2, c3, c4, c5, c6, c7, c8, c9, c10, c11, c12], _ =>
    have e0 : [c0] = [.int .i64 x0] := r0
    injection e0 with e0 _
    subst e0
    have e1 : [c1] = [.int .i64 x1] := r1
    injection e1 with e1 _
    subst e1
    have e2 : [c2] = [.int .i64 x2] := r2
    injection e2 with e2 _
    subst e2
    obtain ⟨a3, n3, e3, l3, m3, q3⟩ := (r3 : repSlice kRecord W (Old W) x3 [c3])
    injection e3 with e3 _
    subst e3
    have e4 : [c4] = [.string x4] := r4
    injection e4 with e4 _
    subst e4
    have e5 : [c5] = [.int .i64 x5] := r5
    injection e5 with e5 _
    subst e5
    have e6 : [c6] = [.int .i64 x6] := r6
    injection e6 with e6 _
    subst e6
    have e7 : [c7] = [.int .i64 x7] := r7
    injection e7 with e7 _
    subst e7
    have e8 : [c8] = [.int .u32 x8] := r8
    injection e8 with e8 _
    subst e8
    have r9' : repConf W (Old W) x9 [c9, c10, c11, c12] := r9
    have e9 : [c9, c10, c11, c12] = [.int .i64 x9.Segment, .int .i64 x9.Keep, .int .i64 x9.Age, .int .i64 x9.Grace] := r9'
    simp only [List.cons.injEq, and_true] at e9
    obtain ⟨rfl, rfl, rfl, rfl⟩ := e9
    exact ⟨⟨x0, x1, x2, x3, x4, x5, x6, x7, x8, x9⟩, ⟨a3, n3, rfl, l3, m3, q3⟩, o0, o1, o2, o3, o4, o5, o6, o7, o8, o9⟩

theorem cells_52 : Tryd.prog.cellsOf 52 = 19 := by kernel_rfl
theorem bytes_52 : Tryd.prog.bytesOf 52 = 192 := by kernel_rfl
theorem cells_22 : Tryd.prog.cellsOf 22 = 1 := by kernel_rfl
theorem bytes_22 : Tryd.prog.bytesOf 22 = 24 := by kernel_rfl
def okEvent (x : Event) : Prop := IntOk .i64 x.Kind ∧ IntOk .i64 x.Node ∧ IntOk .i64 x.Message ∧ IntOk .i64 x.Keep ∧ IntOk .i64 x.What ∧ (x.Fault.length * 8 ≤ reachBytes ∧ ∀ y ∈ x.Fault, IntOk .i64 y) ∧ okCommand x.Cmd
theorem opens_Event : Opens Tryd.prog 52 kEvent okEvent := by
  intro H enc W fuel cs d ps h hw
  obtain ⟨hlen, hf⟩ := open_fields Tryd.underlying52 h hw
  rw [cells_52] at hlen
  obtain ⟨x0, r0, o0⟩ := hf 0 _ rfl (opens_int Tryd.underlying3)
  replace r0 : (kInt .i64).rep W (Old W) x0 ((cs.drop 0).take (Tryd.prog.cellsOf 3)) := r0
  rw [cells_3] at r0
  obtain ⟨x1, r1, o1⟩ := hf 1 _ rfl (opens_int Tryd.underlying3)
  replace r1 : (kInt .i64).rep W (Old W) x1 ((cs.drop 1).take (Tryd.prog.cellsOf 3)) := r1
  rw [cells_3] at r1
  obtain ⟨x2, r2, o2⟩ := hf 2 _ rfl (opens_int Tryd.underlying3)
  replace r2 : (kInt .i64).rep W (Old W) x2 ((cs.drop 2).take (Tryd.prog.cellsOf 3)) := r2
  rw [cells_3] at r2
  obtain ⟨x3, r3, o3⟩ := hf 3 _ rfl (opens_int Tryd.underlying3)
  replace r3 : (kInt .i64).rep W (Old W) x3 ((cs.drop 3).take (Tryd.prog.cellsOf 3)) := r3
  rw [cells_3] at r3
  obtain ⟨x4, r4, o4⟩ := hf 4 _ rfl (opens_int Tryd.underlying3)
  replace r4 : (kInt .i64).rep W (Old W) x4 ((cs.drop 4).take (Tryd.prog.cellsOf 3)) := r4
  rw [cells_3] at r4
  obtain ⟨x5, r5, o5⟩ := hf 5 _ rfl (opens_slice Tryd.underlying22 cells_3 bytes_3 (opens_int Tryd.underlying3))
  replace r5 : (kSlice (kInt .i64)).rep W (Old W) x5 ((cs.drop 5).take (Tryd.prog.cellsOf 22)) := r5
  rw [cells_22] at r5
  obtain ⟨x6, r6, o6⟩ := hf 6 _ rfl opens_Command
  replace r6 : kCommand.rep W (Old W) x6 ((cs.drop 6).take (Tryd.prog.cellsOf 50)) := r6
  rw [cells_50] at r6
  match cs, hlen with
  | [c0, c1, c2, c3, c4, c5, c6, c7, c8, c9, c10, c11, c12, c13, c14, c15, c16, c17, c18], _ =>
    have e0 : [c0] = [.int .i64 x0] := r0
    injection e0 with e0 _
    subst e0
    have e1 : [c1] = [.int .i64 x1] := r1
    injection e1 with e1 _
    subst e1
    have e2 : [c2] = [.int .i64 x2] := r2
    injection e2 with e2 _
    subst e2
    have e3 : [c3] = [.int .i64 x3] := r3
    injection e3 with e3 _
    subst e3
    have e4 : [c4] = [.int .i64 x4] := r4
    injection e4 with e4 _
    subst e4
    obtain ⟨a5, n5, e5, l5, m5, q5⟩ := (r5 : repSlice (kInt .i64) W (Old W) x5 [c5])
    injection e5 with e5 _
    subst e5
    have r6' : repCommand W (Old W) x6 [c6, c7, c8, c9, c10, c11, c12, c13, c14, c15, c16, c17, c18] := r6
    obtain ⟨a6_3, n6_3, e6, l6_3, m6_3, q6_3⟩ := r6'
    simp only [List.cons.injEq, and_true] at e6
    obtain ⟨rfl, rfl, rfl, rfl, rfl, rfl, rfl, rfl, rfl, rfl, rfl, rfl, rfl⟩ := e6
    exact ⟨⟨x0, x1, x2, x3, x4, x5, x6⟩, ⟨a5, n5, a6_3, n6_3, rfl, l5, m5, q5, l6_3, m6_3, q6_3⟩, o0, o1, o2, o3, o4, o5, o6⟩

theorem cells_62 : Tryd.prog.cellsOf 62 = 4 := by kernel_rfl
theorem bytes_62 : Tryd.prog.bytesOf 62 = 72 := by kernel_rfl
theorem cells_30 : Tryd.prog.cellsOf 30 = 1 := by kernel_rfl
theorem bytes_30 : Tryd.prog.bytesOf 30 = 24 := by kernel_rfl
theorem cells_5 : Tryd.prog.cellsOf 5 = 1 := by kernel_rfl
theorem bytes_5 : Tryd.prog.bytesOf 5 = 1 := by kernel_rfl
def okSAct (x : SAct) : Prop := IntOk .i64 x.Way ∧ x.P.size ≤ reachBytes ∧ (x.B.length * 1 ≤ reachBytes ∧ ∀ y ∈ x.B, IntOk .u8 y) ∧ (x.L.length * 8 ≤ reachBytes ∧ ∀ y ∈ x.L, IntOk .i64 y)
theorem opens_SAct : Opens Tryd.prog 62 kSAct okSAct := by
  intro H enc W fuel cs d ps h hw
  obtain ⟨hlen, hf⟩ := open_fields Tryd.underlying62 h hw
  rw [cells_62] at hlen
  obtain ⟨x0, r0, o0⟩ := hf 0 _ rfl (opens_int Tryd.underlying3)
  replace r0 : (kInt .i64).rep W (Old W) x0 ((cs.drop 0).take (Tryd.prog.cellsOf 3)) := r0
  rw [cells_3] at r0
  obtain ⟨x1, r1, o1⟩ := hf 1 _ rfl (opens_string Tryd.underlying9)
  replace r1 : kString.rep W (Old W) x1 ((cs.drop 1).take (Tryd.prog.cellsOf 9)) := r1
  rw [cells_9] at r1
  obtain ⟨x2, r2, o2⟩ := hf 2 _ rfl (opens_slice Tryd.underlying30 cells_5 bytes_5 (opens_int Tryd.underlying5))
  replace r2 : (kSlice (kInt .u8)).rep W (Old W) x2 ((cs.drop 2).take (Tryd.prog.cellsOf 30)) := r2
  rw [cells_30] at r2
  obtain ⟨x3, r3, o3⟩ := hf 3 _ rfl (opens_slice Tryd.underlying22 cells_3 bytes_3 (opens_int Tryd.underlying3))
  replace r3 : (kSlice (kInt .i64)).rep W (Old W) x3 ((cs.drop 3).take (Tryd.prog.cellsOf 22)) := r3
  rw [cells_22] at r3
  match cs, hlen with
  | [c0, c1, c2, c3], _ =>
    have e0 : [c0] = [.int .i64 x0] := r0
    injection e0 with e0 _
    subst e0
    have e1 : [c1] = [.string x1] := r1
    injection e1 with e1 _
    subst e1
    obtain ⟨a2, n2, e2, l2, m2, q2⟩ := (r2 : repSlice (kInt .u8) W (Old W) x2 [c2])
    injection e2 with e2 _
    subst e2
    obtain ⟨a3, n3, e3, l3, m3, q3⟩ := (r3 : repSlice (kInt .i64) W (Old W) x3 [c3])
    injection e3 with e3 _
    subst e3
    exact ⟨⟨x0, x1, x2, x3⟩, ⟨a2, n2, a3, n3, rfl, l2, m2, q2, l3, m3, q3⟩, o0, o1, o2, o3⟩

end Go.Proofs.YtngmipppgnlkdaaDoor
