/- The program's types, opened. Printed by gen_kinds.py (own work). -/
import Derived.Test.YtikpbhhnllchmaaT
import Derived.Test.YtikpbhhnllchmaaO
import Derived.Test.YtikpbhhnllchmaaProg
set_option linter.unusedVariables false
set_option linter.unusedSimpArgs false
namespace Go.Proofs.Ytikpbhhnllchmaa
open Go.RowKit
set_option maxRecDepth 100000

theorem cells_109 : Try.prog.cellsOf 109 = 5 := by kernel_rfl
theorem bytes_109 : Try.prog.bytesOf 109 = 56 := by kernel_rfl
theorem cells_3 : Try.prog.cellsOf 3 = 1 := by kernel_rfl
theorem bytes_3 : Try.prog.bytesOf 3 = 8 := by kernel_rfl
theorem cells_9 : Try.prog.cellsOf 9 = 1 := by kernel_rfl
theorem bytes_9 : Try.prog.bytesOf 9 = 16 := by kernel_rfl
theorem cells_4 : Try.prog.cellsOf 4 = 1 := by kernel_rfl
theorem bytes_4 : Try.prog.bytesOf 4 = 1 := by kernel_rfl
def okRecord (x : Record) : Prop := IntOk .i64 x.Offset ∧ IntOk .i64 x.Time ∧ x.Key.size ≤ reachBytes ∧ x.Value.size ≤ reachBytes ∧ True
theorem opens_Record : Opens Try.prog 109 kRecord okRecord := by
  intro H enc W fuel cs d ps h hw
  obtain ⟨hlen, hf⟩ := open_fields Try.underlying109 h hw
  rw [cells_109] at hlen
  obtain ⟨x0, r0, o0⟩ := hf 0 _ rfl (opens_int Try.underlying3)
  replace r0 : (kInt .i64).rep W (Old W) x0 ((cs.drop 0).take (Try.prog.cellsOf 3)) := r0
  rw [cells_3] at r0
  obtain ⟨x1, r1, o1⟩ := hf 1 _ rfl (opens_int Try.underlying3)
  replace r1 : (kInt .i64).rep W (Old W) x1 ((cs.drop 1).take (Try.prog.cellsOf 3)) := r1
  rw [cells_3] at r1
  obtain ⟨x2, r2, o2⟩ := hf 2 _ rfl (opens_string Try.underlying9)
  replace r2 : kString.rep W (Old W) x2 ((cs.drop 2).take (Try.prog.cellsOf 9)) := r2
  rw [cells_9] at r2
  obtain ⟨x3, r3, o3⟩ := hf 3 _ rfl (opens_string Try.underlying9)
  replace r3 : kString.rep W (Old W) x3 ((cs.drop 3).take (Try.prog.cellsOf 9)) := r3
  rw [cells_9] at r3
  obtain ⟨x4, r4, o4⟩ := hf 4 _ rfl (opens_bool Try.underlying4)
  replace r4 : kBool.rep W (Old W) x4 ((cs.drop 4).take (Try.prog.cellsOf 4)) := r4
  rw [cells_4] at r4
  match cs, hlen with
  | [c0, c1, c2, c3, c4], _ =>
    have e0 : [c0] = [.int .i64 x0] := r0
    injection e0 with e0 _
    subst e0
    have e1 : [c1] = [.int .i64 x1] := r1
    injection e1 with e1 _
    subst e1
    have e2 : [c2] = [.string x2] := r2
    injection e2 with e2 _
    subst e2
    have e3 : [c3] = [.string x3] := r3
    injection e3 with e3 _
    subst e3
    have e4 : [c4] = [.bool x4] := r4
    injection e4 with e4 _
    subst e4
    exact ⟨⟨x0, x1, x2, x3, x4⟩, rfl, o0, o1, o2, o3, o4⟩

theorem cells_39 : Try.prog.cellsOf 39 = 4 := by kernel_rfl
theorem bytes_39 : Try.prog.bytesOf 39 = 32 := by kernel_rfl
def okConf (x : Conf) : Prop := IntOk .i64 x.Segment ∧ IntOk .i64 x.Keep ∧ IntOk .i64 x.Age ∧ IntOk .i64 x.Grace
theorem opens_Conf : Opens Try.prog 39 kConf okConf := by
  intro H enc W fuel cs d ps h hw
  obtain ⟨hlen, hf⟩ := open_fields Try.underlying39 h hw
  rw [cells_39] at hlen
  obtain ⟨x0, r0, o0⟩ := hf 0 _ rfl (opens_int Try.underlying3)
  replace r0 : (kInt .i64).rep W (Old W) x0 ((cs.drop 0).take (Try.prog.cellsOf 3)) := r0
  rw [cells_3] at r0
  obtain ⟨x1, r1, o1⟩ := hf 1 _ rfl (opens_int Try.underlying3)
  replace r1 : (kInt .i64).rep W (Old W) x1 ((cs.drop 1).take (Try.prog.cellsOf 3)) := r1
  rw [cells_3] at r1
  obtain ⟨x2, r2, o2⟩ := hf 2 _ rfl (opens_int Try.underlying3)
  replace r2 : (kInt .i64).rep W (Old W) x2 ((cs.drop 2).take (Try.prog.cellsOf 3)) := r2
  rw [cells_3] at r2
  obtain ⟨x3, r3, o3⟩ := hf 3 _ rfl (opens_int Try.underlying3)
  replace r3 : (kInt .i64).rep W (Old W) x3 ((cs.drop 3).take (Try.prog.cellsOf 3)) := r3
  rw [cells_3] at r3
  match cs, hlen with
  | [c0, c1, c2, c3], _ =>
    have e0 : [c0] = [.int .i64 x0] := r0
    injection e0 with e0 _
    subst e0
    have e1 : [c1] = [.int .i64 x1] := r1
    injection e1 with e1 _
    subst e1
    have e2 : [c2] = [.int .i64 x2] := r2
    injection e2 with e2 _
    subst e2
    have e3 : [c3] = [.int .i64 x3] := r3
    injection e3 with e3 _
    subst e3
    exact ⟨⟨x0, x1, x2, x3⟩, rfl, o0, o1, o2, o3⟩

theorem cells_41 : Try.prog.cellsOf 41 = 13 := by kernel_rfl
theorem bytes_41 : Try.prog.bytesOf 41 = 128 := by kernel_rfl
theorem cells_36 : Try.prog.cellsOf 36 = 1 := by kernel_rfl
theorem bytes_36 : Try.prog.bytesOf 36 = 24 := by kernel_rfl
theorem cells_37 : Try.prog.cellsOf 37 = 1 := by kernel_rfl
theorem bytes_37 : Try.prog.bytesOf 37 = 4 := by kernel_rfl
def okCommand (x : Command) : Prop := IntOk .i64 x.Kind ∧ IntOk .i64 x.Pid ∧ IntOk .i64 x.Seq ∧ (x.Records.length * 56 ≤ reachBytes ∧ ∀ y ∈ x.Records, okRecord y) ∧ x.Group.size ≤ reachBytes ∧ IntOk .i64 x.Offset ∧ IntOk .i64 x.Max ∧ IntOk .i64 x.Now ∧ IntOk .u32 x.Sum ∧ okConf x.Conf
theorem opens_Command : Opens Try.prog 41 kCommand okCommand := by
  intro H enc W fuel cs d ps h hw
  obtain ⟨hlen, hf⟩ := open_fields Try.underlying41 h hw
  rw [cells_41] at hlen
  obtain ⟨x0, r0, o0⟩ := hf 0 _ rfl (opens_int Try.underlying3)
  replace r0 : (kInt .i64).rep W (Old W) x0 ((cs.drop 0).take (Try.prog.cellsOf 3)) := r0
  rw [cells_3] at r0
  obtain ⟨x1, r1, o1⟩ := hf 1 _ rfl (opens_int Try.underlying3)
  replace r1 : (kInt .i64).rep W (Old W) x1 ((cs.drop 1).take (Try.prog.cellsOf 3)) := r1
  rw [cells_3] at r1
  obtain ⟨x2, r2, o2⟩ := hf 2 _ rfl (opens_int Try.underlying3)
  replace r2 : (kInt .i64).rep W (Old W) x2 ((cs.drop 2).take (Try.prog.cellsOf 3)) := r2
  rw [cells_3] at r2
  obtain ⟨x3, r3, o3⟩ := hf 3 _ rfl (opens_slice Try.underlying36 cells_109 bytes_109 opens_Record)
  replace r3 : (kSlice kRecord).rep W (Old W) x3 ((cs.drop 3).take (Try.prog.cellsOf 36)) := r3
  rw [cells_36] at r3
  obtain ⟨x4, r4, o4⟩ := hf 4 _ rfl (opens_string Try.underlying9)
  replace r4 : kString.rep W (Old W) x4 ((cs.drop 4).take (Try.prog.cellsOf 9)) := r4
  rw [cells_9] at r4
  obtain ⟨x5, r5, o5⟩ := hf 5 _ rfl (opens_int Try.underlying3)
  replace r5 : (kInt .i64).rep W (Old W) x5 ((cs.drop 5).take (Try.prog.cellsOf 3)) := r5
  rw [cells_3] at r5
  obtain ⟨x6, r6, o6⟩ := hf 6 _ rfl (opens_int Try.underlying3)
  replace r6 : (kInt .i64).rep W (Old W) x6 ((cs.drop 6).take (Try.prog.cellsOf 3)) := r6
  rw [cells_3] at r6
  obtain ⟨x7, r7, o7⟩ := hf 7 _ rfl (opens_int Try.underlying3)
  replace r7 : (kInt .i64).rep W (Old W) x7 ((cs.drop 7).take (Try.prog.cellsOf 3)) := r7
  rw [cells_3] at r7
  obtain ⟨x8, r8, o8⟩ := hf 8 _ rfl (opens_int Try.underlying37)
  replace r8 : (kInt .u32).rep W (Old W) x8 ((cs.drop 8).take (Try.prog.cellsOf 37)) := r8
  rw [cells_37] at r8
  obtain ⟨x9, r9, o9⟩ := hf 9 _ rfl opens_Conf
  replace r9 : kConf.rep W (Old W) x9 ((cs.drop 9).take (Try.prog.cellsOf 39)) := r9
  rw [cells_39] at r9
  match cs, hlen with
  | [c0, c1, c2, c3, c4, c5, c6, c7, c8, c9, c10, c11, c12], _ =>
    have e0 : [c0] = [.int .i64 x0] := r0
    injection e0 with e0 _
    subst e0
    have e1 : [c1] = [.int .i64 x1] := r1
    injection e1 with e1 _
    subst e1
    have e2 : [c2] = [.int .i64 x2] := r2
    injection e2 with e2 _
    subst e2
    obtain ⟨a3, n3, e3, l3, m3, q3⟩ := (r3 : repSlice kRecord W (Old W) x3 [c3])
    injection e3 with e3 _
    subst e3
    have e4 : [c4] = [.string x4] := r4
    injection e4 with e4 _
    subst e4
    have e5 : [c5] = [.int .i64 x5] := r5
    injection e5 with e5 _
    subst e5
    have e6 : [c6] = [.int .i64 x6] := r6
    injection e6 with e6 _
    subst e6
    have e7 : [c7] = [.int .i64 x7] := r7
    injection e7 with e7 _
    subst e7
    have e8 : [c8] = [.int .u32 x8] := r8
    injection e8 with e8 _
    subst e8
    have r9' : repConf W (Old W) x9 [c9, c10, c11, c12] := r9
    have e9 : [c9, c10, c11, c12] = [.int .i64 x9.Segment, .int .i64 x9.Keep, .int .i64 x9.Age, .int .i64 x9.Grace] := r9'
    simp only [List.cons.injEq, and_true] at e9
    obtain ⟨rfl, rfl, rfl, rfl⟩ := e9
    exact ⟨⟨x0, x1, x2, x3, x4, x5, x6, x7, x8, x9⟩, ⟨a3, n3, rfl, l3, m3, q3⟩, o0, o1, o2, o3, o4, o5, o6, o7, o8, o9⟩

theorem cells_43 : Try.prog.cellsOf 43 = 14 := by kernel_rfl
theorem bytes_43 : Try.prog.bytesOf 43 = 136 := by kernel_rfl
def okEntry (x : Entry) : Prop := IntOk .i64 x.Term ∧ okCommand x.Cmd
theorem opens_Entry : Opens Try.prog 43 kEntry okEntry := by
  intro H enc W fuel cs d ps h hw
  obtain ⟨hlen, hf⟩ := open_fields Try.underlying43 h hw
  rw [cells_43] at hlen
  obtain ⟨x0, r0, o0⟩ := hf 0 _ rfl (opens_int Try.underlying3)
  replace r0 : (kInt .i64).rep W (Old W) x0 ((cs.drop 0).take (Try.prog.cellsOf 3)) := r0
  rw [cells_3] at r0
  obtain ⟨x1, r1, o1⟩ := hf 1 _ rfl opens_Command
  replace r1 : kCommand.rep W (Old W) x1 ((cs.drop 1).take (Try.prog.cellsOf 41)) := r1
  rw [cells_41] at r1
  match cs, hlen with
  | [c0, c1, c2, c3, c4, c5, c6, c7, c8, c9, c10, c11, c12, c13], _ =>
    have e0 : [c0] = [.int .i64 x0] := r0
    injection e0 with e0 _
    subst e0
    have r1' : repCommand W (Old W) x1 [c1, c2, c3, c4, c5, c6, c7, c8, c9, c10, c11, c12, c13] := r1
    obtain ⟨a1_3, n1_3, e1, l1_3, m1_3, q1_3⟩ := r1'
    simp only [List.cons.injEq, and_true] at e1
    obtain ⟨rfl, rfl, rfl, rfl, rfl, rfl, rfl, rfl, rfl, rfl, rfl, rfl, rfl⟩ := e1
    exact ⟨⟨x0, x1⟩, ⟨a1_3, n1_3, rfl, l1_3, m1_3, q1_3⟩, o0, o1⟩

theorem cells_34 : Try.prog.cellsOf 34 = 11 := by kernel_rfl
theorem bytes_34 : Try.prog.bytesOf 34 = 120 := by kernel_rfl
theorem cells_31 : Try.prog.cellsOf 31 = 1 := by kernel_rfl
theorem bytes_31 : Try.prog.bytesOf 31 = 24 := by kernel_rfl
theorem cells_32 : Try.prog.cellsOf 32 = 1 := by kernel_rfl
theorem bytes_32 : Try.prog.bytesOf 32 = 24 := by kernel_rfl
theorem cells_5 : Try.prog.cellsOf 5 = 1 := by kernel_rfl
theorem bytes_5 : Try.prog.bytesOf 5 = 1 := by kernel_rfl
def okMessage (x : Message) : Prop := IntOk .i64 x.Kind ∧ IntOk .i64 x.From ∧ IntOk .i64 x.To ∧ IntOk .i64 x.Term ∧ IntOk .i64 x.Last ∧ IntOk .i64 x.LastTerm ∧ (x.Entries.length * 136 ≤ reachBytes ∧ ∀ y ∈ x.Entries, okEntry y) ∧ IntOk .i64 x.Commit ∧ True ∧ IntOk .i64 x.Match ∧ (x.Data.length * 1 ≤ reachBytes ∧ ∀ y ∈ x.Data, IntOk .u8 y)
theorem opens_Message : Opens Try.prog 34 kMessage okMessage := by
  intro H enc W fuel cs d ps h hw
  obtain ⟨hlen, hf⟩ := open_fields Try.underlying34 h hw
  rw [cells_34] at hlen
  obtain ⟨x0, r0, o0⟩ := hf 0 _ rfl (opens_int Try.underlying3)
  replace r0 : (kInt .i64).rep W (Old W) x0 ((cs.drop 0).take (Try.prog.cellsOf 3)) := r0
  rw [cells_3] at r0
  obtain ⟨x1, r1, o1⟩ := hf 1 _ rfl (opens_int Try.underlying3)
  replace r1 : (kInt .i64).rep W (Old W) x1 ((cs.drop 1).take (Try.prog.cellsOf 3)) := r1
  rw [cells_3] at r1
  obtain ⟨x2, r2, o2⟩ := hf 2 _ rfl (opens_int Try.underlying3)
  replace r2 : (kInt .i64).rep W (Old W) x2 ((cs.drop 2).take (Try.prog.cellsOf 3)) := r2
  rw [cells_3] at r2
  obtain ⟨x3, r3, o3⟩ := hf 3 _ rfl (opens_int Try.underlying3)
  replace r3 : (kInt .i64).rep W (Old W) x3 ((cs.drop 3).take (Try.prog.cellsOf 3)) := r3
  rw [cells_3] at r3
  obtain ⟨x4, r4, o4⟩ := hf 4 _ rfl (opens_int Try.underlying3)
  replace r4 : (kInt .i64).rep W (Old W) x4 ((cs.drop 4).take (Try.prog.cellsOf 3)) := r4
  rw [cells_3] at r4
  obtain ⟨x5, r5, o5⟩ := hf 5 _ rfl (opens_int Try.underlying3)
  replace r5 : (kInt .i64).rep W (Old W) x5 ((cs.drop 5).take (Try.prog.cellsOf 3)) := r5
  rw [cells_3] at r5
  obtain ⟨x6, r6, o6⟩ := hf 6 _ rfl (opens_slice Try.underlying31 cells_43 bytes_43 opens_Entry)
  replace r6 : (kSlice kEntry).rep W (Old W) x6 ((cs.drop 6).take (Try.prog.cellsOf 31)) := r6
  rw [cells_31] at r6
  obtain ⟨x7, r7, o7⟩ := hf 7 _ rfl (opens_int Try.underlying3)
  replace r7 : (kInt .i64).rep W (Old W) x7 ((cs.drop 7).take (Try.prog.cellsOf 3)) := r7
  rw [cells_3] at r7
  obtain ⟨x8, r8, o8⟩ := hf 8 _ rfl (opens_bool Try.underlying4)
  replace r8 : kBool.rep W (Old W) x8 ((cs.drop 8).take (Try.prog.cellsOf 4)) := r8
  rw [cells_4] at r8
  obtain ⟨x9, r9, o9⟩ := hf 9 _ rfl (opens_int Try.underlying3)
  replace r9 : (kInt .i64).rep W (Old W) x9 ((cs.drop 9).take (Try.prog.cellsOf 3)) := r9
  rw [cells_3] at r9
  obtain ⟨x10, r10, o10⟩ := hf 10 _ rfl (opens_slice Try.underlying32 cells_5 bytes_5 (opens_int Try.underlying5))
  replace r10 : (kSlice (kInt .u8)).rep W (Old W) x10 ((cs.drop 10).take (Try.prog.cellsOf 32)) := r10
  rw [cells_32] at r10
  match cs, hlen with
  | [c0, c1, c2, c3, c4, c5, c6, c7, c8, c9, c10], _ =>
    have e0 : [c0] = [.int .i64 x0] := r0
    injection e0 with e0 _
    subst e0
    have e1 : [c1] = [.int .i64 x1] := r1
    injection e1 with e1 _
    subst e1
    have e2 : [c2] = [.int .i64 x2] := r2
    injection e2 with e2 _
    subst e2
    have e3 : [c3] = [.int .i64 x3] := r3
    injection e3 with e3 _
    subst e3
    have e4 : [c4] = [.int .i64 x4] := r4
    injection e4 with e4 _
    subst e4
    have e5 : [c5] = [.int .i64 x5] := r5
    injection e5 with e5 _
    subst e5
    obtain ⟨a6, n6, e6, l6, m6, q6⟩ := (r6 : repSlice kEntry W (Old W) x6 [c6])
    injection e6 with e6 _
    subst e6
    have e7 : [c7] = [.int .i64 x7] := r7
    injection e7 with e7 _
    subst e7
    have e8 : [c8] = [.bool x8] := r8
    injection e8 with e8 _
    subst e8
    have e9 : [c9] = [.int .i64 x9] := r9
    injection e9 with e9 _
    subst e9
    obtain ⟨a10, n10, e10, l10, m10, q10⟩ := (r10 : repSlice (kInt .u8) W (Old W) x10 [c10])
    injection e10 with e10 _
    subst e10
    exact ⟨⟨x0, x1, x2, x3, x4, x5, x6, x7, x8, x9, x10⟩, ⟨a6, n6, a10, n10, rfl, l6, m6, q6, l10, m10, q10⟩, o0, o1, o2, o3, o4, o5, o6, o7, o8, o9, o10⟩

theorem cells_26 : Try.prog.cellsOf 26 = 6 := by kernel_rfl
theorem bytes_26 : Try.prog.bytesOf 26 = 48 := by kernel_rfl
def okStatus (x : Status) : Prop := IntOk .i64 x.Term ∧ IntOk .i64 x.Vote ∧ IntOk .i64 x.Role ∧ IntOk .i64 x.Leader ∧ IntOk .i64 x.Commit ∧ IntOk .i64 x.Last
theorem opens_Status : Opens Try.prog 26 kStatus okStatus := by
  intro H enc W fuel cs d ps h hw
  obtain ⟨hlen, hf⟩ := open_fields Try.underlying26 h hw
  rw [cells_26] at hlen
  obtain ⟨x0, r0, o0⟩ := hf 0 _ rfl (opens_int Try.underlying3)
  replace r0 : (kInt .i64).rep W (Old W) x0 ((cs.drop 0).take (Try.prog.cellsOf 3)) := r0
  rw [cells_3] at r0
  obtain ⟨x1, r1, o1⟩ := hf 1 _ rfl (opens_int Try.underlying3)
  replace r1 : (kInt .i64).rep W (Old W) x1 ((cs.drop 1).take (Try.prog.cellsOf 3)) := r1
  rw [cells_3] at r1
  obtain ⟨x2, r2, o2⟩ := hf 2 _ rfl (opens_int Try.underlying3)
  replace r2 : (kInt .i64).rep W (Old W) x2 ((cs.drop 2).take (Try.prog.cellsOf 3)) := r2
  rw [cells_3] at r2
  obtain ⟨x3, r3, o3⟩ := hf 3 _ rfl (opens_int Try.underlying3)
  replace r3 : (kInt .i64).rep W (Old W) x3 ((cs.drop 3).take (Try.prog.cellsOf 3)) := r3
  rw [cells_3] at r3
  obtain ⟨x4, r4, o4⟩ := hf 4 _ rfl (opens_int Try.underlying3)
  replace r4 : (kInt .i64).rep W (Old W) x4 ((cs.drop 4).take (Try.prog.cellsOf 3)) := r4
  rw [cells_3] at r4
  obtain ⟨x5, r5, o5⟩ := hf 5 _ rfl (opens_int Try.underlying3)
  replace r5 : (kInt .i64).rep W (Old W) x5 ((cs.drop 5).take (Try.prog.cellsOf 3)) := r5
  rw [cells_3] at r5
  match cs, hlen with
  | [c0, c1, c2, c3, c4, c5], _ =>
    have e0 : [c0] = [.int .i64 x0] := r0
    injection e0 with e0 _
    subst e0
    have e1 : [c1] = [.int .i64 x1] := r1
    injection e1 with e1 _
    subst e1
    have e2 : [c2] = [.int .i64 x2] := r2
    injection e2 with e2 _
    subst e2
    have e3 : [c3] = [.int .i64 x3] := r3
    injection e3 with e3 _
    subst e3
    have e4 : [c4] = [.int .i64 x4] := r4
    injection e4 with e4 _
    subst e4
    have e5 : [c5] = [.int .i64 x5] := r5
    injection e5 with e5 _
    subst e5
    exact ⟨⟨x0, x1, x2, x3, x4, x5⟩, rfl, o0, o1, o2, o3, o4, o5⟩

end Go.Proofs.Ytikpbhhnllchmaa
