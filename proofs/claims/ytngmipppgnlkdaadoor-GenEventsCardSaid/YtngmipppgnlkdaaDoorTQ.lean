/- '==' of the program's plain structs. Printed by gen_kinds.py (own work). -/
import Derived.Test.YtngmipppgnlkdaaDoorT
import Derived.Test.YtngmipppgnlkdaaDoorProg
import Derived.Laws.StructEq
import Derived.WideShapes
set_option linter.unusedVariables false
set_option linter.unusedSimpArgs false
namespace Go.Proofs.YtngmipppgnlkdaaDoor
open Go.RowKit
theorem bytes_ext {a b : ByteArray} (h : a.toList = b.toList) : a = b := WideShapes.bytes_inj (by rwa [ByteArray.toList_eq, ByteArray.toList_eq] at h)

theorem fields_Record : Tryd.prog.underlying 84 = some (.struct (Tryd.prog.fieldsOf 84)) := by kernel_rfl
theorem stood_Record : Tryd.prog.stoodInHeld 84 = false := by kernel_rfl
theorem guard_Record : Tryd.prog.eqGuardType Tryd.prog.depth 84 = false := by kernel_rfl
theorem ext_Record (x y : Record) : x = y ↔ x.Offset = y.Offset ∧ x.Time = y.Time ∧ x.Key.toList = y.Key.toList ∧ x.Value.toList = y.Value.toList ∧ x.Dead = y.Dead := by
  constructor
  · rintro rfl; simp
  · rintro ⟨h0, h1, h2, h3, h4⟩
    cases x; cases y
    dsimp only at h0 h1 h2 h3 h4
    obtain rfl := h0
    obtain rfl := h1
    obtain rfl := bytes_ext h2
    obtain rfl := bytes_ext h3
    obtain rfl := h4
    rfl
theorem eq_Record (x y : Record) : ∃ r : Bool, (r = true ↔ x = y) ∧ (∀ W, (binOp .eql 84 (.agg #[.int .i64 x.Offset, .int .i64 x.Time, .string x.Key, .string x.Value, .bool x.Dead]) (.agg #[.int .i64 y.Offset, .int .i64 y.Time, .string y.Key, .string y.Value, .bool y.Dead])).run Tryd.prog W = .ok (.bool r) W) ∧ (∀ W, (binOp .neq 84 (.agg #[.int .i64 x.Offset, .int .i64 x.Time, .string x.Key, .string x.Value, .bool x.Dead]) (.agg #[.int .i64 y.Offset, .int .i64 y.Time, .string y.Key, .string y.Value, .bool y.Dead])).run Tryd.prog W = .ok (.bool (!r)) W) := by
  have key : ∃ r : Bool, (r = true ↔ x = y) ∧ ∀ W, (Op.equalIn 10000 84 (.agg #[.int .i64 x.Offset, .int .i64 x.Time, .string x.Key, .string x.Value, .bool x.Dead]) (.agg #[.int .i64 y.Offset, .int .i64 y.Time, .string y.Key, .string y.Value, .bool y.Dead])).run Tryd.prog W = .ok r W := by
    by_cases h0 : x.Offset = y.Offset
    rotate_left
    · refine ⟨false, by rw [ext_Record]; simp [h0], fun W => ?_⟩
      rw [run_equalIn_agg W 9999 84 _ _ fields_Record stood_Record]
      simp [go_sem, Op.eqFields, h0]
    by_cases h1 : x.Time = y.Time
    rotate_left
    · refine ⟨false, by rw [ext_Record]; simp [h1], fun W => ?_⟩
      rw [run_equalIn_agg W 9999 84 _ _ fields_Record stood_Record]
      simp [go_sem, Op.eqFields, h0, h1]
    by_cases h2 : x.Key.toList = y.Key.toList
    rotate_left
    · refine ⟨false, by rw [ext_Record]; simp [h2], fun W => ?_⟩
      rw [run_equalIn_agg W 9999 84 _ _ fields_Record stood_Record]
      simp [go_sem, Op.eqFields, h0, h1, h2]
    by_cases h3 : x.Value.toList = y.Value.toList
    rotate_left
    · refine ⟨false, by rw [ext_Record]; simp [h3], fun W => ?_⟩
      rw [run_equalIn_agg W 9999 84 _ _ fields_Record stood_Record]
      simp [go_sem, Op.eqFields, h0, h1, h2, h3]
    by_cases h4 : x.Dead = y.Dead
    rotate_left
    · refine ⟨false, by rw [ext_Record]; simp [h4], fun W => ?_⟩
      rw [run_equalIn_agg W 9999 84 _ _ fields_Record stood_Record]
      simp [go_sem, Op.eqFields, h0, h1, h2, h3, h4]
    refine ⟨true, by rw [ext_Record]; simp [h0, h1, h2, h3, h4], fun W => ?_⟩
    rw [run_equalIn_agg W 9999 84 _ _ fields_Record stood_Record]
    simp [go_sem, Op.eqFields, h0, h1, h2, h3, h4]
  obtain ⟨r, h, hr⟩ := key
  exact ⟨r, h, fun W => by rw [run_eql_struct, hr]; rfl, fun W => by rw [run_neq_struct, hr]; rfl⟩
theorem fields_Conf : Tryd.prog.underlying 48 = some (.struct (Tryd.prog.fieldsOf 48)) := by kernel_rfl
theorem stood_Conf : Tryd.prog.stoodInHeld 48 = false := by kernel_rfl
theorem guard_Conf : Tryd.prog.eqGuardType Tryd.prog.depth 48 = false := by kernel_rfl
theorem ext_Conf (x y : Conf) : x = y ↔ x.Segment = y.Segment ∧ x.Keep = y.Keep ∧ x.Age = y.Age ∧ x.Grace = y.Grace := by
  constructor
  · rintro rfl; simp
  · rintro ⟨h0, h1, h2, h3⟩
    cases x; cases y
    dsimp only at h0 h1 h2 h3
    obtain rfl := h0
    obtain rfl := h1
    obtain rfl := h2
    obtain rfl := h3
    rfl
theorem eq_Conf (x y : Conf) : ∃ r : Bool, (r = true ↔ x = y) ∧ (∀ W, (binOp .eql 48 (.agg #[.int .i64 x.Segment, .int .i64 x.Keep, .int .i64 x.Age, .int .i64 x.Grace]) (.agg #[.int .i64 y.Segment, .int .i64 y.Keep, .int .i64 y.Age, .int .i64 y.Grace])).run Tryd.prog W = .ok (.bool r) W) ∧ (∀ W, (binOp .neq 48 (.agg #[.int .i64 x.Segment, .int .i64 x.Keep, .int .i64 x.Age, .int .i64 x.Grace]) (.agg #[.int .i64 y.Segment, .int .i64 y.Keep, .int .i64 y.Age, .int .i64 y.Grace])).run Tryd.prog W = .ok (.bool (!r)) W) := by
  have key : ∃ r : Bool, (r = true ↔ x = y) ∧ ∀ W, (Op.equalIn 10000 48 (.agg #[.int .i64 x.Segment, .int .i64 x.Keep, .int .i64 x.Age, .int .i64 x.Grace]) (.agg #[.int .i64 y.Segment, .int .i64 y.Keep, .int .i64 y.Age, .int .i64 y.Grace])).run Tryd.prog W = .ok r W := by
    by_cases h0 : x.Segment = y.Segment
    rotate_left
    · refine ⟨false, by rw [ext_Conf]; simp [h0], fun W => ?_⟩
      rw [run_equalIn_agg W 9999 48 _ _ fields_Conf stood_Conf]
      simp [go_sem, Op.eqFields, h0]
    by_cases h1 : x.Keep = y.Keep
    rotate_left
    · refine ⟨false, by rw [ext_Conf]; simp [h1], fun W => ?_⟩
      rw [run_equalIn_agg W 9999 48 _ _ fields_Conf stood_Conf]
      simp [go_sem, Op.eqFields, h0, h1]
    by_cases h2 : x.Age = y.Age
    rotate_left
    · refine ⟨false, by rw [ext_Conf]; simp [h2], fun W => ?_⟩
      rw [run_equalIn_agg W 9999 48 _ _ fields_Conf stood_Conf]
      simp [go_sem, Op.eqFields, h0, h1, h2]
    by_cases h3 : x.Grace = y.Grace
    rotate_left
    · refine ⟨false, by rw [ext_Conf]; simp [h3], fun W => ?_⟩
      rw [run_equalIn_agg W 9999 48 _ _ fields_Conf stood_Conf]
      simp [go_sem, Op.eqFields, h0, h1, h2, h3]
    refine ⟨true, by rw [ext_Conf]; simp [h0, h1, h2, h3], fun W => ?_⟩
    rw [run_equalIn_agg W 9999 48 _ _ fields_Conf stood_Conf]
    simp [go_sem, Op.eqFields, h0, h1, h2, h3]
  obtain ⟨r, h, hr⟩ := key
  exact ⟨r, h, fun W => by rw [run_eql_struct, hr]; rfl, fun W => by rw [run_neq_struct, hr]; rfl⟩
end Go.Proofs.YtngmipppgnlkdaaDoor
