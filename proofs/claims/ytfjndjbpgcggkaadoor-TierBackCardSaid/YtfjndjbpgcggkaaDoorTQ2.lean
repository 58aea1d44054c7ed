/- '==' of the program's plain structs. Printed by gen_kinds.py (own work). -/
import Derived.Test.YtfjndjbpgcggkaaDoorT2
import Derived.Test.YtfjndjbpgcggkaaDoorProg
import Derived.Laws.StructEq
import Derived.WideShapes
set_option linter.unusedVariables false
set_option linter.unusedSimpArgs false
namespace Go.Proofs.YtfjndjbpgcggkaaDoor
open Go.RowKit
theorem bytes_ext {a b : ByteArray} (h : a.toList = b.toList) : a = b := WideShapes.bytes_inj (by rwa [ByteArray.toList_eq, ByteArray.toList_eq] at h)

theorem fields_Record : Tryd.prog.underlying 79 = some (.struct (Tryd.prog.fieldsOf 79)) := by kernel_rfl
theorem stood_Record : Tryd.prog.stoodInHeld 79 = false := by kernel_rfl
theorem guard_Record : Tryd.prog.eqGuardType Tryd.prog.depth 79 = false := by kernel_rfl
theorem ext_Record (x y : Record) : x = y ↔ x.Offset = y.Offset ∧ x.Time = y.Time ∧ x.Key.toList = y.Key.toList ∧ x.Value.toList = y.Value.toList ∧ x.Dead = y.Dead := by
  constructor
  · rintro rfl; simp
  · rintro ⟨h0, h1, h2, h3, h4⟩
    cases x; cases y
    dsimp only at h0 h1 h2 h3 h4
    obtain rfl := h0
    obtain rfl := h1
    obtain rfl := bytes_ext h2
    obtain rfl := bytes_ext h3
    obtain rfl := h4
    rfl
theorem eq_Record (x y : Record) : ∃ r : Bool, (r = true ↔ x = y) ∧ (∀ W, (binOp .eql 79 (.agg #[.int .i64 x.Offset, .int .i64 x.Time, .string x.Key, .string x.Value, .bool x.Dead]) (.agg #[.int .i64 y.Offset, .int .i64 y.Time, .string y.Key, .string y.Value, .bool y.Dead])).run Tryd.prog W = .ok (.bool r) W) ∧ (∀ W, (binOp .neq 79 (.agg #[.int .i64 x.Offset, .int .i64 x.Time, .string x.Key, .string x.Value, .bool x.Dead]) (.agg #[.int .i64 y.Offset, .int .i64 y.Time, .string y.Key, .string y.Value, .bool y.Dead])).run Tryd.prog W = .ok (.bool (!r)) W) := by
  have key : ∃ r : Bool, (r = true ↔ x = y) ∧ ∀ W, (Op.equalIn 10000 79 (.agg #[.int .i64 x.Offset, .int .i64 x.Time, .string x.Key, .string x.Value, .bool x.Dead]) (.agg #[.int .i64 y.Offset, .int .i64 y.Time, .string y.Key, .string y.Value, .bool y.Dead])).run Tryd.prog W = .ok r W := by
    by_cases h0 : x.Offset = y.Offset
    rotate_left
    · refine ⟨false, by rw [ext_Record]; simp [h0], fun W => ?_⟩
      rw [run_equalIn_agg W 9999 79 _ _ fields_Record stood_Record]
      simp [go_sem, Op.eqFields, h0]
    by_cases h1 : x.Time = y.Time
    rotate_left
    · refine ⟨false, by rw [ext_Record]; simp [h1], fun W => ?_⟩
      rw [run_equalIn_agg W 9999 79 _ _ fields_Record stood_Record]
      simp [go_sem, Op.eqFields, h0, h1]
    by_cases h2 : x.Key.toList = y.Key.toList
    rotate_left
    · refine ⟨false, by rw [ext_Record]; simp [h2], fun W => ?_⟩
      rw [run_equalIn_agg W 9999 79 _ _ fields_Record stood_Record]
      simp [go_sem, Op.eqFields, h0, h1, h2]
    by_cases h3 : x.Value.toList = y.Value.toList
    rotate_left
    · refine ⟨false, by rw [ext_Record]; simp [h3], fun W => ?_⟩
      rw [run_equalIn_agg W 9999 79 _ _ fields_Record stood_Record]
      simp [go_sem, Op.eqFields, h0, h1, h2, h3]
    by_cases h4 : x.Dead = y.Dead
    rotate_left
    · refine ⟨false, by rw [ext_Record]; simp [h4], fun W => ?_⟩
      rw [run_equalIn_agg W 9999 79 _ _ fields_Record stood_Record]
      simp [go_sem, Op.eqFields, h0, h1, h2, h3, h4]
    refine ⟨true, by rw [ext_Record]; simp [h0, h1, h2, h3, h4], fun W => ?_⟩
    rw [run_equalIn_agg W 9999 79 _ _ fields_Record stood_Record]
    simp [go_sem, Op.eqFields, h0, h1, h2, h3, h4]
  obtain ⟨r, h, hr⟩ := key
  exact ⟨r, h, fun W => by rw [run_eql_struct, hr]; rfl, fun W => by rw [run_neq_struct, hr]; rfl⟩
end Go.Proofs.YtfjndjbpgcggkaaDoor
