/- Kinds of the program's structs. Printed by gen_kinds.py (own work). -/
import Derived.Test.YtfjndjbpgcggkaaDoorK
set_option linter.unusedVariables false
set_option linter.unusedSimpArgs false
namespace Go.Proofs.YtfjndjbpgcggkaaDoor
open Go.RowKit

structure Record where
  Offset : Int
  Time : Int
  Key : ByteArray
  Value : ByteArray
  Dead : Bool
def repRecord (_W : World) (_F : Foot) (x : Record) (cs : List Value) : Prop := cs = [.int .i64 x.Offset, .int .i64 x.Time, .string x.Key, .string x.Value, .bool x.Dead]
def kRecord : Kind Record where
  size := 5
  pos := by omega
  rep := repRecord
  len := by rintro W F x cs h; obtain rfl := h; rfl
  one := by rintro W F x cs h u hu; obtain rfl := h; simp at hu; rcases hu with rfl | rfl | rfl | rfl | rfl <;> rfl
  mono := fun h _ => h
  keep := fun h _ => h
  bound := fun h => h
theorem flat_Record : Flat kRecord := fun _ _ _ _ _ _ h => h
theorem at_Record {W : World} {F : Foot} {A : Option Addr} {n : Nat} {xs : List Record} (h : RS kRecord W F A n xs) {i : Nat} {x : Record} (hx : xs[i]? = some x) :
    ∃ (ad : Addr) , A = some ad ∧ F ad.block ∧ W.cell? (ad.add (i * 5)) = some (.int .i64 x.Offset) ∧ W.cell? ⟨(ad.add (i * 5)).block, (ad.add (i * 5)).off + 1, none⟩ = some (.int .i64 x.Time) ∧ W.cell? ⟨(ad.add (i * 5)).block, (ad.add (i * 5)).off + 2, none⟩ = some (.string x.Key) ∧ W.cell? ⟨(ad.add (i * 5)).block, (ad.add (i * 5)).off + 3, none⟩ = some (.string x.Value) ∧ W.cell? ⟨(ad.add (i * 5)).block, (ad.add (i * 5)).off + 4, none⟩ = some (.bool x.Dead) := by
  obtain ⟨ad, c, hA, hF, hr, hc⟩ := h.at_ hx
  obtain rfl := hr
  exact ⟨ad, hA, hF, hc 0 _ rfl, (add_field ad (i * 5) 1 (by omega) ▸ hc 1 _ rfl), (add_field ad (i * 5) 2 (by omega) ▸ hc 2 _ rfl), (add_field ad (i * 5) 3 (by omega) ▸ hc 3 _ rfl), (add_field ad (i * 5) 4 (by omega) ▸ hc 4 _ rfl)⟩
theorem box_Record {W : World} {g : Nat} {x : Record}  {fr : Nat × Nat} {t : TypeId} (h : W.heap[g]? = some (.cells #[.int .i64 x.Offset, .int .i64 x.Time, .string x.Key, .string x.Value, .bool x.Dead] t fr)) : W.cell? ⟨g, 0, none⟩ = some (.int .i64 x.Offset) ∧ W.cell? ⟨g, 1, none⟩ = some (.int .i64 x.Time) ∧ W.cell? ⟨g, 2, none⟩ = some (.string x.Key) ∧ W.cell? ⟨g, 3, none⟩ = some (.string x.Value) ∧ W.cell? ⟨g, 4, none⟩ = some (.bool x.Dead) :=
  ⟨(cell_of_row W g 0 _ _ _ h).trans rfl, (cell_of_row W g 1 _ _ _ h).trans rfl, (cell_of_row W g 2 _ _ _ h).trans rfl, (cell_of_row W g 3 _ _ _ h).trans rfl, (cell_of_row W g 4 _ _ _ h).trans rfl⟩

end Go.Proofs.YtfjndjbpgcggkaaDoor
