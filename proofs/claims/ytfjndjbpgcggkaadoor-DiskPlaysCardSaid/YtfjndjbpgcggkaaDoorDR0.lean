/- Kinds of the program's structs. Printed by gen_kinds.py (own work). -/
import Derived.Test.YtfjndjbpgcggkaaDoorK
set_option linter.unusedVariables false
set_option linter.unusedSimpArgs false
namespace Go.Proofs.YtfjndjbpgcggkaaDoor
open Go.RowKit

structure RFile where
  name : ByteArray
  b : (List Int)
  loose : Int
def repRFile (W : World) (F : Foot) (x : RFile) (cs : List Value) : Prop := ∃ (A1 : Option Addr) (c1 : Nat), cs = [.string x.name, .slice A1 x.b.length c1, .int .i64 x.loose] ∧ x.b.length ≤ c1 ∧ c1 ≤ 9223372036854775807 ∧ RS (kInt .u8) W F A1 x.b.length x.b
def kRFile : Kind RFile where
  size := 3
  pos := by omega
  rep := repRFile
  len := by rintro W F x cs h; obtain ⟨_, _, rfl, _, _, _⟩ := h; rfl
  one := by rintro W F x cs h u hu; obtain ⟨_, _, rfl, _, _, _⟩ := h; simp at hu; rcases hu with rfl | rfl | rfl <;> rfl
  mono := by rintro W F G x cs h hG; obtain ⟨A1, c1, rfl, l1, m1, r1⟩ := h; exact ⟨A1, c1, rfl, l1, m1, r1.mono hG⟩
  keep := by rintro W W1 F x cs h hk; obtain ⟨A1, c1, rfl, l1, m1, r1⟩ := h; exact ⟨A1, c1, rfl, l1, m1, r1.keep hk⟩
  bound := by rintro W F x cs h; obtain ⟨A1, c1, rfl, l1, m1, r1⟩ := h; exact ⟨A1, c1, rfl, l1, m1, r1.bound⟩
theorem at_RFile {W : World} {F : Foot} {A : Option Addr} {n : Nat} {xs : List RFile} (h : RS kRFile W F A n xs) {i : Nat} {x : RFile} (hx : xs[i]? = some x) :
    ∃ (ad : Addr) (A1 : Option Addr) (c1 : Nat), A = some ad ∧ F ad.block ∧ W.cell? (ad.add (i * 3)) = some (.string x.name) ∧ W.cell? ⟨(ad.add (i * 3)).block, (ad.add (i * 3)).off + 1, none⟩ = some (.slice A1 x.b.length c1) ∧ W.cell? ⟨(ad.add (i * 3)).block, (ad.add (i * 3)).off + 2, none⟩ = some (.int .i64 x.loose) ∧ x.b.length ≤ c1 ∧ c1 ≤ 9223372036854775807 ∧ RS (kInt .u8) W F A1 x.b.length x.b := by
  obtain ⟨ad, c, hA, hF, hr, hc⟩ := h.at_ hx
  obtain ⟨A1, c1, rfl, l1, m1, r1⟩ := hr
  exact ⟨ad, A1, c1, hA, hF, hc 0 _ rfl, (add_field ad (i * 3) 1 (by omega) ▸ hc 1 _ rfl), (add_field ad (i * 3) 2 (by omega) ▸ hc 2 _ rfl), l1, m1, r1⟩
theorem box_RFile {W : World} {g : Nat} {x : RFile} {A1 : Option Addr} {c1 : Nat} {fr : Nat × Nat} {t : TypeId} (h : W.heap[g]? = some (.cells #[.string x.name, .slice A1 x.b.length c1, .int .i64 x.loose] t fr)) : W.cell? ⟨g, 0, none⟩ = some (.string x.name) ∧ W.cell? ⟨g, 1, none⟩ = some (.slice A1 x.b.length c1) ∧ W.cell? ⟨g, 2, none⟩ = some (.int .i64 x.loose) :=
  ⟨(cell_of_row W g 0 _ _ _ h).trans rfl, (cell_of_row W g 1 _ _ _ h).trans rfl, (cell_of_row W g 2 _ _ _ h).trans rfl⟩

end Go.Proofs.YtfjndjbpgcggkaaDoor
