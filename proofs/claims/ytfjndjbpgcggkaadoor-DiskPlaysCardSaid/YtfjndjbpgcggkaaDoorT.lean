/- Kinds of the program's structs. Printed by gen_kinds.py (own work). -/
import Derived.Test.YtfjndjbpgcggkaaDoorK
set_option linter.unusedVariables false
set_option linter.unusedSimpArgs false
namespace Go.Proofs.YtfjndjbpgcggkaaDoor
open Go.RowKit

structure DAct where
  Way : Int
  N : Int
  P : ByteArray
  Q : ByteArray
  B : (List Int)
  Keep : (List Int)
def repDAct (W : World) (F : Foot) (x : DAct) (cs : List Value) : Prop := ∃ (A4 : Option Addr) (c4 : Nat) (A5 : Option Addr) (c5 : Nat), cs = [.int .i64 x.Way, .int .i64 x.N, .string x.P, .string x.Q, .slice A4 x.B.length c4, .slice A5 x.Keep.length c5] ∧ x.B.length ≤ c4 ∧ c4 ≤ 9223372036854775807 ∧ RS (kInt .u8) W F A4 x.B.length x.B ∧ x.Keep.length ≤ c5 ∧ c5 ≤ 9223372036854775807 ∧ RS (kInt .i64) W F A5 x.Keep.length x.Keep
def kDAct : Kind DAct where
  size := 6
  pos := by omega
  rep := repDAct
  len := by rintro W F x cs h; obtain ⟨_, _, _, _, rfl, _, _, _, _, _, _⟩ := h; rfl
  one := by rintro W F x cs h u hu; obtain ⟨_, _, _, _, rfl, _, _, _, _, _, _⟩ := h; simp at hu; rcases hu with rfl | rfl | rfl | rfl | rfl | rfl <;> rfl
  mono := by rintro W F G x cs h hG; obtain ⟨A4, c4, A5, c5, rfl, l4, m4, r4, l5, m5, r5⟩ := h; exact ⟨A4, c4, A5, c5, rfl, l4, m4, r4.mono hG, l5, m5, r5.mono hG⟩
  keep := by rintro W W1 F x cs h hk; obtain ⟨A4, c4, A5, c5, rfl, l4, m4, r4, l5, m5, r5⟩ := h; exact ⟨A4, c4, A5, c5, rfl, l4, m4, r4.keep hk, l5, m5, r5.keep hk⟩
  bound := by rintro W F x cs h; obtain ⟨A4, c4, A5, c5, rfl, l4, m4, r4, l5, m5, r5⟩ := h; exact ⟨A4, c4, A5, c5, rfl, l4, m4, r4.bound, l5, m5, r5.bound⟩
theorem at_DAct {W : World} {F : Foot} {A : Option Addr} {n : Nat} {xs : List DAct} (h : RS kDAct W F A n xs) {i : Nat} {x : DAct} (hx : xs[i]? = some x) :
    ∃ (ad : Addr) (A4 : Option Addr) (c4 : Nat) (A5 : Option Addr) (c5 : Nat), A = some ad ∧ F ad.block ∧ W.cell? (ad.add (i * 6)) = some (.int .i64 x.Way) ∧ W.cell? ⟨(ad.add (i * 6)).block, (ad.add (i * 6)).off + 1, none⟩ = some (.int .i64 x.N) ∧ W.cell? ⟨(ad.add (i * 6)).block, (ad.add (i * 6)).off + 2, none⟩ = some (.string x.P) ∧ W.cell? ⟨(ad.add (i * 6)).block, (ad.add (i * 6)).off + 3, none⟩ = some (.string x.Q) ∧ W.cell? ⟨(ad.add (i * 6)).block, (ad.add (i * 6)).off + 4, none⟩ = some (.slice A4 x.B.length c4) ∧ W.cell? ⟨(ad.add (i * 6)).block, (ad.add (i * 6)).off + 5, none⟩ = some (.slice A5 x.Keep.length c5) ∧ x.B.length ≤ c4 ∧ c4 ≤ 9223372036854775807 ∧ RS (kInt .u8) W F A4 x.B.length x.B ∧ x.Keep.length ≤ c5 ∧ c5 ≤ 9223372036854775807 ∧ RS (kInt .i64) W F A5 x.Keep.length x.Keep := by
  obtain ⟨ad, c, hA, hF, hr, hc⟩ := h.at_ hx
  obtain ⟨A4, c4, A5, c5, rfl, l4, m4, r4, l5, m5, r5⟩ := hr
  exact ⟨ad, A4, c4, A5, c5, hA, hF, hc 0 _ rfl, (add_field ad (i * 6) 1 (by omega) ▸ hc 1 _ rfl), (add_field ad (i * 6) 2 (by omega) ▸ hc 2 _ rfl), (add_field ad (i * 6) 3 (by omega) ▸ hc 3 _ rfl), (add_field ad (i * 6) 4 (by omega) ▸ hc 4 _ rfl), (add_field ad (i * 6) 5 (by omega) ▸ hc 5 _ rfl), l4, m4, r4, l5, m5, r5⟩
theorem box_DAct {W : World} {g : Nat} {x : DAct} {A4 : Option Addr} {c4 : Nat} {A5 : Option Addr} {c5 : Nat} {fr : Nat × Nat} {t : TypeId} (h : W.heap[g]? = some (.cells #[.int .i64 x.Way, .int .i64 x.N, .string x.P, .string x.Q, .slice A4 x.B.length c4, .slice A5 x.Keep.length c5] t fr)) : W.cell? ⟨g, 0, none⟩ = some (.int .i64 x.Way) ∧ W.cell? ⟨g, 1, none⟩ = some (.int .i64 x.N) ∧ W.cell? ⟨g, 2, none⟩ = some (.string x.P) ∧ W.cell? ⟨g, 3, none⟩ = some (.string x.Q) ∧ W.cell? ⟨g, 4, none⟩ = some (.slice A4 x.B.length c4) ∧ W.cell? ⟨g, 5, none⟩ = some (.slice A5 x.Keep.length c5) :=
  ⟨(cell_of_row W g 0 _ _ _ h).trans rfl, (cell_of_row W g 1 _ _ _ h).trans rfl, (cell_of_row W g 2 _ _ _ h).trans rfl, (cell_of_row W g 3 _ _ _ h).trans rfl, (cell_of_row W g 4 _ _ _ h).trans rfl, (cell_of_row W g 5 _ _ _ h).trans rfl⟩

end Go.Proofs.YtfjndjbpgcggkaaDoor
