/- A row of one message read. -/
import Derived.Test.YtikpbhhnllchmaaRF10
set_option linter.unusedVariables false
set_option linter.unusedSimpArgs false
namespace Go.Proofs.Ytikpbhhnllchmaa
open Go.RowKit

theorem OwnS.msg1 {W : World} {F : Foot} {v : Value} {m : Message} (h : OwnS kMessage 34 W F v [m]) :
    ∃ g c A6 c6 A10 c10, v = .slice (some ⟨g, 0, none⟩) 1 c ∧ 1 ≤ c ∧ c ≤ 9223372036854775807 ∧ F g ∧ g < W.heap.size ∧ MsgAt W F m A6 c6 A10 c10 ∧
      W.cell? ⟨g, 0, none⟩ = some (.int .i64 m.Kind) ∧ W.cell? ⟨g, 1, none⟩ = some (.int .i64 m.From) ∧ W.cell? ⟨g, 2, none⟩ = some (.int .i64 m.To) ∧ W.cell? ⟨g, 3, none⟩ = some (.int .i64 m.Term) ∧ W.cell? ⟨g, 4, none⟩ = some (.int .i64 m.Last) ∧ W.cell? ⟨g, 5, none⟩ = some (.int .i64 m.LastTerm) ∧ W.cell? ⟨g, 6, none⟩ = some (.slice A6 m.Entries.length c6) ∧ W.cell? ⟨g, 7, none⟩ = some (.int .i64 m.Commit) ∧ W.cell? ⟨g, 8, none⟩ = some (.bool m.OK) ∧ W.cell? ⟨g, 9, none⟩ = some (.int .i64 m.Match) ∧ W.cell? ⟨g, 10, none⟩ = some (.slice A10 m.Data.length c10) := by
  obtain ⟨cs, h1, h2, h3⟩ := h
  rcases h1.2 with ⟨_, h0⟩ | ⟨g, cap, cur, hv, hb, hh, r⟩
  · simp at h0
  · obtain ⟨A, c, e', h4, h5⟩ := OwnS.slice (show OwnS kMessage 34 W F v [m] from ⟨cs, h1, h2, h3⟩)
    rw [hv] at e'
    injection e' with e1 e2 e3
    subst e3
    have hF : F g := h3 g (by rw [hv]; rfl)
    have hg := (Array.getElem?_eq_some_iff.1 hh).1
    have h' : OwnS kMessage 34 W F (.slice (some ⟨g, 0, none⟩) 1 cap) [m] := by
      have := (show OwnS kMessage 34 W F v [m] from ⟨cs, h1, h2, h3⟩)
      rw [hv] at this
      exact this
    obtain ⟨cc, hrep, hcell, hgl, _⟩ := (h'.split 0).step (x := m) rfl
    obtain ⟨A6, c6, A10, c10, rfl, u1, u2, u3, u4, u5, u6⟩ := hrep
    have key : ∀ (j : Nat) (u : Value), W.cell? ⟨g, 0 * 11 + j, none⟩ = some u → W.cell? ⟨g, j, none⟩ = some u := fun j u hu => by rw [Nat.zero_mul, Nat.zero_add] at hu; exact hu
    refine ⟨g, cap, A6, c6, A10, c10, hv, h4, h5, hF, hg, ⟨u1, u2, u3.mono fun k hk => ?_, u4, u5, u6.mono fun k hk => ?_⟩, key 0 _ (hcell 0 _ rfl).1, key 1 _ (hcell 1 _ rfl).1, key 2 _ (hcell 2 _ rfl).1, key 3 _ (hcell 3 _ rfl).1, key 4 _ (hcell 4 _ rfl).1, key 5 _ (hcell 5 _ rfl).1, key 6 _ (hcell 6 _ rfl).1, key 7 _ (hcell 7 _ rfl).1, key 8 _ (hcell 8 _ rfl).1, key 9 _ (hcell 9 _ rfl).1, key 10 _ (hcell 10 _ rfl).1⟩
    · exact hk.1
    · exact hk.1
/-- What '&' with a small number leaves. -/
theorem bits_and_le (x : Int) (m : Nat) (hm : m < 1000) : 0 ≤ bits .and .i64 x (m : Int) ∧ bits .and .i64 x (m : Int) ≤ m := by
  have h1 : bits .and .i64 x (m : Int) = IntKind.i64.wrap (((BitVec.ofInt 64 x &&& BitVec.ofInt 64 (m : Int)).toNat : Nat) : Int) := rfl
  have h2 : (BitVec.ofInt 64 x &&& BitVec.ofInt 64 (m : Int)).toNat ≤ m := by
    rw [BitVec.toNat_and]
    refine Nat.le_trans Nat.and_le_right ?_
    rw [BitVec.toNat_ofInt]
    omega
  rw [h1, IntKind.wrap_i64]
  omega
end Go.Proofs.Ytikpbhhnllchmaa
