/- Contracts of the document's Net: at. -/
import Derived.Test.YtngmipppgnlkdaaY
set_option linter.unusedVariables false
set_option linter.unusedSimpArgs false
namespace Go.Proofs.Ytngmipppgnlkdaa
open Go.RowKit
attribute [local go_sem] Same.cell

/-- The document's Net at block g; all that it leads to lies in F. -/
def RefAt (W : World) (g : Nat) (F : Foot) (l : List Message) : Prop :=
  ∃ v, W.heap[g]? = some (.cells #[v] 71 (0, 0)) ∧ F g ∧ OwnS kMessage 54 W (fun k => F k ∧ k ≠ g) v l
section
variable {W W' : World} {g : Nat} {F G : Foot} {l : List Message}
theorem RefAt.lt (h : RefAt W g F l) : g < W.heap.size := by
  obtain ⟨v, h1, _⟩ := h
  exact (Array.getElem?_eq_some_iff.1 h1).1
theorem RefAt.foot (h : RefAt W g F l) : F g := h.choose_spec.2.1
theorem RefAt.mono (h : RefAt W g F l) (hG : ∀ k, F k → G k) : RefAt W g G l := by
  obtain ⟨v, h1, h2, h3⟩ := h
  exact ⟨v, h1, hG g h2, h3.mono fun k hk => ⟨hG k hk.1, hk.2⟩⟩
theorem RefAt.keep (h : RefAt W g F l) (hs : W.heap.size ≤ W'.heap.size) (hk : ∀ k, F k → k < W.heap.size → W'.heap[k]? = W.heap[k]?) : RefAt W' g F l := by
  have hlt := h.lt
  obtain ⟨v, h1, h2, h3⟩ := h
  exact ⟨v, (hk g h2 hlt).trans h1, h2, h3.keep hs fun k hf hl => hk k hf.1 hl⟩
theorem RefAt.keeps {S : Foot} (h : RefAt W g F l) (hk : Keeps S W W') (ha : Apart F S) : RefAt W' g F l := h.keep hk.size fun k hf hlt => hk.block k hlt (ha k hf)
theorem RefAt.below (h : RefAt W g F l) (hk : Below W.heap.size W W') : RefAt W' g F l := h.keep hk.size fun k _ hlt => hk.block k hlt
theorem RefAt.drewN (h : RefAt W g F l) (n : Nat) : RefAt (W.drewN n) g F l := h.keep (Nat.le_refl _) fun _ _ _ => rfl
theorem RefAt.drew (h : RefAt W g F l) : RefAt W.drew g F l := h.keep (Nat.le_refl _) fun _ _ _ => rfl
theorem RefAt.bound (h : RefAt W g F l) : RefAt W g (fun k => F k ∧ k < W.heap.size) l := by
  have hlt := h.lt
  obtain ⟨v, h1, h2, h3⟩ := h
  exact ⟨v, h1, ⟨h2, hlt⟩, h3.bound.mono fun k hk => ⟨⟨hk.1.1, hk.2⟩, hk.1.2⟩⟩
theorem RefAt.cells (h : RefAt W g F l) : ∃ A c, W.heap[g]? = some (.cells #[.slice A l.length c] 71 (0, 0)) ∧ W.cell? ⟨g, 0, none⟩ = some (.slice A l.length c) ∧ W.frozen? ⟨g, 0, none⟩ = false ∧ F g ∧ g < W.heap.size ∧
    OwnS kMessage 54 W (fun k => F k ∧ k ≠ g) (.slice A l.length c) l ∧ l.length ≤ c ∧ c ≤ 9223372036854775807 ∧ RS kMessage W (fun k => F k ∧ k ≠ g) A l.length l := by
  have hlt := h.lt
  obtain ⟨v, h1, h2, h3⟩ := h
  obtain ⟨A, c, rfl, hc, hm, hr⟩ := h3.reads
  exact ⟨A, c, h1, cell_of_row W g 0 _ _ _ h1, frozen_of_row W g 0 _ _ h1, h2, hlt, h3, hc, hm, hr⟩
theorem RefAt.store {v0 v : Value} {l : List Message} (hb : W.heap[g]? = some (.cells #[v0] 71 (0, 0))) (hF : F g) (ho : OwnS kMessage 54 W (fun k => F k ∧ k ≠ g) v l) : RefAt (W.setCell ⟨g, 0, none⟩ v) g F l :=
  ⟨v, (heap_setCell_same W g 0 _ _ v hb).trans rfl, hF, ho.keep (by simp) fun k hk hlt => Below.heap_setCell _ _ _ _ (by simpa using hk.2)⟩
theorem RefAt.new (w : World) : RefAt (w.alloc (.cells #[.slice none 0 0] 71)) w.heap.size (fun k => k = w.heap.size) [] :=
  ⟨.slice none 0 0, heap_alloc_new w _, rfl, OwnS.nil⟩
end

theorem rat_none (g : Nat) (F : Foot) (w : World) (i : Int) (h : RefAt w g F []) :
    Calls Try.prog 45 #[.pointer (some ⟨g, 0, none⟩), .int .i64 i] w fun e w' => e = .returned (.tuple #[.int .i64 0, .bool false]) ∧ w' = w := by
  obtain ⟨A, c, hh0, h1, hfz, hF, hlt, ho, hc1, hc2, hr⟩ := h.cells
  clear hh0
  go_enter Try.func45, Try.ntmps45
  go_wp2
  go_ret2
  exact ⟨rfl, rfl⟩
theorem rat_any (g : Nat) (F : Foot) (l : List Message) (w : World) (i : Int) (h : RefAt w g F l) (hn : l.length ≤ 1000000000) (h0 : 0 < l.length) :
    Calls Try.prog 45 #[.pointer (some ⟨g, 0, none⟩), .int .i64 i] w fun e w' => e = .returned (.tuple #[.int .i64 (netIx i l.length), .bool true]) ∧ w' = w := by
  obtain ⟨A, c, hh0, h1, hfz, hF, hlt, ho, hc1, hc2, hr⟩ := h.cells
  have hix := netIx_eq i l.length h0
  clear hh0
  go_enter Try.func45, Try.ntmps45
  go_wp2
  go_ret2
  exact ⟨rfl, rfl⟩
end Go.Proofs.Ytngmipppgnlkdaa
