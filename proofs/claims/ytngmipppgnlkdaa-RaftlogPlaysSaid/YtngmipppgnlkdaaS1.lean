/- Contracts of the document's Log: Last, Term, From. -/
import Derived.Test.YtngmipppgnlkdaaD
import Derived.Test.YtngmipppgnlkdaaE
import Derived.Test.YtngmipppgnlkdaaF
import Derived.Test.YtngmipppgnlkdaaZ3
set_option linter.unusedVariables false
set_option linter.unusedSimpArgs false
namespace Go.Proofs.Ytngmipppgnlkdaa
open Go.RowKit
attribute [local go_sem] Same.cell

/-- The document's Log at block g; all that it leads to lies in F. -/
def RLogAt (W : World) (g : Nat) (F : Foot) (s : LogS) : Prop :=
  ∃ v, W.heap[g]? = some (.cells #[.int .i64 s.base, .int .i64 s.term, v] 77 (0, 0)) ∧ F g ∧ OwnS kEntry 38 W (fun k => F k ∧ k ≠ g) v s.l
section
variable {W W' : World} {g : Nat} {F G : Foot} {s : LogS}
theorem RLogAt.lt (h : RLogAt W g F s) : g < W.heap.size := by
  obtain ⟨v, hb, _⟩ := h
  exact (Array.getElem?_eq_some_iff.1 hb).1
theorem RLogAt.mono (h : RLogAt W g F s) (hG : ∀ k, F k → G k) : RLogAt W g G s := by
  obtain ⟨v, hb, hf, ho⟩ := h
  exact ⟨v, hb, hG _ hf, ho.mono fun k hk => ⟨hG k hk.1, hk.2⟩⟩
theorem RLogAt.keep (h : RLogAt W g F s) (hs : W.heap.size ≤ W'.heap.size) (hk : ∀ k, F k → k < W.heap.size → W'.heap[k]? = W.heap[k]?) : RLogAt W' g F s := by
  have hlt := h.lt
  obtain ⟨v, hb, hf, ho⟩ := h
  exact ⟨v, (hk g hf hlt).trans hb, hf, ho.keep hs fun k hk' hlt' => hk k hk'.1 hlt'⟩
theorem RLogAt.keeps {S : Foot} (h : RLogAt W g F s) (hk : Keeps S W W') (ha : Apart F S) : RLogAt W' g F s := h.keep hk.size fun k hf hlt => hk.block k hlt (ha k hf)
theorem RLogAt.below (h : RLogAt W g F s) (hk : Below W.heap.size W W') : RLogAt W' g F s := h.keep hk.size fun k _ hlt => hk.block k hlt
theorem RLogAt.drewN (h : RLogAt W g F s) (n : Nat) : RLogAt (W.drewN n) g F s := h.keep (Nat.le_refl _) fun _ _ _ => rfl
theorem RLogAt.drew (h : RLogAt W g F s) : RLogAt W.drew g F s := h.keep (Nat.le_refl _) fun _ _ _ => rfl
theorem RLogAt.alloc (h : RLogAt W g F s) (o : Obj) : RLogAt (W.alloc o) g F s := h.keep (by simp) fun _ _ hlt => Below.heap_alloc _ _ _ hlt
/-- Its cells. -/
theorem RLogAt.cells (h : RLogAt W g F s) : ∃ A c, W.cell? ⟨g, 0, none⟩ = some (.int .i64 s.base) ∧ W.cell? ⟨g, 1, none⟩ = some (.int .i64 s.term) ∧ W.cell? ⟨g, 2, none⟩ = some (.slice A s.l.length c) ∧
    (∀ j, W.frozen? ⟨g, j, none⟩ = false) ∧ F g ∧ g < W.heap.size ∧ OwnS kEntry 38 W (fun k => F k ∧ k ≠ g) (.slice A s.l.length c) s.l ∧ s.l.length ≤ c ∧ c ≤ 9223372036854775807 ∧ RS kEntry W (fun k => F k ∧ k ≠ g) A s.l.length s.l ∧ W.heap[g]? = some (.cells #[.int .i64 s.base, .int .i64 s.term, .slice A s.l.length c] 77 (0, 0)) := by
  have hlt := h.lt
  obtain ⟨v, hb, hf, ho⟩ := h
  obtain ⟨A, c, rfl, h1, h2, h3⟩ := ho.reads
  exact ⟨A, c, cell_of_row W g 0 _ _ _ hb, cell_of_row W g 1 _ _ _ hb, cell_of_row W g 2 _ _ _ hb, fun j => frozen_of_row W g j _ _ hb, hf, hlt, ho, h1, h2, h3, hb⟩
theorem RLogAt.store {b t : Int} {l : List Entry} {v0 v : Value} (hb : W.heap[g]? = some (.cells #[.int .i64 b, .int .i64 t, v0] 77 (0, 0))) (hF : F g) (ho : OwnS kEntry 38 W (fun k => F k ∧ k ≠ g) v l) : RLogAt (W.setCell ⟨g, 2, none⟩ v) g F ⟨b, t, l⟩ := by
  refine ⟨v, (heap_setCell_same W g 2 _ _ v hb).trans rfl, hF, ho.keep (by simp) fun k hk _ => Below.heap_setCell _ _ _ _ hk.2⟩
end

theorem RLogAt.same {W W' : World} {g : Nat} {F : Foot} {s : LogS} (h : RLogAt W g F s) (hk : W'.heap = W.heap) : RLogAt W' g (Grow F W W') s :=
  (h.keep (by rw [hk]; exact Nat.le_refl _) fun k _ _ => by rw [hk]).mono fun _ hk => .inl hk

theorem RLogAt.set3 {W : World} {g : Nat} {F : Foot} {b t b' t' : Int} {v0 : Value} (hb : W.heap[g]? = some (.cells #[.int .i64 b, .int .i64 t, v0] 77 (0, 0))) (hF : F g) :
    RLogAt (((W.setCell ⟨g, 0, none⟩ (.int .i64 b')).setCell ⟨g, 1, none⟩ (.int .i64 t')).setCell ⟨g, 2, none⟩ (.slice none 0 0)) g F ⟨b', t', []⟩ := by
  have hh1 := heap_setCell_same W g 0 _ _ (.int .i64 b') hb
  have hh2 := heap_setCell_same _ g 1 _ _ (.int .i64 t') hh1
  have hh3 := heap_setCell_same _ g 2 _ _ (.slice none 0 0) hh2
  exact ⟨.slice none 0 0, hh3.trans rfl, hF, OwnS.nil⟩

set_option maxHeartbeats 400000 in
theorem RTerm_any (g : Nat) (F : Foot) (s : LogS) (w : World) (i : Int) (h : RLogAt w g F s) (ok : s.Ok) :
    Calls Try.prog 54 #[.pointer (some ⟨g, 0, none⟩), .int .i64 i] w fun e w' => e = .returned (.tuple #[.int .i64 (s.Term i).1, .bool (s.Term i).2]) ∧ ∃ k, w' = w.drewN k := by
  obtain ⟨A, c, h0, h1, h2, hfz, hF, hlt, ho, hc1, hc2, hr, _⟩ := h.cells
  have b0 := ok.b0
  have b1 := ok.b1
  have l1 := ok.l1
  have L := Lib.hid (show s.last = s.base + s.l.length from rfl)
  by_cases c3 : i = s.base
  · subst c3
    have hT : s.Term s.base = (s.term, true) := by unfold LogS.Term; rw [if_neg (by have := L.out; omega), if_pos rfl]
    rw [hT]
    have e1 : (s.base == s.base) = true := by rw [beq_iff_eq]
    go_enter Try.func54, Try.ntmps54
    go_wp2
    go_ret2
    exact ⟨rfl, 0, rfl⟩
  have e0 : (i == s.base) = false := by rw [beq_eq_false_iff_ne]; exact c3
  by_cases c1 : i < s.base
  · have hT : s.Term i = (0, false) := by unfold LogS.Term; rw [if_pos (.inl c1)]
    rw [hT]
    go_enter Try.func54, Try.ntmps54
    go_wp2
    go_quiet (fail)
    go_wp2
    go_ret2
    exact ⟨rfl, _, rfl⟩
  have c1' : decide (i < s.base) = false := by simpa using c1
  by_cases c2 : s.last < i
  · have hT : s.Term i = (0, false) := by unfold LogS.Term; rw [if_pos (.inr c2)]
    rw [hT]
    have c2' : s.base + (s.l.length : Int) < i := by have := L.out; omega
    clear c2
    go_enter Try.func54, Try.ntmps54
    go_wp2
    go_quiet (fail)
    go_wp2
    go_ret2
    exact ⟨rfl, _, rfl⟩
  · have hL := L.out
    obtain ⟨j, hj⟩ : ∃ j : Nat, i = s.base + 1 + j := ⟨(i - s.base - 1).toNat, by omega⟩
    subst hj
    obtain ⟨x, hx⟩ : ∃ x, s.l[j]? = some x := ⟨_, List.getElem?_eq_getElem (by omega)⟩
    have hT : s.Term (s.base + 1 + j) = (x.Term, true) := by
      unfold LogS.Term
      rw [if_neg (by omega), if_neg (by omega), show (s.base + 1 + (j : Int) - s.base - 1).toNat = j by omega, hx]
      rfl
    rw [hT]
    obtain ⟨ad, A4, c4, rfl, hFa, hc0, hrest⟩ := at_Entry hr hx
    have c2' : ¬ s.base + (s.l.length : Int) < s.base + 1 + j := by omega
    have hjl : j < s.l.length := by omega
    have Hx := Lib.hid hx
    clear hrest c2 hL hT hx c3
    go_enter Try.func54, Try.ntmps54
    go_wp2
    go_quiet (fail)
    go_wp2
    have e1 : s.base + 1 + (j : Int) - s.base - 1 = (j : Int) := by omega
    have e2 : (0 : Int) ≤ (j : Int) := by omega
    have e3 : (j : Int) < (s.l.length : Int) := by omega
    go_quiet (fail)
    go_wp2
    go_ret2
    exact ⟨rfl, _, World.drewN_drewN ..⟩

theorem LogS.Last_nil {s : LogS} (h : s.l.length = 0) : s.Last = (s.base, s.term) := by
  have hl : s.last = s.base := by unfold LogS.last; omega
  unfold LogS.Last
  rw [hl]
  congr 1
  unfold LogS.Term
  rw [if_neg (by omega), if_pos rfl]
theorem LogS.Last_cons {s : LogS} {x : Entry} (h : 0 < s.l.length) (hx : s.l[s.l.length - 1]? = some x) : s.Last = (s.base + s.l.length, x.Term) := by
  have hl : s.last = s.base + s.l.length := rfl
  unfold LogS.Last
  rw [hl]
  congr 1
  unfold LogS.Term
  rw [if_neg (by omega), if_neg (by omega), show (s.base + (s.l.length : Int) - s.base - 1).toNat = s.l.length - 1 by omega, hx]
  rfl
set_option maxHeartbeats 400000 in
theorem RLast_any (g : Nat) (F : Foot) (s : LogS) (w : World) (h : RLogAt w g F s) (ok : s.Ok) :
    Calls Try.prog 53 #[.pointer (some ⟨g, 0, none⟩)] w fun e w' => e = .returned (.tuple #[.int .i64 s.Last.1, .int .i64 s.Last.2]) ∧ ∃ k, w' = w.drewN k := by
  obtain ⟨A, c, h0, h1, h2, hfz, hF, hlt, ho, hc1, hc2, hr, _⟩ := h.cells
  have b0 := ok.b0
  have b1 := ok.b1
  have l1 := ok.l1
  by_cases hn : s.l.length = 0
  · rw [LogS.Last_nil hn]
    rw [hn] at h2
    clear hn
    go_enter Try.func53, Try.ntmps53
    go_wp2
    go_quiet (fail)
    go_wp2
    go_ret2
    exact ⟨rfl, _, rfl⟩
  · obtain ⟨x, hx⟩ : ∃ x, s.l[s.l.length - 1]? = some x := ⟨_, List.getElem?_eq_getElem (by omega)⟩
    rw [LogS.Last_cons (by omega) hx]
    obtain ⟨ad, A4, c4, rfl, hFa, hc0, hrest⟩ := at_Entry hr hx
    clear hrest hx
    generalize s.l.length = n at h2 hc0 hn l1 ⊢
    obtain ⟨j, rfl⟩ : ∃ j, n = j + 1 := ⟨n - 1, by omega⟩
    rw [Nat.add_sub_cancel] at hc0
    have e0 : ((j : Int) + 1 == 0) = false := by rw [beq_eq_false_iff_ne]; omega
    have e1 : (j : Int) + 1 - 1 = (j : Int) := by omega
    have e2 : (0 : Int) ≤ (j : Int) := by omega
    have e3 : (j : Int) < (j : Int) + 1 := by omega
    clear hn
    go_enter Try.func53, Try.ntmps53
    go_wp2
    go_quiet (fail)
    go_wp2
    go_ret2
    exact ⟨rfl, _, rfl⟩
end Go.Proofs.Ytngmipppgnlkdaa
