/- What the Log's calls do to its bounds; two Logs apart; entries that may be written. Plain lemmas. -/
import Derived.Test.YtngmipppgnlkdaaS7
import Derived.Test.YtngmipppgnlkdaaC
set_option linter.unusedVariables false
set_option linter.unusedSimpArgs false
namespace Go.Proofs.Ytngmipppgnlkdaa
open Go.RowKit

/-! ### Bounds -/
structure LogS.Inv (s : LogS) (m : Nat) : Prop where
  b0 : 0 ≤ s.base
  b1 : s.base + s.l.length ≤ 1125899906842624 + m
  l1 : s.l.length ≤ m
  r1 : ∀ x ∈ s.l, x.Cmd.Records.length ≤ 4
theorem LogS.Inv.ok {s : LogS} {m : Nat} (h : s.Inv m) (hm : m ≤ 1000) : s.Ok :=
  ⟨h.b0, by have := h.b1; omega, by have := h.l1; omega, fun x hx => by have := h.r1 x hx; omega⟩
theorem LogS.Inv.mono {s : LogS} {m n : Nat} (h : s.Inv m) (hm : m ≤ n) : s.Inv n :=
  ⟨h.b0, by have := h.b1; omega, by have := h.l1; omega, h.r1⟩
theorem LogS.Inv.add {s : LogS} {m : Nat} (h : s.Inv m) {x : Entry} (hx : x.Cmd.Records.length ≤ 4) : (s.add x).Inv (m + 1) := by
  refine ⟨h.b0, ?_, ?_, fun y hy => ?_⟩
  · have := h.b1; show s.base + ((s.l ++ [x]).length : Int) ≤ _; rw [List.length_append, List.length_singleton]; omega
  · have := h.l1; show (s.l ++ [x]).length ≤ _; rw [List.length_append, List.length_singleton]; omega
  · rcases List.mem_append.1 hy with hy | hy
    · exact h.r1 y hy
    · rw [List.mem_singleton] at hy; subst hy; exact hx
theorem LogS.Inv.cut {s : LogS} {m : Nat} (h : s.Inv m) (i : Int) : (s.Cut i).2.Inv m := by
  unfold LogS.Cut
  split
  · exact h
  · rename_i hc
    have h1 := h.b0; have h2 := h.b1; have h3 := h.l1
    have hl : s.last = s.base + s.l.length := rfl
    refine ⟨by show 0 ≤ i; omega, ?_, ?_, fun y hy => h.r1 y (List.mem_of_mem_drop hy)⟩
    · show i + ((s.l.drop (i - s.base).toNat).length : Int) ≤ _
      rw [List.length_drop]; omega
    · show (s.l.drop (i - s.base).toNat).length ≤ m
      rw [List.length_drop]; omega
theorem LogS.Inv.reset {i t : Int} (m : Nat) (hi : i ≤ 1125899906842624) : (LogS.Reset i t).Inv m := by
  refine ⟨?_, ?_, by simp [LogS.Reset], fun y hy => by simp [LogS.Reset] at hy⟩
  · show 0 ≤ if 0 < i then i else 0
    split <;> omega
  · show (if 0 < i then i else 0) + (([] : List Entry).length : Int) ≤ _
    simp only [List.length_nil]
    split <;> omega
theorem LogS.Inv.putFrom {s : LogS} {m : Nat} (h : s.Inv m) {prev fin : Int} (hp : prev ≤ s.last) : ∀ (e : List Entry) (k : Nat), (∀ x ∈ e, x.Cmd.Records.length ≤ 4) → (s.putFrom prev fin e k).2.Inv (m + (k + e.length))
  | [], k, _ => h.mono (by simp)
  | x :: rest, k, he => by
    unfold LogS.putFrom
    split
    · have := h.putFrom (prev := prev) (fin := fin) hp rest (k + 1) (fun y hy => he y (List.mem_cons_of_mem _ hy))
      rw [show ((k + 1 : Nat) : Int) = (k : Int) + 1 by omega] at this
      exact this.mono (by simp only [List.length_cons]; omega)
    · rename_i hs
      have hgt : ¬ prev + 1 + (k : Int) ≤ s.base := fun hc => hs (by unfold LogS.skips; rw [decide_eq_true hc]; rfl)
      have h1 := h.b0; have h2 := h.b1; have h3 := h.l1
      have hl : s.last = s.base + s.l.length := rfl
      refine ⟨h1, ?_, ?_, fun y hy => ?_⟩
      · show s.base + ((s.l.take (prev + 1 + k - s.base - 1).toNat ++ (x :: rest)).length : Int) ≤ _
        rw [List.length_append, List.length_take]; simp only [List.length_cons]; omega
      · show (s.l.take (prev + 1 + k - s.base - 1).toNat ++ (x :: rest)).length ≤ _
        rw [List.length_append, List.length_take]; simp only [List.length_cons]; omega
      · rcases List.mem_append.1 hy with hy | hy
        · exact h.r1 y (List.mem_of_mem_take hy)
        · exact he y hy
theorem LogS.Inv.put {s : LogS} {m : Nat} (h : s.Inv m) (prev term : Int) (e : List Entry) (he : ∀ x ∈ e, x.Cmd.Records.length ≤ 4) : (s.Put prev term e).2.Inv (m + e.length) := by
  unfold LogS.Put
  split
  · exact h.mono (by omega)
  · rename_i hc
    split
    · exact h.mono (by omega)
    · have := h.putFrom (prev := prev) (fin := if prev + e.length < s.base then s.base else prev + e.length) (by omega) e 0 he
      rw [Nat.zero_add] at this
      exact this

theorem growOld {w wr w' : World} {F : Foot} (hw : w.heap.size ≤ wr.heap.size) (h : ∀ k, F k → w.heap.size ≤ k) : ∀ k, Grow F wr w' k → w.heap.size ≤ k := fun k hk => by
  rcases hk with hk | hk
  · exact h k hk
  · omega

/-! ### Two logs apart from one another -/
structure Pair (w wr : World) (F1 F3 : Foot) (g1 g3 : Nat) (s : LogS) : Prop where
  n1 : LogAt wr g1 F1 s
  n3 : RLogAt wr g3 F3 s
  a13 : Apart F1 F3
  i1 : In F1 wr
  i3 : In F3 wr
  o1 : ∀ k, F1 k → w.heap.size ≤ k
  o3 : ∀ k, F3 k → w.heap.size ≤ k
  below : Below w.heap.size w wr

section
variable {w wr w1 w' : World} {F1 F3 : Foot} {g1 g3 : Nat} {s s' : LogS}
/-- One log, then the other. -/
theorem Pair.both (h : Pair w wr F1 F3 g1 g3 s) (hn : LogAt w1 g1 (Grow F1 wr w1) s') (hk : Keeps F1 wr w1) (hn3 : RLogAt w' g3 (Grow F3 w1 w') s') (hk3 : Keeps F3 w1 w') : Pair w w' (Grow F1 wr w1) (Grow F3 w1 w') g1 g3 s' := by
  have h13 : Apart (Grow F1 wr w1) F3 := h.a13.grow h.i3
  have hb1 : Below w.heap.size w w1 := h.below.trans (hk.below_of h.below.size h.o1)
  have hg1 : In (Grow F1 wr w1) w1 := h.i1.grow hk.size
  exact ⟨hn.keeps hk3 h13, hn3, h13.grow' hg1, hg1.mono hk3.size, (h.i3.mono hk.size).grow hk3.size, growOld h.below.size h.o1, growOld hb1.size h.o3, hb1.trans (hk3.below_of hb1.size h.o3)⟩
theorem Pair.then (h : Pair w wr F1 F3 g1 g3 s) (hb : Below wr.heap.size wr w') : Pair w w' F1 F3 g1 g3 s :=
  ⟨h.n1.below hb, h.n3.below hb, h.a13, h.i1.mono hb.size, h.i3.mono hb.size, h.o1, h.o3, h.below.trans (hb.mono h.below.size)⟩
/-- A step that turns none of both. -/
theorem Pair.keeps {S : Foot} (h : Pair w wr F1 F3 g1 g3 s) (hk : Keeps S wr w') (h1 : Apart F1 S) (h3 : Apart F3 S) (hS : ∀ k, S k → w.heap.size ≤ k) : Pair w w' F1 F3 g1 g3 s :=
  ⟨h.n1.keeps hk h1, h.n3.keeps hk h3, h.a13, h.i1.mono hk.size, h.i3.mono hk.size, h.o1, h.o3, h.below.trans (hk.below_of h.below.size hS)⟩
end

/-! ### Entries that may be written -/
def SoftAt (W : World) (F : Foot) (ge : Nat) (n : Nat) (R : Nat → Nat) : Prop :=
  ∃ cur : Array Value, W.heap[ge]? = some (.cells cur 38 (0, 0)) ∧ F ge ∧ ∀ i, i < n → (∃ t, cur[i * 14]? = some (.int .i64 t)) ∧
    ∃ A4 c4, cur[i * 14 + 4]? = some (.slice A4 (R i) c4) ∧ R i ≤ c4 ∧ c4 ≤ 9223372036854775807 ∧
      (0 < R i → ∃ gi ci, A4 = some ⟨gi, 0, none⟩ ∧ gi ≠ ge ∧ F gi ∧ W.heap[gi]? = some (.cells ci 89 (0, 0)) ∧ R i * 5 ≤ ci.size)
section
variable {W W' : World} {F : Foot} {ge n c : Nat} {R : Nat → Nat}
theorem SoftAt.of {A : Option Addr} {xs : List Entry} (h : OwnS kEntryO 38 W F (.slice A xs.length c) xs) (h0 : 0 < xs.length) :
    ∃ ge, A = some ⟨ge, 0, none⟩ ∧ SoftAt W F ge xs.length (fun i => (xs[i]?.map fun x => x.Cmd.Records.length).getD 0) := by
  obtain ⟨cs, ⟨h1, h2⟩, h3, h4⟩ := h
  rcases h2 with ⟨_, h2⟩ | ⟨g, cap, cur, hv, _, hh, hn, hc, hsz, htk⟩
  · omega
  · injection hv with e1 e2 e3
    refine ⟨g, e1, cur, hh, h4 g (by rw [e1]; rfl), fun i hi => ?_⟩
    obtain ⟨x, hx⟩ : ∃ x, xs[i]? = some x := ⟨_, List.getElem?_eq_getElem hi⟩
    obtain ⟨cc, hrep, hcc⟩ := h3.at_ hx
    obtain ⟨A4, c4, rfl, g2, g3, g4, g5⟩ := hrep
    have hcur : ∀ j u, cs[j]? = some u → cur[j]? = some u := fun j u hj => by
      rw [← htk, List.getElem?_take] at hj
      split at hj
      · rwa [Array.getElem?_toList] at hj
      · cases hj
    simp only [hx, Option.map_some, Option.getD_some]
    refine ⟨⟨x.Term, hcur _ _ (hcc 0 _ rfl)⟩, A4, c4, hcur _ _ (hcc 4 _ rfl), g2, g3, fun hr => ?_⟩
    obtain ⟨gi, ci, f1, f2, f3, f4⟩ := g5 hr
    exact ⟨gi, ci, f1, fun he => f2.2 (by rw [e1, he]; rfl), f2.1, f3, f4⟩
theorem SoftAt.keep (h : SoftAt W F ge n R) (hk : ∀ k, F k → k < W.heap.size → W'.heap[k]? = W.heap[k]?) : SoftAt W' F ge n R := by
  obtain ⟨cur, h1, h2, h3⟩ := h
  refine ⟨cur, (hk ge h2 (Array.getElem?_eq_some_iff.1 h1).1).trans h1, h2, fun i hi => ?_⟩
  obtain ⟨ht, A4, c4, f1, f2, f3, f4⟩ := h3 i hi
  refine ⟨ht, A4, c4, f1, f2, f3, fun hr => ?_⟩
  obtain ⟨gi, ci, e1, e2, e3, e4, e5⟩ := f4 hr
  exact ⟨gi, ci, e1, e2, e3, (hk gi e3 (Array.getElem?_eq_some_iff.1 e4).1).trans e4, e5⟩
/-- Element i's term and its row of records. -/
theorem SoftAt.at_ (h : SoftAt W F ge n R) {i : Nat} (hi : i < n) : ge < W.heap.size ∧ F ge ∧ (∃ t, W.cell? ⟨ge, i * 14, none⟩ = some (.int .i64 t)) ∧ W.frozen? ⟨ge, i * 14, none⟩ = false ∧
    ∃ A4 c4, W.cell? ⟨ge, i * 14 + 4, none⟩ = some (.slice A4 (R i) c4) ∧ R i ≤ c4 ∧ c4 ≤ 9223372036854775807 ∧
      ∀ k, k < R i → ∃ gi u, A4 = some ⟨gi, 0, none⟩ ∧ gi ≠ ge ∧ F gi ∧ gi < W.heap.size ∧ W.cell? ⟨gi, k * 5 + 2, none⟩ = some u ∧ W.frozen? ⟨gi, k * 5 + 2, none⟩ = false := by
  obtain ⟨cur, h1, h2, h3⟩ := h
  obtain ⟨⟨t, ht⟩, A4, c4, f1, f2, f3, f4⟩ := h3 i hi
  refine ⟨(Array.getElem?_eq_some_iff.1 h1).1, h2, ⟨t, (cell_of_row W ge _ _ _ _ h1).trans ht⟩, frozen_of_row W ge _ _ _ h1, A4, c4, (cell_of_row W ge _ _ _ _ h1).trans f1, f2, f3, fun k hk => ?_⟩
  obtain ⟨gi, ci, e1, e2, e3, e4, e5⟩ := f4 (by omega)
  have hlt : k * 5 + 2 < ci.size := by omega
  exact ⟨gi, ci[k * 5 + 2], e1, e2, e3, (Array.getElem?_eq_some_iff.1 e4).1, (cell_of_row W gi _ _ _ _ e4).trans (Array.getElem?_eq_getElem hlt), frozen_of_row W gi _ _ _ e4⟩
theorem SoftAt.term (h : SoftAt W F ge n R) {i : Nat} (t : Int) : SoftAt (W.setCell ⟨ge, i * 14, none⟩ (.int .i64 t)) F ge n R := by
  obtain ⟨cur, h1, h2, h3⟩ := h
  refine ⟨_, heap_setCell_same W ge (i * 14) cur 38 (.int .i64 t) h1, h2, fun j hj => ?_⟩
  obtain ⟨⟨t', ht⟩, A4, c4, f1, f2, f3, f4⟩ := h3 j hj
  have hlt : ∀ p v, cur[p]? = some v → p < cur.size := fun p v hp => (Array.getElem?_eq_some_iff.1 hp).1
  refine ⟨?_, A4, c4, ?_, f2, f3, fun hr => ?_⟩
  · by_cases hij : i * 14 = j * 14
    · rw [hij, Array.getElem?_setIfInBounds_self_of_lt (hlt _ _ ht)]
      exact ⟨t, rfl⟩
    · rw [Array.getElem?_setIfInBounds_ne hij]
      exact ⟨t', ht⟩
  · rw [Array.getElem?_setIfInBounds_ne (by omega)]
    exact f1
  · obtain ⟨gi, ci, e1, e2, e3, e4, e5⟩ := f4 hr
    exact ⟨gi, ci, e1, e2, e3, (Below.heap_setCell _ _ _ _ (by simpa using e2)).trans e4, e5⟩
theorem SoftAt.key (h : SoftAt W F ge n R) {gi : Nat} (hg : gi ≠ ge) (o : Nat) (u : Value) : SoftAt (W.setCell ⟨gi, o, none⟩ u) F ge n R := by
  obtain ⟨cur, h1, h2, h3⟩ := h
  refine ⟨cur, (Below.heap_setCell _ _ _ _ (by simpa using hg.symm)).trans h1, h2, fun j hj => ?_⟩
  obtain ⟨ht, A4, c4, f1, f2, f3, f4⟩ := h3 j hj
  refine ⟨ht, A4, c4, f1, f2, f3, fun hr => ?_⟩
  obtain ⟨gj, cj, e1, e2, e3, e4, e5⟩ := f4 hr
  by_cases hgg : gj = gi
  · subst hgg
    exact ⟨gj, _, e1, e2, e3, heap_setCell_same W gj o cj 89 u e4, by simpa using e5⟩
  · exact ⟨gj, cj, e1, e2, e3, (Below.heap_setCell _ _ _ _ (by simpa using hgg)).trans e4, e5⟩
end
end Go.Proofs.Ytngmipppgnlkdaa
