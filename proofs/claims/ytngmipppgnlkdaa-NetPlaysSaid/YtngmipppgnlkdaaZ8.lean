/- Contract of Big of a message. -/
import Derived.Test.YtngmipppgnlkdaaZ7
import Derived.Test.YtngmipppgnlkdaaI
set_option linter.unusedVariables false
set_option linter.unusedSimpArgs false
namespace Go.Proofs.Ytngmipppgnlkdaa
open Go.RowKit
attribute [local go_sem] Same.cell

set_option maxHeartbeats 2000000 in
theorem Big19_any (m : Message) (A6 : Option Addr) (c6 : Nat) (A10 : Option Addr) (c10 : Nat) (F : Foot) (w : World) (h : MsgAt w F m A6 c6 A10 c10) (h6 : m.Entries.length ≤ 140737488355328) (h10 : m.Data.length ≤ 140737488355328) (hn : ∀ x ∈ m.Entries, x.Cmd.Records.length ≤ 140737488355328) :
    Calls Try.prog 26 #[.agg #[.int .i64 m.Kind, .int .i64 m.From, .int .i64 m.To, .int .i64 m.Term, .int .i64 m.Last, .int .i64 m.LastTerm, .slice A6 m.Entries.length c6, .int .i64 m.Commit, .bool m.OK, .int .i64 m.Match, .slice A10 m.Data.length c10]] w (Bounds m.Fits w) := by
  go_enter Try.func26, Try.ntmps26
  go_wp2
  have hb1 : Below w.heap.size w (w.alloc (.cells #[.int .i64 m.Kind, .int .i64 m.From, .int .i64 m.To, .int .i64 m.Term, .int .i64 m.Last, .int .i64 m.LastTerm, .slice A6 m.Entries.length c6, .int .i64 m.Commit, .bool m.OK, .int .i64 m.Match, .slice A10 m.Data.length c10] 54)) := (Below.refl _ _).alloc (Nat.le_refl _) _
  have hbx : (w.alloc (.cells #[.int .i64 m.Kind, .int .i64 m.From, .int .i64 m.To, .int .i64 m.Term, .int .i64 m.Last, .int .i64 m.LastTerm, .slice A6 m.Entries.length c6, .int .i64 m.Commit, .bool m.OK, .int .i64 m.Match, .slice A10 m.Data.length c10] 54)).heap[w.heap.size]? = some (.cells #[.int .i64 m.Kind, .int .i64 m.From, .int .i64 m.To, .int .i64 m.Term, .int .i64 m.Last, .int .i64 m.LastTerm, .slice A6 m.Entries.length c6, .int .i64 m.Commit, .bool m.OK, .int .i64 m.Match, .slice A10 m.Data.length c10] 54 (0, 0)) := heap_alloc_new w _
  have hs1 : w.heap.size < (w.alloc (.cells #[.int .i64 m.Kind, .int .i64 m.From, .int .i64 m.To, .int .i64 m.Term, .int .i64 m.Last, .int .i64 m.LastTerm, .slice A6 m.Entries.length c6, .int .i64 m.Commit, .bool m.OK, .int .i64 m.Match, .slice A10 m.Data.length c10] 54)).heap.size := by simp
  generalize w.alloc (.cells #[.int .i64 m.Kind, .int .i64 m.From, .int .i64 m.To, .int .i64 m.Term, .int .i64 m.Last, .int .i64 m.LastTerm, .slice A6 m.Entries.length c6, .int .i64 m.Commit, .bool m.OK, .int .i64 m.Match, .slice A10 m.Data.length c10] 54) = w1 at hb1 hbx hs1 ⊢
  have Hbx := Lib.hid hbx
  clear hbx
  go_loopw [3] (fun q wr => ∃ k : Nat, q = .int .i64 k ∧ k ≤ m.Entries.length ∧ k ≤ 13 ∧ Hid (∀ j x, j < k → m.Entries[j]? = some x → x.Cmd.Records.length ≤ 6) ∧ Below w1.heap.size w1 wr) (fun q _ => 14 - (intOf q).toNat)
  case atStart => exact ⟨0, rfl, Nat.zero_le _, by omega, fun j x h => absurd h (by omega), Below.refl _ _⟩
  case round =>
    obtain ⟨k, rfl, hk, hk13, hE, hB⟩ := hrel
    obtain ⟨k0, k1, k2, k3, k4, k5, k6, k7, k8, k9, k10⟩ := box_Message ((hB.block _ hs1).trans Hbx.out)
    by_cases hlt : k < m.Entries.length
    · obtain ⟨x, hxk⟩ : ∃ x, m.Entries[k]? = some x := ⟨_, List.getElem?_eq_getElem hlt⟩
      have hxr := hn x (List.mem_of_getElem? hxk)
      obtain ⟨ad, A4, c4, hA0, hFa, q0, q1, q2, q3, q4, q5, q6, q7, q8, q9, q10, q11, q12, q13, l4, m4, r4⟩ := at_Entry ((h.r6.below hb1).below hB) hxk
      have Hxk := Lib.hid (And.intro hxk hA0)
      rw [hA0] at k6
      clear hxk hA0
      go_wp2_with fail
      refine (Big10_any x.Cmd A4 c4 _ _ r4 hxr).mono ?_
      rintro e w2 ⟨r, rfl, hr, hb⟩
      have hB2 : Below w1.heap.size w1 w2 := hB.trans (hb.mono hB.size)
      clear k0 k1 k2 k3 k4 k5 k6 k7 k8 k9 k10 q0 q1 q2 q3 q4 q5 q6 q7 q8 q9 q10 q11 q12 q13
      obtain ⟨k0, k1, k2, k3, k4, k5, k6, k7, k8, k9, k10⟩ := box_Message ((hB2.block _ hs1).trans Hbx.out)
      obtain ⟨ad', A4', c4', hA0', hFa', q0, q1, q2, q3, q4, q5, q6, q7, q8, q9, q10, q11, q12, q13, l4', m4', r4'⟩ := at_Entry ((h.r6.below hb1).below hB2) Hxk.out.1
      have HA := Lib.hid hA0'
      rw [hA0'] at k6
      clear hA0' hr
      cases r
      · by_cases h6' : 6 < x.Cmd.Records.length
        · go_wp2
          go_ret
          exact ⟨true, rfl, by simp, hb1.trans (hB2.mono hb1.size)⟩
        · by_cases hk12 : 12 < k
          · go_wp2
            go_ret
            exact ⟨true, rfl, by simp, hb1.trans (hB2.mono hb1.size)⟩
          · go_wp2
            go_roundw
            case rel =>
              refine ⟨k + 1, by go_num, by omega, by omega, fun j y hj hy => ?_, hB2⟩
              by_cases hjk : j = k
              · subst hjk
                rw [Hxk.out.1] at hy
                injection hy with hy
                subst hy
                omega
              · exact hE.out j y (by omega) hy
            case measure => simp [intOf]; omega
      · go_wp2
        go_ret
        exact ⟨true, rfl, by simp, hb1.trans (hB2.mono hb1.size)⟩
    · obtain rfl : k = m.Entries.length := by omega
      go_wp2
      go_ret
      refine ⟨decide (500 < (m.Data.length : Int)), rfl, fun h => ?_, hb1.trans (hB.mono hb1.size)⟩
      simp only [decide_eq_false_iff_not] at h
      refine ⟨by omega, by omega, fun x hx => ?_⟩
      obtain ⟨j, hj, rfl⟩ := List.getElem_of_mem hx
      have := hE.out j _ hj (List.getElem?_eq_getElem hj)
      omega

/-! ### Three nets, apart from one another -/
structure Three (w wr : World) (F1 F2 F3 : Foot) (g1 g2 g3 : Nat) (l lo lr : List Message) : Prop where
  n1 : NetAt wr g1 F1 l
  n2 : NetAt wr g2 F2 lo
  n3 : RefAt wr g3 F3 lr
  a12 : Apart F1 F2
  a13 : Apart F1 F3
  a23 : Apart F2 F3
  i1 : In F1 wr
  i2 : In F2 wr
  i3 : In F3 wr
  o1 : ∀ k, F1 k → w.heap.size ≤ k
  o2 : ∀ k, F2 k → w.heap.size ≤ k
  o3 : ∀ k, F3 k → w.heap.size ≤ k
  below : Below w.heap.size w wr

section
variable {w wr w' : World} {F1 F2 F3 : Foot} {g1 g2 g3 : Nat} {l lo lr l' : List Message}
theorem grow_old {F : Foot} (hw : w.heap.size ≤ wr.heap.size) (h : ∀ k, F k → w.heap.size ≤ k) : ∀ k, Grow F wr w' k → w.heap.size ≤ k := fun k hk => by
  rcases hk with hk | hk
  · exact h k hk
  · omega
theorem Three.step1 (h : Three w wr F1 F2 F3 g1 g2 g3 l lo lr) (hn : NetAt w' g1 (Grow F1 wr w') l') (hk : Keeps F1 wr w') : Three w w' (Grow F1 wr w') F2 F3 g1 g2 g3 l' lo lr :=
  ⟨hn, h.n2.keeps hk h.a12.symm, h.n3.keeps hk h.a13.symm, h.a12.grow h.i2, h.a13.grow h.i3, h.a23, h.i1.grow hk.size, h.i2.mono hk.size, h.i3.mono hk.size, grow_old h.below.size h.o1, h.o2, h.o3, h.below.trans (hk.below_of h.below.size h.o1)⟩
theorem Three.step2 (h : Three w wr F1 F2 F3 g1 g2 g3 l lo lr) (hn : NetAt w' g2 (Grow F2 wr w') l') (hk : Keeps F2 wr w') : Three w w' F1 (Grow F2 wr w') F3 g1 g2 g3 l l' lr :=
  ⟨h.n1.keeps hk h.a12, hn, h.n3.keeps hk h.a23.symm, h.a12.grow' h.i1, h.a13, h.a23.grow h.i3, h.i1.mono hk.size, h.i2.grow hk.size, h.i3.mono hk.size, h.o1, grow_old h.below.size h.o2, h.o3, h.below.trans (hk.below_of h.below.size h.o2)⟩
theorem Three.step3 (h : Three w wr F1 F2 F3 g1 g2 g3 l lo lr) (hn : RefAt w' g3 (Grow F3 wr w') l') (hk : Keeps F3 wr w') : Three w w' F1 F2 (Grow F3 wr w') g1 g2 g3 l lo l' :=
  ⟨h.n1.keeps hk h.a13, h.n2.keeps hk h.a23, hn, h.a12, h.a13.grow' h.i1, h.a23.grow' h.i2, h.i1.mono hk.size, h.i2.mono hk.size, h.i3.grow hk.size, h.o1, h.o2, grow_old h.below.size h.o3, h.below.trans (hk.below_of h.below.size h.o3)⟩
theorem Three.then (h : Three w wr F1 F2 F3 g1 g2 g3 l lo lr) (hb : Below wr.heap.size wr w') : Three w w' F1 F2 F3 g1 g2 g3 l lo lr :=
  ⟨h.n1.below hb, h.n2.below hb, h.n3.below hb, h.a12, h.a13, h.a23, h.i1.mono hb.size, h.i2.mono hb.size, h.i3.mono hb.size, h.o1, h.o2, h.o3, h.below.trans (hb.mono h.below.size)⟩
end
end Go.Proofs.Ytngmipppgnlkdaa
