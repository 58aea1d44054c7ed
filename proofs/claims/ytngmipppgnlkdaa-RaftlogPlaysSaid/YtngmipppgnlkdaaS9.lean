/- Contract of the law's do: Cut, Reset, nothing. -/
import Derived.Test.YtngmipppgnlkdaaS8
import Derived.Test.YtngmipppgnlkdaaI
set_option linter.unusedVariables false
set_option linter.unusedSimpArgs false
namespace Go.Proofs.Ytngmipppgnlkdaa
open Go.RowKit
attribute [local go_sem] Same.cell

def DoPost (w0 w : World) (F1 F3 : Foot) (g1 g3 m : Nat) (e : Ending) (w' : World) : Prop :=
  e = .returned (.bool true) ∧ ∃ F1' F3' s', Pair w0 w' F1' F3' g1 g3 s' ∧ s'.Inv (m + 12) ∧ (∀ k, F1' k → F1 k ∨ w.heap.size ≤ k) ∧ (∀ k, F3' k → F3 k ∨ w.heap.size ≤ k) ∧ Keeps (fun k => F1 k ∨ F3 k) w w'
section
variable {w0 w wd w1 w' : World} {F1 F3 : Foot} {g1 g3 m : Nat} {s s' : LogS}
theorem DoPost.mk (hb : Below w.heap.size w wd) (h : Pair w0 wd F1 F3 g1 g3 s) (hn : LogAt w1 g1 (Grow F1 wd w1) s') (hk : Keeps F1 wd w1) (hn3 : RLogAt w' g3 (Grow F3 w1 w') s') (hk3 : Keeps F3 w1 w') (hI : s'.Inv (m + 12)) :
    DoPost w0 w F1 F3 g1 g3 m (.returned (.bool true)) w' := by
  have h1 := hb.size
  have h2 := hk.size
  refine ⟨rfl, _, _, s', h.both hn hk hn3 hk3, hI, fun k hq => ?_, fun k hq => ?_, ?_⟩
  · rcases hq with hq | hq
    · exact .inl hq
    · exact .inr (by omega)
  · rcases hq with hq | hq
    · exact .inl hq
    · exact .inr (by omega)
  · exact ((Keeps.of_below hb _).step hk fun k hq _ => .inl hq).step hk3 fun k hq _ => .inr hq
theorem DoPost.none (hb : Below w.heap.size w w') (h : Pair w0 w F1 F3 g1 g3 s) (hI : s.Inv m) : DoPost w0 w F1 F3 g1 g3 m (.returned (.bool true)) w' :=
  ⟨rfl, F1, F3, s, h.then hb, hI.mono (by omega), fun _ hk => .inl hk, fun _ hk => .inl hk, Keeps.of_below hb _⟩
end

section
variable (g1 g3 : Nat) (F1 F3 : Foot) (s : LogS) (m : Nat) (w0 w : World) (a : LAct) (A3 : Option Addr) (c3 : Nat)
include g1 g3 F1 F3 s m w0 w a A3 c3

set_option maxRecDepth 100000 in
set_option maxHeartbeats 4000000 in
theorem do_cut (h : Pair w0 w F1 F3 g1 g3 s) (hI : s.Inv m) (hm : m ≤ 900) (hw : a.Way = 2) :
    Calls Try.prog 33 #[.pointer (some ⟨g1, 0, none⟩), .pointer (some ⟨g3, 0, none⟩), .agg #[.int .i64 a.Way, .int .i64 a.N, .int .i64 a.T, .slice A3 a.E.length c3]] w (DoPost w0 w F1 F3 g1 g3 m) := by
  have ok := hI.ok (by omega)
  have e0 : (a.Way == 0) = false := by rw [beq_eq_false_iff_ne]; omega
  have e1 : (a.Way == 1) = false := by rw [beq_eq_false_iff_ne]; omega
  have e2 : (a.Way == 2) = true := by rw [beq_iff_eq]; exact hw
  clear hw
  go_enter Try.func33, Try.ntmps33
  go_wp2_with fail
  have hb1 : Below w.heap.size w (w.alloc (.cells #[.int .i64 a.Way, .int .i64 a.N, .int .i64 a.T, .slice A3 a.E.length c3] 26)) := (Below.refl _ _).alloc (Nat.le_refl _) _
  have hbx : (w.alloc (.cells #[.int .i64 a.Way, .int .i64 a.N, .int .i64 a.T, .slice A3 a.E.length c3] 26)).heap[w.heap.size]? = some (.cells #[.int .i64 a.Way, .int .i64 a.N, .int .i64 a.T, .slice A3 a.E.length c3] 26 (0, 0)) := heap_alloc_new w _
  have hs1 : w.heap.size < (w.alloc (.cells #[.int .i64 a.Way, .int .i64 a.N, .int .i64 a.T, .slice A3 a.E.length c3] 26)).heap.size := by simp
  have hP1 := h.then hb1
  have hbF1 : ¬ F1 w.heap.size := fun hk => by have := h.i1 _ hk; omega
  have hbF3 : ¬ F3 w.heap.size := fun hk => by have := h.i3 _ hk; omega
  generalize w.alloc (.cells #[.int .i64 a.Way, .int .i64 a.N, .int .i64 a.T, .slice A3 a.E.length c3] 26) = w1 at hb1 hbx hs1 hP1 ⊢
  obtain ⟨q0, q1, q2, q3⟩ := box_LAct hbx
  obtain ⟨S, HS⟩ : ∃ S : Foot, Hid (∀ k, S k ↔ F1 k ∨ F3 k) := ⟨_, fun _ => Iff.rfl⟩
  have hSb : ¬ S w.heap.size := fun hk => ((HS.out _).1 hk).elim hbF1 hbF3
  clear hbx
  have hPd := hP1.then (drawn_below w1 1)
  obtain ⟨cb, hcb⟩ : ∃ cb, Hid ((s.Cut a.N).1 = cb) := ⟨_, rfl⟩
  refine wp_region_plan [0, 0, 0, 1, 0, 0, 0, 1, 1, 1] (fun w' => ∃ D : Same S w1, w' = D.world) (by kernel_rfl) (by kernel_rfl) InSame.start ?_
  simp only [sel, selE, Nat.reduceEqDiff, reduceIte]
  repeat (go_big_quiet_step (fail))
  refine wpQuiet_nil ?_
  refine wpE_cons (fun N hN => ?_)
  go_wp2_with fail
  refine (Cut_any g1 F1 s w1.drew a.N hPd.n1 ok).mono ?_
  rintro e w2 ⟨rfl, hN2, hK2⟩
  rw [hcb.out]
  have hs2 := hK2.size
  rw [World.size_drew] at hs2
  have HC2 : Hid (∀ k, k < w1.heap.size → ¬ S k → w2.heap[k]? = w1.heap[k]?) := fun k hk hn => hK2.block k hk (fun h => hn ((HS.out k).2 (.inl h)))
  go_wp2
  refine hN _ _ ⟨⟨w2, HC2.out⟩, rfl⟩ ?_
  clear hN N
  refine wpE_cons (fun N hN => ?_)
  go_wp2_with fail
  refine (RCut_any g3 F3 s w2 a.N (hPd.n3.keeps hK2 hPd.a13.symm) ok).mono ?_
  rintro e w3 ⟨rfl, hN3, hK3⟩
  rw [hcb.out]
  have HC3 : Hid (∀ k, k < w1.heap.size → ¬ S k → w3.heap[k]? = w1.heap[k]?) := fun k hk hn => (hK3.block k (by omega) (fun h => hn ((HS.out k).2 (.inr h)))).trans (HC2.out k hk hn)
  go_wp2
  refine hN _ _ ⟨⟨w3, HC3.out⟩, rfl⟩ ?_
  clear hN N
  refine wpE_cons (fun N hN => ?_)
  go_wp2
  refine hN _ _ ⟨⟨w3, HC3.out⟩, rfl⟩ ?_
  clear hN N
  refine wpE_cons (fun N hN => ?_)
  go_wp2
  refine hN _ _ ⟨⟨w3, HC3.out⟩, rfl⟩ ?_
  refine wpE_nil ?_
  clear hN N
  go_wp2
  go_ret
  exact DoPost.mk (hb1.trans ((drawn_below w1 1).mono hb1.size)) hPd hN2 hK2 hN3 hK3 ((hI.cut a.N).mono (by omega))

set_option maxRecDepth 100000 in
set_option maxHeartbeats 4000000 in
theorem do_reset (h : Pair w0 w F1 F3 g1 g3 s) (hN : a.N ≤ 1125899906842624) (hw : a.Way = 3) :
    Calls Try.prog 33 #[.pointer (some ⟨g1, 0, none⟩), .pointer (some ⟨g3, 0, none⟩), .agg #[.int .i64 a.Way, .int .i64 a.N, .int .i64 a.T, .slice A3 a.E.length c3]] w (DoPost w0 w F1 F3 g1 g3 m) := by
  have e0 : (a.Way == 0) = false := by rw [beq_eq_false_iff_ne]; omega
  have e1 : (a.Way == 1) = false := by rw [beq_eq_false_iff_ne]; omega
  have e2 : (a.Way == 2) = false := by rw [beq_eq_false_iff_ne]; omega
  have e3 : (a.Way == 3) = true := by rw [beq_iff_eq]; exact hw
  clear hw
  go_enter Try.func33, Try.ntmps33
  go_wp2_with fail
  have hb1 : Below w.heap.size w (w.alloc (.cells #[.int .i64 a.Way, .int .i64 a.N, .int .i64 a.T, .slice A3 a.E.length c3] 26)) := (Below.refl _ _).alloc (Nat.le_refl _) _
  have hbx : (w.alloc (.cells #[.int .i64 a.Way, .int .i64 a.N, .int .i64 a.T, .slice A3 a.E.length c3] 26)).heap[w.heap.size]? = some (.cells #[.int .i64 a.Way, .int .i64 a.N, .int .i64 a.T, .slice A3 a.E.length c3] 26 (0, 0)) := heap_alloc_new w _
  have hs1 : w.heap.size < (w.alloc (.cells #[.int .i64 a.Way, .int .i64 a.N, .int .i64 a.T, .slice A3 a.E.length c3] 26)).heap.size := by simp
  have hP1 := h.then hb1
  have hbF1 : ¬ F1 w.heap.size := fun hk => by have := h.i1 _ hk; omega
  generalize w.alloc (.cells #[.int .i64 a.Way, .int .i64 a.N, .int .i64 a.T, .slice A3 a.E.length c3] 26) = w1 at hb1 hbx hs1 hP1 ⊢
  refine (Reset_any g1 F1 s w1 a.N a.T hP1.n1).mono ?_
  rintro e w2 ⟨rfl, hN2, hK2⟩
  obtain ⟨q0, q1, q2, q3⟩ := box_LAct ((hK2.block _ hs1 hbF1).trans hbx)
  clear hbx
  go_wp2_with fail
  refine (RReset_any g3 F3 s w2 a.N a.T (hP1.n3.keeps hK2 hP1.a13.symm)).mono ?_
  rintro e w3 ⟨rfl, hN3, hK3⟩
  go_wp2
  go_ret
  exact DoPost.mk hb1 hP1 hN2 hK2 hN3 hK3 (LogS.Inv.reset _ hN)

set_option maxRecDepth 100000 in
set_option maxHeartbeats 4000000 in
theorem do_none (h : Pair w0 w F1 F3 g1 g3 s) (hI : s.Inv m) (hw : a.Way ≠ 0 ∧ a.Way ≠ 1 ∧ a.Way ≠ 2 ∧ a.Way ≠ 3) :
    Calls Try.prog 33 #[.pointer (some ⟨g1, 0, none⟩), .pointer (some ⟨g3, 0, none⟩), .agg #[.int .i64 a.Way, .int .i64 a.N, .int .i64 a.T, .slice A3 a.E.length c3]] w (DoPost w0 w F1 F3 g1 g3 m) := by
  have e0 : (a.Way == 0) = false := by rw [beq_eq_false_iff_ne]; exact hw.1
  have e1 : (a.Way == 1) = false := by rw [beq_eq_false_iff_ne]; exact hw.2.1
  have e2 : (a.Way == 2) = false := by rw [beq_eq_false_iff_ne]; exact hw.2.2.1
  have e3 : (a.Way == 3) = false := by rw [beq_eq_false_iff_ne]; exact hw.2.2.2
  clear hw
  go_enter Try.func33, Try.ntmps33
  go_wp2
  go_ret
  exact DoPost.none ((Below.refl _ _).alloc (Nat.le_refl _) _) h hI
end
end Go.Proofs.Ytngmipppgnlkdaa
