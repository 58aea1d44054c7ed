/- RaftlogPuts: whatever the input, the law returns true, and each argument reads as it did. No condition. -/
import Derived.Test.YtngmipppgnlkdaaRows
import Derived.Test.YtngmipppgnlkdaaTO
import Derived.Test.YtngmipppgnlkdaaN2
set_option linter.unusedVariables false
set_option linter.unusedSimpArgs false
namespace Go.Proofs.Ytngmipppgnlkdaa.RaftlogPutsRow
open Go.ChangeShapes Go.WideShapes Go.ChangeAt Go.RowKit

theorem own : ownKnob Try.prog.godebug = none := by kernel_rfl

theorem laidOut : laidOutB Try.prog = true := by kernel_rfl

set_option maxRecDepth 100000 in
theorem lifted (os : Os) (started : os.Started) (H : Type) (enc : TypeId × Value → H) :
    ReturnsInHanded {} Try.checked os 6 .any (Rows.raftlogPutsSpec.pre6 enc Try.prog Try.f6 Rows.raftlogPutsRow.domain false) (Rows.raftlogPutsSpec.post enc Try.prog Try.f6 false true false false) := by
  refine returnsInHanded_of_change_sized (C := Try.checked) own started (by kernel_rfl) Try.func6
    (ChangeSpec.witness6 (enc := enc) (C := Try.checked) false ⟨#[], #[.slice none 0 0, .slice none 0 0, .int .i64 0], []⟩ 8 (by kernel_rfl) (by kernel_rfl) (by kernel_rfl) (by kernel_rfl)) ?_
  intro W base args ds gs before hval0 hW hcnd hsz0 _
  have hval : ∀ (j : Nat) t v, Try.f6.params[j]? = some t → args[j]? = some v → Value.okWide Try.prog W .any base t v := hval0
  have hsz : (DataW.weightsEach Try.prog (Try.f6.params.toList ++ Rows.raftlogPutsSpec.plain.varTypes Try.prog) (ds ++ gs)).all (· ≤ reachBytes) = true := hsz0
  have hW' := hW
  obtain ⟨p, q, hA0, hV, rfl, hfz, hnd⟩ := hW
  have hA : DataW.TrodAll enc Try.prog W 0 (fun _ => true) true Try.f6.params.toList args.toList ds p := hA0
  rw [Try.params6] at hA hval hsz
  obtain ⟨v0, vs0, d0, ds0, p0, q0, hargs, rfl, rfl, h0, r0⟩ := trodAll_cons hA
  obtain ⟨v1, vs1, d1, ds1, p1, q1, rfl, rfl, rfl, h1, r1⟩ := trodAll_cons r0
  obtain ⟨v2, vs2, d2, ds2, p2, q2, rfl, rfl, rfl, h2, r2⟩ := trodAll_cons r1
  obtain ⟨rfl, rfl, rfl⟩ := trodAll_nil r2
  obtain rfl : args = #[v0, v1, v2] := by cases args; simp_all
  obtain ⟨rfl, rfl⟩ := trodVars_none hV
  have k0 := h0
  have lt0 : ∀ x ∈ p0, x.block < W.heap.size := by obtain ⟨m, hm⟩ := k0; exact DataW.trod_lt m _ _ _ hm
  have hw0 : ∀ n ∈ d0.weights Try.prog 22, n ≤ reachBytes := fun n hn => by
    have := List.all_eq_true.1 hsz n (DataW.weights_mem_each (j := 0) (t := 22) rfl rfl n hn)
    simpa using this
  obtain ⟨a0, len0, cap0, rfl⟩ := okWide_slice Try.underlying22 (hval 0 22 v0 rfl rfl)
  obtain ⟨f0, hf0⟩ := h0
  obtain ⟨xs0, ⟨b0, c0, hcs0, hl0, hm0, hr0⟩, hok0⟩ := opens_slice Try.underlying22 cells_38 bytes_38 opens_Entry hf0 hw0
  obtain ⟨rfl, rfl, rfl⟩ : a0 = b0 ∧ len0 = xs0.length ∧ cap0 = c0 := by simpa [Value.cells] using hcs0
  clear hf0
  have k1 := h1
  have lt1 : ∀ x ∈ p1, x.block < W.heap.size := by obtain ⟨m, hm⟩ := k1; exact DataW.trod_lt m _ _ _ hm
  have hw1 : ∀ n ∈ d1.weights Try.prog 22, n ≤ reachBytes := fun n hn => by
    have := List.all_eq_true.1 hsz n (DataW.weights_mem_each (j := 1) (t := 22) rfl rfl n hn)
    simpa using this
  obtain ⟨a1, len1, cap1, rfl⟩ := okWide_slice Try.underlying22 (hval 1 22 v1 rfl rfl)
  obtain ⟨f1, hf1⟩ := h1
  obtain ⟨xs1, ⟨b1, c1, hcs1, hl1, hm1, hr1⟩, hok1⟩ := opens_slice Try.underlying22 cells_38 bytes_38 opens_Entry hf1 hw1
  obtain ⟨rfl, rfl, rfl⟩ : a1 = b1 ∧ len1 = xs1.length ∧ cap1 = c1 := by simpa [Value.cells] using hcs1
  clear hf1
  obtain ⟨a2, rfl, rfl, rfl, w2⟩ := open_int Try.underlying3 (hval 2 3 v2 rfl rfl) h2
  have b2 := bounds_i64 w2
  clear hA0 hval0
  refine (Puts_law a0 a1 cap0 cap1 xs0 xs1 a2 W _ _ hr0 hl0 hm0 hr1 hl1 hm1 ⟨?_, ?_⟩ ⟨?_, ?_⟩ (by omega) (by omega)).mono fun e W' ⟨he, bel⟩ => ?_
  · have := hok0.1; simp only [reachBytes] at this; omega
  · intro x hx
    have := (hok0.2 x hx).2.2.2.2.1.1
    simp only [reachBytes] at this; omega
  · have := hok1.1; simp only [reachBytes] at this; omega
  · intro x hx
    have := (hok1.2 x hx).2.2.2.2.1.1
    simp only [reachBytes] at this; omega
  subst he
  exact ⟨_, rfl, _, _, _, [], _, [], hW', trodAll_mk1 (shut_bool Try.underlying4 _), (trodAll_cons_mk (Below.trod laidOut (by kernel_rfl) (of_decide_eq_true (by kernel_rfl)) k0 bel lt0) (trodAll_cons_mk (Below.trod laidOut (by kernel_rfl) (of_decide_eq_true (by kernel_rfl)) k1 bel lt1) (trodAll_cons_mk (shut_int Try.underlying3 w2) trodAll_mk0))), rfl, bel.frame _, fun h => by cases h⟩

theorem over : Rows.raftlogPutsRow.holds Try.pinned (OpenSpec.ofChange Rows.raftlogPutsSpec) :=
  OpenClaim.holds_of_wide 6 Try.f6 rfl rfl rfl rfl rfl rfl rfl ⟨rfl, rfl, rfl, rfl, rfl⟩ rfl rfl rfl rfl rfl (by kernel_rfl) Try.func6 (by kernel_rfl)
    (of_decide_eq_true (by kernel_rfl)) (by unfold Func.isWrapper; first | (rw [if_pos (by decide +kernel)]; kernel_rfl) | (rw [if_neg (by decide +kernel)]; exact ⟨rfl, rfl⟩))
    (fun os started H enc _ => lifted os started H enc)

end Go.Proofs.Ytngmipppgnlkdaa.RaftlogPutsRow
namespace Go.Proofs.Ytngmipppgnlkdaa
/-- The statement. -/
theorem raftlogPuts_proved : Rows.RaftlogPutsSaid := RaftlogPutsRow.over
#print axioms raftlogPuts_proved
end Go.Proofs.Ytngmipppgnlkdaa
