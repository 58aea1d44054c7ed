/- A region that draws its order, step by step: over any program. No condition. -/
import Derived.Test.YtikpbhhnllchmaaR
set_option linter.unusedVariables false
set_option linter.unusedSimpArgs false
namespace Go.Proofs.Ytikpbhhnllchmaa
open Go.RowKit

/-- Operation k alone, as a list. -/
def pickOp : Nat → List Oper → List Oper
  | 0, o :: _ => [o]
  | k + 1, _ :: l => pickOp k l
  | _, [] => []
theorem pickOp_eq : ∀ (l : List Oper) (k : Nat) (o : Oper), l[k]? = some o → pickOp k l = [o]
  | o :: l, 0, o', h => by simp at h; subst h; rfl
  | o :: l, k + 1, o', h => by simp at h; exact pickOp_eq l k o' (by simpa using h)
  | [], k, o', h => by simp at h

section
variable {P : Program} {l : List Oper} {Q : Exit → Act → World → Prop} {md : Region.Mode} {C : World → Prop} {z k i j fuel : Nat} {listed : Array Bool} {a : Act} {w : World}

theorem ready_op (hr : k ∈ Region.ready md l.toArray listed) : ∃ o, l.toArray[k]? = some o ∧ pickOp k l = [o] := by
  obtain ⟨_, o, ho, _⟩ := mem_ready.1 hr
  exact ⟨o, ho, pickOp_eq l k o (by simpa using ho)⟩

/-- One operation alone may come up; C is shown behind it. -/
theorem wpAnyI_step (hr : Region.ready md l.toArray listed = [k])
    (h : ∀ N : Act → World → Prop, (∀ a' w', C w' → wpAnyI P md l.toArray Q C z fuel (listed.setIfInBounds k true) a' w' → N a' w') → wpList P l.toArray (Exit.then N NoQ) (pickOp k l) a w) : wpAnyI P md l.toArray Q C z (fuel + 1) listed a w := by
  obtain ⟨o, ho, hp⟩ := ready_op (l := l) (md := md) (listed := listed) (k := k) (by rw [hr]; exact List.mem_singleton.2 rfl)
  rw [hp] at h
  exact wpAnyI_force hr (wpOp_of_list ho (K := fun a' w' => C w' ∧ wpAnyI P md l.toArray Q C z fuel (listed.setIfInBounds k true) a' w') (h _ fun _ _ hC h => ⟨hC, h⟩) (fun _ _ h => ⟨.inr h.1, h.2⟩) Q)

/-- One operation alone may come up; z is among those that have. -/
theorem wpAnyI_stepz (hr : Region.ready md l.toArray listed = [k]) (hz : (listed.setIfInBounds k true).getD z false = true)
    (h : ∀ N : Act → World → Prop, (∀ a' w', wpAnyI P md l.toArray Q C z fuel (listed.setIfInBounds k true) a' w' → N a' w') → wpList P l.toArray (Exit.then N NoQ) (pickOp k l) a w) : wpAnyI P md l.toArray Q C z (fuel + 1) listed a w := by
  obtain ⟨o, ho, hp⟩ := ready_op (l := l) (md := md) (listed := listed) (k := k) (by rw [hr]; exact List.mem_singleton.2 rfl)
  rw [hp] at h
  exact wpAnyI_force hr (wpOp_of_list ho (K := fun a' w' => wpAnyI P md l.toArray Q C z fuel (listed.setIfInBounds k true) a' w') (h _ fun _ _ h => h) (fun _ _ h => ⟨.inl hz, h⟩) Q)

/-- Either of two may come up. -/
theorem wpAnyI_fork (hr : Region.ready md l.toArray listed = [i, j])
    (h1 : ∀ N : Act → World → Prop, (∀ a' w', C w' → wpAnyI P md l.toArray Q C z fuel (listed.setIfInBounds i true) a' w' → N a' w') → wpList P l.toArray (Exit.then N NoQ) (pickOp i l) a w)
    (h2 : ∀ N : Act → World → Prop, (∀ a' w', C w' → wpAnyI P md l.toArray Q C z fuel (listed.setIfInBounds j true) a' w' → N a' w') → wpList P l.toArray (Exit.then N NoQ) (pickOp j l) a w) : wpAnyI P md l.toArray Q C z (fuel + 1) listed a w :=
  ⟨fun h0 => (by rw [hr] at h0; cases h0), fun x hx => by
    obtain ⟨o, ho, hp⟩ := ready_op hx
    rw [hr, List.mem_cons, List.mem_singleton] at hx
    rcases hx with rfl | rfl
    · rw [hp] at h1
      exact wpOp_of_list ho (K := fun a' w' => C w' ∧ wpAnyI P md l.toArray Q C z fuel (listed.setIfInBounds x true) a' w') (h1 _ fun _ _ hC h => ⟨hC, h⟩) (fun _ _ h => ⟨.inr h.1, h.2⟩) Q
    · rw [hp] at h2
      exact wpOp_of_list ho (K := fun a' w' => C w' ∧ wpAnyI P md l.toArray Q C z fuel (listed.setIfInBounds x true) a' w') (h2 _ fun _ _ hC h => ⟨hC, h⟩) (fun _ _ h => ⟨.inr h.1, h.2⟩) Q⟩

/-- A read may be taken first. -/
theorem wpAnyI_read (hs : Region.noSelect l.toArray = true) (hQ : ∀ c a d v w, Q (.panic c) (Act.put a d v) w → Q (.panic c) a w) (hv : ((l.toArray[k]?).map fun o => valued o.op) = some true) (hr : (Region.ready md l.toArray listed).contains k = true) (hf : Region.free md l.toArray listed k = true) (hzk : (z != k) = true) (hzl : listed.getD z false = false)
    (hze : (match l.toArray[z]? with | some oz => oz.after.any fun e => Region.binds md e && e.on == k | none => true) = true) (hC : C w)
    (h : ∀ N : Act → Prop, (∀ a', wpAnyI P md l.toArray Q C z fuel (listed.setIfInBounds k true) a' w → N a') → wpQuiet P l.toArray C N (pickOp k l) a) : wpAnyI P md l.toArray Q C z (fuel + 1) listed a w := by
  obtain ⟨o, ho, hp⟩ := ready_op (l := l) (md := md) (listed := listed) (k := k) (by simpa using hr)
  rw [hp] at h
  rw [ho] at hv
  have h' := h (fun a' => wpAnyI P md l.toArray Q C z fuel (listed.setIfInBounds k true) a' w) fun _ h => h
  obtain ⟨v, hy, hrest⟩ := yieldsIf_of_quiet (by simpa using hv) h'
  refine wpAnyI_first ho (Region.noSelect_spec hs) (fun c a w => hQ c a _ _ w) (by simpa using hzk) (fun oz hoz => ?_) _ listed a w (Region.free_spec ho hf) (by simpa using hr) hzl hy hC hrest
  rw [hoz] at hze
  obtain ⟨e, he, hb⟩ := Array.any_eq_true'.1 hze
  simp only [Bool.and_eq_true, beq_iff_eq] at hb
  exact ⟨e, he, hb.1, hb.2⟩

theorem wpAnyI_end (hr : Region.ready md l.toArray listed = []) (h : Q .normal a w) : wpAnyI P md l.toArray Q C z fuel listed a w := wpAnyI_done hr h fuel

def plan0 (ops : Array Oper) (m : List Nat) : Bool :=
  let z := m.findIdx (· == 2)
  m.length == ops.size && Region.noSelect ops && check0 .any ops z m 0 (Array.replicate ops.size false)

/-- The reads marked 0 first; then step by step. -/
theorem wp_region_open {id : Nat} {l : List Oper} (m : List Nat) (C : World → Prop) (f : Nat) (hm : P.follows .mixedOrders = true) (hB : plan0 l.toArray m = true) (hf : count 0 m + f = l.toArray.size) (hC : C w.drew)
    (h : wpQuiet P l.toArray C (fun a0 => wpAnyI P .any l.toArray (fun e a w => e = .normal ∧ Q .normal a w) C (m.findIdx (· == 2)) f (mark0 m 0 (Array.replicate l.toArray.size false)) a0 w.drew) (sel 0 l m) a) :
    (Code.region id l.toArray true).wp P Q a w := by
  refine Code.wp_mono (Q := fun e a w => e = .normal ∧ Q .normal a w) (fun e a w h => by obtain ⟨rfl, h⟩ := h; exact h) ?_
  refine wp_region_any hm (wpAny_of_I (C := C) (z := m.findIdx (· == 2)) _ _ _ _ ?_)
  simp only [plan0, Bool.and_eq_true, beq_iff_eq] at hB
  obtain ⟨⟨hlen, hs⟩, h0⟩ := hB
  have hll : m.length = l.length := by simpa using hlen
  have hat : ∀ j, l[j]? = l.toArray[0 + j]? := fun j => by simp
  refine (fun (g : wpAnyI P .any l.toArray (fun e a w => e = .normal ∧ Q .normal a w) C (m.findIdx (· == 2)) (count 0 m + f) (Array.replicate l.toArray.size false) a w.drew) => by rw [hf] at g; exact g) ?_
  exact phase0 hs (fun c a d v w h => (by cases h.1)) hC l m 0 _ a hll hat h0 h (fun a0 h' => h')
end
end Go.Proofs.Ytikpbhhnllchmaa
