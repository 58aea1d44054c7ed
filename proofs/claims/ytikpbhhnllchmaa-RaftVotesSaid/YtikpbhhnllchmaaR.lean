/- A region that draws its order: reads first (they read what no one turns), then the rest in the order of the text. Over any program. No condition. -/
import Derived.OrdersHeld
import Derived.Deep.QuietTactic
import Derived.BigQuiet
import Derived.Test.YtikpbhhnllchmaaK
set_option linter.unusedVariables false
set_option linter.unusedSimpArgs false
namespace Go.Proofs.Ytikpbhhnllchmaa
open Go.RowKit

section
variable {P : Program} {ops : Array Oper} {Q : Exit → Act → World → Prop} {md : Region.Mode} {C : World → Prop}

/-- Nothing ends so. -/
def NoQ : Exit → Act → World → Prop := fun _ _ _ => False

/-- Whatever order is picked; until z has come up, C holds. -/
def wpAnyI (P : Program) (md : Region.Mode) (ops : Array Oper) (Q : Exit → Act → World → Prop) (C : World → Prop) (z : Nat) : Nat → Array Bool → Act → World → Prop
  | 0, listed, a, w => Region.ready md ops listed = [] ∧ Q .normal a w
  | fuel + 1, listed, a, w =>
    (Region.ready md ops listed = [] → Q .normal a w) ∧
    ∀ i ∈ Region.ready md ops listed, wpOp P ops Q i (fun a' w' => ((listed.setIfInBounds i true).getD z false = true ∨ C w') ∧ wpAnyI P md ops Q C z fuel (listed.setIfInBounds i true) a' w') a w

theorem wpAny_of_I {z : Nat} : ∀ (fuel : Nat) (listed : Array Bool) (a : Act) (w : World), wpAnyI P md ops Q C z fuel listed a w → wpAny P md ops Q fuel listed a w
  | 0, _, _, _, h => h
  | fuel + 1, _, _, _, h => ⟨h.1, fun i hi => wpOp_mono (fun a' w' h' => wpAny_of_I fuel _ a' w' h'.2) (h.2 i hi)⟩

theorem listed_of {listed : Array Bool} {i : Nat} (h : listed.getD i true = false) : listed.getD i false = false := by
  rcases Nat.lt_or_ge i listed.size with h' | h'
  · simp [h'] at h ⊢; exact h
  · simp [Array.getElem?_eq_none h'] at h
theorem listed_in {listed : Array Bool} {i : Nat} (hi : i < listed.size) (h : listed.getD i false = false) : listed.getD i true = false := by
  simp [hi] at h ⊢; exact h

/-- An operation that may come up, yields its value in every world that meets C, and that z waits for, may be taken first. -/
theorem wpAnyI_first {z i : Nat} {oi : Oper} {v : Value} (hi : ops[i]? = some oi) (hsel : ∀ (j : Nat) (o : Oper) cs b, ops[j]? = some o → o.op ≠ .select cs b)
    (hQ : ∀ c a w, Q (.panic c) (a.put oi.dst v) w → Q (.panic c) a w) (hzi : z ≠ i) (hz : ∀ oz, ops[z]? = some oz → ∃ e ∈ oz.after, Region.binds md e = true ∧ e.on = i) :
    ∀ (fuel : Nat) (listed : Array Bool) (a : Act) (w : World),
      (∀ j oj, ops[j]? = some oj → j ≠ i → listed.getD j true = false → (∀ e ∈ oj.after, Region.binds md e = true → e.on ≠ i) → oi.apart ops oj = true) →
      i ∈ Region.ready md ops listed → listed.getD z false = false → YieldsIf P ops C oi v a → C w →
      wpAnyI P md ops Q C z fuel (listed.setIfInBounds i true) (a.put oi.dst v) w → wpAnyI P md ops Q C z (fuel + 1) listed a w := by
  intro fuel
  induction fuel with
  | zero =>
    intro listed a w _ hr hzl hy hS H
    refine ⟨fun h => (by rw [h] at hr; cases hr), fun j hj => ?_⟩
    by_cases hji : j = i
    · subst hji; exact hy.wpOp hi hS ⟨.inr hS, H⟩
    · have := ready_mono hj hji
      rw [H.1] at this
      cases this
  | succ fuel ih =>
    intro listed a w hfree hr hzl hy hS H
    refine ⟨fun h => (by rw [h] at hr; cases hr), fun j hj => ?_⟩
    by_cases hji : j = i
    · subst hji; exact hy.wpOp hi hS ⟨.inr hS, H⟩
    · have h1 := H.2 j (ready_mono hj hji)
      obtain ⟨hjun, oj, hoj, hall⟩ := mem_ready.1 hj
      have h0i := (mem_ready.1 hr).1
      have hnot : ∀ e ∈ oj.after, Region.binds md e = true → e.on ≠ i := fun e he hb heq => by
        have h1 := hall e he hb
        rw [heq, listed_of h0i] at h1
        cases h1
      have hjz : j ≠ z := by
        rintro rfl
        obtain ⟨e, he, hb, hon⟩ := hz oj hoj
        exact hnot e he hb hon
      have h2 := wpOp_putIf hoj (hfree j oj hoj hji hjun hnot) (fun cs b => hsel i oi cs b hi) (fun cs b => hsel j oj cs b hoj) hQ hy h1
      have hfree' : ∀ k ok, ops[k]? = some ok → k ≠ i → (listed.setIfInBounds j true).getD k true = false →
          (∀ e ∈ ok.after, Region.binds md e = true → e.on ≠ i) → oi.apart ops ok = true := fun k ok hk hki hun hno => by
        refine hfree k ok hk hki ?_ hno
        by_cases hjk : j = k
        · subst hjk; exact hjun
        · rw [getD_set_ne true hjk] at hun; exact hun
      have hzl' : (listed.setIfInBounds j true).getD z false = false := by rw [getD_set_ne false hjz]; exact hzl
      have hzl'' : ((listed.setIfInBounds i true).setIfInBounds j true).getD z false = false := by
        rw [getD_set_ne false hjz, getD_set_ne false (Ne.symm hzi)]; exact hzl
      refine wpOp_mono (fun a' w' h3 => ?_) h2
      have hC : C w' := by
        rcases h3.2.1 with h | h
        · rw [hzl''] at h; cases h
        · exact h
      refine ⟨.inr hC, ih (listed.setIfInBounds j true) a' w' hfree' (ready_mono hr (Ne.symm hji)) hzl' h3.1 hC ?_⟩
      rw [Array.setIfInBounds_comm _ _ hji]
      exact h3.2.2

theorem wpAnyI_force {z i : Nat} {fuel : Nat} {listed : Array Bool} {a : Act} {w : World} (hr : Region.ready md ops listed = [i])
    (h : wpOp P ops Q i (fun a' w' => ((listed.setIfInBounds i true).getD z false = true ∨ C w') ∧ wpAnyI P md ops Q C z fuel (listed.setIfInBounds i true) a' w') a w) : wpAnyI P md ops Q C z (fuel + 1) listed a w :=
  ⟨fun h0 => (by rw [hr] at h0; cases h0), fun j hj => by
    rw [hr, List.mem_singleton] at hj
    subst hj
    exact h⟩
theorem wpAnyI_done {z : Nat} {listed : Array Bool} {a : Act} {w : World} (hr : Region.ready md ops listed = []) (h : Q .normal a w) :
    ∀ fuel, wpAnyI P md ops Q C z fuel listed a w
  | 0 => ⟨hr, h⟩
  | _ + 1 => ⟨fun _ => h, by rw [hr]; simp⟩

end

/-! ### Operations that yield a value, or halt -/
def Only {α : Type} (R : α → Prop) : Sem α → Prop
  | .pure a => R a
  | .load _ _ k => ∀ v, Only R (k v)
  | .store _ _ _ k => Only R k
  | .new _ k => ∀ r, Only R (k r)
  | .shape _ k => ∀ s, Only R (k s)
  | .freeze _ _ k => Only R k
  | .frozen _ k => ∀ b, Only R (k b)
  | .getObj _ k => ∀ o, Only R (k o)
  | .setObj _ _ k => Only R k
  | .choose _ k => ∀ n, Only R (k n)
  | .sys _ k => ∀ r, Only R (k r)
  | .program k => ∀ p, Only R (k p)
  | .mark _ k => Only R k
  | .halt _ => True
theorem only_bind {α β : Type} {R : β → Prop} {f : α → Sem β} (h : ∀ a, Only R (f a)) : ∀ e : Sem α, Only R (e >>= f)
  | .pure a => h a
  | .load _ _ k => fun v => only_bind h (k v)
  | .store _ _ _ k => only_bind h k
  | .new _ k => fun v => only_bind h (k v)
  | .shape _ k => fun v => only_bind h (k v)
  | .freeze _ _ k => only_bind h k
  | .frozen _ k => fun v => only_bind h (k v)
  | .getObj _ k => fun v => only_bind h (k v)
  | .setObj _ _ k => only_bind h k
  | .choose _ k => fun v => only_bind h (k v)
  | .sys _ k => fun v => only_bind h (k v)
  | .program k => fun v => only_bind h (k v)
  | .mark _ k => only_bind h k
  | .halt _ => trivial
theorem only_run {α : Type} {R : α → Prop} {P : Program} : ∀ (e : Sem α) (w w' : World) (a : α), Only R e → e.run P w = .ok a w' → R a := by
  intro e
  induction e with
  | pure a => intro w w' b h hr; simp only [Sem.run] at hr; injection hr with h1 _; subst h1; exact h
  | load m a k ih =>
    intro w w' b h hr
    simp only [Sem.run] at hr
    split at hr
    · exact ih _ _ _ _ (h _) hr
    · split at hr
      · exact ih _ _ _ _ (h _) hr
      · cases hr
  | store m a v k ih =>
    intro w w' b h hr
    cases v <;> simp only [Sem.run] at hr <;> first
      | (cases hr; done)
      | (split at hr
         · split at hr
           · cases hr
           · exact ih _ _ _ h hr
         · split at hr
           · exact ih _ _ _ h hr
           · cases hr)
  | new o k ih => intro w w' b h hr; exact ih _ _ _ _ (h _) hr
  | shape r k ih => intro w w' b h hr; exact ih _ _ _ _ (h _) hr
  | freeze a n k ih => intro w w' b h hr; exact ih _ _ _ h hr
  | frozen a k ih => intro w w' b h hr; exact ih _ _ _ _ (h _) hr
  | getObj r k ih =>
    intro w w' b h hr
    simp only [Sem.run] at hr
    split at hr
    · cases hr
    · exact ih _ _ _ _ (h _) hr
    · cases hr
  | setObj r o k ih =>
    intro w w' b h hr
    simp only [Sem.run] at hr
    split at hr
    · cases hr
    · exact ih _ _ _ h hr
    · cases hr
  | choose q k ih =>
    intro w w' b h hr
    simp only [Sem.run] at hr
    split at hr
    · exact ih _ _ _ _ (h _) hr
    · exact ih _ _ _ _ (h _) hr
  | sys c k ih => intro w w' b h hr; exact ih _ _ _ _ (h _) hr
  | program k ih => intro w w' b h hr; exact ih _ _ _ _ (h _) hr
  | mark m k ih => intro w w' b h hr; exact ih _ _ _ h hr
  | halt x => intro w w' b h hr; cases hr

def IsValue (n : Next) : Prop := ∃ v, n = .value v
def valued : Op → Bool
  | .move _ | .assign _ | .pick .. | .load .. | .nilCheck _ | .binOp .. | .unOp .. | .convert .. | .makeInterface .. | .slice .. | .fieldAddr .. | .field .. | .indexAddr .. | .index .. | .lookup .. | .typeAssert .. | .extract .. => true
  | .call { callee := .builtin .len, .. } | .call { callee := .builtin .cap, .. } | .call { callee := .builtin .min, .. } | .call { callee := .builtin .max, .. } => true
  | _ => false
theorem only_v (s : Sem Value) : Only IsValue (do pure (.value (← s)) : Sem Next) := only_bind (R := IsValue) (f := fun v => pure (.value v)) (fun v => (⟨v, rfl⟩ : IsValue (.value v))) s
theorem only_panic {α : Type} (R : α → Prop) (x : RuntimeError) : Only R (runtimePanic x : Sem α) := by
  unfold runtimePanic
  refine only_bind (R := R) (fun p => ?_) _
  cases x <;> first
    | trivial
    | (refine only_bind (R := R) (fun _ => ?_) _; refine only_bind (R := R) (fun _ => ?_) _; exact trivial)
theorem only_pure {α : Type} {R : α → Prop} {a : α} (h : R a) : Only R (pure a : Sem α) := h
theorem is_value (v : Value) : IsValue (.value v) := ⟨v, rfl⟩
theorem only_valued {ρ : Operand → Value} {o : Oper} (h : valued o.op = true) : Only IsValue (execOp ρ o) := by
  obtain ⟨dst, op, type, pos, after, guard⟩ := o
  cases op <;> first
    | (simp [valued] at h; done)
    | exact only_v _
    | exact ⟨_, rfl⟩
    | skip
  case pick c a b => exact only_bind (R := IsValue) (fun t => only_pure (is_value _)) _
  case nilCheck x =>
    show Only IsValue (match ρ x with
      | .pointer none | .nilIface | .nilFunc => runtimePanic .nilDeref
      | .func (.method name) first captured => _
      | x => _)
    split
    · exact only_panic _ _
    · exact only_panic _ _
    · exact only_panic _ _
    · split
      · exact only_panic _ _
      · refine only_bind (R := IsValue) (fun p => ?_) _
        refine only_bind (R := IsValue) (fun q => ?_) _
        split
        · exact only_bind (R := IsValue) (fun q => only_pure (is_value _)) _
        · exact ⟨_, rfl⟩
      · exact ⟨_, rfl⟩
    · exact ⟨_, rfl⟩
  case call c =>
    obtain ⟨callee, args, argTypes⟩ := c
    cases callee <;> simp [valued] at h
    rename_i b
    cases b <;> simp [valued] at h
    all_goals exact only_v _

section
variable {P : Program} {ops : Array Oper} {Q : Exit → Act → World → Prop} {md : Region.Mode} {C : World → Prop}

theorem yieldsIf_of_quiet {o : Oper} {a : Act} {K : Act → Prop} (hv : valued o.op = true) (h : if Region.wanted o (yielded ops a.tmps) then o.quiet P a C K else K (a.put o.dst undef)) :
    ∃ v, YieldsIf P ops C o v a ∧ K (a.put o.dst v) := by
  by_cases hw : Region.wanted o (yielded ops a.tmps) = true
  · simp only [hw, if_true] at h
    obtain ⟨v, h1, h2⟩ := h
    refine ⟨v, .inl ⟨hw, fun w hC => ?_⟩, h2⟩
    have h3 := h1 w hC
    have hon : ∀ w' n, (execOp a.eval o).run P w = .ok n w' → IsValue n := fun w' n hr => only_run _ w w' n (only_valued hv) hr
    unfold Oper.quietAt at h3
    generalize (execOp a.eval o).run P w = r at *
    cases r with
    | ok n w' =>
      obtain ⟨u, rfl⟩ := hon w' n rfl
      simp only [Oper.quietUpon] at h3
      rw [h3.1, h3.2]
    | halt x w' => exact h3.elim
  · simp only [hw] at h
    exact ⟨undef, .inr ⟨by simpa using hw, rfl⟩, h⟩

/-! ### The plan: a number for each operation: 0 a read that is taken first · 1 ahead of z: C is shown behind it · 2 from z on -/
def sel (q : Nat) : List Oper → List Nat → List Oper
  | o :: l, p :: m => if p = q then o :: sel q l m else sel q l m
  | _, _ => []

def check0 (md : Region.Mode) (ops : Array Oper) (z : Nat) : List Nat → Nat → Array Bool → Bool
  | [], _, _ => true
  | p :: m, k, listed =>
    if p = 0 then
      ((ops[k]?).map fun o => valued o.op).getD false && (Region.ready md ops listed).contains k && Region.free md ops listed k && z != k && !listed.getD z false &&
        (match ops[z]? with | some oz => oz.after.any fun e => Region.binds md e && e.on == k | none => true) && check0 md ops z m (k + 1) (listed.setIfInBounds k true)
    else check0 md ops z m (k + 1) listed
def mark0 : List Nat → Nat → Array Bool → Array Bool
  | [], _, listed => listed
  | p :: m, k, listed => if p = 0 then mark0 m (k + 1) (listed.setIfInBounds k true) else mark0 m (k + 1) listed
def count (q : Nat) : List Nat → Nat
  | [] => 0
  | p :: m => if p = q then count q m + 1 else count q m

theorem phase0 (hs : Region.noSelect ops = true) (hQ : ∀ c a d v w, Q (.panic c) (Act.put a d v) w → Q (.panic c) a w) {z : Nat} {w : World} (hC : C w) {K : Act → Prop} {f : Nat} : ∀ (l : List Oper) (m : List Nat) (k : Nat) (listed : Array Bool) (a : Act), m.length = l.length → (∀ j, l[j]? = ops[k + j]?) →
    check0 md ops z m k listed = true → wpQuiet P ops C K (sel 0 l m) a → (∀ a', K a' → wpAnyI P md ops Q C z f (mark0 m k listed) a' w) → wpAnyI P md ops Q C z (count 0 m + f) listed a w
  | [], [], k, listed, a, _, _, _, h, hK => by
    simpa [count, mark0] using hK a h
  | o :: l, p :: m, k, listed, a, hml, hl, hB, h, hK => by
    have h0 : ops[k]? = some o := by simpa using (hl 0).symm
    have hl' : ∀ j, l[j]? = ops[k + 1 + j]? := fun j => by have := hl (j + 1); simpa [Nat.add_assoc, Nat.add_comm 1 j] using this
    have hml' : m.length = l.length := by simpa using hml
    by_cases hp : p = 0
    · subst hp
      simp only [check0, if_true, Bool.and_eq_true] at hB
      obtain ⟨⟨⟨⟨⟨⟨hval, hr⟩, hf⟩, hzk⟩, hzl⟩, hze⟩, hB'⟩ := hB
      simp only [sel, if_true] at h
      simp only [count, mark0, if_true] at hK ⊢
      obtain ⟨v, hy, hrest⟩ := yieldsIf_of_quiet (by simpa [h0] using hval) h
      rw [Nat.add_right_comm]
      refine wpAnyI_first h0 (Region.noSelect_spec hs) (fun c a w => hQ c a _ _ w) (by simpa using hzk) (fun oz hoz => ?_) _ listed a w (Region.free_spec h0 hf) (by simpa using hr) (by simpa using hzl) hy hC ?_
      · rw [hoz] at hze
        obtain ⟨e, he, hb⟩ := Array.any_eq_true'.1 hze
        simp only [Bool.and_eq_true, beq_iff_eq] at hb
        exact ⟨e, he, hb.1, hb.2⟩
      · exact phase0 hs hQ hC l m (k + 1) _ _ hml' hl' hB' hrest hK
    · simp only [check0, if_neg hp] at hB
      simp only [sel, if_neg hp] at h
      simp only [count, mark0, if_neg hp] at hK ⊢
      exact phase0 hs hQ hC l m (k + 1) _ _ hml' hl' hB h hK
  | [], _ :: _, _, _, _, hml, _, _, _, _ => by simp at hml
  | _ :: _, [], _, _, _, hml, _, _, _, _ => by simp at hml

/-- Ahead of z: one by one: 'force': C is shown behind it; 'take': a read, in every world of C. -/
def selE (q q' : Nat) : List Oper → List Nat → List (Bool × Oper)
  | o :: l, p :: m => if p = q then (false, o) :: selE q q' l m else if p = q' then (true, o) :: selE q q' l m else selE q q' l m
  | _, _ => []
def wpE (P : Program) (ops : Array Oper) (C : World → Prop) (K : Act → World → Prop) : List (Bool × Oper) → Act → World → Prop
  | [], a, w => K a w
  | (false, o) :: rest, a, w => wpList P ops (Exit.then (fun a' w' => C w' ∧ wpE P ops C K rest a' w') NoQ) [o] a w
  | (true, o) :: rest, a, w => wpQuiet P ops C (fun a' => wpE P ops C K rest a' w) [o] a

theorem wpE_cons {K : Act → World → Prop} {o : Oper} {rest : List (Bool × Oper)} {a : Act} {w : World} (h : ∀ N : Act → World → Prop, (∀ a w, C w → wpE P ops C K rest a w → N a w) → wpList P ops (Exit.then N NoQ) [o] a w) : wpE P ops C K ((false, o) :: rest) a w :=
  h _ fun _ _ h1 h2 => ⟨h1, h2⟩
theorem wpE_take {K : Act → World → Prop} {o : Oper} {rest : List (Bool × Oper)} {a : Act} {w : World} (h : ∀ N : Act → Prop, (∀ a, wpE P ops C K rest a w → N a) → wpQuiet P ops C N [o] a) : wpE P ops C K ((true, o) :: rest) a w :=
  h _ fun _ h => h
theorem wpE_nil {K : Act → World → Prop} {a : Act} {w : World} (h : K a w) : wpE P ops C K [] a w := h
def check1 (md : Region.Mode) (ops : Array Oper) (z q q' : Nat) : List Nat → Nat → Array Bool → Bool
  | [], _, _ => true
  | p :: m, k, listed =>
    if p = q then Region.ready md ops listed == [k] && check1 md ops z q q' m (k + 1) (listed.setIfInBounds k true)
    else if p = q' then
      ((ops[k]?).map fun o => valued o.op).getD false && (Region.ready md ops listed).contains k && Region.free md ops listed k && z != k && !listed.getD z false &&
        (match ops[z]? with | some oz => oz.after.any fun e => Region.binds md e && e.on == k | none => true) && check1 md ops z q q' m (k + 1) (listed.setIfInBounds k true)
    else check1 md ops z q q' m (k + 1) listed
def markq (q q' : Nat) : List Nat → Nat → Array Bool → Array Bool
  | [], _, listed => listed
  | p :: m, k, listed => if p = q then markq q q' m (k + 1) (listed.setIfInBounds k true) else if p = q' then markq q q' m (k + 1) (listed.setIfInBounds k true) else markq q q' m (k + 1) listed
def count2 (q q' : Nat) : List Nat → Nat
  | [] => 0
  | p :: m => if p = q then count2 q q' m + 1 else if p = q' then count2 q q' m + 1 else count2 q q' m

theorem wpOp_of_list {k : Nat} {o : Oper} (h0 : ops[k]? = some o) {K K' : Act → World → Prop} {a : Act} {w : World} (h : wpList P ops (Exit.then K NoQ) [o] a w) (hK : ∀ a w, K a w → K' a w) (Q : Exit → Act → World → Prop) : wpOp P ops Q k K' a w := by
  unfold wpList at h
  unfold wpOp
  simp only [h0]
  split
  · rename_i hw
    simp only [hw, if_true] at h
    rcases h with h | ⟨_, a', w', hl⟩
    · refine .inl ?_
      unfold Oper.wp at *
      generalize (execOp a.eval o).run P w = r at *
      cases r with
      | ok n w' =>
        cases n <;> simp only [Oper.upon] at h ⊢ <;> first
          | exact hK _ _ h
          | exact Calls.mono h (fun e w'' he => by
              cases e with
              | returned v => exact hK _ _ he
              | panicked c => exact (he : False).elim
              | outgrown => obtain ⟨a', w', hl⟩ := he; exact (hl : False).elim)
          | exact Rows.mono h (fun _ _ he => hK _ _ he)
      | halt x w' => cases x <;> simp only [Oper.upon] at h ⊢ <;> first | exact (h : False).elim | exact h
    · exact (hl : False).elim
  · rename_i hw
    simp only [hw] at h
    exact hK _ _ h

theorem phase1 (hs : Region.noSelect ops = true) (hQ : ∀ c a d v w, Q (.panic c) (Act.put a d v) w → Q (.panic c) a w) {z q q' : Nat} {K : Act → World → Prop} {f : Nat} : ∀ (l : List Oper) (m : List Nat) (k : Nat) (listed : Array Bool) (a : Act) (w : World), m.length = l.length → (∀ j, l[j]? = ops[k + j]?) →
    check1 md ops z q q' m k listed = true → C w → wpE P ops C K (selE q q' l m) a w → (∀ a' w', C w' → K a' w' → wpAnyI P md ops Q C z f (markq q q' m k listed) a' w') → wpAnyI P md ops Q C z (count2 q q' m + f) listed a w
  | [], [], k, listed, a, w, _, _, _, hC, h, hK => by simpa [count2, markq] using hK a w hC h
  | o :: l, p :: m, k, listed, a, w, hml, hl, hB, hC, h, hK => by
    have h0 : ops[k]? = some o := by simpa using (hl 0).symm
    have hl' : ∀ j, l[j]? = ops[k + 1 + j]? := fun j => by have := hl (j + 1); simpa [Nat.add_assoc, Nat.add_comm 1 j] using this
    have hml' : m.length = l.length := by simpa using hml
    by_cases hp : p = q
    · subst hp
      simp only [check1, if_true, Bool.and_eq_true, beq_iff_eq] at hB
      simp only [selE, if_true] at h
      simp only [count2, markq, if_true] at hK ⊢
      rw [Nat.add_right_comm]
      refine wpAnyI_force hB.1 ?_
      refine wpOp_of_list h0 (K := fun a' w' => C w' ∧ wpE P ops C K (selE p q' l m) a' w') h (fun a' w' h' => ⟨.inr h'.1, ?_⟩) Q
      exact phase1 hs hQ l m (k + 1) _ _ _ hml' hl' hB.2 h'.1 h'.2 hK
    · by_cases hp' : p = q'
      · subst hp'
        simp only [check1, if_neg hp, if_true, Bool.and_eq_true] at hB
        obtain ⟨⟨⟨⟨⟨⟨hval, hr⟩, hf⟩, hzk⟩, hzl⟩, hze⟩, hB'⟩ := hB
        simp only [selE, if_neg hp, if_true] at h
        simp only [count2, markq, if_neg hp, if_true] at hK ⊢
        obtain ⟨v, hy, hrest⟩ := yieldsIf_of_quiet (o := o) (by simpa [h0] using hval) (show if _ then _ else _ from h)
        rw [Nat.add_right_comm]
        refine wpAnyI_first h0 (Region.noSelect_spec hs) (fun c a w => hQ c a _ _ w) (by simpa using hzk) (fun oz hoz => ?_) _ listed a w (Region.free_spec h0 hf) (by simpa using hr) (by simpa using hzl) hy hC ?_
        · rw [hoz] at hze
          obtain ⟨e, he, hb⟩ := Array.any_eq_true'.1 hze
          simp only [Bool.and_eq_true, beq_iff_eq] at hb
          exact ⟨e, he, hb.1, hb.2⟩
        · exact phase1 hs hQ l m (k + 1) _ _ _ hml' hl' hB' hC hrest hK
      · simp only [check1, if_neg hp, if_neg hp'] at hB
        simp only [selE, if_neg hp, if_neg hp'] at h
        simp only [count2, markq, if_neg hp, if_neg hp'] at hK ⊢
        exact phase1 hs hQ l m (k + 1) _ _ _ hml' hl' hB hC h hK
  | [], _ :: _, _, _, _, _, hml, _, _, _, _, _ => by simp at hml
  | _ :: _, [], _, _, _, _, hml, _, _, _, _, _ => by simp at hml

theorem wpOp_of_cons {k : Nat} {o : Oper} {rest : List Oper} (h0 : ops[k]? = some o) {K K' : Act → World → Prop} {a : Act} {w : World} (h : wpList P ops (Exit.then K NoQ) (o :: rest) a w) (hK : ∀ a w, wpList P ops (Exit.then K NoQ) rest a w → K' a w) (Q : Exit → Act → World → Prop) : wpOp P ops Q k K' a w := by
  unfold wpList at h
  unfold wpOp
  simp only [h0]
  split
  · rename_i hw
    simp only [hw, if_true] at h
    rcases h with h | ⟨_, a', w', hl⟩
    · refine .inl ?_
      unfold Oper.wp at *
      generalize (execOp a.eval o).run P w = r at *
      cases r with
      | ok n w' =>
        cases n <;> simp only [Oper.upon] at h ⊢ <;> first
          | exact hK _ _ h
          | exact Calls.mono h (fun e w'' he => by
              cases e with
              | returned v => exact hK _ _ he
              | panicked c => exact (he : False).elim
              | outgrown => obtain ⟨a', w', hl⟩ := he; exact (hl : False).elim)
          | exact Rows.mono h (fun _ _ he => hK _ _ he)
      | halt x w' => cases x <;> simp only [Oper.upon] at h ⊢ <;> first | exact (h : False).elim | exact h
    · exact (hl : False).elim
  · rename_i hw
    simp only [hw] at h
    exact hK _ _ h

def mark2 : List Nat → Nat → Array Bool → Array Bool
  | [], _, listed => listed
  | p :: m, k, listed => if p = 2 then mark2 m (k + 1) (listed.setIfInBounds k true) else mark2 m (k + 1) listed
def check2 (md : Region.Mode) (ops : Array Oper) (z : Nat) : List Nat → Nat → Array Bool → Bool
  | [], _, _ => true
  | p :: m, k, listed => if p = 2 then Region.ready md ops listed == [k] && (listed.setIfInBounds k true).getD z false && check2 md ops z m (k + 1) (listed.setIfInBounds k true) else check2 md ops z m (k + 1) listed

theorem phase2 {z : Nat} {K : Act → World → Prop} {f : Nat} : ∀ (l : List Oper) (m : List Nat) (k : Nat) (listed : Array Bool) (a : Act) (w : World), m.length = l.length → (∀ j, l[j]? = ops[k + j]?) →
    check2 md ops z m k listed = true → wpList P ops (Exit.then K NoQ) (sel 2 l m) a w → (∀ a' w', K a' w' → wpAnyI P md ops Q C z f (mark2 m k listed) a' w') → wpAnyI P md ops Q C z (count 2 m + f) listed a w
  | [], [], k, listed, a, w, _, _, _, h, hK => by simpa [count, mark2] using hK a w h
  | o :: l, p :: m, k, listed, a, w, hml, hl, hB, h, hK => by
    have h0 : ops[k]? = some o := by simpa using (hl 0).symm
    have hl' : ∀ j, l[j]? = ops[k + 1 + j]? := fun j => by have := hl (j + 1); simpa [Nat.add_assoc, Nat.add_comm 1 j] using this
    have hml' : m.length = l.length := by simpa using hml
    by_cases hp : p = 2
    · subst hp
      simp only [check2, if_true, Bool.and_eq_true, beq_iff_eq] at hB
      simp only [sel, if_true] at h
      simp only [count, mark2, if_true] at hK ⊢
      rw [Nat.add_right_comm]
      refine wpAnyI_force hB.1.1 ?_
      refine wpOp_of_cons h0 h (fun a' w' h' => ⟨.inl hB.1.2, ?_⟩) Q
      exact phase2 l m (k + 1) _ _ _ hml' hl' hB.2 h' hK
    · simp only [check2, if_neg hp] at hB
      simp only [sel, if_neg hp] at h
      simp only [count, mark2, if_neg hp] at hK ⊢
      exact phase2 l m (k + 1) _ _ _ hml' hl' hB h hK
  | [], _ :: _, _, _, _, _, hml, _, _, _, _ => by simp at hml
  | _ :: _, [], _, _, _, _, hml, _, _, _, _ => by simp at hml

def planB (ops : Array Oper) (m : List Nat) : Bool :=
  let z := m.findIdx (· == 2)
  let l0 := Array.replicate ops.size false
  let l1 := mark0 m 0 l0
  let l2 := markq 1 3 m 0 l1
  m.length == ops.size && Region.noSelect ops && check0 .any ops z m 0 l0 && check1 .any ops z 1 3 m 0 l1 && check2 .any ops z m 0 l2 && (Region.ready .any ops (mark2 m 0 l2)).isEmpty && (count 0 m + (count2 1 3 m + (count 2 m + 0)) == ops.size)

/-- 0: a read that is taken first · 1: C is shown behind it · 3: a read that waits for such a one · 2: from z on. -/
theorem wp_region_plan {id : Nat} {l : List Oper} {a : Act} {w : World} (m : List Nat) (C : World → Prop) (hm : P.follows .mixedOrders = true) (hB : planB l.toArray m = true) (hC : C w.drew)
    (h : wpQuiet P l.toArray C (fun a0 => wpE P l.toArray C (fun a1 w1 => wpList P l.toArray (Exit.then (Q .normal) NoQ) (sel 2 l m) a1 w1) (selE 1 3 l m) a0 w.drew) (sel 0 l m) a) :
    (Code.region id l.toArray true).wp P Q a w := by
  refine Code.wp_mono (Q := fun e a w => e = .normal ∧ Q .normal a w) (fun e a w h => by obtain ⟨rfl, h⟩ := h; exact h) ?_
  refine wp_region_any hm (wpAny_of_I (C := C) (z := m.findIdx (· == 2)) _ _ _ _ ?_)
  simp only [planB, Bool.and_eq_true, beq_iff_eq] at hB
  obtain ⟨⟨⟨⟨⟨⟨hlen, hs⟩, h0⟩, h1⟩, h2⟩, hr⟩, hc⟩ := hB
  have hll : m.length = l.length := by simpa using hlen
  have hat : ∀ j, l[j]? = l.toArray[0 + j]? := fun j => by simp
  refine (fun (g : wpAnyI P .any l.toArray (fun e a w => e = .normal ∧ Q .normal a w) C (m.findIdx (· == 2)) (count 0 m + (count2 1 3 m + (count 2 m + 0))) (Array.replicate l.toArray.size false) a w.drew) => by rw [hc] at g; exact g) ?_
  refine phase0 hs (fun c a d v w h => (by cases h.1)) hC l m 0 _ a hll hat h0 h (fun a0 h' => ?_)
  refine phase1 hs (fun c a d v w h => (by cases h.1)) l m 0 _ a0 _ hll hat h1 hC h' (fun a1 w1 _ h'' => ?_)
  refine phase2 l m 0 _ a1 w1 hll hat h2 h'' (fun a2 w2 h3 => ?_)
  exact wpAnyI_done (by simpa using hr) ⟨rfl, h3⟩ 0

def planB2 (ops : Array Oper) (m : List Nat) : Bool :=
  let z := m.findIdx (· == 2)
  let l0 := Array.replicate ops.size false
  let l1 := mark0 m 0 l0
  let l2 := markq 1 3 m 0 l1
  let l3 := markq 5 6 m 0 l2
  m.length == ops.size && Region.noSelect ops && check0 .any ops z m 0 l0 && check1 .any ops z 1 3 m 0 l1 && check1 .any ops z 5 6 m 0 l2 && check2 .any ops z m 0 l3 && (Region.ready .any ops (mark2 m 0 l3)).isEmpty && (count 0 m + (count2 1 3 m + (count2 5 6 m + (count 2 m + 0))) == ops.size)

/-- Two passes: 1 and 3, then 5 and 6. -/
theorem wp_region_plan2 {id : Nat} {l : List Oper} {a : Act} {w : World} (m : List Nat) (C : World → Prop) (hm : P.follows .mixedOrders = true) (hB : planB2 l.toArray m = true) (hC : C w.drew)
    (h : wpQuiet P l.toArray C (fun a0 => wpE P l.toArray C (fun a1 w1 => wpE P l.toArray C (fun a2 w2 => wpList P l.toArray (Exit.then (Q .normal) NoQ) (sel 2 l m) a2 w2) (selE 5 6 l m) a1 w1) (selE 1 3 l m) a0 w.drew) (sel 0 l m) a) :
    (Code.region id l.toArray true).wp P Q a w := by
  refine Code.wp_mono (Q := fun e a w => e = .normal ∧ Q .normal a w) (fun e a w h => by obtain ⟨rfl, h⟩ := h; exact h) ?_
  refine wp_region_any hm (wpAny_of_I (C := C) (z := m.findIdx (· == 2)) _ _ _ _ ?_)
  simp only [planB2, Bool.and_eq_true, beq_iff_eq] at hB
  obtain ⟨⟨⟨⟨⟨⟨⟨hlen, hs⟩, h0⟩, h1⟩, h1'⟩, h2⟩, hr⟩, hc⟩ := hB
  have hll : m.length = l.length := by simpa using hlen
  have hat : ∀ j, l[j]? = l.toArray[0 + j]? := fun j => by simp
  refine (fun (g : wpAnyI P .any l.toArray (fun e a w => e = .normal ∧ Q .normal a w) C (m.findIdx (· == 2)) (count 0 m + (count2 1 3 m + (count2 5 6 m + (count 2 m + 0)))) (Array.replicate l.toArray.size false) a w.drew) => by rw [hc] at g; exact g) ?_
  refine phase0 hs (fun c a d v w h => (by cases h.1)) hC l m 0 _ a hll hat h0 h (fun a0 h' => ?_)
  refine phase1 hs (fun c a d v w h => (by cases h.1)) l m 0 _ a0 _ hll hat h1 hC h' (fun a1 w1 hC1 h'' => ?_)
  refine phase1 hs (fun c a d v w h => (by cases h.1)) l m 0 _ a1 _ hll hat h1' hC1 h'' (fun a2 w2 _ h3 => ?_)
  refine phase2 l m 0 _ a2 w2 hll hat h2 h3 (fun a3 w3 h4 => ?_)
  exact wpAnyI_done (by simpa using hr) ⟨rfl, h4⟩ 0
end

/-! ### The worlds of a plan: w, but for the blocks in S and new blocks -/
structure Same (S : Foot) (w : World) where
  world : World
  block : ∀ k, k < w.heap.size → ¬ S k → world.heap[k]? = w.heap[k]?
instance {S : Foot} {w : World} : Nonempty (Same S w) := ⟨⟨w, fun _ _ _ => rfl⟩⟩
def InSame (S : Foot) (w w' : World) : Prop := ∃ D : Same S w, w' = D.world
theorem InSame.start {S : Foot} {w : World} : InSame S w w.drew := ⟨⟨w.drew, fun _ _ _ => rfl⟩, rfl⟩
theorem InSame.of_keeps {S : Foot} {w w' : World} (h : Keeps S w w') : InSame S w w' := ⟨⟨w', h.block⟩, rfl⟩
theorem InSame.of_below {S : Foot} {w w' : World} (h : Below w.heap.size w w') : InSame S w w' := ⟨⟨w', fun k hk _ => h.block k hk⟩, rfl⟩
theorem Same.cell {S : Foot} {w : World} (D : Same S w) (a : Addr) (h : a.block < w.heap.size) (hS : ¬ S a.block) : D.world.cell? a = w.cell? a := World.cell?_of_block (D.block _ h hS)
theorem Same.frozen {S : Foot} {w : World} (D : Same S w) (a : Addr) (h : a.block < w.heap.size) (hS : ¬ S a.block) : D.world.frozen? a = w.frozen? a := World.frozen?_of_block (D.block _ h hS)
end Go.Proofs.Ytikpbhhnllchmaa
