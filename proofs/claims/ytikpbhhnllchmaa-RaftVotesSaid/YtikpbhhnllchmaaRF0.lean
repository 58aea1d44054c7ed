/- raft.Raft in memory: what it holds. -/
import Derived.Test.YtikpbhhnllchmaaLC
import Derived.Test.YtikpbhhnllchmaaLD
import Derived.Test.YtikpbhhnllchmaaLE
import Derived.Test.YtikpbhhnllchmaaLF
import Derived.Test.YtikpbhhnllchmaaX
import Derived.RegionTactic
set_option linter.unusedVariables false
set_option linter.unusedSimpArgs false
namespace Go.Proofs.Ytikpbhhnllchmaa
open Go.RowKit

structure RaftS where
  id : Int
  n : Int
  term : Int
  vote : Int
  role : Int
  leader : Int
  commit : Int
  slast : Int
  clock : Int
  log : LogS
  snap : List Int
  yes : List Bool
  next : List Int
  mat : List Int
/-- A node at block rb. Its parts lie apart: p 0 the node, p 1 the log, p 2 the snapshot, p 3 to p 5 the rows. -/
structure RaftIn (W : World) (rb lb : Nat) (p : Nat → Foot) (As : Option Addr) (cs : Nat) (vy vn vm : Value) (s : RaftS) : Prop where
  cells : W.heap[rb]? = some (.cells #[.int .i64 s.id, .int .i64 s.n, .int .i64 s.term, .int .i64 s.vote, .int .i64 s.role, .int .i64 s.leader, .int .i64 s.commit, .int .i64 s.slast, .int .i64 s.clock, .pointer (some ⟨lb, 0, none⟩), .slice As s.snap.length cs, vy, vn, vm] 68 (0, 0))
  p0 : p 0 rb
  log : LogAt W lb (p 1) s.log
  snap : RS (kInt .u8) W (p 2) As s.snap.length s.snap
  snapc : s.snap.length ≤ cs ∧ cs ≤ 9223372036854775807
  yes : OwnS kBool 4 W (p 3) vy s.yes
  next : OwnS (kInt .i64) 3 W (p 4) vn s.next
  mat : OwnS (kInt .i64) 3 W (p 5) vm s.mat
  dis : ∀ i j k, p i k → p j k → i = j
  lt : ∀ i k, p i k → k < W.heap.size
def RaftAt (W : World) (rb : Nat) (F : Foot) (s : RaftS) : Prop := ∃ lb p As cs vy vn vm, RaftIn W rb lb p As cs vy vn vm s ∧ ∀ i k, p i k → F k
/-- Part i becomes G. -/
def repart (p : Nat → Foot) (i : Nat) (G : Foot) : Nat → Foot := fun j => if j = i then G else p j
theorem repart_self (p : Nat → Foot) (i : Nat) (G : Foot) : repart p i G i = G := by unfold repart; rw [if_pos rfl]
theorem repart_ne (p : Nat → Foot) (i j : Nat) (G : Foot) (h : j ≠ i) : repart p i G j = p j := by unfold repart; rw [if_neg h]
theorem repart_all {p : Nat → Foot} {j : Nat} {G : Foot} {Q : Nat → Prop} (h1 : ∀ i k, p i k → Q k) (h2 : ∀ k, G k → Q k) : ∀ i k, repart p j G i k → Q k := fun i k h => by
  unfold repart at h
  split at h
  · exact h2 k h
  · exact h1 i k h
section
variable {W W' : World} {rb lb lb' : Nat} {F G : Foot} {p : Nat → Foot} {As As' : Option Addr} {cs cs' : Nat} {vy vn vm v' : Value} {s s' : RaftS}
theorem RaftIn.rlt (h : RaftIn W rb lb p As cs vy vn vm s) : rb < W.heap.size := h.lt 0 rb h.p0
theorem RaftIn.keep (h : RaftIn W rb lb p As cs vy vn vm s) (hs : W.heap.size ≤ W'.heap.size) (hk : ∀ i k, p i k → W'.heap[k]? = W.heap[k]?) : RaftIn W' rb lb p As cs vy vn vm s :=
  ⟨(hk 0 rb h.p0).trans h.cells, h.p0, h.log.keep hs fun k hf _ => hk 1 k hf, h.snap.keep fun k hf _ => hk 2 k hf, h.snapc, h.yes.keep hs fun k hf _ => hk 3 k hf, h.next.keep hs fun k hf _ => hk 4 k hf, h.mat.keep hs fun k hf _ => hk 5 k hf, h.dis, fun i k hk' => by have := h.lt i k hk'; omega⟩
theorem RaftIn.below (h : RaftIn W rb lb p As cs vy vn vm s) (hb : Below W.heap.size W W') : RaftIn W' rb lb p As cs vy vn vm s := h.keep hb.size fun i k hk => hb.block k (h.lt i k hk)
/-- The node's own cells turn. -/
theorem RaftIn.main (h : RaftIn W rb lb p As cs vy vn vm s) (hs : W.heap.size ≤ W'.heap.size) (hk : ∀ k, k < W.heap.size → k ≠ rb → W'.heap[k]? = W.heap[k]?)
    (hc : W'.heap[rb]? = some (.cells #[.int .i64 s'.id, .int .i64 s'.n, .int .i64 s'.term, .int .i64 s'.vote, .int .i64 s'.role, .int .i64 s'.leader, .int .i64 s'.commit, .int .i64 s'.slast, .int .i64 s'.clock, .pointer (some ⟨lb, 0, none⟩), .slice As s'.snap.length cs, vy, vn, vm] 68 (0, 0)))
    (h1 : s'.log = s.log) (h2 : s'.snap = s.snap) (h3 : s'.yes = s.yes) (h4 : s'.next = s.next) (h5 : s'.mat = s.mat) : RaftIn W' rb lb p As cs vy vn vm s' := by
  have hne : ∀ i k, i ≠ 0 → p i k → W'.heap[k]? = W.heap[k]? := fun i k hi hp => hk k (h.lt i k hp) fun e => hi (h.dis i 0 rb (e ▸ hp) h.p0)
  refine ⟨hc, h.p0, ?_, ?_, ?_, ?_, ?_, ?_, h.dis, fun i k hk' => by have := h.lt i k hk'; omega⟩
  · rw [h1]; exact h.log.keep hs fun k hf _ => hne 1 k (by decide) hf
  · rw [h2]; exact h.snap.keep fun k hf _ => hne 2 k (by decide) hf
  · rw [h2]; exact h.snapc
  · rw [h3]; exact h.yes.keep hs fun k hf _ => hne 3 k (by decide) hf
  · rw [h4]; exact h.next.keep hs fun k hf _ => hne 4 k (by decide) hf
  · rw [h5]; exact h.mat.keep hs fun k hf _ => hne 5 k (by decide) hf
theorem repart_dis (h : RaftIn W rb lb p As cs vy vn vm s) (i : Nat) (G : Foot) (hG : ∀ k, G k → W.heap.size ≤ k ∨ p i k) : ∀ a b k, repart p i G a k → repart p i G b k → a = b := by
  intro a b k ha hb
  unfold repart at ha hb
  by_cases h1 : a = i <;> by_cases h2 : b = i
  · omega
  · rw [if_pos h1] at ha
    rw [if_neg h2] at hb
    rcases hG k ha with hg | hg
    · have := h.lt b k hb; omega
    · rw [h1]; exact h.dis i b k hg hb
  · rw [if_neg h1] at ha
    rw [if_pos h2] at hb
    rcases hG k hb with hg | hg
    · have := h.lt a k ha; omega
    · rw [h2]; exact h.dis a i k ha hg
  · rw [if_neg h1] at ha
    rw [if_neg h2] at hb
    exact h.dis a b k ha hb
theorem repart_lt (h : RaftIn W rb lb p As cs vy vn vm s) (hs : W.heap.size ≤ W'.heap.size) (i : Nat) (G : Foot) (hG : ∀ k, G k → k < W'.heap.size) : ∀ a k, repart p i G a k → k < W'.heap.size := by
  intro a k ha
  unfold repart at ha
  by_cases h1 : a = i
  · rw [if_pos h1] at ha; exact hG k ha
  · rw [if_neg h1] at ha; have := h.lt a k ha; omega
theorem grow_or (h : RaftIn W rb lb p As cs vy vn vm s) (i : Nat) : ∀ k, Grow (p i) W W' k → W.heap.size ≤ k ∨ p i k := fun k hk => by
  rcases hk with hk | hk
  · exact .inr hk
  · exact .inl hk.1
theorem grow_lt (h : RaftIn W rb lb p As cs vy vn vm s) (hs : W.heap.size ≤ W'.heap.size) (i : Nat) : ∀ k, Grow (p i) W W' k → k < W'.heap.size := fun k hk => by
  rcases hk with hk | hk
  · have := h.lt i k hk; omega
  · exact hk.2
/-- The log turns. -/
theorem RaftIn.log' (h : RaftIn W rb lb p As cs vy vn vm s) (hk : Keeps (p 1) W W') {l : LogS} (hl : LogAt W' lb (Grow (p 1) W W') l) : RaftIn W' rb lb (repart p 1 (Grow (p 1) W W')) As cs vy vn vm { s with log := l } := by
  have hne : ∀ i k, i ≠ 1 → p i k → W'.heap[k]? = W.heap[k]? := fun i k hi hp => hk.block k (h.lt i k hp) fun e => hi (h.dis i 1 k hp e)
  have hs := hk.size
  exact ⟨(hne 0 rb (by decide) h.p0).trans h.cells, h.p0, hl, h.snap.keep fun k hf _ => hne 2 k (by decide) hf, h.snapc, h.yes.keep hs fun k hf _ => hne 3 k (by decide) hf, h.next.keep hs fun k hf _ => hne 4 k (by decide) hf, h.mat.keep hs fun k hf _ => hne 5 k (by decide) hf, repart_dis h 1 _ (grow_or h 1), repart_lt h hs 1 _ (grow_lt h hs 1)⟩
/-- Other rows, laid anew or turned; the node's cells as they are then. -/
theorem RaftIn.yes' (h : RaftIn W rb lb p As cs vy vn vm s) (hs : W.heap.size ≤ W'.heap.size) (hk : ∀ k, k < W.heap.size → k ≠ rb → ¬ p 3 k → W'.heap[k]? = W.heap[k]?) {xs : List Bool} {G : Foot} (hG : ∀ k, G k → W.heap.size ≤ k ∨ p 3 k) (ho : OwnS kBool 4 W' G v' xs) (hGl : ∀ k, G k → k < W'.heap.size)
    (hc : W'.heap[rb]? = some (.cells #[.int .i64 s.id, .int .i64 s.n, .int .i64 s.term, .int .i64 s.vote, .int .i64 s.role, .int .i64 s.leader, .int .i64 s.commit, .int .i64 s.slast, .int .i64 s.clock, .pointer (some ⟨lb, 0, none⟩), .slice As s.snap.length cs, v', vn, vm] 68 (0, 0))) : RaftIn W' rb lb (repart p 3 G) As cs v' vn vm { s with yes := xs } := by
  have hne : ∀ i k, i ≠ 0 → i ≠ 3 → p i k → W'.heap[k]? = W.heap[k]? := fun i k h0 hi hp => hk k (h.lt i k hp) (fun e => h0 (h.dis i 0 rb (e ▸ hp) h.p0)) fun e => hi (h.dis i 3 k hp e)
  exact ⟨hc, h.p0, h.log.keep hs fun k hf _ => hne 1 k (by decide) (by decide) hf, h.snap.keep fun k hf _ => hne 2 k (by decide) (by decide) hf, h.snapc, ho, h.next.keep hs fun k hf _ => hne 4 k (by decide) (by decide) hf, h.mat.keep hs fun k hf _ => hne 5 k (by decide) (by decide) hf, repart_dis h 3 _ hG, repart_lt h hs 3 _ hGl⟩
theorem RaftIn.next' (h : RaftIn W rb lb p As cs vy vn vm s) (hs : W.heap.size ≤ W'.heap.size) (hk : ∀ k, k < W.heap.size → k ≠ rb → ¬ p 4 k → W'.heap[k]? = W.heap[k]?) {xs : List Int} {G : Foot} (hG : ∀ k, G k → W.heap.size ≤ k ∨ p 4 k) (ho : OwnS (kInt .i64) 3 W' G v' xs) (hGl : ∀ k, G k → k < W'.heap.size)
    (hc : W'.heap[rb]? = some (.cells #[.int .i64 s.id, .int .i64 s.n, .int .i64 s.term, .int .i64 s.vote, .int .i64 s.role, .int .i64 s.leader, .int .i64 s.commit, .int .i64 s.slast, .int .i64 s.clock, .pointer (some ⟨lb, 0, none⟩), .slice As s.snap.length cs, vy, v', vm] 68 (0, 0))) : RaftIn W' rb lb (repart p 4 G) As cs vy v' vm { s with next := xs } := by
  have hne : ∀ i k, i ≠ 0 → i ≠ 4 → p i k → W'.heap[k]? = W.heap[k]? := fun i k h0 hi hp => hk k (h.lt i k hp) (fun e => h0 (h.dis i 0 rb (e ▸ hp) h.p0)) fun e => hi (h.dis i 4 k hp e)
  exact ⟨hc, h.p0, h.log.keep hs fun k hf _ => hne 1 k (by decide) (by decide) hf, h.snap.keep fun k hf _ => hne 2 k (by decide) (by decide) hf, h.snapc, h.yes.keep hs fun k hf _ => hne 3 k (by decide) (by decide) hf, ho, h.mat.keep hs fun k hf _ => hne 5 k (by decide) (by decide) hf, repart_dis h 4 _ hG, repart_lt h hs 4 _ hGl⟩
theorem RaftIn.mat' (h : RaftIn W rb lb p As cs vy vn vm s) (hs : W.heap.size ≤ W'.heap.size) (hk : ∀ k, k < W.heap.size → k ≠ rb → ¬ p 5 k → W'.heap[k]? = W.heap[k]?) {xs : List Int} {G : Foot} (hG : ∀ k, G k → W.heap.size ≤ k ∨ p 5 k) (ho : OwnS (kInt .i64) 3 W' G v' xs) (hGl : ∀ k, G k → k < W'.heap.size)
    (hc : W'.heap[rb]? = some (.cells #[.int .i64 s.id, .int .i64 s.n, .int .i64 s.term, .int .i64 s.vote, .int .i64 s.role, .int .i64 s.leader, .int .i64 s.commit, .int .i64 s.slast, .int .i64 s.clock, .pointer (some ⟨lb, 0, none⟩), .slice As s.snap.length cs, vy, vn, v'] 68 (0, 0))) : RaftIn W' rb lb (repart p 5 G) As cs vy vn v' { s with mat := xs } := by
  have hne : ∀ i k, i ≠ 0 → i ≠ 5 → p i k → W'.heap[k]? = W.heap[k]? := fun i k h0 hi hp => hk k (h.lt i k hp) (fun e => h0 (h.dis i 0 rb (e ▸ hp) h.p0)) fun e => hi (h.dis i 5 k hp e)
  exact ⟨hc, h.p0, h.log.keep hs fun k hf _ => hne 1 k (by decide) (by decide) hf, h.snap.keep fun k hf _ => hne 2 k (by decide) (by decide) hf, h.snapc, h.yes.keep hs fun k hf _ => hne 3 k (by decide) (by decide) hf, h.next.keep hs fun k hf _ => hne 4 k (by decide) (by decide) hf, ho, repart_dis h 5 _ hG, repart_lt h hs 5 _ hGl⟩
theorem RaftIn.snap' (h : RaftIn W rb lb p As cs vy vn vm s) (hs : W.heap.size ≤ W'.heap.size) (hk : ∀ k, k < W.heap.size → k ≠ rb → ¬ p 2 k → W'.heap[k]? = W.heap[k]?) {xs : List Int} {G : Foot} (hG : ∀ k, G k → W.heap.size ≤ k ∨ p 2 k) (ho : RS (kInt .u8) W' G As' xs.length xs) (hcc : xs.length ≤ cs' ∧ cs' ≤ 9223372036854775807) (hGl : ∀ k, G k → k < W'.heap.size)
    (hc : W'.heap[rb]? = some (.cells #[.int .i64 s.id, .int .i64 s.n, .int .i64 s.term, .int .i64 s.vote, .int .i64 s.role, .int .i64 s.leader, .int .i64 s.commit, .int .i64 s.slast, .int .i64 s.clock, .pointer (some ⟨lb, 0, none⟩), .slice As' xs.length cs', vy, vn, vm] 68 (0, 0))) : RaftIn W' rb lb (repart p 2 G) As' cs' vy vn vm { s with snap := xs } := by
  have hne : ∀ i k, i ≠ 0 → i ≠ 2 → p i k → W'.heap[k]? = W.heap[k]? := fun i k h0 hi hp => hk k (h.lt i k hp) (fun e => h0 (h.dis i 0 rb (e ▸ hp) h.p0)) fun e => hi (h.dis i 2 k hp e)
  exact ⟨hc, h.p0, h.log.keep hs fun k hf _ => hne 1 k (by decide) (by decide) hf, ho, hcc, h.yes.keep hs fun k hf _ => hne 3 k (by decide) (by decide) hf, h.next.keep hs fun k hf _ => hne 4 k (by decide) (by decide) hf, h.mat.keep hs fun k hf _ => hne 5 k (by decide) (by decide) hf, repart_dis h 2 _ hG, repart_lt h hs 2 _ hGl⟩
/-- All that is read of the node itself. -/
theorem RaftIn.facts (h : RaftIn W rb lb p As cs vy vn vm s) : W.cell? ⟨rb, 0, none⟩ = some (.int .i64 s.id) ∧ W.cell? ⟨rb, 1, none⟩ = some (.int .i64 s.n) ∧ W.cell? ⟨rb, 2, none⟩ = some (.int .i64 s.term) ∧ W.cell? ⟨rb, 3, none⟩ = some (.int .i64 s.vote) ∧ W.cell? ⟨rb, 4, none⟩ = some (.int .i64 s.role) ∧ W.cell? ⟨rb, 5, none⟩ = some (.int .i64 s.leader) ∧ W.cell? ⟨rb, 6, none⟩ = some (.int .i64 s.commit) ∧ W.cell? ⟨rb, 7, none⟩ = some (.int .i64 s.slast) ∧ W.cell? ⟨rb, 8, none⟩ = some (.int .i64 s.clock) ∧ W.cell? ⟨rb, 9, none⟩ = some (.pointer (some ⟨lb, 0, none⟩)) ∧ W.cell? ⟨rb, 10, none⟩ = some (.slice As s.snap.length cs) ∧ W.cell? ⟨rb, 11, none⟩ = some vy ∧ W.cell? ⟨rb, 12, none⟩ = some vn ∧ W.cell? ⟨rb, 13, none⟩ = some vm ∧ (∀ j, W.frozen? ⟨rb, j, none⟩ = false) ∧ rb < W.heap.size :=
  ⟨cell_of_row W rb 0 _ _ _ h.cells, cell_of_row W rb 1 _ _ _ h.cells, cell_of_row W rb 2 _ _ _ h.cells, cell_of_row W rb 3 _ _ _ h.cells, cell_of_row W rb 4 _ _ _ h.cells, cell_of_row W rb 5 _ _ _ h.cells, cell_of_row W rb 6 _ _ _ h.cells, cell_of_row W rb 7 _ _ _ h.cells, cell_of_row W rb 8 _ _ _ h.cells, cell_of_row W rb 9 _ _ _ h.cells, cell_of_row W rb 10 _ _ _ h.cells, cell_of_row W rb 11 _ _ _ h.cells, cell_of_row W rb 12 _ _ _ h.cells, cell_of_row W rb 13 _ _ _ h.cells, fun j => frozen_of_row W rb j _ _ h.cells, h.rlt⟩
theorem RaftAt.lt (h : RaftAt W rb F s) : rb < W.heap.size := by obtain ⟨_, _, _, _, _, _, _, h, _⟩ := h; exact h.rlt
theorem RaftAt.fr (h : RaftAt W rb F s) : F rb := by obtain ⟨_, _, _, _, _, _, _, h, hF⟩ := h; exact hF 0 rb h.p0
theorem RaftAt.mono (h : RaftAt W rb F s) (hG : ∀ k, F k → G k) : RaftAt W rb G s := by
  obtain ⟨lb, p, As, cs, vy, vn, vm, h, hF⟩ := h; exact ⟨lb, p, As, cs, vy, vn, vm, h, fun i k hk => hG k (hF i k hk)⟩
theorem RaftAt.below (h : RaftAt W rb F s) (hb : Below W.heap.size W W') : RaftAt W' rb F s := by
  obtain ⟨lb, p, As, cs, vy, vn, vm, h, hF⟩ := h; exact ⟨lb, p, As, cs, vy, vn, vm, h.below hb, hF⟩
theorem RaftAt.keeps {S : Foot} (h : RaftAt W rb F s) (hk : Keeps S W W') (ha : Apart F S) : RaftAt W' rb F s := by
  obtain ⟨lb, p, As, cs, vy, vn, vm, h, hF⟩ := h; exact ⟨lb, p, As, cs, vy, vn, vm, h.keep hk.size fun i k hp => hk.block k (h.lt i k hp) (ha k (hF i k hp)), hF⟩
end
/-- From w to w' the node at rb became s'. -/
structure RStep (w : World) (rb : Nat) (F : Foot) (s' : RaftS) (w' : World) : Prop where
  at_ : RaftAt w' rb (Grow F w w') s'
  keeps : Keeps F w w'
theorem RStep.trans {w w1 w2 : World} {rb : Nat} {F : Foot} {s1 s2 : RaftS} (h1 : RStep w rb F s1 w1) (h2 : RStep w1 rb (Grow F w w1) s2 w2) : RStep w rb F s2 w2 := by
  have hs1 := h1.keeps.size
  have hs2 := h2.keeps.size
  refine ⟨h2.at_.mono fun k hk => ?_, h1.keeps.step h2.keeps fun k hk hl => ?_⟩
  · rcases hk with (hk | hk) | hk
    · exact .inl hk
    · exact .inr ⟨hk.1, by omega⟩
    · exact .inr ⟨by omega, hk.2⟩
  · rcases hk with hk | hk
    · exact hk
    · omega
theorem RStep.refl {w : World} {rb : Nat} {F : Foot} {s : RaftS} (h : RaftAt w rb F s) : RStep w rb F s w := ⟨h.mono fun _ hk => .inl hk, Keeps.refl _ _⟩
theorem RStep.thenBelow {w w1 w2 : World} {rb : Nat} {F : Foot} {s : RaftS} (h : RStep w rb F s w1) (hb : Below w1.heap.size w1 w2) : RStep w rb F s w2 := by
  have hs := hb.size
  exact ⟨(h.at_.below hb).mono fun k hk => hk.imp id fun hk => ⟨hk.1, by omega⟩, h.keeps.then_below hb⟩
theorem RStep.ofBelow {w w' : World} {rb : Nat} {F : Foot} {s : RaftS} (h : RaftAt w rb F s) (hb : Below w.heap.size w w') : RStep w rb F s w' := (RStep.refl h).thenBelow hb
theorem RStep.size {w w' : World} {rb : Nat} {F : Foot} {s : RaftS} (h : RStep w rb F s w') : w.heap.size ≤ w'.heap.size := h.keeps.size
end Go.Proofs.Ytikpbhhnllchmaa
