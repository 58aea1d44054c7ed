/- raft.lead. Printed by gen_rf8.py (own work). -/
import Derived.Test.YtikpbhhnllchmaaRF7
import Derived.Test.YtikpbhhnllchmaaR2
set_option linter.unusedVariables false
set_option linter.unusedSimpArgs false
namespace Go.Proofs.Ytikpbhhnllchmaa
open Go.RowKit

/-- The worlds in which a node's number of nodes reads so. -/
structure NS (rb : Nat) (id n : Int) where
  world : World
  c0 : world.cell? ⟨rb, 0, none⟩ = some (.int .i64 id)
  c1 : world.cell? ⟨rb, 1, none⟩ = some (.int .i64 n)
  lt : rb < world.heap.size
attribute [local go_sem] NS.c0 NS.c1 NS.lt Same.cell Same.frozen
theorem RaftIn.rows' {W W' : World} {rb lb : Nat} {p : Nat → Foot} {As : Option Addr} {cs : Nat} {vy vn vm vn' vm' : Value} {s : RaftS} (h : RaftIn W rb lb p As cs vy vn vm s) (hs : W.heap.size ≤ W'.heap.size) (hk : ∀ k, k < W.heap.size → k ≠ rb → W'.heap[k]? = W.heap[k]?) {xs ys : List Int} {ga gb : Nat}
    (ha : W.heap.size ≤ ga ∧ ga < W'.heap.size) (hb : W.heap.size ≤ gb ∧ gb < W'.heap.size) (hab : ga ≠ gb) (hoa : OwnS (kInt .i64) 3 W' (fun k => k = ga) vn' xs) (hob : OwnS (kInt .i64) 3 W' (fun k => k = gb) vm' ys)
    (hc : W'.heap[rb]? = some (.cells #[.int .i64 s.id, .int .i64 s.n, .int .i64 s.term, .int .i64 s.vote, .int .i64 s.role, .int .i64 s.leader, .int .i64 s.commit, .int .i64 s.slast, .int .i64 s.clock, .pointer (some ⟨lb, 0, none⟩), .slice As s.snap.length cs, vy, vn', vm'] 68 (0, 0))) : RaftIn W' rb lb (repart (repart p 4 (fun k => k = ga)) 5 (fun k => k = gb)) As cs vy vn' vm' { s with next := xs, mat := ys } := by
  have hne : ∀ i k, i ≠ 0 → p i k → W'.heap[k]? = W.heap[k]? := fun i k h0 hp => hk k (h.lt i k hp) fun e => h0 (h.dis i 0 rb (e ▸ hp) h.p0)
  refine ⟨hc, h.p0, h.log.keep hs fun k hf _ => hne 1 k (by decide) hf, h.snap.keep fun k hf _ => hne 2 k (by decide) hf, h.snapc, h.yes.keep hs fun k hf _ => hne 3 k (by decide) hf, hoa, hob, ?_, ?_⟩
  · intro i j k hi hj
    have key : ∀ i, repart (repart p 4 (fun k => k = ga)) 5 (fun k => k = gb) i k → (i = 5 ∧ k = gb) ∨ (i = 4 ∧ k = ga) ∨ p i k := fun i hi => by
      unfold repart at hi
      by_cases i5 : i = 5
      · rw [if_pos i5] at hi; exact .inl ⟨i5, hi⟩
      · rw [if_neg i5] at hi
        by_cases i4 : i = 4
        · rw [if_pos i4] at hi; exact .inr (.inl ⟨i4, hi⟩)
        · rw [if_neg i4] at hi; exact .inr (.inr hi)
    rcases key i hi with h1 | h1 | h1 <;> rcases key j hj with h2 | h2 | h2
    · omega
    · omega
    · have := h.lt j k h2; omega
    · omega
    · omega
    · have := h.lt j k h2; omega
    · have := h.lt i k h1; omega
    · have := h.lt i k h1; omega
    · exact h.dis i j k h1 h2
  · exact repart_all (repart_all (fun i k hk => by have := h.lt i k hk; omega) (fun k hk => by omega)) (fun k hk => by omega)
theorem rep_set {α : Type} (M i : Nat) (a b : α) (h : i < M) : (List.replicate i a ++ List.replicate (M - i) b).set i a = List.replicate (i + 1) a ++ List.replicate (M - (i + 1)) b := by
  obtain ⟨k, hk⟩ : ∃ k, M - i = k + 1 := ⟨M - i - 1, by omega⟩
  rw [hk, show M - (i + 1) = k by omega, List.set_append_right _ _ (by simp), List.length_replicate, Nat.sub_self, List.replicate_succ, List.set_cons_zero, List.replicate_succ', List.append_assoc]
  rfl
theorem RaftIn.rowSet {α : Type} {K : Kind α} {e : TypeId} {W : World} {rb lb : Nat} {p : Nat → Foot} {As : Option Addr} {cs : Nat} {vy vn vm : Value} {s : RaftS} (h : RaftIn W rb lb p As cs vy vn vm s) (j : Nat) (h0 : j ≠ 0) {g i n c : Nat} {xs : List α} (ho : OwnS K e W (p j) (.slice (some ⟨g, 0, none⟩) n c) xs) (hs : K.size = 1) (hi : i < xs.length) (u : Value) :
    (∀ q k, q ≠ j → p q k → (W.setCell ⟨g, i, none⟩ u).heap[k]? = W.heap[k]?) ∧ W.heap.size = (W.setCell ⟨g, i, none⟩ u).heap.size ∧ i < n ∧ p j g := by
  obtain ⟨g', c', e1, hg, hl, _⟩ := ho.row1 hs (by omega)
  injection e1 with e1 e2 e3
  injection e1 with e1
  injection e1 with e1 _ _
  subst e1 e2
  exact ⟨fun q k hq hk => Below.heap_setCell _ ⟨g, i, none⟩ _ k fun e => hq (h.dis q j k hk (e ▸ hg)), (World.size_setCell ..).symm, hi, hg⟩
theorem RaftIn.nextSet {W : World} {rb lb : Nat} {p : Nat → Foot} {As : Option Addr} {cs : Nat} {vy vm : Value} {s : RaftS} {g n c i : Nat} (h : RaftIn W rb lb p As cs vy (.slice (some ⟨g, 0, none⟩) n c) vm s) (hi : i < s.next.length) (x : Int) :
    RaftIn (W.setCell ⟨g, i, none⟩ (.int .i64 x)) rb lb p As cs vy (.slice (some ⟨g, 0, none⟩) n c) vm { s with next := s.next.set i x } := by
  obtain ⟨hk, hs, hin, hg⟩ := h.rowSet 4 (by decide) h.next rfl hi (.int .i64 x)
  have hs' := Nat.le_of_eq hs
  exact ⟨(hk 0 rb (by decide) h.p0).trans h.cells, h.p0, h.log.keep hs' fun k hf _ => hk 1 k (by decide) hf, h.snap.keep fun k hf _ => hk 2 k (by decide) hf, h.snapc, h.yes.keep hs' fun k hf _ => hk 3 k (by decide) hf, h.next.set1 rfl (flat_int _) hin (fun _ _ => rfl), h.mat.keep hs' fun k hf _ => hk 5 k (by decide) hf, h.dis, fun i k hk' => by rw [← hs]; exact h.lt i k hk'⟩
theorem RaftIn.matSet {W : World} {rb lb : Nat} {p : Nat → Foot} {As : Option Addr} {cs : Nat} {vy vn : Value} {s : RaftS} {g n c i : Nat} (h : RaftIn W rb lb p As cs vy vn (.slice (some ⟨g, 0, none⟩) n c) s) (hi : i < s.mat.length) (x : Int) :
    RaftIn (W.setCell ⟨g, i, none⟩ (.int .i64 x)) rb lb p As cs vy vn (.slice (some ⟨g, 0, none⟩) n c) { s with mat := s.mat.set i x } := by
  obtain ⟨hk, hs, hin, hg⟩ := h.rowSet 5 (by decide) h.mat rfl hi (.int .i64 x)
  have hs' := Nat.le_of_eq hs
  exact ⟨(hk 0 rb (by decide) h.p0).trans h.cells, h.p0, h.log.keep hs' fun k hf _ => hk 1 k (by decide) hf, h.snap.keep fun k hf _ => hk 2 k (by decide) hf, h.snapc, h.yes.keep hs' fun k hf _ => hk 3 k (by decide) hf, h.next.keep hs' fun k hf _ => hk 4 k (by decide) hf, h.mat.set1 rfl (flat_int _) hin (fun _ _ => rfl), h.dis, fun i k hk' => by rw [← hs]; exact h.lt i k hk'⟩
theorem RaftIn.yesSet {W : World} {rb lb : Nat} {p : Nat → Foot} {As : Option Addr} {cs : Nat} {vn vm : Value} {s : RaftS} {g n c i : Nat} (h : RaftIn W rb lb p As cs (.slice (some ⟨g, 0, none⟩) n c) vn vm s) (hi : i < s.yes.length) (x : Bool) :
    RaftIn (W.setCell ⟨g, i, none⟩ (.bool x)) rb lb p As cs (.slice (some ⟨g, 0, none⟩) n c) vn vm { s with yes := s.yes.set i x } := by
  obtain ⟨hk, hs, hin, hg⟩ := h.rowSet 3 (by decide) h.yes rfl hi (.bool x)
  have hs' := Nat.le_of_eq hs
  exact ⟨(hk 0 rb (by decide) h.p0).trans h.cells, h.p0, h.log.keep hs' fun k hf _ => hk 1 k (by decide) hf, h.snap.keep fun k hf _ => hk 2 k (by decide) hf, h.snapc, h.yes.set1 rfl flat_bool hin (fun _ _ => rfl), h.next.keep hs' fun k hf _ => hk 4 k (by decide) hf, h.mat.keep hs' fun k hf _ => hk 5 k (by decide) hf, h.dis, fun i k hk' => by rw [← hs]; exact h.lt i k hk'⟩
theorem own_far {W : World} {g rb j : Nat} {u v : Value} {xs : List Int} (h : OwnS (kInt .i64) 3 W (fun k => k = g) v xs) (hne : g ≠ rb) : OwnS (kInt .i64) 3 (W.setCell ⟨rb, j, none⟩ u) (fun k => k = g) v xs :=
  h.keep (by simp) fun k hk _ => Below.heap_setCell _ ⟨rb, j, none⟩ _ k (by have : k = g := hk; show k ≠ rb; omega)
/-- A leader, before its first entry. -/
def RaftS.lead0 (s : RaftS) : RaftS := { s with role := 3, leader := s.id, clock := 0, next := List.replicate (s.n + 1).toNat (s.log.last + 1), mat := List.replicate (s.n + 1).toNat 0 }
def cmd0 : Command := ⟨0, 0, 0, [], ⟨#[]⟩, 0, 0, 0, 0, ⟨0, 0, 0, 0⟩⟩
def RaftS.leadS (s : RaftS) : RaftS := s.lead0.addS cmd0

set_option maxHeartbeats 8000000 in
set_option maxRecDepth 100000 in
theorem lead_any (w : World) (rb : Nat) (F : Foot) (s : RaftS) (h : RaftAt w rb F s) (ok : s.Ok) (hsn : s.snap.length ≤ 1000000000000) (hll : s.log.l.length < 1000000000) :
    Calls Try.prog 54 #[.pointer (some ⟨rb, 0, none⟩)] w (MsgsStep w rb F s.leadS) := by
  obtain ⟨N, hN⟩ := Int.eq_ofNat_of_zero_le (show 0 ≤ s.n by have := ok.i1; have := ok.i2; omega)
  obtain ⟨M, hM⟩ : ∃ M, M = N + 1 := ⟨_, rfl⟩
  have hN7 : M ≤ 8 := by have := ok.n7; omega
  have hw : wrap64 (s.n + 1) = (M : Int) := by rw [hN]; unfold wrap64; omega
  obtain ⟨lb, p, As, cs, vy, vn, vm, h, hF⟩ := h
  obtain ⟨c0, c1, c2, c3, c4, c5, c6, c7, c8, c9, c10, c11, c12, c13, hfz, hlt⟩ := h.facts
  have f4 := hfz 4
  have f5 := hfz 5
  have f8 := hfz 8
  have hh1 : Hid (RaftIn (((w.setCell ⟨rb, 4, none⟩ (.int .i64 3)).setCell ⟨rb, 5, none⟩ (.int .i64 s.id)).setCell ⟨rb, 8, none⟩ (.int .i64 0)) rb lb p As cs vy vn vm { s with role := 3, leader := s.id, clock := 0 }) := ((h.set_role 3).set_leader s.id).set_clock 0
  have hr := hF 0 rb h.p0
  have hk1 : Hid (Keeps F w (((w.setCell ⟨rb, 4, none⟩ (.int .i64 3)).setCell ⟨rb, 5, none⟩ (.int .i64 s.id)).setCell ⟨rb, 8, none⟩ (.int .i64 0))) := (((Keeps.refl F w).setCell (p := ⟨rb, 4, none⟩) (fun _ => hr) _).setCell (p := ⟨rb, 5, none⟩) (fun _ => hr) _).setCell (p := ⟨rb, 8, none⟩) (fun _ => hr) _
  have hsz1 : Hid ((((w.setCell ⟨rb, 4, none⟩ (.int .i64 3)).setCell ⟨rb, 5, none⟩ (.int .i64 s.id)).setCell ⟨rb, 8, none⟩ (.int .i64 0)).heap.size = w.heap.size) := by show _ = _; simp
  have H := Lib.hid (And.intro h (And.intro hF (And.intro ok hN)))
  have HM := Lib.hid hM
  clear h hF hfz ok hN hM
  go_enter Try.func54, Try.ntmps54
  go_wp2_with fail
  clear c0 c1 c2 c3 c4 c5 c6 c7 c8 c9 c10 c11 c12 c13 f4 f5 f8
  generalize ((w.setCell ⟨rb, 4, none⟩ (.int .i64 3)).setCell ⟨rb, 5, none⟩ (.int .i64 s.id)).setCell ⟨rb, 8, none⟩ (.int .i64 0) = w1 at hh1 hk1 hsz1 ⊢
  obtain ⟨c0, c1, -, -, -, -, -, -, -, -, -, -, -, -, -, hlt1⟩ := hh1.out.facts
  have c0 : w1.cell? ⟨rb, 0, none⟩ = some (.int .i64 s.id) := c0
  have c1 : w1.cell? ⟨rb, 1, none⟩ = some (.int .i64 s.n) := c1
  haveI : Nonempty (NS rb s.id s.n) := ⟨⟨w1, c0, c1, hlt1⟩⟩
  refine wp_region_open [0, 0, 0, 0, 0, 0, 0, 1, 0, 0, 0, 0, 0, 1, 1, 1, 1, 2, 2, 2] (fun w' => ∃ D : NS rb s.id s.n, w' = D.world) 8 (by kernel_rfl) (by kernel_rfl) (by kernel_rfl) ⟨⟨w1.drew, c0, c1, hlt1⟩, rfl⟩ ?_
  simp only [sel, Nat.reduceEqDiff, reduceIte]
  repeat (go_big_quiet_step (fail))
  refine wpQuiet_nil ?_
  refine wpAnyI_fork (i := 7) (j := 13) (by kernel_rfl) (fun N hN => ?armA) (fun N hN => ?armB)

  case armB =>
    have hK1 : Keeps (fun k => k = rb) w1 w1 := Keeps.refl _ _
    have hc1 := hh1.out.cells
    simp only [pickOp]
    go_wp2_with fail
    obtain ⟨w2, hmk, hOb, hbm⟩ := run_make_S (P := Try.prog) tInts (K := kInt .i64) rfl (x := (0 : Int)) (z := .int .i64 0) (by kernel_rfl) rfl (fun _ _ => rfl) w1.drew M (by omega) (by omega)
    rw [hmk]
    clear hmk
    replace hbm : Below w1.heap.size w1 w2 := below_undrew hbm
    obtain ⟨gb, hggb⟩ : ∃ g, w1.heap.size = g := ⟨_, rfl⟩
    replace hOb : OwnS (kInt .i64) 3 w2 (fun k => k = gb) (.slice (some ⟨gb, 0, none⟩) M M) (List.replicate M 0) := by
      rw [← hggb]
      exact hOb.flat (flat_int _) (fun j hj => by simpa [Value.ownBlock] using hj.symm)
    have hK2 : Keeps (fun k => k = rb) w1 w2 := hK1.then_below hbm
    have hc2 := (hbm.block rb (Array.getElem?_eq_some_iff.1 hc1).1).trans hc1
    have bgb : w1.heap.size ≤ gb ∧ gb < w2.heap.size := ⟨by have := hK1.size; omega, (hOb.lt gb rfl).2⟩
    rw [show w1.drew.heap.size = gb from hggb]
    go_wp2
    refine hN _ _ ⟨⟨w2, cell_of_row _ rb 0 _ _ _ hc2, cell_of_row _ rb 1 _ _ _ hc2, (Array.getElem?_eq_some_iff.1 hc2).1⟩, rfl⟩ ?_
    clear hN N
    refine wpAnyI_step (k := 7) (by kernel_rfl) (fun N hN => ?_)
    simp only [pickOp]
    go_wp2_with fail
    obtain ⟨w3, hmk, hOa, hbm⟩ := run_make_S (P := Try.prog) tInts (K := kInt .i64) rfl (x := (0 : Int)) (z := .int .i64 0) (by kernel_rfl) rfl (fun _ _ => rfl) w2 M (by omega) (by omega)
    rw [hmk]
    clear hmk
    skip
    obtain ⟨ga, hgga⟩ : ∃ g, w2.heap.size = g := ⟨_, rfl⟩
    replace hOa : OwnS (kInt .i64) 3 w3 (fun k => k = ga) (.slice (some ⟨ga, 0, none⟩) M M) (List.replicate M 0) := by
      rw [← hgga]
      exact hOa.flat (flat_int _) (fun j hj => by simpa [Value.ownBlock] using hj.symm)
    have hK3 : Keeps (fun k => k = rb) w1 w3 := hK2.then_below hbm
    have hc3 := (hbm.block rb (Array.getElem?_eq_some_iff.1 hc2).1).trans hc2
    have bga : w1.heap.size ≤ ga ∧ ga < w3.heap.size := ⟨by have := hK2.size; omega, (hOa.lt ga rfl).2⟩
    rw [show w2.heap.size = ga from hgga]
    go_wp2
    refine hN _ _ ⟨⟨w3, cell_of_row _ rb 0 _ _ _ hc3, cell_of_row _ rb 1 _ _ _ hc3, (Array.getElem?_eq_some_iff.1 hc3).1⟩, rfl⟩ ?_
    clear hN N
    have hab : ga ≠ gb := by have := bgb.2; omega
    replace hOb := hOb.below hbm
    replace bgb : w1.heap.size ≤ gb ∧ gb < w3.heap.size := ⟨bgb.1, by have := hbm.size; have := bgb.2; omega⟩
    refine wpAnyI_step (k := 14) (by kernel_rfl) (fun N hN => ?_)
    have k0 : w3.cell? ⟨rb, 0, none⟩ = some _ := cell_of_row _ rb 0 _ _ _ hc3
    have l0 : rb < w3.heap.size := (Array.getElem?_eq_some_iff.1 hc3).1
    simp only [pickOp]
    go_wp2
    refine hN _ _ ⟨⟨w3, cell_of_row _ rb 0 _ _ _ hc3, cell_of_row _ rb 1 _ _ _ hc3, (Array.getElem?_eq_some_iff.1 hc3).1⟩, rfl⟩ ?_
    clear hN N k0 l0
    refine wpAnyI_step (k := 15) (by kernel_rfl) (fun N hN => ?_)
    have k0 : w3.cell? ⟨rb, 0, none⟩ = some _ := cell_of_row _ rb 0 _ _ _ hc3
    have l0 : rb < w3.heap.size := (Array.getElem?_eq_some_iff.1 hc3).1
    simp only [pickOp]
    go_wp2
    refine hN _ _ ⟨⟨w3, cell_of_row _ rb 0 _ _ _ hc3, cell_of_row _ rb 1 _ _ _ hc3, (Array.getElem?_eq_some_iff.1 hc3).1⟩, rfl⟩ ?_
    clear hN N k0 l0
    refine wpAnyI_step (k := 16) (by kernel_rfl) (fun N hN => ?_)
    have k12 : w3.cell? ⟨rb, 12, none⟩ = some _ := cell_of_row _ rb 12 _ _ _ hc3
    have f12 : w3.frozen? ⟨rb, 12, none⟩ = false := frozen_of_row _ rb 12 _ _ hc3
    have l12 : rb < w3.heap.size := (Array.getElem?_eq_some_iff.1 hc3).1
    have hc4 : (w3.setCell ⟨rb, 12, none⟩ (.slice (some ⟨ga, 0, none⟩) M M)).heap[rb]? = some (.cells #[.int .i64 s.id, .int .i64 s.n, .int .i64 s.term, .int .i64 s.vote, .int .i64 3, .int .i64 s.id, .int .i64 s.commit, .int .i64 s.slast, .int .i64 0, .pointer (some ⟨lb, 0, none⟩), .slice As s.snap.length cs, vy, (.slice (some ⟨ga, 0, none⟩) M M), vm] 68 (0, 0)) := heap_setCell_same _ rb 12 _ _ (.slice (some ⟨ga, 0, none⟩) M M) hc3
    have hK4 : Keeps (fun k => k = rb) w1 (w3.setCell ⟨rb, 12, none⟩ (.slice (some ⟨ga, 0, none⟩) M M)) := hK3.setCell (p := ⟨rb, 12, none⟩) (fun _ => rfl) _
    have hszq : (w3.setCell ⟨rb, 12, none⟩ (.slice (some ⟨ga, 0, none⟩) M M)).heap.size = w3.heap.size := World.size_setCell ..
    replace hOa := own_far (j := 12) (u := (.slice (some ⟨ga, 0, none⟩) M M)) hOa (show ga ≠ rb by omega)
    replace hOb := own_far (j := 12) (u := (.slice (some ⟨ga, 0, none⟩) M M)) hOb (show gb ≠ rb by omega)
    simp only [pickOp]
    go_wp2
    refine hN _ _ ⟨⟨(w3.setCell ⟨rb, 12, none⟩ (.slice (some ⟨ga, 0, none⟩) M M)), cell_of_row _ rb 0 _ _ _ hc4, cell_of_row _ rb 1 _ _ _ hc4, (Array.getElem?_eq_some_iff.1 hc4).1⟩, rfl⟩ ?_
    clear hN N k12 f12
    generalize (w3.setCell ⟨rb, 12, none⟩ (.slice (some ⟨ga, 0, none⟩) M M)) = w4 at hc4 hK4 hszq hOa hOb ⊢
    replace bga : w1.heap.size ≤ ga ∧ ga < w4.heap.size := ⟨bga.1, by have := bga.2; omega⟩
    replace bgb : w1.heap.size ≤ gb ∧ gb < w4.heap.size := ⟨bgb.1, by have := bgb.2; omega⟩
    clear hszq l12
    refine wpAnyI_stepz (k := 17) (by kernel_rfl) (by kernel_rfl) (fun N hN => ?_)
    have k0 : w4.cell? ⟨rb, 0, none⟩ = some _ := cell_of_row _ rb 0 _ _ _ hc4
    have l0 : rb < w4.heap.size := (Array.getElem?_eq_some_iff.1 hc4).1
    simp only [pickOp]
    go_wp2
    clear k0 l0
    refine wpAnyI_stepz (k := 18) (by kernel_rfl) (by kernel_rfl) (fun N hN => ?_)
    have k0 : w4.cell? ⟨rb, 0, none⟩ = some _ := cell_of_row _ rb 0 _ _ _ hc4
    have l0 : rb < w4.heap.size := (Array.getElem?_eq_some_iff.1 hc4).1
    simp only [pickOp]
    go_wp2
    clear k0 l0
    refine wpAnyI_stepz (k := 19) (by kernel_rfl) (by kernel_rfl) (fun N hN => ?_)
    have k12 : w4.cell? ⟨rb, 13, none⟩ = some _ := cell_of_row _ rb 13 _ _ _ hc4
    have f12 : w4.frozen? ⟨rb, 13, none⟩ = false := frozen_of_row _ rb 13 _ _ hc4
    have l12 : rb < w4.heap.size := (Array.getElem?_eq_some_iff.1 hc4).1
    have hc5 : (w4.setCell ⟨rb, 13, none⟩ (.slice (some ⟨gb, 0, none⟩) M M)).heap[rb]? = some (.cells #[.int .i64 s.id, .int .i64 s.n, .int .i64 s.term, .int .i64 s.vote, .int .i64 3, .int .i64 s.id, .int .i64 s.commit, .int .i64 s.slast, .int .i64 0, .pointer (some ⟨lb, 0, none⟩), .slice As s.snap.length cs, vy, (.slice (some ⟨ga, 0, none⟩) M M), (.slice (some ⟨gb, 0, none⟩) M M)] 68 (0, 0)) := heap_setCell_same _ rb 13 _ _ (.slice (some ⟨gb, 0, none⟩) M M) hc4
    have hK5 : Keeps (fun k => k = rb) w1 (w4.setCell ⟨rb, 13, none⟩ (.slice (some ⟨gb, 0, none⟩) M M)) := hK4.setCell (p := ⟨rb, 13, none⟩) (fun _ => rfl) _
    have hszq : (w4.setCell ⟨rb, 13, none⟩ (.slice (some ⟨gb, 0, none⟩) M M)).heap.size = w4.heap.size := World.size_setCell ..
    replace hOa := own_far (j := 13) (u := (.slice (some ⟨gb, 0, none⟩) M M)) hOa (show ga ≠ rb by omega)
    replace hOb := own_far (j := 13) (u := (.slice (some ⟨gb, 0, none⟩) M M)) hOb (show gb ≠ rb by omega)
    simp only [pickOp]
    go_wp2
    clear k12 f12
    generalize (w4.setCell ⟨rb, 13, none⟩ (.slice (some ⟨gb, 0, none⟩) M M)) = w5 at hc5 hK5 hszq hOa hOb ⊢
    replace bga : w1.heap.size ≤ ga ∧ ga < w5.heap.size := ⟨bga.1, by have := bga.2; omega⟩
    replace bgb : w1.heap.size ≤ gb ∧ gb < w5.heap.size := ⟨bgb.1, by have := bgb.2; omega⟩
    clear hszq l12
    refine wpAnyI_end (by kernel_rfl) ⟨rfl, ?_⟩
    have hR5 := hh1.out.rows' hK5.size (fun k hk hn => hK5.block k hk hn) bga bgb hab hOa hOb hc5
    have hall : ∀ i k, repart (repart p 4 (fun k => k = ga)) 5 (fun k => k = gb) i k → Grow F w w5 k := repart_all (repart_all (fun i k hk => .inl (H.out.2.1 i k hk)) (fun k hk => .inr (by have h2 := hsz1.out; have h3 : k = ga := hk; rw [h3]; exact ⟨by omega, bga.2⟩))) (fun k hk => .inr (by have h2 := hsz1.out; have h3 : k = gb := hk; rw [h3]; exact ⟨by omega, bgb.2⟩))
    have hkeep : Keeps F w w5 := hk1.out.trans (hK5.mono fun k _ hk => by have h3 : k = rb := hk; rw [h3]; exact H.out.2.1 0 rb H.out.1.p0)
    have HE := Lib.hid (And.intro hR5 (And.intro hall hkeep))
    clear hR5 hall hkeep hK5 hOa hOb hc5
    generalize repart (repart p 4 (fun k => k = ga)) 5 (fun k => k = gb) = p5 at HE
    obtain ⟨-, -, -, -, -, -, -, -, -, -, -, -, c12, -, -, hlt5⟩ := HE.out.1.facts
    clear c0 c1
    go_wp2_with fail
    go_loopw [42] (fun q wr => ∃ i : Nat, q = .int .i64 i ∧ i ≤ M ∧ Hid (RaftIn wr rb lb p5 As cs vy (.slice (some ⟨ga, 0, none⟩) M M) (.slice (some ⟨gb, 0, none⟩) M M) { s with role := 3, leader := s.id, clock := 0, next := List.replicate i (s.log.last + 1) ++ List.replicate (M - i) 0, mat := List.replicate M 0 } ∧ Keeps F w wr ∧ w5.heap.size ≤ wr.heap.size)) (fun q _ => 20 - (intOf q).toNat)
    case atStart => exact ⟨0, rfl, by omega, by simpa using HE.out.1, HE.out.2.2, Nat.le_refl _⟩
    case round =>
      obtain ⟨i, rfl, hi, hO⟩ := hrel
      clear c12
      obtain ⟨-, -, -, -, -, -, -, -, -, -, -, -, c12, -, -, hltr⟩ := hO.out.1.facts
      by_cases hin : i < M
      · have HLa := Lib.hid (fun w1 (hb : Below wr.heap.size wr w1) => rlast_any w1 rb _ _ (⟨lb, p5, As, cs, vy, _, _, hO.out.1.below hb, fun i k hk => hO.out.1.lt i k hk⟩ : RaftAt w1 rb (fun k => k < wr.heap.size) _) H.out.2.2.1.log)
        have hlen : (List.replicate i (s.log.last + 1) ++ List.replicate (M - i) 0).length = M := by simp; omega
        obtain ⟨y1, y2⟩ := hO.out.1.next.cell1 rfl (i := i) (x := 0) (u := .int .i64 0) (by show (List.replicate i (s.log.last + 1) ++ List.replicate (M - i) 0)[i]? = some 0; rw [List.getElem?_append_right (by simp), List.length_replicate, Nat.sub_self, List.getElem?_replicate, if_pos (by omega)]) (fun _ _ _ h => h)
        have hbd : Hid (1 ≤ s.log.last + 1 ∧ s.log.last + 1 ≤ 2305843009213693952) := by
          have := H.out.2.2.1.log.b0; have := H.out.2.2.1.log.b1; have := H.out.2.2.1.log.l1
          show _ ∧ _
          unfold LogS.last
          omega
        have hwl : wrap64 (s.log.last + 1) = s.log.last + 1 := by have := hbd.out; unfold wrap64; omega
        have hNF : ¬ NoF rb := id
        have hNF2 : ¬ NoF ga := id
        clear hlen
        go_wp2_with fail
        refine wp_region_plan [0, 0, 0, 0, 0, 0, 1, 3, 2, 2] (fun w' => ∃ D : Same NoF wr, w' = D.world) (by kernel_rfl) (by kernel_rfl) InSame.start ?_
        simp only [sel, selE, Nat.reduceEqDiff, reduceIte]
        repeat (go_big_quiet_step (fail))
        refine wpQuiet_nil ?_
        refine wpE_cons (fun N hN => ?_)
        go_wp2_with fail
        refine (HLa.out wr.drew ⟨rfl, rfl, rfl, Nat.le_refl _, fun _ _ => rfl⟩).mono ?_
        rintro e w2 ⟨rfl, k, rfl⟩
        have hbk : Below wr.heap.size wr (wr.drewN (1 + k)) := ⟨rfl, rfl, rfl, Nat.le_refl _, fun _ _ => rfl⟩
        go_wp2
        refine hN _ _ (InSame.of_below hbk) ?_
        clear hN N
        refine wpE_take (fun N hN => ?_)
        repeat (go_big_quiet_step (fail))
        refine wpQuiet_nil ?_
        refine hN _ ?_
        refine wpE_nil ?_
        clear hN N
        go_wp2
        have hR7 := (hO.out.1.below hbk).nextSet (i := i) (by show i < (List.replicate i (s.log.last + 1) ++ List.replicate (M - i) 0).length; simp; omega) (s.log.last + 1)
        have hk7 : Keeps F w ((wr.drewN (1 + k)).setCell ⟨ga, i, none⟩ (.int .i64 (s.log.last + 1))) := (hO.out.2.1.then_below hbk).setCell (p := ⟨ga, i, none⟩) (fun hl => by have h1 : ga < w.heap.size := hl; have h2 := bga.1; have h3 := hsz1.out; omega) _
        have hs7 : ((wr.drewN (1 + k)).setCell ⟨ga, i, none⟩ (.int .i64 (s.log.last + 1))).heap.size = wr.heap.size := World.size_setCell ..
        have hsr := hO.out.2.2
        rw [rep_set M i _ _ hin] at hR7
        go_roundw
        case rel => exact ⟨i + 1, by go_num, by omega, hR7, hk7, by rw [hs7]; exact hsr⟩
        case measure => simp [intOf]; omega
      · obtain rfl : i = M := by omega
        have hR8 : RaftIn wr rb lb p5 As cs vy (.slice (some ⟨ga, 0, none⟩) i i) (.slice (some ⟨gb, 0, none⟩) i i) s.lead0 := by
          have h1 := hO.out.1
          rw [Nat.sub_self, List.replicate_zero, List.append_nil] at h1
          have h2 : (s.n + 1).toNat = i := by have := H.out.2.2.2; have := HM.out; omega
          unfold RaftS.lead0
          rw [h2]
          exact h1
        have hst : RStep w rb F s.lead0 wr := by
          refine ⟨⟨lb, p5, As, cs, vy, _, _, hR8, fun j k hk => ?_⟩, hO.out.2.1⟩
          rcases HE.out.2.1 j k hk with h1 | h1
          · exact .inl h1
          · exact .inr ⟨h1.1, by have := h1.2; have := hO.out.2.2; omega⟩
        have hb0 := H.out.2.2.1.log.b0
        have hb1 := H.out.2.2.1.log.b1
        have hb2 := H.out.2.2.1.log.l1
        have ok8 : s.lead0.Ok := ⟨H.out.2.2.1.i1, H.out.2.2.1.i2, H.out.2.2.1.n7, H.out.2.2.1.t0, H.out.2.2.1.t1, Int.le_refl 0, by show (0 : Int) ≤ _; omega, H.out.2.2.1.log⟩
        have hlead : s.lead0.Lead := by
          have hn0 : 0 ≤ s.n := by have := H.out.2.2.2; omega
          refine ⟨by show ((List.replicate (s.n + 1).toNat (s.log.last + 1)).length : Int) = s.n + 1; rw [List.length_replicate]; omega, by show ((List.replicate (s.n + 1).toNat (0 : Int)).length : Int) = s.n + 1; rw [List.length_replicate]; omega, fun id x hx => ?_, hsn⟩
          have hx : (List.replicate (s.n + 1).toNat (s.log.last + 1))[id]? = some x := hx
          obtain rfl := List.eq_of_mem_replicate (List.mem_of_getElem? hx)
          unfold LogS.last
          omega
        have HAd := Lib.hid (fun w1 (hb : Below wr.heap.size wr w1) => add_any w1 rb _ (fun _ => False) s.lead0 cmd0 none 0 (hst.at_.below hb) ok8 hlead hll (Nat.le_refl 0) (by omega) (RS.nil (K := kRecord)) (by show (0 : Nat) ≤ _; omega))
        have Hst := Lib.hid hst
        clear hR8 hst ok8 hlead hb0 hb1 hb2 c12
        go_wp2_with fail
        refine (HAd.out wr (Below.refl _ _)).mono ?_
        rintro e w6 ⟨v, ms, rfl, hO6, hst6⟩
        have hs6 := Hst.out.size
        have HO6 := Lib.hid (And.intro hO6 (Hst.out.trans hst6))
        clear hO6 hst6 HAd
        go_wp2
        go_ret
        exact ⟨v, ms, rfl, HO6.out.1.mono fun k hk => ⟨by have := hk.1; omega, hk.2⟩, HO6.out.2⟩
  case armA =>
    have hK1 : Keeps (fun k => k = rb) w1 w1 := Keeps.refl _ _
    have hc1 := hh1.out.cells
    simp only [pickOp]
    go_wp2_with fail
    obtain ⟨w2, hmk, hOa, hbm⟩ := run_make_S (P := Try.prog) tInts (K := kInt .i64) rfl (x := (0 : Int)) (z := .int .i64 0) (by kernel_rfl) rfl (fun _ _ => rfl) w1.drew M (by omega) (by omega)
    rw [hmk]
    clear hmk
    replace hbm : Below w1.heap.size w1 w2 := below_undrew hbm
    obtain ⟨ga, hgga⟩ : ∃ g, w1.heap.size = g := ⟨_, rfl⟩
    replace hOa : OwnS (kInt .i64) 3 w2 (fun k => k = ga) (.slice (some ⟨ga, 0, none⟩) M M) (List.replicate M 0) := by
      rw [← hgga]
      exact hOa.flat (flat_int _) (fun j hj => by simpa [Value.ownBlock] using hj.symm)
    have hK2 : Keeps (fun k => k = rb) w1 w2 := hK1.then_below hbm
    have hc2 := (hbm.block rb (Array.getElem?_eq_some_iff.1 hc1).1).trans hc1
    have bga : w1.heap.size ≤ ga ∧ ga < w2.heap.size := ⟨by have := hK1.size; omega, (hOa.lt ga rfl).2⟩
    rw [show w1.drew.heap.size = ga from hgga]
    go_wp2
    refine hN _ _ ⟨⟨w2, cell_of_row _ rb 0 _ _ _ hc2, cell_of_row _ rb 1 _ _ _ hc2, (Array.getElem?_eq_some_iff.1 hc2).1⟩, rfl⟩ ?_
    clear hN N
    refine wpAnyI_read (k := 14) (by kernel_rfl) (fun c a d v w h => by cases h.1) (by kernel_rfl) (by kernel_rfl) (by kernel_rfl) (by kernel_rfl) (by kernel_rfl) (by kernel_rfl) ⟨⟨w2, cell_of_row _ rb 0 _ _ _ hc2, cell_of_row _ rb 1 _ _ _ hc2, (Array.getElem?_eq_some_iff.1 hc2).1⟩, rfl⟩ (fun N hN => ?_)
    simp only [pickOp]
    go_big_quiet_step (fail)
    refine wpQuiet_nil ?_
    refine hN _ ?_
    clear hN N
    refine wpAnyI_read (k := 15) (by kernel_rfl) (fun c a d v w h => by cases h.1) (by kernel_rfl) (by kernel_rfl) (by kernel_rfl) (by kernel_rfl) (by kernel_rfl) (by kernel_rfl) ⟨⟨w2, cell_of_row _ rb 0 _ _ _ hc2, cell_of_row _ rb 1 _ _ _ hc2, (Array.getElem?_eq_some_iff.1 hc2).1⟩, rfl⟩ (fun N hN => ?_)
    simp only [pickOp]
    go_big_quiet_step (fail)
    refine wpQuiet_nil ?_
    refine hN _ ?_
    clear hN N
    refine wpAnyI_fork (i := 13) (j := 16) (by kernel_rfl) (fun N hN => ?armA1) (fun N hN => ?armA2)
    case armA1 =>
      simp only [pickOp]
      go_wp2_with fail
      obtain ⟨w3, hmk, hOb, hbm⟩ := run_make_S (P := Try.prog) tInts (K := kInt .i64) rfl (x := (0 : Int)) (z := .int .i64 0) (by kernel_rfl) rfl (fun _ _ => rfl) w2 M (by omega) (by omega)
      rw [hmk]
      clear hmk
      skip
      obtain ⟨gb, hggb⟩ : ∃ g, w2.heap.size = g := ⟨_, rfl⟩
      replace hOb : OwnS (kInt .i64) 3 w3 (fun k => k = gb) (.slice (some ⟨gb, 0, none⟩) M M) (List.replicate M 0) := by
        rw [← hggb]
        exact hOb.flat (flat_int _) (fun j hj => by simpa [Value.ownBlock] using hj.symm)
      have hK3 : Keeps (fun k => k = rb) w1 w3 := hK2.then_below hbm
      have hc3 := (hbm.block rb (Array.getElem?_eq_some_iff.1 hc2).1).trans hc2
      have bgb : w1.heap.size ≤ gb ∧ gb < w3.heap.size := ⟨by have := hK2.size; omega, (hOb.lt gb rfl).2⟩
      rw [show w2.heap.size = gb from hggb]
      go_wp2
      refine hN _ _ ⟨⟨w3, cell_of_row _ rb 0 _ _ _ hc3, cell_of_row _ rb 1 _ _ _ hc3, (Array.getElem?_eq_some_iff.1 hc3).1⟩, rfl⟩ ?_
      clear hN N
      have hab : ga ≠ gb := by have := bga.2; omega
      replace hOa := hOa.below hbm
      replace bga : w1.heap.size ≤ ga ∧ ga < w3.heap.size := ⟨bga.1, by have := hbm.size; have := bga.2; omega⟩
      refine wpAnyI_step (k := 16) (by kernel_rfl) (fun N hN => ?_)
      have k12 : w3.cell? ⟨rb, 12, none⟩ = some _ := cell_of_row _ rb 12 _ _ _ hc3
      have f12 : w3.frozen? ⟨rb, 12, none⟩ = false := frozen_of_row _ rb 12 _ _ hc3
      have l12 : rb < w3.heap.size := (Array.getElem?_eq_some_iff.1 hc3).1
      have hc4 : (w3.setCell ⟨rb, 12, none⟩ (.slice (some ⟨ga, 0, none⟩) M M)).heap[rb]? = some (.cells #[.int .i64 s.id, .int .i64 s.n, .int .i64 s.term, .int .i64 s.vote, .int .i64 3, .int .i64 s.id, .int .i64 s.commit, .int .i64 s.slast, .int .i64 0, .pointer (some ⟨lb, 0, none⟩), .slice As s.snap.length cs, vy, (.slice (some ⟨ga, 0, none⟩) M M), vm] 68 (0, 0)) := heap_setCell_same _ rb 12 _ _ (.slice (some ⟨ga, 0, none⟩) M M) hc3
      have hK4 : Keeps (fun k => k = rb) w1 (w3.setCell ⟨rb, 12, none⟩ (.slice (some ⟨ga, 0, none⟩) M M)) := hK3.setCell (p := ⟨rb, 12, none⟩) (fun _ => rfl) _
      have hszq : (w3.setCell ⟨rb, 12, none⟩ (.slice (some ⟨ga, 0, none⟩) M M)).heap.size = w3.heap.size := World.size_setCell ..
      replace hOa := own_far (j := 12) (u := (.slice (some ⟨ga, 0, none⟩) M M)) hOa (show ga ≠ rb by omega)
      replace hOb := own_far (j := 12) (u := (.slice (some ⟨ga, 0, none⟩) M M)) hOb (show gb ≠ rb by omega)
      simp only [pickOp]
      go_wp2
      refine hN _ _ ⟨⟨(w3.setCell ⟨rb, 12, none⟩ (.slice (some ⟨ga, 0, none⟩) M M)), cell_of_row _ rb 0 _ _ _ hc4, cell_of_row _ rb 1 _ _ _ hc4, (Array.getElem?_eq_some_iff.1 hc4).1⟩, rfl⟩ ?_
      clear hN N k12 f12
      generalize (w3.setCell ⟨rb, 12, none⟩ (.slice (some ⟨ga, 0, none⟩) M M)) = w4 at hc4 hK4 hszq hOa hOb ⊢
      replace bga : w1.heap.size ≤ ga ∧ ga < w4.heap.size := ⟨bga.1, by have := bga.2; omega⟩
      replace bgb : w1.heap.size ≤ gb ∧ gb < w4.heap.size := ⟨bgb.1, by have := bgb.2; omega⟩
      clear hszq l12
      refine wpAnyI_stepz (k := 17) (by kernel_rfl) (by kernel_rfl) (fun N hN => ?_)
      have k0 : w4.cell? ⟨rb, 0, none⟩ = some _ := cell_of_row _ rb 0 _ _ _ hc4
      have l0 : rb < w4.heap.size := (Array.getElem?_eq_some_iff.1 hc4).1
      simp only [pickOp]
      go_wp2
      clear k0 l0
      refine wpAnyI_stepz (k := 18) (by kernel_rfl) (by kernel_rfl) (fun N hN => ?_)
      have k0 : w4.cell? ⟨rb, 0, none⟩ = some _ := cell_of_row _ rb 0 _ _ _ hc4
      have l0 : rb < w4.heap.size := (Array.getElem?_eq_some_iff.1 hc4).1
      simp only [pickOp]
      go_wp2
      clear k0 l0
      refine wpAnyI_stepz (k := 19) (by kernel_rfl) (by kernel_rfl) (fun N hN => ?_)
      have k12 : w4.cell? ⟨rb, 13, none⟩ = some _ := cell_of_row _ rb 13 _ _ _ hc4
      have f12 : w4.frozen? ⟨rb, 13, none⟩ = false := frozen_of_row _ rb 13 _ _ hc4
      have l12 : rb < w4.heap.size := (Array.getElem?_eq_some_iff.1 hc4).1
      have hc5 : (w4.setCell ⟨rb, 13, none⟩ (.slice (some ⟨gb, 0, none⟩) M M)).heap[rb]? = some (.cells #[.int .i64 s.id, .int .i64 s.n, .int .i64 s.term, .int .i64 s.vote, .int .i64 3, .int .i64 s.id, .int .i64 s.commit, .int .i64 s.slast, .int .i64 0, .pointer (some ⟨lb, 0, none⟩), .slice As s.snap.length cs, vy, (.slice (some ⟨ga, 0, none⟩) M M), (.slice (some ⟨gb, 0, none⟩) M M)] 68 (0, 0)) := heap_setCell_same _ rb 13 _ _ (.slice (some ⟨gb, 0, none⟩) M M) hc4
      have hK5 : Keeps (fun k => k = rb) w1 (w4.setCell ⟨rb, 13, none⟩ (.slice (some ⟨gb, 0, none⟩) M M)) := hK4.setCell (p := ⟨rb, 13, none⟩) (fun _ => rfl) _
      have hszq : (w4.setCell ⟨rb, 13, none⟩ (.slice (some ⟨gb, 0, none⟩) M M)).heap.size = w4.heap.size := World.size_setCell ..
      replace hOa := own_far (j := 13) (u := (.slice (some ⟨gb, 0, none⟩) M M)) hOa (show ga ≠ rb by omega)
      replace hOb := own_far (j := 13) (u := (.slice (some ⟨gb, 0, none⟩) M M)) hOb (show gb ≠ rb by omega)
      simp only [pickOp]
      go_wp2
      clear k12 f12
      generalize (w4.setCell ⟨rb, 13, none⟩ (.slice (some ⟨gb, 0, none⟩) M M)) = w5 at hc5 hK5 hszq hOa hOb ⊢
      replace bga : w1.heap.size ≤ ga ∧ ga < w5.heap.size := ⟨bga.1, by have := bga.2; omega⟩
      replace bgb : w1.heap.size ≤ gb ∧ gb < w5.heap.size := ⟨bgb.1, by have := bgb.2; omega⟩
      clear hszq l12
      refine wpAnyI_end (by kernel_rfl) ⟨rfl, ?_⟩
      have hR5 := hh1.out.rows' hK5.size (fun k hk hn => hK5.block k hk hn) bga bgb hab hOa hOb hc5
      have hall : ∀ i k, repart (repart p 4 (fun k => k = ga)) 5 (fun k => k = gb) i k → Grow F w w5 k := repart_all (repart_all (fun i k hk => .inl (H.out.2.1 i k hk)) (fun k hk => .inr (by have h2 := hsz1.out; have h3 : k = ga := hk; rw [h3]; exact ⟨by omega, bga.2⟩))) (fun k hk => .inr (by have h2 := hsz1.out; have h3 : k = gb := hk; rw [h3]; exact ⟨by omega, bgb.2⟩))
      have hkeep : Keeps F w w5 := hk1.out.trans (hK5.mono fun k _ hk => by have h3 : k = rb := hk; rw [h3]; exact H.out.2.1 0 rb H.out.1.p0)
      have HE := Lib.hid (And.intro hR5 (And.intro hall hkeep))
      clear hR5 hall hkeep hK5 hOa hOb hc5
      generalize repart (repart p 4 (fun k => k = ga)) 5 (fun k => k = gb) = p5 at HE
      obtain ⟨-, -, -, -, -, -, -, -, -, -, -, -, c12, -, -, hlt5⟩ := HE.out.1.facts
      clear c0 c1
      go_wp2_with fail
      go_loopw [42] (fun q wr => ∃ i : Nat, q = .int .i64 i ∧ i ≤ M ∧ Hid (RaftIn wr rb lb p5 As cs vy (.slice (some ⟨ga, 0, none⟩) M M) (.slice (some ⟨gb, 0, none⟩) M M) { s with role := 3, leader := s.id, clock := 0, next := List.replicate i (s.log.last + 1) ++ List.replicate (M - i) 0, mat := List.replicate M 0 } ∧ Keeps F w wr ∧ w5.heap.size ≤ wr.heap.size)) (fun q _ => 20 - (intOf q).toNat)
      case atStart => exact ⟨0, rfl, by omega, by simpa using HE.out.1, HE.out.2.2, Nat.le_refl _⟩
      case round =>
        obtain ⟨i, rfl, hi, hO⟩ := hrel
        clear c12
        obtain ⟨-, -, -, -, -, -, -, -, -, -, -, -, c12, -, -, hltr⟩ := hO.out.1.facts
        by_cases hin : i < M
        · have HLa := Lib.hid (fun w1 (hb : Below wr.heap.size wr w1) => rlast_any w1 rb _ _ (⟨lb, p5, As, cs, vy, _, _, hO.out.1.below hb, fun i k hk => hO.out.1.lt i k hk⟩ : RaftAt w1 rb (fun k => k < wr.heap.size) _) H.out.2.2.1.log)
          have hlen : (List.replicate i (s.log.last + 1) ++ List.replicate (M - i) 0).length = M := by simp; omega
          obtain ⟨y1, y2⟩ := hO.out.1.next.cell1 rfl (i := i) (x := 0) (u := .int .i64 0) (by show (List.replicate i (s.log.last + 1) ++ List.replicate (M - i) 0)[i]? = some 0; rw [List.getElem?_append_right (by simp), List.length_replicate, Nat.sub_self, List.getElem?_replicate, if_pos (by omega)]) (fun _ _ _ h => h)
          have hbd : Hid (1 ≤ s.log.last + 1 ∧ s.log.last + 1 ≤ 2305843009213693952) := by
            have := H.out.2.2.1.log.b0; have := H.out.2.2.1.log.b1; have := H.out.2.2.1.log.l1
            show _ ∧ _
            unfold LogS.last
            omega
          have hwl : wrap64 (s.log.last + 1) = s.log.last + 1 := by have := hbd.out; unfold wrap64; omega
          have hNF : ¬ NoF rb := id
          have hNF2 : ¬ NoF ga := id
          clear hlen
          go_wp2_with fail
          refine wp_region_plan [0, 0, 0, 0, 0, 0, 1, 3, 2, 2] (fun w' => ∃ D : Same NoF wr, w' = D.world) (by kernel_rfl) (by kernel_rfl) InSame.start ?_
          simp only [sel, selE, Nat.reduceEqDiff, reduceIte]
          repeat (go_big_quiet_step (fail))
          refine wpQuiet_nil ?_
          refine wpE_cons (fun N hN => ?_)
          go_wp2_with fail
          refine (HLa.out wr.drew ⟨rfl, rfl, rfl, Nat.le_refl _, fun _ _ => rfl⟩).mono ?_
          rintro e w2 ⟨rfl, k, rfl⟩
          have hbk : Below wr.heap.size wr (wr.drewN (1 + k)) := ⟨rfl, rfl, rfl, Nat.le_refl _, fun _ _ => rfl⟩
          go_wp2
          refine hN _ _ (InSame.of_below hbk) ?_
          clear hN N
          refine wpE_take (fun N hN => ?_)
          repeat (go_big_quiet_step (fail))
          refine wpQuiet_nil ?_
          refine hN _ ?_
          refine wpE_nil ?_
          clear hN N
          go_wp2
          have hR7 := (hO.out.1.below hbk).nextSet (i := i) (by show i < (List.replicate i (s.log.last + 1) ++ List.replicate (M - i) 0).length; simp; omega) (s.log.last + 1)
          have hk7 : Keeps F w ((wr.drewN (1 + k)).setCell ⟨ga, i, none⟩ (.int .i64 (s.log.last + 1))) := (hO.out.2.1.then_below hbk).setCell (p := ⟨ga, i, none⟩) (fun hl => by have h1 : ga < w.heap.size := hl; have h2 := bga.1; have h3 := hsz1.out; omega) _
          have hs7 : ((wr.drewN (1 + k)).setCell ⟨ga, i, none⟩ (.int .i64 (s.log.last + 1))).heap.size = wr.heap.size := World.size_setCell ..
          have hsr := hO.out.2.2
          rw [rep_set M i _ _ hin] at hR7
          go_roundw
          case rel => exact ⟨i + 1, by go_num, by omega, hR7, hk7, by rw [hs7]; exact hsr⟩
          case measure => simp [intOf]; omega
        · obtain rfl : i = M := by omega
          have hR8 : RaftIn wr rb lb p5 As cs vy (.slice (some ⟨ga, 0, none⟩) i i) (.slice (some ⟨gb, 0, none⟩) i i) s.lead0 := by
            have h1 := hO.out.1
            rw [Nat.sub_self, List.replicate_zero, List.append_nil] at h1
            have h2 : (s.n + 1).toNat = i := by have := H.out.2.2.2; have := HM.out; omega
            unfold RaftS.lead0
            rw [h2]
            exact h1
          have hst : RStep w rb F s.lead0 wr := by
            refine ⟨⟨lb, p5, As, cs, vy, _, _, hR8, fun j k hk => ?_⟩, hO.out.2.1⟩
            rcases HE.out.2.1 j k hk with h1 | h1
            · exact .inl h1
            · exact .inr ⟨h1.1, by have := h1.2; have := hO.out.2.2; omega⟩
          have hb0 := H.out.2.2.1.log.b0
          have hb1 := H.out.2.2.1.log.b1
          have hb2 := H.out.2.2.1.log.l1
          have ok8 : s.lead0.Ok := ⟨H.out.2.2.1.i1, H.out.2.2.1.i2, H.out.2.2.1.n7, H.out.2.2.1.t0, H.out.2.2.1.t1, Int.le_refl 0, by show (0 : Int) ≤ _; omega, H.out.2.2.1.log⟩
          have hlead : s.lead0.Lead := by
            have hn0 : 0 ≤ s.n := by have := H.out.2.2.2; omega
            refine ⟨by show ((List.replicate (s.n + 1).toNat (s.log.last + 1)).length : Int) = s.n + 1; rw [List.length_replicate]; omega, by show ((List.replicate (s.n + 1).toNat (0 : Int)).length : Int) = s.n + 1; rw [List.length_replicate]; omega, fun id x hx => ?_, hsn⟩
            have hx : (List.replicate (s.n + 1).toNat (s.log.last + 1))[id]? = some x := hx
            obtain rfl := List.eq_of_mem_replicate (List.mem_of_getElem? hx)
            unfold LogS.last
            omega
          have HAd := Lib.hid (fun w1 (hb : Below wr.heap.size wr w1) => add_any w1 rb _ (fun _ => False) s.lead0 cmd0 none 0 (hst.at_.below hb) ok8 hlead hll (Nat.le_refl 0) (by omega) (RS.nil (K := kRecord)) (by show (0 : Nat) ≤ _; omega))
          have Hst := Lib.hid hst
          clear hR8 hst ok8 hlead hb0 hb1 hb2 c12
          go_wp2_with fail
          refine (HAd.out wr (Below.refl _ _)).mono ?_
          rintro e w6 ⟨v, ms, rfl, hO6, hst6⟩
          have hs6 := Hst.out.size
          have HO6 := Lib.hid (And.intro hO6 (Hst.out.trans hst6))
          clear hO6 hst6 HAd
          go_wp2
          go_ret
          exact ⟨v, ms, rfl, HO6.out.1.mono fun k hk => ⟨by have := hk.1; omega, hk.2⟩, HO6.out.2⟩
    case armA2 =>
      have k12 : w2.cell? ⟨rb, 12, none⟩ = some _ := cell_of_row _ rb 12 _ _ _ hc2
      have f12 : w2.frozen? ⟨rb, 12, none⟩ = false := frozen_of_row _ rb 12 _ _ hc2
      have l12 : rb < w2.heap.size := (Array.getElem?_eq_some_iff.1 hc2).1
      have hc3 : (w2.setCell ⟨rb, 12, none⟩ (.slice (some ⟨ga, 0, none⟩) M M)).heap[rb]? = some (.cells #[.int .i64 s.id, .int .i64 s.n, .int .i64 s.term, .int .i64 s.vote, .int .i64 3, .int .i64 s.id, .int .i64 s.commit, .int .i64 s.slast, .int .i64 0, .pointer (some ⟨lb, 0, none⟩), .slice As s.snap.length cs, vy, (.slice (some ⟨ga, 0, none⟩) M M), vm] 68 (0, 0)) := heap_setCell_same _ rb 12 _ _ (.slice (some ⟨ga, 0, none⟩) M M) hc2
      have hK3 : Keeps (fun k => k = rb) w1 (w2.setCell ⟨rb, 12, none⟩ (.slice (some ⟨ga, 0, none⟩) M M)) := hK2.setCell (p := ⟨rb, 12, none⟩) (fun _ => rfl) _
      have hszq : (w2.setCell ⟨rb, 12, none⟩ (.slice (some ⟨ga, 0, none⟩) M M)).heap.size = w2.heap.size := World.size_setCell ..
      replace hOa := own_far (j := 12) (u := (.slice (some ⟨ga, 0, none⟩) M M)) hOa (show ga ≠ rb by omega)
      simp only [pickOp]
      go_wp2
      refine hN _ _ ⟨⟨(w2.setCell ⟨rb, 12, none⟩ (.slice (some ⟨ga, 0, none⟩) M M)), cell_of_row _ rb 0 _ _ _ hc3, cell_of_row _ rb 1 _ _ _ hc3, (Array.getElem?_eq_some_iff.1 hc3).1⟩, rfl⟩ ?_
      clear hN N k12 f12
      generalize (w2.setCell ⟨rb, 12, none⟩ (.slice (some ⟨ga, 0, none⟩) M M)) = w3 at hc3 hK3 hszq hOa ⊢
      replace bga : w1.heap.size ≤ ga ∧ ga < w3.heap.size := ⟨bga.1, by have := bga.2; omega⟩
      clear hszq l12
      refine wpAnyI_step (k := 13) (by kernel_rfl) (fun N hN => ?_)
      simp only [pickOp]
      go_wp2_with fail
      obtain ⟨w4, hmk, hOb, hbm⟩ := run_make_S (P := Try.prog) tInts (K := kInt .i64) rfl (x := (0 : Int)) (z := .int .i64 0) (by kernel_rfl) rfl (fun _ _ => rfl) w3 M (by omega) (by omega)
      rw [hmk]
      clear hmk
      skip
      obtain ⟨gb, hggb⟩ : ∃ g, w3.heap.size = g := ⟨_, rfl⟩
      replace hOb : OwnS (kInt .i64) 3 w4 (fun k => k = gb) (.slice (some ⟨gb, 0, none⟩) M M) (List.replicate M 0) := by
        rw [← hggb]
        exact hOb.flat (flat_int _) (fun j hj => by simpa [Value.ownBlock] using hj.symm)
      have hK4 : Keeps (fun k => k = rb) w1 w4 := hK3.then_below hbm
      have hc4 := (hbm.block rb (Array.getElem?_eq_some_iff.1 hc3).1).trans hc3
      have bgb : w1.heap.size ≤ gb ∧ gb < w4.heap.size := ⟨by have := hK3.size; omega, (hOb.lt gb rfl).2⟩
      rw [show w3.heap.size = gb from hggb]
      go_wp2
      refine hN _ _ ⟨⟨w4, cell_of_row _ rb 0 _ _ _ hc4, cell_of_row _ rb 1 _ _ _ hc4, (Array.getElem?_eq_some_iff.1 hc4).1⟩, rfl⟩ ?_
      clear hN N
      have hab : ga ≠ gb := by have := bga.2; omega
      replace hOa := hOa.below hbm
      replace bga : w1.heap.size ≤ ga ∧ ga < w4.heap.size := ⟨bga.1, by have := hbm.size; have := bga.2; omega⟩
      refine wpAnyI_stepz (k := 17) (by kernel_rfl) (by kernel_rfl) (fun N hN => ?_)
      have k0 : w4.cell? ⟨rb, 0, none⟩ = some _ := cell_of_row _ rb 0 _ _ _ hc4
      have l0 : rb < w4.heap.size := (Array.getElem?_eq_some_iff.1 hc4).1
      simp only [pickOp]
      go_wp2
      clear k0 l0
      refine wpAnyI_stepz (k := 18) (by kernel_rfl) (by kernel_rfl) (fun N hN => ?_)
      have k0 : w4.cell? ⟨rb, 0, none⟩ = some _ := cell_of_row _ rb 0 _ _ _ hc4
      have l0 : rb < w4.heap.size := (Array.getElem?_eq_some_iff.1 hc4).1
      simp only [pickOp]
      go_wp2
      clear k0 l0
      refine wpAnyI_stepz (k := 19) (by kernel_rfl) (by kernel_rfl) (fun N hN => ?_)
      have k12 : w4.cell? ⟨rb, 13, none⟩ = some _ := cell_of_row _ rb 13 _ _ _ hc4
      have f12 : w4.frozen? ⟨rb, 13, none⟩ = false := frozen_of_row _ rb 13 _ _ hc4
      have l12 : rb < w4.heap.size := (Array.getElem?_eq_some_iff.1 hc4).1
      have hc5 : (w4.setCell ⟨rb, 13, none⟩ (.slice (some ⟨gb, 0, none⟩) M M)).heap[rb]? = some (.cells #[.int .i64 s.id, .int .i64 s.n, .int .i64 s.term, .int .i64 s.vote, .int .i64 3, .int .i64 s.id, .int .i64 s.commit, .int .i64 s.slast, .int .i64 0, .pointer (some ⟨lb, 0, none⟩), .slice As s.snap.length cs, vy, (.slice (some ⟨ga, 0, none⟩) M M), (.slice (some ⟨gb, 0, none⟩) M M)] 68 (0, 0)) := heap_setCell_same _ rb 13 _ _ (.slice (some ⟨gb, 0, none⟩) M M) hc4
      have hK5 : Keeps (fun k => k = rb) w1 (w4.setCell ⟨rb, 13, none⟩ (.slice (some ⟨gb, 0, none⟩) M M)) := hK4.setCell (p := ⟨rb, 13, none⟩) (fun _ => rfl) _
      have hszq : (w4.setCell ⟨rb, 13, none⟩ (.slice (some ⟨gb, 0, none⟩) M M)).heap.size = w4.heap.size := World.size_setCell ..
      replace hOa := own_far (j := 13) (u := (.slice (some ⟨gb, 0, none⟩) M M)) hOa (show ga ≠ rb by omega)
      replace hOb := own_far (j := 13) (u := (.slice (some ⟨gb, 0, none⟩) M M)) hOb (show gb ≠ rb by omega)
      simp only [pickOp]
      go_wp2
      clear k12 f12
      generalize (w4.setCell ⟨rb, 13, none⟩ (.slice (some ⟨gb, 0, none⟩) M M)) = w5 at hc5 hK5 hszq hOa hOb ⊢
      replace bga : w1.heap.size ≤ ga ∧ ga < w5.heap.size := ⟨bga.1, by have := bga.2; omega⟩
      replace bgb : w1.heap.size ≤ gb ∧ gb < w5.heap.size := ⟨bgb.1, by have := bgb.2; omega⟩
      clear hszq l12
      refine wpAnyI_end (by kernel_rfl) ⟨rfl, ?_⟩
      have hR5 := hh1.out.rows' hK5.size (fun k hk hn => hK5.block k hk hn) bga bgb hab hOa hOb hc5
      have hall : ∀ i k, repart (repart p 4 (fun k => k = ga)) 5 (fun k => k = gb) i k → Grow F w w5 k := repart_all (repart_all (fun i k hk => .inl (H.out.2.1 i k hk)) (fun k hk => .inr (by have h2 := hsz1.out; have h3 : k = ga := hk; rw [h3]; exact ⟨by omega, bga.2⟩))) (fun k hk => .inr (by have h2 := hsz1.out; have h3 : k = gb := hk; rw [h3]; exact ⟨by omega, bgb.2⟩))
      have hkeep : Keeps F w w5 := hk1.out.trans (hK5.mono fun k _ hk => by have h3 : k = rb := hk; rw [h3]; exact H.out.2.1 0 rb H.out.1.p0)
      have HE := Lib.hid (And.intro hR5 (And.intro hall hkeep))
      clear hR5 hall hkeep hK5 hOa hOb hc5
      generalize repart (repart p 4 (fun k => k = ga)) 5 (fun k => k = gb) = p5 at HE
      obtain ⟨-, -, -, -, -, -, -, -, -, -, -, -, c12, -, -, hlt5⟩ := HE.out.1.facts
      clear c0 c1
      go_wp2_with fail
      go_loopw [42] (fun q wr => ∃ i : Nat, q = .int .i64 i ∧ i ≤ M ∧ Hid (RaftIn wr rb lb p5 As cs vy (.slice (some ⟨ga, 0, none⟩) M M) (.slice (some ⟨gb, 0, none⟩) M M) { s with role := 3, leader := s.id, clock := 0, next := List.replicate i (s.log.last + 1) ++ List.replicate (M - i) 0, mat := List.replicate M 0 } ∧ Keeps F w wr ∧ w5.heap.size ≤ wr.heap.size)) (fun q _ => 20 - (intOf q).toNat)
      case atStart => exact ⟨0, rfl, by omega, by simpa using HE.out.1, HE.out.2.2, Nat.le_refl _⟩
      case round =>
        obtain ⟨i, rfl, hi, hO⟩ := hrel
        clear c12
        obtain ⟨-, -, -, -, -, -, -, -, -, -, -, -, c12, -, -, hltr⟩ := hO.out.1.facts
        by_cases hin : i < M
        · have HLa := Lib.hid (fun w1 (hb : Below wr.heap.size wr w1) => rlast_any w1 rb _ _ (⟨lb, p5, As, cs, vy, _, _, hO.out.1.below hb, fun i k hk => hO.out.1.lt i k hk⟩ : RaftAt w1 rb (fun k => k < wr.heap.size) _) H.out.2.2.1.log)
          have hlen : (List.replicate i (s.log.last + 1) ++ List.replicate (M - i) 0).length = M := by simp; omega
          obtain ⟨y1, y2⟩ := hO.out.1.next.cell1 rfl (i := i) (x := 0) (u := .int .i64 0) (by show (List.replicate i (s.log.last + 1) ++ List.replicate (M - i) 0)[i]? = some 0; rw [List.getElem?_append_right (by simp), List.length_replicate, Nat.sub_self, List.getElem?_replicate, if_pos (by omega)]) (fun _ _ _ h => h)
          have hbd : Hid (1 ≤ s.log.last + 1 ∧ s.log.last + 1 ≤ 2305843009213693952) := by
            have := H.out.2.2.1.log.b0; have := H.out.2.2.1.log.b1; have := H.out.2.2.1.log.l1
            show _ ∧ _
            unfold LogS.last
            omega
          have hwl : wrap64 (s.log.last + 1) = s.log.last + 1 := by have := hbd.out; unfold wrap64; omega
          have hNF : ¬ NoF rb := id
          have hNF2 : ¬ NoF ga := id
          clear hlen
          go_wp2_with fail
          refine wp_region_plan [0, 0, 0, 0, 0, 0, 1, 3, 2, 2] (fun w' => ∃ D : Same NoF wr, w' = D.world) (by kernel_rfl) (by kernel_rfl) InSame.start ?_
          simp only [sel, selE, Nat.reduceEqDiff, reduceIte]
          repeat (go_big_quiet_step (fail))
          refine wpQuiet_nil ?_
          refine wpE_cons (fun N hN => ?_)
          go_wp2_with fail
          refine (HLa.out wr.drew ⟨rfl, rfl, rfl, Nat.le_refl _, fun _ _ => rfl⟩).mono ?_
          rintro e w2 ⟨rfl, k, rfl⟩
          have hbk : Below wr.heap.size wr (wr.drewN (1 + k)) := ⟨rfl, rfl, rfl, Nat.le_refl _, fun _ _ => rfl⟩
          go_wp2
          refine hN _ _ (InSame.of_below hbk) ?_
          clear hN N
          refine wpE_take (fun N hN => ?_)
          repeat (go_big_quiet_step (fail))
          refine wpQuiet_nil ?_
          refine hN _ ?_
          refine wpE_nil ?_
          clear hN N
          go_wp2
          have hR7 := (hO.out.1.below hbk).nextSet (i := i) (by show i < (List.replicate i (s.log.last + 1) ++ List.replicate (M - i) 0).length; simp; omega) (s.log.last + 1)
          have hk7 : Keeps F w ((wr.drewN (1 + k)).setCell ⟨ga, i, none⟩ (.int .i64 (s.log.last + 1))) := (hO.out.2.1.then_below hbk).setCell (p := ⟨ga, i, none⟩) (fun hl => by have h1 : ga < w.heap.size := hl; have h2 := bga.1; have h3 := hsz1.out; omega) _
          have hs7 : ((wr.drewN (1 + k)).setCell ⟨ga, i, none⟩ (.int .i64 (s.log.last + 1))).heap.size = wr.heap.size := World.size_setCell ..
          have hsr := hO.out.2.2
          rw [rep_set M i _ _ hin] at hR7
          go_roundw
          case rel => exact ⟨i + 1, by go_num, by omega, hR7, hk7, by rw [hs7]; exact hsr⟩
          case measure => simp [intOf]; omega
        · obtain rfl : i = M := by omega
          have hR8 : RaftIn wr rb lb p5 As cs vy (.slice (some ⟨ga, 0, none⟩) i i) (.slice (some ⟨gb, 0, none⟩) i i) s.lead0 := by
            have h1 := hO.out.1
            rw [Nat.sub_self, List.replicate_zero, List.append_nil] at h1
            have h2 : (s.n + 1).toNat = i := by have := H.out.2.2.2; have := HM.out; omega
            unfold RaftS.lead0
            rw [h2]
            exact h1
          have hst : RStep w rb F s.lead0 wr := by
            refine ⟨⟨lb, p5, As, cs, vy, _, _, hR8, fun j k hk => ?_⟩, hO.out.2.1⟩
            rcases HE.out.2.1 j k hk with h1 | h1
            · exact .inl h1
            · exact .inr ⟨h1.1, by have := h1.2; have := hO.out.2.2; omega⟩
          have hb0 := H.out.2.2.1.log.b0
          have hb1 := H.out.2.2.1.log.b1
          have hb2 := H.out.2.2.1.log.l1
          have ok8 : s.lead0.Ok := ⟨H.out.2.2.1.i1, H.out.2.2.1.i2, H.out.2.2.1.n7, H.out.2.2.1.t0, H.out.2.2.1.t1, Int.le_refl 0, by show (0 : Int) ≤ _; omega, H.out.2.2.1.log⟩
          have hlead : s.lead0.Lead := by
            have hn0 : 0 ≤ s.n := by have := H.out.2.2.2; omega
            refine ⟨by show ((List.replicate (s.n + 1).toNat (s.log.last + 1)).length : Int) = s.n + 1; rw [List.length_replicate]; omega, by show ((List.replicate (s.n + 1).toNat (0 : Int)).length : Int) = s.n + 1; rw [List.length_replicate]; omega, fun id x hx => ?_, hsn⟩
            have hx : (List.replicate (s.n + 1).toNat (s.log.last + 1))[id]? = some x := hx
            obtain rfl := List.eq_of_mem_replicate (List.mem_of_getElem? hx)
            unfold LogS.last
            omega
          have HAd := Lib.hid (fun w1 (hb : Below wr.heap.size wr w1) => add_any w1 rb _ (fun _ => False) s.lead0 cmd0 none 0 (hst.at_.below hb) ok8 hlead hll (Nat.le_refl 0) (by omega) (RS.nil (K := kRecord)) (by show (0 : Nat) ≤ _; omega))
          have Hst := Lib.hid hst
          clear hR8 hst ok8 hlead hb0 hb1 hb2 c12
          go_wp2_with fail
          refine (HAd.out wr (Below.refl _ _)).mono ?_
          rintro e w6 ⟨v, ms, rfl, hO6, hst6⟩
          have hs6 := Hst.out.size
          have HO6 := Lib.hid (And.intro hO6 (Hst.out.trans hst6))
          clear hO6 hst6 HAd
          go_wp2
          go_ret
          exact ⟨v, ms, rfl, HO6.out.1.mono fun k hk => ⟨by have := hk.1; omega, hk.2⟩, HO6.out.2⟩
end Go.Proofs.Ytikpbhhnllchmaa
