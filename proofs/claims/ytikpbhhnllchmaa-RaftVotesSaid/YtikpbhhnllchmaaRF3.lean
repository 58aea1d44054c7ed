/- raft: begin, patience, Status. -/
import Derived.Test.YtikpbhhnllchmaaRF2
set_option linter.unusedVariables false
set_option linter.unusedSimpArgs false
namespace Go.Proofs.Ytikpbhhnllchmaa
open Go.RowKit
attribute [local go_sem] Same.cell Same.frozen

structure RaftS.Ok (s : RaftS) : Prop where
  i1 : 1 ≤ s.id
  i2 : s.id ≤ s.n
  n7 : s.n ≤ 7
  t0 : 0 ≤ s.term
  t1 : s.term ≤ 1152921504606846976
  k0 : 0 ≤ s.clock
  k1 : s.clock ≤ 1152921504606846976
  log : s.log.Ok
theorem tBools : ElemT Try.prog 66 4 1 1 := ElemT.mk' (z := .bool false) Try.underlying66 (by kernel_rfl) rfl
theorem tInts : ElemT Try.prog 48 3 1 8 := ElemT.mk' (z := .int .i64 0) Try.underlying48 (by kernel_rfl) rfl
def RaftS.begin (s : RaftS) (role : Int) : RaftS := { s with role := role, leader := 0, clock := 0, yes := (List.replicate (s.n + 1).toNat false).set s.id.toNat true }

set_option maxHeartbeats 4000000 in
set_option maxRecDepth 100000 in
theorem begin_any (w : World) (rb : Nat) (F : Foot) (s : RaftS) (role : Int) (h : RaftAt w rb F s) (ok : s.Ok) :
    Calls Try.prog 49 #[.pointer (some ⟨rb, 0, none⟩), .int .i64 role] w fun e w' => e = .returned (.tuple #[]) ∧ RStep w rb F (s.begin role) w' := by
  obtain ⟨lb, p, As, cs, vy, vn, vm, h, hF⟩ := h
  obtain ⟨c0, c1, c2, c3, c4, c5, c6, c7, c8, c9, c10, c11, c12, c13, hfz, hlt⟩ := h.facts
  obtain ⟨I, hI⟩ := Int.eq_ofNat_of_zero_le (show 0 ≤ s.id by have := ok.i1; omega)
  obtain ⟨N, hN⟩ := Int.eq_ofNat_of_zero_le (show 0 ≤ s.n by have := ok.i1; have := ok.i2; omega)
  obtain ⟨M, hM⟩ : ∃ M, M = N + 1 := ⟨_, rfl⟩
  have hIN : I < M := by have := ok.i2; omega
  have hN7 : M ≤ 8 := by have := ok.n7; omega
  have f4 := hfz 4
  have f5 := hfz 5
  have f8 := hfz 8
  have hbg : s.begin role = { s with role := role, leader := 0, clock := 0, yes := (List.replicate M false).set I true } := by
    unfold RaftS.begin
    rw [hI, hN, show ((N : Int) + 1).toNat = M by omega, show ((I : Nat) : Int).toNat = I from Int.toNat_natCast I]
  rw [hbg]
  have H := Lib.hid (And.intro h hF)
  have hh1 : Hid (RaftIn (((w.setCell ⟨rb, 4, none⟩ (.int .i64 role)).setCell ⟨rb, 5, none⟩ (.int .i64 0)).setCell ⟨rb, 8, none⟩ (.int .i64 0)) rb lb p As cs vy vn vm { s with role := role, leader := 0, clock := 0 }) := ((h.set_role role).set_leader 0).set_clock 0
  have hr := hF 0 rb h.p0
  have hk1 : Hid (Keeps F w (((w.setCell ⟨rb, 4, none⟩ (.int .i64 role)).setCell ⟨rb, 5, none⟩ (.int .i64 0)).setCell ⟨rb, 8, none⟩ (.int .i64 0))) := (((Keeps.refl F w).setCell (p := ⟨rb, 4, none⟩) (fun _ => hr) _).setCell (p := ⟨rb, 5, none⟩) (fun _ => hr) _).setCell (p := ⟨rb, 8, none⟩) (fun _ => hr) _
  have hw : wrap64 (s.n + 1) = (M : Int) := by rw [hN]; unfold wrap64; omega
  have hHI := Lib.hid hI
  clear h hF hbg hI hr hfz hN hM
  go_enter Try.func49, Try.ntmps49
  go_wp2_with fail
  have hsz1 : (((w.setCell ⟨rb, 4, none⟩ (.int .i64 role)).setCell ⟨rb, 5, none⟩ (.int .i64 0)).setCell ⟨rb, 8, none⟩ (.int .i64 0)).heap.size = w.heap.size := by simp
  clear c0 c1 c2 c3 c4 c5 c6 c7 c8 c9 c10 c11 c12 c13 f4 f5 f8
  generalize ((w.setCell ⟨rb, 4, none⟩ (.int .i64 role)).setCell ⟨rb, 5, none⟩ (.int .i64 0)).setCell ⟨rb, 8, none⟩ (.int .i64 0) = w1 at hh1 hk1 hsz1 ⊢
  rw [hw]
  obtain ⟨w2, hmk, hO2, hb2⟩ := run_make_S (P := Try.prog) tBools (K := kBool) rfl (x := false) (z := .bool false) (by kernel_rfl) rfl (fun _ _ => rfl) w1 M (by omega) (by omega)
  rw [hmk]
  clear hmk hw
  have hR2 := hh1.out.below hb2
  rw [hsz1] at hO2
  obtain ⟨-, -, -, -, -, -, -, -, -, -, -, c11, -, -, hfz, hlt2⟩ := hR2.facts
  have f11 := hfz 11
  have hs2 := hb2.size
  have hO3 : OwnS kBool 4 (w2.setCell ⟨rb, 11, none⟩ (.slice (some ⟨w.heap.size, 0, none⟩) M M)) (New w1 w2) (.slice (some ⟨w.heap.size, 0, none⟩) M M) (List.replicate M false) := hO2.keep (by simp) fun k hk _ => Below.heap_setCell _ ⟨rb, 11, none⟩ _ k (by have := hk.1; have := hh1.out.rlt; show k ≠ rb; omega)
  have hR3 := hh1.out.yes' (W' := w2.setCell ⟨rb, 11, none⟩ (.slice (some ⟨w.heap.size, 0, none⟩) M M)) (by simpa using hs2) (fun k hk hne _ => (Below.heap_setCell _ ⟨rb, 11, none⟩ _ k hne).trans (hb2.block k hk)) (G := New w1 w2) (fun k hk => .inl hk.1) hO3 (fun k hk => by simpa using hk.2) (heap_setCell_same w2 rb 11 _ _ (.slice (some ⟨w.heap.size, 0, none⟩) M M) hR2.cells)
  have hk3 : Keeps F w (w2.setCell ⟨rb, 11, none⟩ (.slice (some ⟨w.heap.size, 0, none⟩) M M)) := (hk1.out.then_below hb2).setCell (p := ⟨rb, 11, none⟩) (fun _ => H.out.2 0 rb H.out.1.p0) _
  have hsz3 : (w2.setCell ⟨rb, 11, none⟩ (.slice (some ⟨w.heap.size, 0, none⟩) M M)).heap.size = w2.heap.size := World.size_setCell ..
  clear hR2 hO2 hb2 hfz
  go_wp2_with fail
  clear c11 f11
  generalize w2.setCell ⟨rb, 11, none⟩ (.slice (some ⟨w.heap.size, 0, none⟩) M M) = w3 at hO3 hR3 hk3 hsz3 ⊢
  obtain ⟨y1, y2⟩ := hO3.cell1 rfl (i := I) (x := false) (u := .bool false) (by simp [hIN]) (fun _ _ _ h => h)
  obtain ⟨c0, -, -, -, -, -, -, -, -, -, -, c11, -, -, -, hlt3⟩ := hR3.facts
  replace c0 : w3.cell? ⟨rb, 0, none⟩ = some (.int .i64 I) := by rw [c0]; show some (Value.int .i64 s.id) = _; rw [hHI.out]
  have hrow3 : w.heap.size < w3.heap.size := by
    obtain ⟨_, _, e, _, h4, _⟩ := hO3.row1 rfl (by rw [List.length_replicate]; omega)
    injection e with e _ _
    injection e with e
    injection e with e _ _
    omega
  have HO3 := Lib.hid hO3
  have HR3 := Lib.hid (And.intro hR3 hk3)
  have hNF : ¬ NoF rb := id
  have hNF2 : ¬ NoF w.heap.size := id
  clear hO3 hR3 hk3
  refine wp_region_plan [0, 0, 0, 0, 0, 0, 0, 0, 2, 2] (fun w' => ∃ D : Same NoF w3, w' = D.world) (by kernel_rfl) (by kernel_rfl) InSame.start ?_
  simp only [sel, selE, Nat.reduceEqDiff, reduceIte]
  repeat (go_big_quiet_step (fail))
  refine wpQuiet_nil ?_
  refine wpE_nil ?_
  go_wp2
  go_end0
  have hO4 := (HO3.out.set1 (i := I) rfl flat_bool hIN (x := true) (u := .bool true) (fun _ _ => rfl)).keep (W' := (w3.setCell ⟨w.heap.size, I, none⟩ (.bool true)).drew) (Nat.le_refl _) (fun _ _ _ => rfl)
  have hnew : New w1 w2 w.heap.size := ⟨by omega, by omega⟩
  have hsz4 : ((w3.setCell ⟨w.heap.size, I, none⟩ (.bool true)).drew).heap.size = w3.heap.size := World.size_setCell ..
  have hot : ∀ k, k ≠ w.heap.size → ((w3.setCell ⟨w.heap.size, I, none⟩ (.bool true)).drew).heap[k]? = w3.heap[k]? := fun k hk => Below.heap_setCell _ ⟨w.heap.size, I, none⟩ _ k hk
  have hR4 := HR3.out.1.yes' (W' := (w3.setCell ⟨w.heap.size, I, none⟩ (.bool true)).drew) (by omega) (fun k hk h1 h2 => hot k fun e => h2 (by rw [repart_self, e]; exact hnew)) (G := New w1 w2) (fun k hk => .inr (by rw [repart_self]; exact hk)) hO4 (fun k hk => by have := hk.2; omega) ((hot rb (by omega)).trans HR3.out.1.cells)
  refine ⟨rfl, ⟨lb, _, As, cs, _, vn, vm, hR4, ?_⟩, ?_⟩
  · have hq : ∀ k, New w1 w2 k → Grow F w ((w3.setCell ⟨w.heap.size, I, none⟩ (.bool true)).drew) k := fun k hk => .inr ⟨by have := hk.1; omega, by have := hk.2; omega⟩
    exact repart_all (repart_all (fun i k hk => .inl (H.out.2 i k hk)) hq) hq
  · have h5 := HR3.out.2.setCell (p := ⟨w.heap.size, I, none⟩) (fun h => by have h : w.heap.size < w.heap.size := h; omega) (.bool true)
    exact ⟨h5.os, h5.tape, h5.output, h5.size, h5.block⟩

def RaftS.patience (s : RaftS) : Int := 10 + 3 * ((s.id + s.term % s.n) % s.n)
theorem patience_any (w : World) (rb : Nat) (F : Foot) (s : RaftS) (h : RaftAt w rb F s) (ok : s.Ok) :
    Calls Try.prog 26 #[.pointer (some ⟨rb, 0, none⟩)] w fun e w' => e = .returned (.int .i64 s.patience) ∧ ∃ k, w' = w.drewN k := by
  obtain ⟨lb, p, As, cs, vy, vn, vm, h, hF⟩ := h
  obtain ⟨c0, c1, c2, c3, c4, c5, c6, c7, c8, c9, c10, c11, c12, c13, hfz, hlt⟩ := h.facts
  obtain ⟨i1, i2, n7, t0, t1, -, -, -⟩ := ok
  unfold RaftS.patience
  have hn : s.n ≠ 0 := by omega
  have m1 : 0 ≤ s.term % s.n ∧ s.term % s.n < s.n := ⟨Int.emod_nonneg _ hn, Int.emod_lt_of_pos _ (by omega)⟩
  have m2 : 0 ≤ (s.id + s.term % s.n) % s.n ∧ (s.id + s.term % s.n) % s.n < s.n := ⟨Int.emod_nonneg _ hn, Int.emod_lt_of_pos _ (by omega)⟩
  obtain ⟨r1, hr1⟩ : ∃ r1, s.term % s.n = r1 := ⟨_, rfl⟩
  rw [hr1] at m1 m2 ⊢
  obtain ⟨r2, hr2⟩ : ∃ r2, (s.id + r1) % s.n = r2 := ⟨_, rfl⟩
  rw [hr2] at m2 ⊢
  clear h hF
  go_enter Try.func26, Try.ntmps26
  go_wp2
  go_quiet (fail)
  go_wp2
  go_ret
  exact ⟨rfl, _, rfl⟩

def statV (s : RaftS) : Value := .agg #[.int .i64 s.term, .int .i64 s.vote, .int .i64 s.role, .int .i64 s.leader, .int .i64 s.commit, .int .i64 s.log.last]
theorem Status_any (w : World) (rb : Nat) (F : Foot) (s : RaftS) (h : RaftAt w rb F s) (ok : s.log.Ok) :
    Calls Try.prog 12 #[.pointer (some ⟨rb, 0, none⟩)] w fun e w' => e = .returned (statV s) ∧ Below w.heap.size w w' := by
  have HB := Lib.hid (fun w1 (hb : Below w.heap.size w w1) => rlast_any w1 rb F s (h.below hb) ok)
  obtain ⟨lb, p, As, cs, vy, vn, vm, h, hF⟩ := h
  obtain ⟨c0, c1, c2, c3, c4, c5, c6, c7, c8, c9, c10, c11, c12, c13, hfz, hlt⟩ := h.facts
  have hb2 : Below w.heap.size w ((w.alloc (.cells #[.int .i64 0, .int .i64 0, .int .i64 0, .int .i64 0, .int .i64 0, .int .i64 0] 26)).alloc (.cells #[.int .i64 s.term, .int .i64 s.vote, .int .i64 s.role, .int .i64 s.leader, .int .i64 s.commit, .int .i64 s.slast] 26)) := ((Below.refl _ _).alloc (Nat.le_refl _) _).alloc (by simp) _
  go_enter Try.func12, Try.ntmps12
  go_wp2_with fail
  refine (HB.out _ hb2).mono ?_
  rintro e w2 ⟨rfl, k, rfl⟩
  go_wp2
  refine bodyPost_ret (v := statV s) (by simp [results, Try.results12, go_sem, statV]) rfl ?_
  have hb3 : Below w.heap.size w (((w.alloc (.cells #[.int .i64 0, .int .i64 0, .int .i64 0, .int .i64 0, .int .i64 0, .int .i64 0] 26)).alloc (.cells #[.int .i64 s.term, .int .i64 s.vote, .int .i64 s.role, .int .i64 s.leader, .int .i64 s.commit, .int .i64 s.slast] 26)).drewN k) := ⟨hb2.os, hb2.tape, hb2.output, hb2.size, hb2.block⟩
  exact ⟨rfl, ((((((hb3.setCell (p := ⟨w.heap.size + 1, 5, none⟩) (by simp) _).setCell (p := ⟨w.heap.size, 0, none⟩) (Nat.le_refl _) _).setCell (p := ⟨w.heap.size, 1, none⟩) (Nat.le_refl _) _).setCell (p := ⟨w.heap.size, 2, none⟩) (Nat.le_refl _) _).setCell (p := ⟨w.heap.size, 3, none⟩) (Nat.le_refl _) _).setCell (p := ⟨w.heap.size, 4, none⟩) (Nat.le_refl _) _).setCell (p := ⟨w.heap.size, 5, none⟩) (Nat.le_refl _) _⟩
end Go.Proofs.Ytikpbhhnllchmaa
