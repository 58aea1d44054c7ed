/- Contract of the document's Log: Add. -/
import Derived.Test.YtngmipppgnlkdaaS3
import Derived.Test.YtngmipppgnlkdaaC
set_option linter.unusedVariables false
set_option linter.unusedSimpArgs false
namespace Go.Proofs.Ytngmipppgnlkdaa
open Go.RowKit
attribute [local go_sem] Same.cell

theorem ret_int {k : IntKind} {a b : Int} (h : a = b) : Ending.returned (.int k a) = .returned (.int k b) := by rw [h]

set_option maxHeartbeats 4000000 in
theorem RAdd_any (g : Nat) (F G : Foot) (s : LogS) (x : Entry) (A4 : Option Addr) (c4 : Nat) (w : World) (h : RLogAt w g F s) (ok : s.Ok) (hl : s.l.length < 1000000000)
    (l4 : x.Cmd.Records.length ≤ c4) (m4 : c4 ≤ 9223372036854775807) (r4 : RS kRecord w G A4 x.Cmd.Records.length x.Cmd.Records) (hx : x.Cmd.Records.length ≤ 1000000000) :
    Calls Try.prog 49 #[.pointer (some ⟨g, 0, none⟩), .agg #[.int .i64 x.Term, .int .i64 x.Cmd.Kind, .int .i64 x.Cmd.Pid, .int .i64 x.Cmd.Seq, .slice A4 x.Cmd.Records.length c4, .string x.Cmd.Group, .int .i64 x.Cmd.Offset, .int .i64 x.Cmd.Max, .int .i64 x.Cmd.Now, .int .u32 x.Cmd.Sum, .int .i64 x.Cmd.Conf.Segment, .int .i64 x.Cmd.Conf.Keep, .int .i64 x.Cmd.Conf.Age, .int .i64 x.Cmd.Conf.Grace]] w fun e w' =>
      e = .returned (.int .i64 (s.add x).last) ∧ RLogAt w' g (Grow F w w') (s.add x) ∧ Keeps F w w' := by
  obtain ⟨A, c, h0, h1, h2, hfz, hF, hlt, ho, hc1, hc2, hr, hbk⟩ := h.cells
  have Hbk := Lib.hid hbk
  clear hbk
  have b0 := ok.b0
  have b1 := ok.b1
  have l1 := ok.l1
  have hne : w.heap.size ≠ g := by omega
  go_enter Try.func49, Try.ntmps49
  go_wp2
  have hb1 : Below w.heap.size w (w.alloc (.cells #[.int .i64 x.Term, .int .i64 x.Cmd.Kind, .int .i64 x.Cmd.Pid, .int .i64 x.Cmd.Seq, .slice A4 x.Cmd.Records.length c4, .string x.Cmd.Group, .int .i64 x.Cmd.Offset, .int .i64 x.Cmd.Max, .int .i64 x.Cmd.Now, .int .u32 x.Cmd.Sum, .int .i64 x.Cmd.Conf.Segment, .int .i64 x.Cmd.Conf.Keep, .int .i64 x.Cmd.Conf.Age, .int .i64 x.Cmd.Conf.Grace] 38)) := (Below.refl _ _).alloc (Nat.le_refl _) _
  have hsz1 : w.heap.size < (w.alloc (.cells #[.int .i64 x.Term, .int .i64 x.Cmd.Kind, .int .i64 x.Cmd.Pid, .int .i64 x.Cmd.Seq, .slice A4 x.Cmd.Records.length c4, .string x.Cmd.Group, .int .i64 x.Cmd.Offset, .int .i64 x.Cmd.Max, .int .i64 x.Cmd.Now, .int .u32 x.Cmd.Sum, .int .i64 x.Cmd.Conf.Segment, .int .i64 x.Cmd.Conf.Keep, .int .i64 x.Cmd.Conf.Age, .int .i64 x.Cmd.Conf.Grace] 38)).heap.size := by simp
  have hbx : (w.alloc (.cells #[.int .i64 x.Term, .int .i64 x.Cmd.Kind, .int .i64 x.Cmd.Pid, .int .i64 x.Cmd.Seq, .slice A4 x.Cmd.Records.length c4, .string x.Cmd.Group, .int .i64 x.Cmd.Offset, .int .i64 x.Cmd.Max, .int .i64 x.Cmd.Now, .int .u32 x.Cmd.Sum, .int .i64 x.Cmd.Conf.Segment, .int .i64 x.Cmd.Conf.Keep, .int .i64 x.Cmd.Conf.Age, .int .i64 x.Cmd.Conf.Grace] 38)).heap[w.heap.size]? = some (.cells #[.int .i64 x.Term, .int .i64 x.Cmd.Kind, .int .i64 x.Cmd.Pid, .int .i64 x.Cmd.Seq, .slice A4 x.Cmd.Records.length c4, .string x.Cmd.Group, .int .i64 x.Cmd.Offset, .int .i64 x.Cmd.Max, .int .i64 x.Cmd.Now, .int .u32 x.Cmd.Sum, .int .i64 x.Cmd.Conf.Segment, .int .i64 x.Cmd.Conf.Keep, .int .i64 x.Cmd.Conf.Age, .int .i64 x.Cmd.Conf.Grace] 38 (0, 0)) := heap_alloc_new w _
  generalize w.alloc (.cells #[.int .i64 x.Term, .int .i64 x.Cmd.Kind, .int .i64 x.Cmd.Pid, .int .i64 x.Cmd.Seq, .slice A4 x.Cmd.Records.length c4, .string x.Cmd.Group, .int .i64 x.Cmd.Offset, .int .i64 x.Cmd.Max, .int .i64 x.Cmd.Now, .int .u32 x.Cmd.Sum, .int .i64 x.Cmd.Conf.Segment, .int .i64 x.Cmd.Conf.Keep, .int .i64 x.Cmd.Conf.Age, .int .i64 x.Cmd.Conf.Grace] 38) = w1 at hb1 hsz1 hbx ⊢
  obtain ⟨k0, k1, k2, k3, k4, k5, k6, k7, k8, k9, k10, k11, k12, k13⟩ := box_Entry hbx
  have hg2 : w1.cell? ⟨g, 2, none⟩ = some (.slice A s.l.length c) := (hb1.cell hlt).trans h2
  have hlt1 : g < w1.heap.size := by omega
  have hNFb : ¬ NoF w.heap.size := id
  have hNF : ¬ NoF g := id
  clear hbx
  refine wp_region_open [0, 0, 0, 0, 0, 1, 0, 1, 1, 1, 2, 2, 2] (fun w' => ∃ D : Same NoF w1, w' = D.world) 7 (by kernel_rfl) (by kernel_rfl) (by kernel_rfl) InSame.start ?_
  simp only [sel, Nat.reduceEqDiff, reduceIte]
  repeat (go_big_quiet_step (fail))
  refine wpQuiet_nil ?_
  have hr1 := (hr.below hb1).drew
  have r41 : RS kRecord w1 (fun k => G k ∧ k < w.heap.size) A4 x.Cmd.Records.length x.Cmd.Records := r4.bound.below hb1
  refine wpAnyI_fork (i := 5) (j := 7) (by kernel_rfl) (fun N hN => ?armA) (fun N hN => ?armB)
  case' armA =>
    simp only [pickOp]
    go_wp2_with (first
      | (at_builtin
         refine wpList_append_S rfl tEntry _ (.tmp 9) rfl (K := kEntry) (F := NoF) (v := .slice none 0 0) (xs := []) rfl rfl OwnS.nil hr1 (fun k hk => by simp [Value.ownBlock] at hk) ?_ ?_ ?_))
    · simp; omega
    · simp; omega
    intro v2 w2 hA
    have hls : ∀ k, v2.ownBlock = some k → w1.heap.size ≤ k := fun k hk => by
      rcases hA.lies k hk with h | h
      · simp [Value.ownBlock] at h
      · have := h.1; rw [World.size_drew] at this; exact this
    have hO2 : OwnS kEntry 38 w2 (fun k => (F k ∧ k ≠ g) ∨ w1.heap.size ≤ k) v2 s.l := hA.own.mono fun k hk => by
      rcases hk with hk | hk | hk
      · exact hk.elim
      · exact .inl hk
      · exact .inr (by have := hk.1; rw [World.size_drew] at this; exact this)
    have hb2 : Below w1.heap.size w1 w2 := (drawn_below w1 1).trans ((Below.refl _ _).grown hA.grown (Nat.le_refl _) (by simp [Value.ownBlock]))
    obtain ⟨A2, n2, c2, rfl⟩ := hO2.shape
    clear hA hr1
    go_wp2
    refine hN _ _ (InSame.of_below hb2) ?_
    clear hN N
    refine wpAnyI_step (k := 7) (by kernel_rfl) (fun N hN => ?_)
    simp only [pickOp]
    go_wp2
    have hr3 : RS kEntry (w2.alloc (.cells #[.int .i64 x.Term, .int .i64 x.Cmd.Kind, .int .i64 x.Cmd.Pid, .int .i64 x.Cmd.Seq, .slice A4 x.Cmd.Records.length c4, .string x.Cmd.Group, .int .i64 x.Cmd.Offset, .int .i64 x.Cmd.Max, .int .i64 x.Cmd.Now, .int .u32 x.Cmd.Sum, .int .i64 x.Cmd.Conf.Segment, .int .i64 x.Cmd.Conf.Keep, .int .i64 x.Cmd.Conf.Age, .int .i64 x.Cmd.Conf.Grace] 38)) (fun k => (G k ∧ k < w.heap.size) ∨ k = w2.heap.size) (some ⟨w2.heap.size, 0, none⟩) 1 [x] :=
      RS.lit w2 (xs := [x]) (Elems.single (K := kEntry) ⟨A4, c4, rfl, l4, m4, r41.below hb2⟩)
    have hb3 : Below w1.heap.size w1 (w2.alloc (.cells #[.int .i64 x.Term, .int .i64 x.Cmd.Kind, .int .i64 x.Cmd.Pid, .int .i64 x.Cmd.Seq, .slice A4 x.Cmd.Records.length c4, .string x.Cmd.Group, .int .i64 x.Cmd.Offset, .int .i64 x.Cmd.Max, .int .i64 x.Cmd.Now, .int .u32 x.Cmd.Sum, .int .i64 x.Cmd.Conf.Segment, .int .i64 x.Cmd.Conf.Keep, .int .i64 x.Cmd.Conf.Age, .int .i64 x.Cmd.Conf.Grace] 38)) := hb2.alloc hb2.size _
    have hO3 := hO2.below ((Below.refl w2.heap.size w2).alloc (Nat.le_refl _) (.cells #[.int .i64 x.Term, .int .i64 x.Cmd.Kind, .int .i64 x.Cmd.Pid, .int .i64 x.Cmd.Seq, .slice A4 x.Cmd.Records.length c4, .string x.Cmd.Group, .int .i64 x.Cmd.Offset, .int .i64 x.Cmd.Max, .int .i64 x.Cmd.Now, .int .u32 x.Cmd.Sum, .int .i64 x.Cmd.Conf.Segment, .int .i64 x.Cmd.Conf.Keep, .int .i64 x.Cmd.Conf.Age, .int .i64 x.Cmd.Conf.Grace] 38))
    have hgl : w1.heap.size ≤ w2.heap.size := hb2.size
    refine hN _ _ (InSame.of_below hb3) ?_
    generalize w2.alloc (.cells #[.int .i64 x.Term, .int .i64 x.Cmd.Kind, .int .i64 x.Cmd.Pid, .int .i64 x.Cmd.Seq, .slice A4 x.Cmd.Records.length c4, .string x.Cmd.Group, .int .i64 x.Cmd.Offset, .int .i64 x.Cmd.Max, .int .i64 x.Cmd.Now, .int .u32 x.Cmd.Sum, .int .i64 x.Cmd.Conf.Segment, .int .i64 x.Cmd.Conf.Keep, .int .i64 x.Cmd.Conf.Age, .int .i64 x.Cmd.Conf.Grace] 38) = w3 at hr3 hb3 hO3 ⊢
    clear hb2 hO2 hN N
    generalize w2.heap.size = gl at hr3 hgl ⊢
  case' armB =>
    simp only [pickOp]
    go_wp2
    have hr3 : RS kEntry (w1.alloc (.cells #[.int .i64 x.Term, .int .i64 x.Cmd.Kind, .int .i64 x.Cmd.Pid, .int .i64 x.Cmd.Seq, .slice A4 x.Cmd.Records.length c4, .string x.Cmd.Group, .int .i64 x.Cmd.Offset, .int .i64 x.Cmd.Max, .int .i64 x.Cmd.Now, .int .u32 x.Cmd.Sum, .int .i64 x.Cmd.Conf.Segment, .int .i64 x.Cmd.Conf.Keep, .int .i64 x.Cmd.Conf.Age, .int .i64 x.Cmd.Conf.Grace] 38)).drew (fun k => (G k ∧ k < w.heap.size) ∨ k = w1.heap.size) (some ⟨w1.heap.size, 0, none⟩) 1 [x] :=
      (RS.lit w1 (xs := [x]) (Elems.single (K := kEntry) ⟨A4, c4, rfl, l4, m4, r41⟩)).drew
    have hb3 : Below w1.heap.size w1 (w1.alloc (.cells #[.int .i64 x.Term, .int .i64 x.Cmd.Kind, .int .i64 x.Cmd.Pid, .int .i64 x.Cmd.Seq, .slice A4 x.Cmd.Records.length c4, .string x.Cmd.Group, .int .i64 x.Cmd.Offset, .int .i64 x.Cmd.Max, .int .i64 x.Cmd.Now, .int .u32 x.Cmd.Sum, .int .i64 x.Cmd.Conf.Segment, .int .i64 x.Cmd.Conf.Keep, .int .i64 x.Cmd.Conf.Age, .int .i64 x.Cmd.Conf.Grace] 38)).drew := ((Below.refl _ _).alloc (Nat.le_refl _) _).drew
    refine hN _ _ (InSame.of_below hb3) ?_
    generalize (w1.alloc (.cells #[.int .i64 x.Term, .int .i64 x.Cmd.Kind, .int .i64 x.Cmd.Pid, .int .i64 x.Cmd.Seq, .slice A4 x.Cmd.Records.length c4, .string x.Cmd.Group, .int .i64 x.Cmd.Offset, .int .i64 x.Cmd.Max, .int .i64 x.Cmd.Now, .int .u32 x.Cmd.Sum, .int .i64 x.Cmd.Conf.Segment, .int .i64 x.Cmd.Conf.Keep, .int .i64 x.Cmd.Conf.Age, .int .i64 x.Cmd.Conf.Grace] 38)).drew = w2 at hr3 hb3 ⊢
    clear hr1
    have hr1 := (hr.below hb1).below hb3
    obtain ⟨gl, hg0, hgl⟩ : ∃ gl, w1.heap.size = gl ∧ w1.heap.size ≤ gl := ⟨_, rfl, Nat.le_refl _⟩
    rw [hg0] at hr3 ⊢
    clear hg0
    clear hN N
    refine wpAnyI_step (k := 5) (by kernel_rfl) (fun N hN => ?_)
    simp only [pickOp]
    go_wp2_with (first
      | (at_builtin
         refine wpList_append_S rfl tEntry _ (.tmp 9) rfl (K := kEntry) (F := NoF) (v := .slice none 0 0) (xs := []) rfl rfl OwnS.nil hr1 (fun k hk => by simp [Value.ownBlock] at hk) ?_ ?_ ?_))
    · simp; omega
    · simp; omega
    intro v2 w3 hA
    have hls : ∀ k, v2.ownBlock = some k → w1.heap.size ≤ k := fun k hk => by
      rcases hA.lies k hk with h | h
      · simp [Value.ownBlock] at h
      · have := h.1; have := hb3.size; omega
    have hO3 : OwnS kEntry 38 w3 (fun k => (F k ∧ k ≠ g) ∨ w1.heap.size ≤ k) v2 s.l := hA.own.mono fun k hk => by
      rcases hk with hk | hk | hk
      · exact hk.elim
      · exact .inl hk
      · exact .inr (by have := hk.1; have := hb3.size; omega)
    have hb23 : Below w2.heap.size w2 w3 := ((Below.refl _ _).grown hA.grown (Nat.le_refl _) (by simp [Value.ownBlock]))
    have hr4 := hr3.below hb23
    have hb4 : Below w1.heap.size w1 w3 := hb3.trans (hb23.mono hb3.size)
    obtain ⟨A2, n2, c2, rfl⟩ := hO3.shape
    clear hA hr1 hr3 hb3 hb23
    have hr3 := hr4
    have hb3 := hb4
    clear hr4 hb4
    go_wp2
    refine hN _ _ (InSame.of_below hb3) ?_
    clear hN N
  all_goals
    have hb03 : Below w.heap.size w w3 := hb1.trans (hb3.mono hb1.size)
    have hs3 := hb3.size
    refine wpAnyI_step (k := 8) (by kernel_rfl) (fun N hN => ?_)
    simp only [pickOp]
    go_wp2_with fail
    refine (CopyEntries_any _ _ _ _ _ _ hr3 (by omega) (by intro y hy; simp at hy; subst hy; omega)).mono ?_
    rintro e w4 ⟨v4, rfl, hM⟩
    obtain ⟨A4', c4', rfl, hl4, hm4, hr4⟩ := hM.own.reads
    have hb34 := hM.below
    have hb4 : Below w1.heap.size w1 w4 := hb3.trans (hb34.mono hs3)
    go_wp2
    refine hN _ _ (InSame.of_below hb4) ?_
    clear hN N hM
    refine wpAnyI_step (k := 9) (by kernel_rfl) (fun N hN => ?_)
    simp only [pickOp]
    go_wp2_with (first
      | (at_builtin
         refine wpList_append_S rfl tEntry (.tmp 10) (.tmp 13) rfl (K := kEntry) rfl rfl (hO3.below hb34) hr4 ?_ ?_ ?_ ?_))
    · intro k hk hk2
      have h1 := (hO3.lt k hk).2
      have := hk2.1
      omega
    · omega
    · omega
    intro v5 w5 hA
    have hls5 : ∀ k, v5.ownBlock = some k → w1.heap.size ≤ k := fun k hk => by
      rcases hA.lies k hk with h | h
      · exact hls k h
      · have := h.1; have := hb4.size; omega
    have hO5 : OwnS kEntry 38 w5 (fun k => (F k ∧ k ≠ g) ∨ w1.heap.size ≤ k) v5 (s.add x).l := hA.own.mono fun k hk => by
      rcases hk with hk | hk | hk
      · exact hk
      · exact .inr (by have := hk.1; omega)
      · exact .inr (by have := hk.1; have := hb4.size; omega)
    have hb5 : Below w1.heap.size w1 w5 := hb4.grown hA.grown (by have := hb4.size; omega) (fun k hk => hls k hk)
    have hb05 : Below w.heap.size w w5 := hb1.trans (hb5.mono hb1.size)
    obtain ⟨A5, n5, c5, rfl⟩ := hO5.shape
    clear hA
    go_wp2
    refine hN _ _ (InSame.of_below hb5) ?_
    clear hN N
    have hg4 : w5.heap[g]? = some (.cells #[.int .i64 s.base, .int .i64 s.term, .slice A s.l.length c] 77 (0, 0)) := (hb05.block g hlt).trans Hbk.out
    have q1 : w5.cell? ⟨g, 2, none⟩ = some (.slice A s.l.length c) := cell_of_row w5 g 2 _ _ _ hg4
    have q2 : w5.frozen? ⟨g, 2, none⟩ = false := frozen_of_row w5 g 2 _ _ hg4
    have Hg4 := Lib.hid hg4
    clear hg4
    refine wpAnyI_stepz (k := 10) (by kernel_rfl) (by kernel_rfl) (fun N hN => ?_)
    simp only [pickOp]
    go_wp2
    refine wpAnyI_stepz (k := 11) (by kernel_rfl) (by kernel_rfl) (fun N hN => ?_)
    simp only [pickOp]
    go_wp2
    refine wpAnyI_stepz (k := 12) (by kernel_rfl) (by kernel_rfl) (fun N hN => ?_)
    simp only [pickOp]
    go_wp2
    refine wpAnyI_end (by kernel_rfl) ⟨rfl, ?_⟩
    have hs5 := hb5.size
    have hs1 := hb1.size
    have hO6 := hO5.bound
    have hL : RLogAt (w5.setCell ⟨g, 2, none⟩ (.slice A5 n5 c5)) g (Grow F w w5) (s.add x) := RLogAt.store Hg4.out (.inl hF) (hO6.mono fun k hk => by
      rcases hk.1 with h | h
      · exact ⟨.inl h.1, h.2⟩
      · exact ⟨.inr ⟨by omega, hk.2⟩, by omega⟩)
    have hs6 : (w5.setCell ⟨g, 2, none⟩ (.slice A5 n5 c5)).heap.size = w5.heap.size := World.size_setCell ..
    have hK : Keeps F w (w5.setCell ⟨g, 2, none⟩ (.slice A5 n5 c5)) := Keeps.setCell (Keeps.of_below hb05 F) (p := ⟨g, 2, none⟩) (fun _ => hF) _
    clear Hg4 q1 q2 hr3 hr4 hO3 hO5 hO6
    generalize w5.setCell ⟨g, 2, none⟩ (.slice A5 n5 c5) = w6 at hL hK hs6 ⊢
    obtain ⟨A7, c7, p0, p1, p2, pz, pF, plt, _⟩ := hL.cells
    have hsum : (s.add x).base + ((s.add x).l.length : Int) = (s.add x).last := rfl
    have hal : (s.add x).l.length = s.l.length + 1 := by simp [LogS.add]
    have hab : (s.add x).base = s.base := rfl
    rw [hal] at p2 hsum
    rw [hab] at p0 hsum
    have Hsum := Lib.hid hsum
    clear hsum hal hab
    go_wp2
    go_quiet (fail)
    go_wp2
    go_ret
    refine ⟨ret_int ?_, (hL.drewN nq).mono fun k hk => ?_, hK.drewN nq⟩
    · rw [← Hsum.out]; omega
    · rcases hk with hk | hk
      · exact .inl hk
      · exact .inr ⟨hk.1, by have := hk.2; show k < w6.heap.size; omega⟩
end Go.Proofs.Ytngmipppgnlkdaa
