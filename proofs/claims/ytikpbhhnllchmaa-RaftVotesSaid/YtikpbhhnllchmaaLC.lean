/- Log.Add. -/
import Derived.Test.YtikpbhhnllchmaaLB
import Derived.Test.YtikpbhhnllchmaaR
set_option linter.unusedVariables false
set_option linter.unusedSimpArgs false
namespace Go.Proofs.Ytikpbhhnllchmaa
open Go.RowKit
attribute [local go_sem] Same.cell

def LogS.add (s : LogS) (e : Entry) : LogS := { s with l := s.l ++ [e] }

set_option maxHeartbeats 1000000 in
theorem Add_any (g : Nat) (F G : Foot) (s : LogS) (x : Entry) (A4 : Option Addr) (c4 : Nat) (w : World) (h : LogAt w g F s) (ok : s.Ok) (hl : s.l.length < 1000000000)
    (l4 : x.Cmd.Records.length ≤ c4) (m4 : c4 ≤ 9223372036854775807) (r4 : RS kRecord w G A4 x.Cmd.Records.length x.Cmd.Records) (hx : x.Cmd.Records.length ≤ 1000000000) :
    Calls Try.prog 62 #[.pointer (some ⟨g, 0, none⟩), .agg #[.int .i64 x.Term, .int .i64 x.Cmd.Kind, .int .i64 x.Cmd.Pid, .int .i64 x.Cmd.Seq, .slice A4 x.Cmd.Records.length c4, .string x.Cmd.Group, .int .i64 x.Cmd.Offset, .int .i64 x.Cmd.Max, .int .i64 x.Cmd.Now, .int .u32 x.Cmd.Sum, .int .i64 x.Cmd.Conf.Segment, .int .i64 x.Cmd.Conf.Keep, .int .i64 x.Cmd.Conf.Age, .int .i64 x.Cmd.Conf.Grace]] w fun e w' =>
      e = .returned (.int .i64 (s.add x).last) ∧ LogAt w' g (Grow F w w') (s.add x) ∧ Keeps F w w' := by
  obtain ⟨A, c, h0, h1, h2, hfz, hF, hlt, ho, hc1, hc2, hr, hbk⟩ := h.cells
  have Hbk := Lib.hid hbk
  clear hbk
  have b0 := ok.b0
  have b1 := ok.b1
  have l1 := ok.l1
  have hne : w.heap.size ≠ g := by omega
  go_enter Try.func62, Try.ntmps62
  go_wp2
  have hb1 : Below w.heap.size w (w.alloc (.cells #[.int .i64 x.Term, .int .i64 x.Cmd.Kind, .int .i64 x.Cmd.Pid, .int .i64 x.Cmd.Seq, .slice A4 x.Cmd.Records.length c4, .string x.Cmd.Group, .int .i64 x.Cmd.Offset, .int .i64 x.Cmd.Max, .int .i64 x.Cmd.Now, .int .u32 x.Cmd.Sum, .int .i64 x.Cmd.Conf.Segment, .int .i64 x.Cmd.Conf.Keep, .int .i64 x.Cmd.Conf.Age, .int .i64 x.Cmd.Conf.Grace] 43)) := (Below.refl _ _).alloc (Nat.le_refl _) _
  have hsz1 : w.heap.size < (w.alloc (.cells #[.int .i64 x.Term, .int .i64 x.Cmd.Kind, .int .i64 x.Cmd.Pid, .int .i64 x.Cmd.Seq, .slice A4 x.Cmd.Records.length c4, .string x.Cmd.Group, .int .i64 x.Cmd.Offset, .int .i64 x.Cmd.Max, .int .i64 x.Cmd.Now, .int .u32 x.Cmd.Sum, .int .i64 x.Cmd.Conf.Segment, .int .i64 x.Cmd.Conf.Keep, .int .i64 x.Cmd.Conf.Age, .int .i64 x.Cmd.Conf.Grace] 43)).heap.size := by simp
  have hbx : (w.alloc (.cells #[.int .i64 x.Term, .int .i64 x.Cmd.Kind, .int .i64 x.Cmd.Pid, .int .i64 x.Cmd.Seq, .slice A4 x.Cmd.Records.length c4, .string x.Cmd.Group, .int .i64 x.Cmd.Offset, .int .i64 x.Cmd.Max, .int .i64 x.Cmd.Now, .int .u32 x.Cmd.Sum, .int .i64 x.Cmd.Conf.Segment, .int .i64 x.Cmd.Conf.Keep, .int .i64 x.Cmd.Conf.Age, .int .i64 x.Cmd.Conf.Grace] 43)).heap[w.heap.size]? = some (.cells #[.int .i64 x.Term, .int .i64 x.Cmd.Kind, .int .i64 x.Cmd.Pid, .int .i64 x.Cmd.Seq, .slice A4 x.Cmd.Records.length c4, .string x.Cmd.Group, .int .i64 x.Cmd.Offset, .int .i64 x.Cmd.Max, .int .i64 x.Cmd.Now, .int .u32 x.Cmd.Sum, .int .i64 x.Cmd.Conf.Segment, .int .i64 x.Cmd.Conf.Keep, .int .i64 x.Cmd.Conf.Age, .int .i64 x.Cmd.Conf.Grace] 43 (0, 0)) := heap_alloc_new w _
  generalize w.alloc (.cells #[.int .i64 x.Term, .int .i64 x.Cmd.Kind, .int .i64 x.Cmd.Pid, .int .i64 x.Cmd.Seq, .slice A4 x.Cmd.Records.length c4, .string x.Cmd.Group, .int .i64 x.Cmd.Offset, .int .i64 x.Cmd.Max, .int .i64 x.Cmd.Now, .int .u32 x.Cmd.Sum, .int .i64 x.Cmd.Conf.Segment, .int .i64 x.Cmd.Conf.Keep, .int .i64 x.Cmd.Conf.Age, .int .i64 x.Cmd.Conf.Grace] 43) = w1 at hb1 hsz1 hbx ⊢
  obtain ⟨k0, k1, k2, k3, k4, k5, k6, k7, k8, k9, k10, k11, k12, k13⟩ := box_Entry hbx
  have hg2 : w1.cell? ⟨g, 2, none⟩ = some (.slice A s.l.length c) := (hb1.cell hlt).trans h2
  have hlt1 : g < w1.heap.size := by omega
  obtain ⟨B, HB⟩ : ∃ B : Foot, Hid (∀ k, B k ↔ (Value.slice A s.l.length c).ownBlock = some k) := ⟨_, fun _ => Iff.rfl⟩
  have hBg : ¬ B g := fun hk => (ho.lt g ((HB.out g).1 hk)).1.2 rfl
  have hBb : ¬ B w.heap.size := fun hk => by have := (ho.lt _ ((HB.out _).1 hk)).2; omega
  refine wp_region_plan [0, 0, 0, 0, 0, 0, 1, 1, 1, 2, 2, 2] (fun w' => ∃ D : Same B w1, w' = D.world) (by kernel_rfl) (by kernel_rfl) InSame.start ?_
  simp only [sel, selE, Nat.reduceEqDiff, reduceIte]
  repeat (go_big_quiet_step (fail))
  refine wpQuiet_nil ?_
  refine wpE_cons (fun N hN => ?_)
  go_wp2
  have hb2 : Below w1.heap.size w1 (w1.alloc (.cells #[.int .i64 x.Term, .int .i64 x.Cmd.Kind, .int .i64 x.Cmd.Pid, .int .i64 x.Cmd.Seq, .slice A4 x.Cmd.Records.length c4, .string x.Cmd.Group, .int .i64 x.Cmd.Offset, .int .i64 x.Cmd.Max, .int .i64 x.Cmd.Now, .int .u32 x.Cmd.Sum, .int .i64 x.Cmd.Conf.Segment, .int .i64 x.Cmd.Conf.Keep, .int .i64 x.Cmd.Conf.Age, .int .i64 x.Cmd.Conf.Grace] 43)).drew := ((Below.refl _ _).alloc (Nat.le_refl _) _).drew
  have hr2 : RS kEntry (w1.alloc (.cells #[.int .i64 x.Term, .int .i64 x.Cmd.Kind, .int .i64 x.Cmd.Pid, .int .i64 x.Cmd.Seq, .slice A4 x.Cmd.Records.length c4, .string x.Cmd.Group, .int .i64 x.Cmd.Offset, .int .i64 x.Cmd.Max, .int .i64 x.Cmd.Now, .int .u32 x.Cmd.Sum, .int .i64 x.Cmd.Conf.Segment, .int .i64 x.Cmd.Conf.Keep, .int .i64 x.Cmd.Conf.Age, .int .i64 x.Cmd.Conf.Grace] 43)).drew (fun k => G k ∨ k = w1.heap.size) (some ⟨w1.heap.size, 0, none⟩) 1 [x] :=
    (RS.lit w1 (xs := [x]) (Elems.single (K := kEntry) ⟨A4, c4, rfl, l4, m4, r4.below hb1⟩)).drew
  refine hN _ _ (InSame.of_below hb2) ?_
  generalize (w1.alloc (.cells #[.int .i64 x.Term, .int .i64 x.Cmd.Kind, .int .i64 x.Cmd.Pid, .int .i64 x.Cmd.Seq, .slice A4 x.Cmd.Records.length c4, .string x.Cmd.Group, .int .i64 x.Cmd.Offset, .int .i64 x.Cmd.Max, .int .i64 x.Cmd.Now, .int .u32 x.Cmd.Sum, .int .i64 x.Cmd.Conf.Segment, .int .i64 x.Cmd.Conf.Keep, .int .i64 x.Cmd.Conf.Age, .int .i64 x.Cmd.Conf.Grace] 43)).drew = w2 at hb2 hr2 ⊢
  refine wpE_cons (fun N2 hN2 => ?_)
  clear hN N
  go_wp2_with fail
  refine (copied_any _ _ _ _ _ _ hr2 (by omega) (by intro y hy; simp at hy; subst hy; omega)).mono ?_
  rintro e w3 ⟨v3, rfl, hM⟩
  obtain ⟨A3, c3, rfl, hl3, hm3, hr3⟩ := hM.own.reads
  go_wp2
  have hb3 : Below w1.heap.size w1 w3 := hb2.trans (hM.below.mono hb2.size)
  refine hN2 _ _ (InSame.of_below hb3) ?_
  refine wpE_cons (fun N3 hN3 => ?_)
  clear hN2 N2
  have hb03 : Below w.heap.size w w3 := hb1.trans (hb3.mono hb1.size)
  go_wp2_with (first
    | (at_builtin
       refine wpList_append_S rfl tEntry (.tmp 9) (.tmp 12) rfl (K := kEntry) rfl rfl (ho.below hb03) hr3 ?_ ?_ ?_ ?_))
  · intro k hk hk2
    have := ho.lt k hk
    have := hk2.1
    have := hb2.size
    omega
  · omega
  · omega
  · intro v4 w4 hA
    obtain ⟨A5, n5, c5, rfl⟩ := hA.own.shape
    go_wp2
    have hs4 := hA.grown.size
    have hs3 := hb3.size
    refine hN3 _ _ ⟨⟨w4, fun k hk hn => (hA.grown.block k (by omega) (fun e => hn ((HB.out k).2 e.symm))).trans (hb3.block k hk)⟩, rfl⟩ ?_
    refine wpE_nil ?_
    clear hN3 N3
    have hgo : some g ≠ (Value.slice A s.l.length c).ownBlock := fun e => hBg ((HB.out g).2 e.symm)
    have hg4 : w4.heap[g]? = some (.cells #[.int .i64 s.base, .int .i64 s.term, .slice A s.l.length c] 65 (0, 0)) := (hA.grown.block g (by omega) hgo).trans ((hb03.block g hlt).trans Hbk.out)
    have q1 : w4.cell? ⟨g, 2, none⟩ = some (.slice A s.l.length c) := cell_of_row w4 g 2 _ _ _ hg4
    have q2 : w4.frozen? ⟨g, 2, none⟩ = false := frozen_of_row w4 g 2 _ _ hg4
    have Hg4 := Lib.hid hg4
    clear hg4
    go_wp2_with fail
    have hL : LogAt (w4.setCell ⟨g, 2, none⟩ (.slice A5 n5 c5)) g (Grow F w w4) (s.add x) := by
      refine LogAt.store Hg4.out (.inl hF) (hA.own.mono fun k hk => ?_)
      rcases hk with hk | hk | hk
      · exact ⟨.inl hk.1, hk.2⟩
      · have := hk.1; have := hk.2; have := hb2.size
        exact ⟨.inr ⟨by omega, by omega⟩, by omega⟩
      · exact ⟨.inr ⟨by omega, by omega⟩, by omega⟩
    have hok : (s.add x).Ok := ⟨b0, b1, by simp [LogS.add]; omega, fun y hy => by
      rcases List.mem_append.1 hy with hy | hy
      · exact ok.r1 y hy
      · simp at hy; subst hy; omega⟩
    refine (last_any _ _ _ _ hL hok).mono ?_
    rintro e w5 ⟨rfl, m5, rfl⟩
    go_wp2
    go_ret
    refine ⟨rfl, (hL.drewN m5).mono fun k hk => ?_, ?_⟩
    · have hsz : ((w4.setCell ⟨g, 2, none⟩ (.slice A5 n5 c5)).drewN m5).heap.size = w4.heap.size := World.size_setCell ..
      unfold Grow at hk ⊢
      rw [hsz]
      exact hk
    refine Keeps.drewN (Keeps.setCell ?_ (p := ⟨g, 2, none⟩) (fun _ => hF) _) m5
    exact (Keeps.of_below hb03 F).grown hA.grown fun k hk _ => (ho.lt k hk).1.1
end Go.Proofs.Ytikpbhhnllchmaa
