/- Contract of the document's Copy of a command. -/
import Derived.Test.YtngmipppgnlkdaaA
import Derived.Test.YtngmipppgnlkdaaR
set_option linter.unusedVariables false
set_option linter.unusedSimpArgs false
namespace Go.Proofs.Ytngmipppgnlkdaa
open Go.RowKit
attribute [local go_sem] Same.cell

theorem set13 (W : World) (g : Nat) (t : TypeId) (z0 z1 z2 z3 z4 z5 z6 z7 z8 z9 z10 z11 z12 : Value) (h : W.heap[g]? = some (.cells #[z0, z1, z2, z3, z4, z5, z6, z7, z8, z9, z10, z11, z12] t (0, 0))) (v0 v1 v2 v3 v4 v5 v6 v7 v8 v9 v10 v11 v12 : Value) :
    (((((((((((((W.setCell ⟨g, 0, none⟩ v0).setCell ⟨g, 1, none⟩ v1).setCell ⟨g, 2, none⟩ v2).setCell ⟨g, 3, none⟩ v3).setCell ⟨g, 4, none⟩ v4).setCell ⟨g, 5, none⟩ v5).setCell ⟨g, 6, none⟩ v6).setCell ⟨g, 7, none⟩ v7).setCell ⟨g, 8, none⟩ v8).setCell ⟨g, 9, none⟩ v9).setCell ⟨g, 10, none⟩ v10).setCell ⟨g, 11, none⟩ v11).setCell ⟨g, 12, none⟩ v12).heap[g]? = some (.cells #[v0, v1, v2, v3, v4, v5, v6, v7, v8, v9, v10, v11, v12] t (0, 0)) ∧ Keeps (fun k => k = g) W (((((((((((((W.setCell ⟨g, 0, none⟩ v0).setCell ⟨g, 1, none⟩ v1).setCell ⟨g, 2, none⟩ v2).setCell ⟨g, 3, none⟩ v3).setCell ⟨g, 4, none⟩ v4).setCell ⟨g, 5, none⟩ v5).setCell ⟨g, 6, none⟩ v6).setCell ⟨g, 7, none⟩ v7).setCell ⟨g, 8, none⟩ v8).setCell ⟨g, 9, none⟩ v9).setCell ⟨g, 10, none⟩ v10).setCell ⟨g, 11, none⟩ v11).setCell ⟨g, 12, none⟩ v12) := by
  have h0 := heap_setCell_same _ g 0 _ _ v0 h
  have h1 := heap_setCell_same _ g 1 _ _ v1 h0
  have h2 := heap_setCell_same _ g 2 _ _ v2 h1
  have h3 := heap_setCell_same _ g 3 _ _ v3 h2
  have h4 := heap_setCell_same _ g 4 _ _ v4 h3
  have h5 := heap_setCell_same _ g 5 _ _ v5 h4
  have h6 := heap_setCell_same _ g 6 _ _ v6 h5
  have h7 := heap_setCell_same _ g 7 _ _ v7 h6
  have h8 := heap_setCell_same _ g 8 _ _ v8 h7
  have h9 := heap_setCell_same _ g 9 _ _ v9 h8
  have h10 := heap_setCell_same _ g 10 _ _ v10 h9
  have h11 := heap_setCell_same _ g 11 _ _ v11 h10
  have h12 := heap_setCell_same _ g 12 _ _ v12 h11
  simp only [List.setIfInBounds_toArray, List.set_cons_zero, List.set_cons_succ] at h12
  exact ⟨h12, ((((((((((((((Keeps.refl (fun k => k = g) W).setCell (p := ⟨g, 0, none⟩) (fun _ => rfl) v0).setCell (p := ⟨g, 1, none⟩) (fun _ => rfl) v1).setCell (p := ⟨g, 2, none⟩) (fun _ => rfl) v2).setCell (p := ⟨g, 3, none⟩) (fun _ => rfl) v3).setCell (p := ⟨g, 4, none⟩) (fun _ => rfl) v4).setCell (p := ⟨g, 5, none⟩) (fun _ => rfl) v5).setCell (p := ⟨g, 6, none⟩) (fun _ => rfl) v6).setCell (p := ⟨g, 7, none⟩) (fun _ => rfl) v7).setCell (p := ⟨g, 8, none⟩) (fun _ => rfl) v8).setCell (p := ⟨g, 9, none⟩) (fun _ => rfl) v9).setCell (p := ⟨g, 10, none⟩) (fun _ => rfl) v10).setCell (p := ⟨g, 11, none⟩) (fun _ => rfl) v11).setCell (p := ⟨g, 12, none⟩) (fun _ => rfl) v12)⟩
theorem box13 {W : World} {g : Nat} {t : TypeId} {z0 z1 z2 z3 z4 z5 z6 z7 z8 z9 z10 z11 z12 : Value} (h : W.heap[g]? = some (.cells #[z0, z1, z2, z3, z4, z5, z6, z7, z8, z9, z10, z11, z12] t (0, 0))) : W.cell? ⟨g, 0, none⟩ = some z0 ∧ W.cell? ⟨g, 1, none⟩ = some z1 ∧ W.cell? ⟨g, 2, none⟩ = some z2 ∧ W.cell? ⟨g, 3, none⟩ = some z3 ∧ W.cell? ⟨g, 4, none⟩ = some z4 ∧ W.cell? ⟨g, 5, none⟩ = some z5 ∧ W.cell? ⟨g, 6, none⟩ = some z6 ∧ W.cell? ⟨g, 7, none⟩ = some z7 ∧ W.cell? ⟨g, 8, none⟩ = some z8 ∧ W.cell? ⟨g, 9, none⟩ = some z9 ∧ W.cell? ⟨g, 10, none⟩ = some z10 ∧ W.cell? ⟨g, 11, none⟩ = some z11 ∧ W.cell? ⟨g, 12, none⟩ = some z12 ∧ W.frozen? ⟨g, 0, none⟩ = false ∧ W.frozen? ⟨g, 1, none⟩ = false ∧ W.frozen? ⟨g, 2, none⟩ = false ∧ W.frozen? ⟨g, 3, none⟩ = false ∧ W.frozen? ⟨g, 4, none⟩ = false ∧ W.frozen? ⟨g, 5, none⟩ = false ∧ W.frozen? ⟨g, 6, none⟩ = false ∧ W.frozen? ⟨g, 7, none⟩ = false ∧ W.frozen? ⟨g, 8, none⟩ = false ∧ W.frozen? ⟨g, 9, none⟩ = false ∧ W.frozen? ⟨g, 10, none⟩ = false ∧ W.frozen? ⟨g, 11, none⟩ = false ∧ W.frozen? ⟨g, 12, none⟩ = false :=
  ⟨cell_of_row W g 0 _ _ _ h, cell_of_row W g 1 _ _ _ h, cell_of_row W g 2 _ _ _ h, cell_of_row W g 3 _ _ _ h, cell_of_row W g 4 _ _ _ h, cell_of_row W g 5 _ _ _ h, cell_of_row W g 6 _ _ _ h, cell_of_row W g 7 _ _ _ h, cell_of_row W g 8 _ _ _ h, cell_of_row W g 9 _ _ _ h, cell_of_row W g 10 _ _ _ h, cell_of_row W g 11 _ _ _ h, cell_of_row W g 12 _ _ _ h, frozen_of_row W g 0 _ _ h, frozen_of_row W g 1 _ _ h, frozen_of_row W g 2 _ _ h, frozen_of_row W g 3 _ _ h, frozen_of_row W g 4 _ _ h, frozen_of_row W g 5 _ _ h, frozen_of_row W g 6 _ _ h, frozen_of_row W g 7 _ _ h, frozen_of_row W g 8 _ _ h, frozen_of_row W g 9 _ _ h, frozen_of_row W g 10 _ _ h, frozen_of_row W g 11 _ _ h, frozen_of_row W g 12 _ _ h⟩

set_option maxHeartbeats 2000000 in
theorem Copy_any (x : Command) (A3 : Option Addr) (c3 : Nat) (w : World) (F : Foot) (h : RS kRecord w F A3 x.Records.length x.Records) (hl : x.Records.length ≤ c3) (hm : c3 ≤ 9223372036854775807) (hn : x.Records.length ≤ 1000000000) :
    Calls Try.prog 59 #[.agg #[.int .i64 x.Kind, .int .i64 x.Pid, .int .i64 x.Seq, .slice A3 x.Records.length c3, .string x.Group, .int .i64 x.Offset, .int .i64 x.Max, .int .i64 x.Now, .int .u32 x.Sum, .int .i64 x.Conf.Segment, .int .i64 x.Conf.Keep, .int .i64 x.Conf.Age, .int .i64 x.Conf.Grace]] w fun e w' => ∃ B3 d3, e = .returned (.agg #[.int .i64 x.Kind, .int .i64 x.Pid, .int .i64 x.Seq, .slice B3 x.Records.length d3, .string x.Group, .int .i64 x.Offset, .int .i64 x.Max, .int .i64 x.Now, .int .u32 x.Sum, .int .i64 x.Conf.Segment, .int .i64 x.Conf.Keep, .int .i64 x.Conf.Age, .int .i64 x.Conf.Grace]) ∧ x.Records.length ≤ d3 ∧ d3 ≤ 9223372036854775807 ∧ RS kRecord w' (New w w') B3 x.Records.length x.Records ∧ Below w.heap.size w w' := by
  go_enter Try.func59, Try.ntmps59
  have hb2 : Below w.heap.size w ((w.alloc (.cells #[.int .i64 x.Kind, .int .i64 x.Pid, .int .i64 x.Seq, .slice A3 x.Records.length c3, .string x.Group, .int .i64 x.Offset, .int .i64 x.Max, .int .i64 x.Now, .int .u32 x.Sum, .int .i64 x.Conf.Segment, .int .i64 x.Conf.Keep, .int .i64 x.Conf.Age, .int .i64 x.Conf.Grace] 36)).alloc (.cells #[.int .i64 0, .int .i64 0, .int .i64 0, .slice none 0 0, .string ⟨#[]⟩, .int .i64 0, .int .i64 0, .int .i64 0, .int .u32 0, .int .i64 0, .int .i64 0, .int .i64 0, .int .i64 0] 36)) := ((Below.refl _ _).alloc (Nat.le_refl _) _).alloc (by simp) _
  have hs2 : ((w.alloc (.cells #[.int .i64 x.Kind, .int .i64 x.Pid, .int .i64 x.Seq, .slice A3 x.Records.length c3, .string x.Group, .int .i64 x.Offset, .int .i64 x.Max, .int .i64 x.Now, .int .u32 x.Sum, .int .i64 x.Conf.Segment, .int .i64 x.Conf.Keep, .int .i64 x.Conf.Age, .int .i64 x.Conf.Grace] 36)).alloc (.cells #[.int .i64 0, .int .i64 0, .int .i64 0, .slice none 0 0, .string ⟨#[]⟩, .int .i64 0, .int .i64 0, .int .i64 0, .int .u32 0, .int .i64 0, .int .i64 0, .int .i64 0, .int .i64 0] 36)).heap.size = w.heap.size + 2 := by simp
  have hbx : ((w.alloc (.cells #[.int .i64 x.Kind, .int .i64 x.Pid, .int .i64 x.Seq, .slice A3 x.Records.length c3, .string x.Group, .int .i64 x.Offset, .int .i64 x.Max, .int .i64 x.Now, .int .u32 x.Sum, .int .i64 x.Conf.Segment, .int .i64 x.Conf.Keep, .int .i64 x.Conf.Age, .int .i64 x.Conf.Grace] 36)).alloc (.cells #[.int .i64 0, .int .i64 0, .int .i64 0, .slice none 0 0, .string ⟨#[]⟩, .int .i64 0, .int .i64 0, .int .i64 0, .int .u32 0, .int .i64 0, .int .i64 0, .int .i64 0, .int .i64 0] 36)).heap[w.heap.size]? = some (.cells #[.int .i64 x.Kind, .int .i64 x.Pid, .int .i64 x.Seq, .slice A3 x.Records.length c3, .string x.Group, .int .i64 x.Offset, .int .i64 x.Max, .int .i64 x.Now, .int .u32 x.Sum, .int .i64 x.Conf.Segment, .int .i64 x.Conf.Keep, .int .i64 x.Conf.Age, .int .i64 x.Conf.Grace] 36 (0, 0)) := (Below.heap_alloc _ _ _ (by simp)).trans (heap_alloc_new w _)
  have hbz : ((w.alloc (.cells #[.int .i64 x.Kind, .int .i64 x.Pid, .int .i64 x.Seq, .slice A3 x.Records.length c3, .string x.Group, .int .i64 x.Offset, .int .i64 x.Max, .int .i64 x.Now, .int .u32 x.Sum, .int .i64 x.Conf.Segment, .int .i64 x.Conf.Keep, .int .i64 x.Conf.Age, .int .i64 x.Conf.Grace] 36)).alloc (.cells #[.int .i64 0, .int .i64 0, .int .i64 0, .slice none 0 0, .string ⟨#[]⟩, .int .i64 0, .int .i64 0, .int .i64 0, .int .u32 0, .int .i64 0, .int .i64 0, .int .i64 0, .int .i64 0] 36)).heap[w.heap.size + 1]? = some (.cells #[.int .i64 0, .int .i64 0, .int .i64 0, .slice none 0 0, .string ⟨#[]⟩, .int .i64 0, .int .i64 0, .int .i64 0, .int .u32 0, .int .i64 0, .int .i64 0, .int .i64 0, .int .i64 0] 36 (0, 0)) := by have := heap_alloc_new (w.alloc (.cells #[.int .i64 x.Kind, .int .i64 x.Pid, .int .i64 x.Seq, .slice A3 x.Records.length c3, .string x.Group, .int .i64 x.Offset, .int .i64 x.Max, .int .i64 x.Now, .int .u32 x.Sum, .int .i64 x.Conf.Segment, .int .i64 x.Conf.Keep, .int .i64 x.Conf.Age, .int .i64 x.Conf.Grace] 36)) (.cells #[.int .i64 0, .int .i64 0, .int .i64 0, .slice none 0 0, .string ⟨#[]⟩, .int .i64 0, .int .i64 0, .int .i64 0, .int .u32 0, .int .i64 0, .int .i64 0, .int .i64 0, .int .i64 0] 36); simpa using this
  have hr2 : RS kRecord ((w.alloc (.cells #[.int .i64 x.Kind, .int .i64 x.Pid, .int .i64 x.Seq, .slice A3 x.Records.length c3, .string x.Group, .int .i64 x.Offset, .int .i64 x.Max, .int .i64 x.Now, .int .u32 x.Sum, .int .i64 x.Conf.Segment, .int .i64 x.Conf.Keep, .int .i64 x.Conf.Age, .int .i64 x.Conf.Grace] 36)).alloc (.cells #[.int .i64 0, .int .i64 0, .int .i64 0, .slice none 0 0, .string ⟨#[]⟩, .int .i64 0, .int .i64 0, .int .i64 0, .int .u32 0, .int .i64 0, .int .i64 0, .int .i64 0, .int .i64 0] 36)) (fun k => F k ∧ k < w.heap.size) A3 x.Records.length x.Records := h.bound.below hb2
  have HH := Lib.hid (And.intro hb2 (And.intro hs2 (And.intro hbx (And.intro hbz hr2))))
  clear hb2 hs2 hbx hbz
  go_wp2_with (first
    | (at_builtin
       refine wpList_append_S rfl tRecord _ (.tmp 4) rfl (K := kRecord) (F := NoF) (v := .slice none 0 0) (xs := []) rfl rfl OwnS.nil hr2 (fun k hk => by simp [Value.ownBlock] at hk) ?_ ?_ ?_))
  · simp; omega
  · simp; omega
  intro v3 w3 hA
  have hO := hA.own
  have hgr := hA.grown
  obtain ⟨hb2, hs2, hbx, hbz, _⟩ := HH.out
  have hls : ∀ k, v3.ownBlock = some k → w.heap.size + 2 ≤ k ∧ k < w3.heap.size := fun k hk => by
    rcases hA.lies k hk with h | h
    · simp [Value.ownBlock] at h
    · have := h.1; have := h.2; omega
  have hO3 : OwnS kRecord 89 w3 (fun k => w.heap.size + 2 ≤ k ∧ k < w3.heap.size) v3 x.Records := hO.flat flat_Record hls
  obtain ⟨B3, d3, rfl, hd1, hd2, hr3⟩ := hO3.reads
  have hb3 : Below w.heap.size w w3 := hb2.grown hgr (by omega) (by simp [Value.ownBlock])
  have hbx3 := (hgr.block w.heap.size (by omega) (by simp [Value.ownBlock])).trans hbx
  have hbz3 := (hgr.block (w.heap.size + 1) (by omega) (by simp [Value.ownBlock])).trans hbz
  clear hA hO hgr hls hO3 hr2 HH hb2 hbx hbz
  generalize hb : w.heap.size = b at hb3 hbx3 hbz3 hr3 hs2 ⊢
  obtain ⟨qc0, qc1, qc2, qc3, qc4, qc5, qc6, qc7, qc8, qc9, qc10, qc11, qc12, qf0, qf1, qf2, qf3, qf4, qf5, qf6, qf7, qf8, qf9, qf10, qf11, qf12⟩ := box13 hbx3
  have Hx3 := Lib.hid (And.intro hbx3 hbz3)
  clear hbx3
  obtain ⟨rc0, rc1, rc2, rc3, rc4, rc5, rc6, rc7, rc8, rc9, rc10, rc11, rc12, rf0, rf1, rf2, rf3, rf4, rf5, rf6, rf7, rf8, rf9, rf10, rf11, rf12⟩ := box13 hbz3
  clear hbz3
  obtain ⟨hbx3, hbz3⟩ := Hx3.out
  have hbx4 : (w3.setCell ⟨b, 3, none⟩ (.slice B3 x.Records.length d3)).heap[b]? = some (.cells #[.int .i64 x.Kind, .int .i64 x.Pid, .int .i64 x.Seq, .slice B3 x.Records.length d3, .string x.Group, .int .i64 x.Offset, .int .i64 x.Max, .int .i64 x.Now, .int .u32 x.Sum, .int .i64 x.Conf.Segment, .int .i64 x.Conf.Keep, .int .i64 x.Conf.Age, .int .i64 x.Conf.Grace] 36 (0, 0)) := (heap_setCell_same w3 b 3 _ _ _ hbx3).trans rfl
  have hbz4 : (w3.setCell ⟨b, 3, none⟩ (.slice B3 x.Records.length d3)).heap[b + 1]? = some (.cells #[.int .i64 0, .int .i64 0, .int .i64 0, .slice none 0 0, .string ⟨#[]⟩, .int .i64 0, .int .i64 0, .int .i64 0, .int .u32 0, .int .i64 0, .int .i64 0, .int .i64 0, .int .i64 0] 36 (0, 0)) := (Below.heap_setCell _ _ _ _ (by simp)).trans hbz3
  have hb4 : Below b w (w3.setCell ⟨b, 3, none⟩ (.slice B3 x.Records.length d3)) := hb3.setCell (p := ⟨b, 3, none⟩) (Nat.le_refl _) _
  have hr4 : RS kRecord (w3.setCell ⟨b, 3, none⟩ (.slice B3 x.Records.length d3)) (fun k => b + 2 ≤ k ∧ k < w3.heap.size) B3 x.Records.length x.Records := hr3.far (p := ⟨b, 3, none⟩) (fun hk => by have := hk.1; simp only at this; omega) _
  have hs4 : (w3.setCell ⟨b, 3, none⟩ (.slice B3 x.Records.length d3)).heap.size = w3.heap.size := World.size_setCell ..
  have hH := Lib.hid (And.intro hbx4 (And.intro hbz4 (And.intro hb4 (And.intro hr4 hs4))))
  clear hbx4 hbz4 hb4 hr4 hs4 hbx3 hbz3
  go_wp2_with fail
  obtain ⟨hbx4, hbz4, hb4, hr4, hs4⟩ := hH.out
  generalize w3.setCell ⟨b, 3, none⟩ (.slice B3 x.Records.length d3) = w4 at hbx4 hbz4 hb4 hr4 hs4 ⊢
  obtain ⟨hw1, hw2⟩ := set13 w4 (b + 1) _ _ _ _ _ _ _ _ _ _ _ _ _ _ hbz4 (.int .i64 x.Kind) (.int .i64 x.Pid) (.int .i64 x.Seq) (.slice B3 x.Records.length d3) (.string x.Group) (.int .i64 x.Offset) (.int .i64 x.Max) (.int .i64 x.Now) (.int .u32 x.Sum) (.int .i64 x.Conf.Segment) (.int .i64 x.Conf.Keep) (.int .i64 x.Conf.Age) (.int .i64 x.Conf.Grace)
  generalize (((((((((((((w4.setCell ⟨b + 1, 0, none⟩ (.int .i64 x.Kind)).setCell ⟨b + 1, 1, none⟩ (.int .i64 x.Pid)).setCell ⟨b + 1, 2, none⟩ (.int .i64 x.Seq)).setCell ⟨b + 1, 3, none⟩ (.slice B3 x.Records.length d3)).setCell ⟨b + 1, 4, none⟩ (.string x.Group)).setCell ⟨b + 1, 5, none⟩ (.int .i64 x.Offset)).setCell ⟨b + 1, 6, none⟩ (.int .i64 x.Max)).setCell ⟨b + 1, 7, none⟩ (.int .i64 x.Now)).setCell ⟨b + 1, 8, none⟩ (.int .u32 x.Sum)).setCell ⟨b + 1, 9, none⟩ (.int .i64 x.Conf.Segment)).setCell ⟨b + 1, 10, none⟩ (.int .i64 x.Conf.Keep)).setCell ⟨b + 1, 11, none⟩ (.int .i64 x.Conf.Age)).setCell ⟨b + 1, 12, none⟩ (.int .i64 x.Conf.Grace)) = w5 at hw1 hw2 ⊢
  obtain ⟨sc0, sc1, sc2, sc3, sc4, sc5, sc6, sc7, sc8, sc9, sc10, sc11, sc12, sf0, sf1, sf2, sf3, sf4, sf5, sf6, sf7, sf8, sf9, sf10, sf11, sf12⟩ := box13 hw1
  have hb5 : Below b w w5 := hb4.trans (hb ▸ Keeps.below_of (a := w) hw2 hb4.size (fun k hk => by have : k = b + 1 := hk; omega))
  refine bodyPost_ret (v := .agg #[.int .i64 x.Kind, .int .i64 x.Pid, .int .i64 x.Seq, .slice B3 x.Records.length d3, .string x.Group, .int .i64 x.Offset, .int .i64 x.Max, .int .i64 x.Now, .int .u32 x.Sum, .int .i64 x.Conf.Segment, .int .i64 x.Conf.Keep, .int .i64 x.Conf.Age, .int .i64 x.Conf.Grace]) (by simp [results, Try.results59, go_sem, sc0, sc1, sc2, sc3, sc4, sc5, sc6, sc7, sc8, sc9, sc10, sc11, sc12]) rfl ⟨_, _, rfl, hd1, hd2, ?_, by rw [hb]; exact hb5⟩
  refine (hr4.keeps hw2 fun k hk hy => ?_).mono fun k hk => ?_
  · have := hk.1; have : k = b + 1 := hy; omega
  · have := hk.1; have := hk.2; have := hw2.size; exact ⟨by omega, by omega⟩
end Go.Proofs.Ytngmipppgnlkdaa
