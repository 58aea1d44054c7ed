/- Contract of the document's CopyMessage. -/
import Derived.Test.YtngmipppgnlkdaaZ3
import Derived.Test.YtngmipppgnlkdaaZ1
set_option linter.unusedVariables false
set_option linter.unusedSimpArgs false
namespace Go.Proofs.Ytngmipppgnlkdaa
open Go.RowKit
attribute [local go_sem] Same.cell

set_option maxHeartbeats 2000000 in
theorem CopyMessage_any (m : Message) (A6 : Option Addr) (c6 : Nat) (A10 : Option Addr) (c10 : Nat) (w : World) (F : Foot) (h : MsgAt w F m A6 c6 A10 c10) (hf : m.Fits) :
    Calls Try.prog 44 #[.agg #[.int .i64 m.Kind, .int .i64 m.From, .int .i64 m.To, .int .i64 m.Term, .int .i64 m.Last, .int .i64 m.LastTerm, .slice A6 m.Entries.length c6, .int .i64 m.Commit, .bool m.OK, .int .i64 m.Match, .slice A10 m.Data.length c10]] w fun e w' => ∃ qA6 qc6 qA10 qc10, e = .returned (.agg #[.int .i64 m.Kind, .int .i64 m.From, .int .i64 m.To, .int .i64 m.Term, .int .i64 m.Last, .int .i64 m.LastTerm, .slice qA6 m.Entries.length qc6, .int .i64 m.Commit, .bool m.OK, .int .i64 m.Match, .slice qA10 m.Data.length qc10]) ∧ MsgAt w' (New w w') m qA6 qc6 qA10 qc10 ∧ Below w.heap.size w w' := by
  obtain ⟨hf6, hf10, hfr⟩ := hf
  go_enter Try.func44, Try.ntmps44
  have hb2 : Below w.heap.size w ((w.alloc (.cells #[.int .i64 m.Kind, .int .i64 m.From, .int .i64 m.To, .int .i64 m.Term, .int .i64 m.Last, .int .i64 m.LastTerm, .slice A6 m.Entries.length c6, .int .i64 m.Commit, .bool m.OK, .int .i64 m.Match, .slice A10 m.Data.length c10] 54)).alloc (.cells #[.int .i64 0, .int .i64 0, .int .i64 0, .int .i64 0, .int .i64 0, .int .i64 0, .slice none 0 0, .int .i64 0, .bool false, .int .i64 0, .slice none 0 0] 54)) := ((Below.refl _ _).alloc (Nat.le_refl _) _).alloc (by simp) _
  have hs2 : ((w.alloc (.cells #[.int .i64 m.Kind, .int .i64 m.From, .int .i64 m.To, .int .i64 m.Term, .int .i64 m.Last, .int .i64 m.LastTerm, .slice A6 m.Entries.length c6, .int .i64 m.Commit, .bool m.OK, .int .i64 m.Match, .slice A10 m.Data.length c10] 54)).alloc (.cells #[.int .i64 0, .int .i64 0, .int .i64 0, .int .i64 0, .int .i64 0, .int .i64 0, .slice none 0 0, .int .i64 0, .bool false, .int .i64 0, .slice none 0 0] 54)).heap.size = w.heap.size + 2 := by simp
  have hbx : ((w.alloc (.cells #[.int .i64 m.Kind, .int .i64 m.From, .int .i64 m.To, .int .i64 m.Term, .int .i64 m.Last, .int .i64 m.LastTerm, .slice A6 m.Entries.length c6, .int .i64 m.Commit, .bool m.OK, .int .i64 m.Match, .slice A10 m.Data.length c10] 54)).alloc (.cells #[.int .i64 0, .int .i64 0, .int .i64 0, .int .i64 0, .int .i64 0, .int .i64 0, .slice none 0 0, .int .i64 0, .bool false, .int .i64 0, .slice none 0 0] 54)).heap[w.heap.size]? = some (.cells #[.int .i64 m.Kind, .int .i64 m.From, .int .i64 m.To, .int .i64 m.Term, .int .i64 m.Last, .int .i64 m.LastTerm, .slice A6 m.Entries.length c6, .int .i64 m.Commit, .bool m.OK, .int .i64 m.Match, .slice A10 m.Data.length c10] 54 (0, 0)) := (Below.heap_alloc _ _ _ (by simp)).trans (heap_alloc_new w _)
  have hbz : ((w.alloc (.cells #[.int .i64 m.Kind, .int .i64 m.From, .int .i64 m.To, .int .i64 m.Term, .int .i64 m.Last, .int .i64 m.LastTerm, .slice A6 m.Entries.length c6, .int .i64 m.Commit, .bool m.OK, .int .i64 m.Match, .slice A10 m.Data.length c10] 54)).alloc (.cells #[.int .i64 0, .int .i64 0, .int .i64 0, .int .i64 0, .int .i64 0, .int .i64 0, .slice none 0 0, .int .i64 0, .bool false, .int .i64 0, .slice none 0 0] 54)).heap[w.heap.size + 1]? = some (.cells #[.int .i64 0, .int .i64 0, .int .i64 0, .int .i64 0, .int .i64 0, .int .i64 0, .slice none 0 0, .int .i64 0, .bool false, .int .i64 0, .slice none 0 0] 54 (0, 0)) := by have := heap_alloc_new (w.alloc (.cells #[.int .i64 m.Kind, .int .i64 m.From, .int .i64 m.To, .int .i64 m.Term, .int .i64 m.Last, .int .i64 m.LastTerm, .slice A6 m.Entries.length c6, .int .i64 m.Commit, .bool m.OK, .int .i64 m.Match, .slice A10 m.Data.length c10] 54)) (.cells #[.int .i64 0, .int .i64 0, .int .i64 0, .int .i64 0, .int .i64 0, .int .i64 0, .slice none 0 0, .int .i64 0, .bool false, .int .i64 0, .slice none 0 0] 54); simpa using this
  have HH := Lib.hid (And.intro hb2 (And.intro hs2 (And.intro hbx hbz)))
  clear hb2 hs2 hbx hbz
  go_wp2_with fail
  obtain ⟨hb2, hs2, hbx, hbz⟩ := HH.out
  clear HH
  generalize (w.alloc (.cells #[.int .i64 m.Kind, .int .i64 m.From, .int .i64 m.To, .int .i64 m.Term, .int .i64 m.Last, .int .i64 m.LastTerm, .slice A6 m.Entries.length c6, .int .i64 m.Commit, .bool m.OK, .int .i64 m.Match, .slice A10 m.Data.length c10] 54)).alloc (.cells #[.int .i64 0, .int .i64 0, .int .i64 0, .int .i64 0, .int .i64 0, .int .i64 0, .slice none 0 0, .int .i64 0, .bool false, .int .i64 0, .slice none 0 0] 54) = w2 at hb2 hs2 hbx hbz ⊢
  refine (CopyEntries_any A6 _ c6 w2 F m.Entries (h.r6.below hb2) (by omega) hfr).mono ?_
  rintro e w3 ⟨v3, rfl, hM⟩
  obtain ⟨qA6, qc6, rfl, hd1, hd2, hr3⟩ := hM.own.reads
  have hb3 : Below w.heap.size w w3 := hb2.trans (hM.below.mono hb2.size)
  have hbx3 := (hM.below.block w.heap.size (by omega)).trans hbx
  have hbz3 := (hM.below.block (w.heap.size + 1) (by omega)).trans hbz
  have hs3 := hM.below.size
  have hr10 : RS (kInt .u8) w3 (fun k => F k ∧ k < w.heap.size) A10 m.Data.length m.Data := h.r10.bound.below hb3
  clear hM hbx hbz hb2
  generalize hb : w.heap.size = b at hb3 hbx3 hbz3 hr10 hs2 ⊢
  have hbx4 : (w3.setCell ⟨b, 6, none⟩ (.slice qA6 m.Entries.length qc6)).heap[b]? = some (.cells #[.int .i64 m.Kind, .int .i64 m.From, .int .i64 m.To, .int .i64 m.Term, .int .i64 m.Last, .int .i64 m.LastTerm, .slice qA6 m.Entries.length qc6, .int .i64 m.Commit, .bool m.OK, .int .i64 m.Match, .slice A10 m.Data.length c10] 54 (0, 0)) := (heap_setCell_same w3 b 6 _ _ _ hbx3).trans rfl
  have hbz4 : (w3.setCell ⟨b, 6, none⟩ (.slice qA6 m.Entries.length qc6)).heap[b + 1]? = some (.cells #[.int .i64 0, .int .i64 0, .int .i64 0, .int .i64 0, .int .i64 0, .int .i64 0, .slice none 0 0, .int .i64 0, .bool false, .int .i64 0, .slice none 0 0] 54 (0, 0)) := (Below.heap_setCell _ _ _ _ (by simp)).trans hbz3
  have hb4 : Below b w (w3.setCell ⟨b, 6, none⟩ (.slice qA6 m.Entries.length qc6)) := hb3.setCell (p := ⟨b, 6, none⟩) (Nat.le_refl _) _
  have hr6 : RS kEntry (w3.setCell ⟨b, 6, none⟩ (.slice qA6 m.Entries.length qc6)) (fun k => b + 2 ≤ k ∧ k < w3.heap.size) qA6 m.Entries.length m.Entries := (hr3.mono fun k hk => ⟨by have := hk.1; omega, hk.2⟩).far (p := ⟨b, 6, none⟩) (fun hk => by have := hk.1; simp only at this; omega) _
  have hr104 : RS (kInt .u8) (w3.setCell ⟨b, 6, none⟩ (.slice qA6 m.Entries.length qc6)) (fun k => F k ∧ k < b) A10 m.Data.length m.Data := hr10.far (p := ⟨b, 6, none⟩) (fun hk => by have := hk.2; simp only at this; omega) _
  have hs4 : (w3.setCell ⟨b, 6, none⟩ (.slice qA6 m.Entries.length qc6)).heap.size = w3.heap.size := World.size_setCell ..
  obtain ⟨yc0, yc1, yc2, yc3, yc4, yc5, yc6, yc7, yc8, yc9, yc10, yf0, yf1, yf2, yf3, yf4, yf5, yf6, yf7, yf8, yf9, yf10⟩ := box11 hbx3
  have HH := Lib.hid (And.intro hbx4 (And.intro hbz4 (And.intro hb4 (And.intro hr6 (And.intro hr104 hs4)))))
  clear hbx4 hbz4 hb4 hr6 hs4 hbx3 hbz3
  go_wp2_with (first
    | (at_builtin
       refine wpList_append_S rfl tByte _ (.tmp 8) rfl (K := kInt .u8) (F := NoF) (v := .slice none 0 0) (xs := []) rfl rfl OwnS.nil hr104 (fun k hk => by simp [Value.ownBlock] at hk) ?_ ?_ ?_))
  · simp; omega
  · simp; omega
  intro v5 w5 hA
  clear yc0 yc1 yc2 yc3 yc4 yc5 yc6 yc7 yc8 yc9 yc10 yf0 yf1 yf2 yf3 yf4 yf5 yf6 yf7 yf8 yf9 yf10 hr104
  generalize w3.setCell ⟨b, 6, none⟩ (.slice qA6 m.Entries.length qc6) = w4 at HH hA ⊢
  obtain ⟨hbx4, hbz4, hb4, hr6, hr104, hs4⟩ := HH.out
  have hgr := hA.grown
  have hls : ∀ k, v5.ownBlock = some k → w4.heap.size ≤ k ∧ k < w5.heap.size := fun k hk => by
    rcases hA.lies k hk with h | h
    · simp [Value.ownBlock] at h
    · have := h.1; have := h.2; omega
  have hO5 : OwnS (kInt .u8) 5 w5 (fun k => w4.heap.size ≤ k ∧ k < w5.heap.size) v5 m.Data := hA.own.flat (flat_int .u8) hls
  obtain ⟨qA10, qc10, rfl, hd3, hd4, hr5⟩ := hO5.reads
  have hb5 : Below b w w5 := by
    have h5 : Below w4.heap.size w4 w5 := ((Below.refl _ _).grown hgr (Nat.le_refl _) (by simp [Value.ownBlock]))
    exact hb4.trans (h5.mono (by omega))
  have hs5 := hgr.size
  have hbx5 := (hgr.block b (by omega) (by simp [Value.ownBlock])).trans hbx4
  have hbz5 := (hgr.block (b + 1) (by omega) (by simp [Value.ownBlock])).trans hbz4
  have hr65 : RS kEntry w5 (fun k => b + 2 ≤ k ∧ k < w3.heap.size) qA6 m.Entries.length m.Entries := hr6.keep fun k _ hlt => hgr.block k hlt (by simp [Value.ownBlock])
  clear hA hO5 hgr hls hr104 HH hbx4 hbz4
  obtain ⟨yc0, yc1, yc2, yc3, yc4, yc5, yc6, yc7, yc8, yc9, yc10, yf0, yf1, yf2, yf3, yf4, yf5, yf6, yf7, yf8, yf9, yf10⟩ := box11 hbx5
  obtain ⟨xc0, xc1, xc2, xc3, xc4, xc5, xc6, xc7, xc8, xc9, xc10, xf0, xf1, xf2, xf3, xf4, xf5, xf6, xf7, xf8, xf9, xf10⟩ := box11 hbz5
  have hbx6 : (w5.setCell ⟨b, 10, none⟩ (.slice qA10 m.Data.length qc10)).heap[b]? = some (.cells #[.int .i64 m.Kind, .int .i64 m.From, .int .i64 m.To, .int .i64 m.Term, .int .i64 m.Last, .int .i64 m.LastTerm, .slice qA6 m.Entries.length qc6, .int .i64 m.Commit, .bool m.OK, .int .i64 m.Match, .slice qA10 m.Data.length qc10] 54 (0, 0)) := (heap_setCell_same w5 b 10 _ _ _ hbx5).trans rfl
  have hbz6 : (w5.setCell ⟨b, 10, none⟩ (.slice qA10 m.Data.length qc10)).heap[b + 1]? = some (.cells #[.int .i64 0, .int .i64 0, .int .i64 0, .int .i64 0, .int .i64 0, .int .i64 0, .slice none 0 0, .int .i64 0, .bool false, .int .i64 0, .slice none 0 0] 54 (0, 0)) := (Below.heap_setCell _ _ _ _ (by simp)).trans hbz5
  have hb6 : Below b w (w5.setCell ⟨b, 10, none⟩ (.slice qA10 m.Data.length qc10)) := hb5.setCell (p := ⟨b, 10, none⟩) (Nat.le_refl _) _
  have hr66 : RS kEntry (w5.setCell ⟨b, 10, none⟩ (.slice qA10 m.Data.length qc10)) (fun k => b + 2 ≤ k ∧ k < w3.heap.size) qA6 m.Entries.length m.Entries := hr65.far (p := ⟨b, 10, none⟩) (fun hk => by have := hk.1; simp only at this; omega) _
  have hr106 : RS (kInt .u8) (w5.setCell ⟨b, 10, none⟩ (.slice qA10 m.Data.length qc10)) (fun k => w4.heap.size ≤ k ∧ k < w5.heap.size) qA10 m.Data.length m.Data := hr5.far (p := ⟨b, 10, none⟩) (fun hk => by have := hk.1; simp only at this; omega) _
  have hs6 : (w5.setCell ⟨b, 10, none⟩ (.slice qA10 m.Data.length qc10)).heap.size = w5.heap.size := World.size_setCell ..
  have hH := Lib.hid (And.intro hbx6 (And.intro hbz6 (And.intro hb6 (And.intro hr66 (And.intro hr106 hs6)))))
  clear hbx6 hbz6 hb6 hr66 hr106 hs6 hbx5 hbz5 hb5
  go_wp2_with fail
  obtain ⟨hbx6, hbz6, hb6, hr66, hr106, hs6⟩ := hH.out
  clear hH
  generalize w5.setCell ⟨b, 10, none⟩ (.slice qA10 m.Data.length qc10) = w6 at hbx6 hbz6 hb6 hr66 hr106 hs6 ⊢
  clear yc0 yc1 yc2 yc3 yc4 yc5 yc6 yc7 yc8 yc9 yc10 yf0 yf1 yf2 yf3 yf4 yf5 yf6 yf7 yf8 yf9 yf10
  obtain ⟨hw1, hw2⟩ := set11 w6 (b + 1) _ _ _ _ _ _ _ _ _ _ _ _ hbz6 (.int .i64 m.Kind) (.int .i64 m.From) (.int .i64 m.To) (.int .i64 m.Term) (.int .i64 m.Last) (.int .i64 m.LastTerm) (.slice qA6 m.Entries.length qc6) (.int .i64 m.Commit) (.bool m.OK) (.int .i64 m.Match) (.slice qA10 m.Data.length qc10)
  generalize (((((((((((w6.setCell ⟨b + 1, 0, none⟩ (.int .i64 m.Kind)).setCell ⟨b + 1, 1, none⟩ (.int .i64 m.From)).setCell ⟨b + 1, 2, none⟩ (.int .i64 m.To)).setCell ⟨b + 1, 3, none⟩ (.int .i64 m.Term)).setCell ⟨b + 1, 4, none⟩ (.int .i64 m.Last)).setCell ⟨b + 1, 5, none⟩ (.int .i64 m.LastTerm)).setCell ⟨b + 1, 6, none⟩ (.slice qA6 m.Entries.length qc6)).setCell ⟨b + 1, 7, none⟩ (.int .i64 m.Commit)).setCell ⟨b + 1, 8, none⟩ (.bool m.OK)).setCell ⟨b + 1, 9, none⟩ (.int .i64 m.Match)).setCell ⟨b + 1, 10, none⟩ (.slice qA10 m.Data.length qc10)) = w7 at hw1 hw2 ⊢
  have hb7 : Below b w w7 := hb6.trans (hb ▸ Keeps.below_of (a := w) hw2 hb6.size (fun k hk => by have : k = b + 1 := hk; omega))
  obtain ⟨sc0, sc1, sc2, sc3, sc4, sc5, sc6, sc7, sc8, sc9, sc10, sf0, sf1, sf2, sf3, sf4, sf5, sf6, sf7, sf8, sf9, sf10⟩ := box11 hw1
  refine bodyPost_ret (v := .agg #[.int .i64 m.Kind, .int .i64 m.From, .int .i64 m.To, .int .i64 m.Term, .int .i64 m.Last, .int .i64 m.LastTerm, .slice qA6 m.Entries.length qc6, .int .i64 m.Commit, .bool m.OK, .int .i64 m.Match, .slice qA10 m.Data.length qc10]) (by simp [results, Try.results44, go_sem, sc0, sc1, sc2, sc3, sc4, sc5, sc6, sc7, sc8, sc9, sc10]) rfl ⟨_, _, _, _, rfl, ⟨hd1, hd2, ?_, hd3, hd4, ?_⟩, by rw [hb]; exact hb7⟩
  · refine (hr66.keeps hw2 fun k hk hy => ?_).mono fun k hk => ?_
    · have := hk.1; have : k = b + 1 := hy; omega
    · have := hk.1; have := hk.2; have := hw2.size; exact ⟨by omega, by omega⟩
  · refine (hr106.keeps hw2 fun k hk hy => ?_).mono fun k hk => ?_
    · have := hk.1; have : k = b + 1 := hy; omega
    · have := hk.1; have := hk.2; have := hw2.size; exact ⟨by omega, by omega⟩
end Go.Proofs.Ytngmipppgnlkdaa
