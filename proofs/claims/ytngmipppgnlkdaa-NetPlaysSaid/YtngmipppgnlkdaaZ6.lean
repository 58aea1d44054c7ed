/- Contracts of the document's Net: Take. -/
import Derived.Test.YtngmipppgnlkdaaZ5
set_option linter.unusedVariables false
set_option linter.unusedSimpArgs false
namespace Go.Proofs.Ytngmipppgnlkdaa
open Go.RowKit
attribute [local go_sem] Same.cell


set_option maxHeartbeats 1000000 in
theorem RefTake_none (g : Nat) (F : Foot) (w : World) (i : Int) (h : RefAt w g F []) :
    Calls Try.prog 28 #[.pointer (some ⟨g, 0, none⟩), .int .i64 i] w fun e w' => e = .returned (.tuple #[.agg #[.int .i64 0, .int .i64 0, .int .i64 0, .int .i64 0, .int .i64 0, .int .i64 0, .slice none 0 0, .int .i64 0, .bool false, .int .i64 0, .slice none 0 0], .bool false]) ∧ Below w.heap.size w w' := by
  go_enter Try.func28, Try.ntmps28
  go_wp2_with fail
  have hb1 : Below w.heap.size w (w.alloc (.cells #[.int .i64 0, .int .i64 0, .int .i64 0, .int .i64 0, .int .i64 0, .int .i64 0, .slice none 0 0, .int .i64 0, .bool false, .int .i64 0, .slice none 0 0] 54)) := (Below.refl _ _).alloc (Nat.le_refl _) _
  have hbx := heap_alloc_new w (.cells #[.int .i64 0, .int .i64 0, .int .i64 0, .int .i64 0, .int .i64 0, .int .i64 0, .slice none 0 0, .int .i64 0, .bool false, .int .i64 0, .slice none 0 0] 54)
  generalize hW : w.alloc (.cells #[.int .i64 0, .int .i64 0, .int .i64 0, .int .i64 0, .int .i64 0, .int .i64 0, .slice none 0 0, .int .i64 0, .bool false, .int .i64 0, .slice none 0 0] 54) = w1 at hb1 hbx ⊢
  generalize hb : w.heap.size = b at hb1 hbx ⊢
  refine (rat_none g F w1 i (h.below (hb ▸ hb1))).mono ?_
  rintro e w2 ⟨rfl, rfl⟩
  obtain ⟨qc0, qc1, qc2, qc3, qc4, qc5, qc6, qc7, qc8, qc9, qc10, qf0, qf1, qf2, qf3, qf4, qf5, qf6, qf7, qf8, qf9, qf10⟩ := box11 hbx
  have Hbx := Lib.hid hbx
  clear hbx
  go_wp2_with fail
  obtain ⟨hw1, hw2⟩ := set11 w2 b _ _ _ _ _ _ _ _ _ _ _ _ Hbx.out (.int .i64 0) (.int .i64 0) (.int .i64 0) (.int .i64 0) (.int .i64 0) (.int .i64 0) (.slice none 0 0) (.int .i64 0) (.bool false) (.int .i64 0) (.slice none 0 0)
  generalize ((((((((((w2.setCell ⟨b, 0, none⟩ (.int .i64 0)).setCell ⟨b, 1, none⟩ (.int .i64 0)).setCell ⟨b, 2, none⟩ (.int .i64 0)).setCell ⟨b, 3, none⟩ (.int .i64 0)).setCell ⟨b, 4, none⟩ (.int .i64 0)).setCell ⟨b, 5, none⟩ (.int .i64 0)).setCell ⟨b, 6, none⟩ (.slice none 0 0)).setCell ⟨b, 7, none⟩ (.int .i64 0)).setCell ⟨b, 8, none⟩ (.bool false)).setCell ⟨b, 9, none⟩ (.int .i64 0)).setCell ⟨b, 10, none⟩ (.slice none 0 0) = w3 at hw1 hw2 ⊢
  obtain ⟨rc0, rc1, rc2, rc3, rc4, rc5, rc6, rc7, rc8, rc9, rc10, rf0, rf1, rf2, rf3, rf4, rf5, rf6, rf7, rf8, rf9, rf10⟩ := box11 hw1
  refine bodyPost_ret (v := .tuple #[.agg #[.int .i64 0, .int .i64 0, .int .i64 0, .int .i64 0, .int .i64 0, .int .i64 0, .slice none 0 0, .int .i64 0, .bool false, .int .i64 0, .slice none 0 0], .bool false]) (by simp [results, Try.results28, go_sem, rc0, rc1, rc2, rc3, rc4, rc5, rc6, rc7, rc8, rc9, rc10]) rfl ⟨rfl, ?_⟩
  have ht := Keeps.below_of (a := w) hw2 hb1.size (fun k hk => by have : k = b := hk; omega)
  rw [hb] at ht
  exact hb ▸ hb1.trans ht

set_option maxHeartbeats 4000000 in
theorem RefTake_any (g : Nat) (F : Foot) (l : List Message) (w : World) (i : Int) (h : RefAt w g F l) (hn : l.length ≤ 1000000000) {m : Message} (hm : l[netIx i l.length]? = some m) :
    Calls Try.prog 28 #[.pointer (some ⟨g, 0, none⟩), .int .i64 i] w fun e w' => ∃ A6 c6 A10 c10, e = .returned (.tuple #[.agg #[.int .i64 m.Kind, .int .i64 m.From, .int .i64 m.To, .int .i64 m.Term, .int .i64 m.Last, .int .i64 m.LastTerm, .slice A6 m.Entries.length c6, .int .i64 m.Commit, .bool m.OK, .int .i64 m.Match, .slice A10 m.Data.length c10], .bool true]) ∧
      RefAt w' g (Grow F w w') (l.eraseIdx (netIx i l.length)) ∧ MsgAt w' F m A6 c6 A10 c10 ∧ Keeps F w w' := by
  have h0 := h.bound
  clear h
  obtain ⟨k, hk⟩ : ∃ k, Hid (netIx i l.length = k) := ⟨_, rfl⟩
  rw [hk.out] at hm ⊢
  have hkl : k < l.length := (List.getElem?_eq_some_iff.1 hm).1
  have hm' := Lib.hid hm
  clear hm
  go_enter Try.func28, Try.ntmps28
  go_wp2_with fail
  have hb1 : Below w.heap.size w (w.alloc (.cells #[.int .i64 0, .int .i64 0, .int .i64 0, .int .i64 0, .int .i64 0, .int .i64 0, .slice none 0 0, .int .i64 0, .bool false, .int .i64 0, .slice none 0 0] 54)) := (Below.refl _ _).alloc (Nat.le_refl _) _
  have hbx := heap_alloc_new w (.cells #[.int .i64 0, .int .i64 0, .int .i64 0, .int .i64 0, .int .i64 0, .int .i64 0, .slice none 0 0, .int .i64 0, .bool false, .int .i64 0, .slice none 0 0] 54)
  have hs1 : (w.alloc (.cells #[.int .i64 0, .int .i64 0, .int .i64 0, .int .i64 0, .int .i64 0, .int .i64 0, .slice none 0 0, .int .i64 0, .bool false, .int .i64 0, .slice none 0 0] 54)).heap.size = w.heap.size + 1 := by simp
  generalize hW : w.alloc (.cells #[.int .i64 0, .int .i64 0, .int .i64 0, .int .i64 0, .int .i64 0, .int .i64 0, .slice none 0 0, .int .i64 0, .bool false, .int .i64 0, .slice none 0 0] 54) = w1 at hb1 hbx hs1 ⊢
  have h1 := h0.below hb1
  have hgw := h0.lt
  generalize hb : w.heap.size = b at hb1 hbx hs1 hgw ⊢
  refine (rat_any g _ l w1 i h1 hn (by omega)).mono ?_
  rintro e w1' ⟨rfl, rfl⟩
  rw [hk.out]
  obtain ⟨A, c, hg0, hg1, hgf, hF, hlt, ho, hc1, hc2, hr⟩ := h1.cells
  obtain ⟨G, rfl⟩ := (ho.split k).addr (by omega)
  obtain ⟨cc, hrep, hcell, hGl, hstep⟩ := (ho.split k).step hm'.out
  clear hstep
  obtain ⟨A6, c6, A10, c10, rfl, l6, m6, r6, l10, m10, r10⟩ := hrep
  have hG := ho.lt G rfl
  have kc0 : w1'.cell? ⟨G, k * 11, none⟩ = some (.int .i64 m.Kind) := (hcell 0 _ rfl).1
  have kc1 : w1'.cell? ⟨G, k * 11 + 1, none⟩ = some (.int .i64 m.From) := (hcell 1 _ rfl).1
  have kc2 : w1'.cell? ⟨G, k * 11 + 2, none⟩ = some (.int .i64 m.To) := (hcell 2 _ rfl).1
  have kc3 : w1'.cell? ⟨G, k * 11 + 3, none⟩ = some (.int .i64 m.Term) := (hcell 3 _ rfl).1
  have kc4 : w1'.cell? ⟨G, k * 11 + 4, none⟩ = some (.int .i64 m.Last) := (hcell 4 _ rfl).1
  have kc5 : w1'.cell? ⟨G, k * 11 + 5, none⟩ = some (.int .i64 m.LastTerm) := (hcell 5 _ rfl).1
  have kc6 : w1'.cell? ⟨G, k * 11 + 6, none⟩ = some (.slice A6 m.Entries.length c6) := (hcell 6 _ rfl).1
  have kc7 : w1'.cell? ⟨G, k * 11 + 7, none⟩ = some (.int .i64 m.Commit) := (hcell 7 _ rfl).1
  have kc8 : w1'.cell? ⟨G, k * 11 + 8, none⟩ = some (.bool m.OK) := (hcell 8 _ rfl).1
  have kc9 : w1'.cell? ⟨G, k * 11 + 9, none⟩ = some (.int .i64 m.Match) := (hcell 9 _ rfl).1
  have kc10 : w1'.cell? ⟨G, k * 11 + 10, none⟩ = some (.slice A10 m.Data.length c10) := (hcell 10 _ rfl).1
  have HO := Lib.hid (And.intro hg0 ho)
  clear hcell hg0
  have Hbx := Lib.hid hbx
  clear hbx
  go_wp2_with fail
  have hb2 : Below w1'.heap.size w1' (w1'.alloc (.cells #[.int .i64 m.Kind, .int .i64 m.From, .int .i64 m.To, .int .i64 m.Term, .int .i64 m.Last, .int .i64 m.LastTerm, .slice A6 m.Entries.length c6, .int .i64 m.Commit, .bool m.OK, .int .i64 m.Match, .slice A10 m.Data.length c10] 54)) := (Below.refl _ _).alloc (Nat.le_refl _) _
  have hbm : (w1'.alloc (.cells #[.int .i64 m.Kind, .int .i64 m.From, .int .i64 m.To, .int .i64 m.Term, .int .i64 m.Last, .int .i64 m.LastTerm, .slice A6 m.Entries.length c6, .int .i64 m.Commit, .bool m.OK, .int .i64 m.Match, .slice A10 m.Data.length c10] 54)).heap[b + 1]? = some (.cells #[.int .i64 m.Kind, .int .i64 m.From, .int .i64 m.To, .int .i64 m.Term, .int .i64 m.Last, .int .i64 m.LastTerm, .slice A6 m.Entries.length c6, .int .i64 m.Commit, .bool m.OK, .int .i64 m.Match, .slice A10 m.Data.length c10] 54 (0, 0)) := hs1 ▸ heap_alloc_new w1' (.cells #[.int .i64 m.Kind, .int .i64 m.From, .int .i64 m.To, .int .i64 m.Term, .int .i64 m.Last, .int .i64 m.LastTerm, .slice A6 m.Entries.length c6, .int .i64 m.Commit, .bool m.OK, .int .i64 m.Match, .slice A10 m.Data.length c10] 54)
  have hs2 : (w1'.alloc (.cells #[.int .i64 m.Kind, .int .i64 m.From, .int .i64 m.To, .int .i64 m.Term, .int .i64 m.Last, .int .i64 m.LastTerm, .slice A6 m.Entries.length c6, .int .i64 m.Commit, .bool m.OK, .int .i64 m.Match, .slice A10 m.Data.length c10] 54)).heap.size = b + 2 := by simp [hs1]
  generalize w1'.alloc (.cells #[.int .i64 m.Kind, .int .i64 m.From, .int .i64 m.To, .int .i64 m.Term, .int .i64 m.Last, .int .i64 m.LastTerm, .slice A6 m.Entries.length c6, .int .i64 m.Commit, .bool m.OK, .int .i64 m.Match, .slice A10 m.Data.length c10] 54) = w2 at hb2 hbm hs2 ⊢
  have hGg : G ≠ g := hG.1.2
  have hGb : G < b := hb ▸ hG.1.1.2
  have hg2 := (hb2.block g hlt).trans HO.out.1
  have hbx2 := (hb2.block b (by omega)).trans Hbx.out
  have ho2 := ho.below hb2
  have hr2 := hr.below hb2
  have pg : w2.cell? ⟨g, 0, none⟩ = some (.slice (some ⟨G, 0, none⟩) l.length c) := cell_of_row w2 g 0 _ _ _ hg2
  have hg2s : g < w2.heap.size := by omega
  have hs2' : b + 2 ≤ w2.heap.size ∧ w2.heap.size ≤ b + 2 := by omega
  clear hs2
  have hNF : ¬ NoF g := id
  obtain ⟨A', hcut0, hrs⟩ := cut_lo tMessage .i64 (some ⟨G, 0, none⟩) l.length c (k + 1) (by omega)
  have hcut1 : ∀ W : World, (Instr.slice 48 (.slice (some ⟨G, 0, none⟩) l.length c) (some (.int .i64 ((k : Int) + 1))) none none).run Try.prog W = .ok (.slice A' (l.length - (k + 1)) (c - (k + 1))) W := fun W => hcut0 W
  have hcut2 := cut_hi tMessage .i64 (some ⟨G, 0, none⟩) l.length c k (by omega)
  have HRS := Lib.hid (And.intro (hrs kMessage w2 _ l rfl hc1 hr2) (hr2.take_ k (by omega)))
  have hH := Lib.hid (And.intro hg2 (And.intro hbm (And.intro hbx2 ho2)))
  have e5 : (0 : Int) ≤ (k : Int) + 1 := by omega
  have e6 : (k : Int) + 1 ≤ (l.length : Int) := by omega
  have e7 : (k : Int) ≤ (l.length : Int) := by omega
  clear hrs hcut0 hr2 hg2 hbm hbx2 ho2 ho kc0 kc1 kc2 kc3 kc4 kc5 kc6 kc7 kc8 kc9 kc10
  refine wp_region_plan [0, 0, 0, 0, 0, 0, 0, 1, 0, 0, 0, 0, 0, 0, 0, 1, 2, 2, 2] (fun w' => ∃ D : Same NoF w2, w' = D.world) (by kernel_rfl) (by kernel_rfl) InSame.start ?_
  simp only [sel, selE, Nat.reduceEqDiff, reduceIte]
  repeat (go_big_quiet_step (fail))
  refine wpQuiet_nil ?_
  clear hcut1 hcut2
  refine wpE_cons (fun N hN => ?_)
  go_wp2_with (first
    | (at_builtin
       refine wpList_append_S rfl tMessage _ (.tmp 31) rfl (K := kMessage) (F := NoF) (v := .slice none 0 0) (xs := []) rfl rfl OwnS.nil HRS.out.2.drew (fun k hk => by simp [Value.ownBlock] at hk) ?_ ?_ ?_))
  · simp; omega
  · simp; omega
  intro v3 w3 hA
  have hgr := hA.grown
  have hls : ∀ x, v3.ownBlock = some x → w2.heap.size ≤ x ∧ x < w3.heap.size := fun x hx => by
    rcases hA.lies x hx with h | h
    · simp [Value.ownBlock] at h
    · exact ⟨by have := h.1; rw [World.size_drew] at this; omega, h.2⟩
  have hO3 : OwnS kMessage 54 w3 (fun x => (F x ∧ x < b ∧ x ≠ g) ∨ w2.heap.size ≤ x) v3 (l.take k) := by
    refine hA.own.mono fun x hx => ?_
    rcases hx with hx | hx | hx
    · exact hx.elim
    · exact .inl ⟨hx.1.1, hx.1.2, hx.2⟩
    · exact .inr (by have := hx.1; rw [World.size_drew] at this; omega)
  have hb3 : Below w2.heap.size w2 w3 := (drawn_below w2 1).trans ((Below.refl _ _).grown hgr (Nat.le_refl _) (by simp [Value.ownBlock]))
  obtain ⟨A3, n3, c3, rfl⟩ := hO3.shape
  clear hA hgr
  go_wp2
  refine hN _ _ (InSame.of_below hb3) ?_
  clear hN N
  refine wpE_cons (fun N hN => ?_)
  go_wp2_with (first
    | (at_builtin
       refine wpList_append_S rfl tMessage (.tmp 32) (.tmp 39) rfl (K := kMessage) rfl rfl hO3 (HRS.out.1.below hb3) ?_ ?_ ?_ ?_))
  · intro x hx hx2
    have h1 := hls x hx
    have h2 := hx2.1.2
    omega
  · simp; omega
  · simp; omega
  intro v4 w4 hA
  have hls4 : ∀ x, v4.ownBlock = some x → w2.heap.size ≤ x := fun x hx => by
    rcases hA.lies x hx with h | h
    · exact (hls x h).1
    · have := hb3.size; have := h.1; omega
  have hlist : l.take k ++ l.drop (k + 1) = l.eraseIdx k := (List.eraseIdx_eq_take_drop_succ ..).symm
  have hO4 : OwnS kMessage 54 w4 (fun x => (F x ∧ x < b ∧ x ≠ g) ∨ w2.heap.size ≤ x) v4 (l.eraseIdx k) := by
    rw [← hlist]
    refine hA.own.mono fun x hx => ?_
    rcases hx with hx | hx | hx
    · exact hx
    · exact .inl ⟨hx.1.1, hx.1.2, hx.2⟩
    · exact .inr (by have := hx.1; have := hb3.size; omega)
  have hb4 : Below w2.heap.size w2 w4 := hb3.grown hA.grown (by have := hb3.size; omega) (fun x hx => (hls x hx).1)
  obtain ⟨A4, n4, c4, rfl⟩ := hO4.shape
  clear hA hO3 hlist
  go_wp2
  refine hN _ _ (InSame.of_below hb4) ?_
  clear hN N
  refine wpE_nil ?_
  have hg4 := (hb4.block g (by omega)).trans hH.out.1
  have hbm4 := (hb4.block (b + 1) (by omega)).trans hH.out.2.1
  have hbx4 := (hb4.block b (by omega)).trans hH.out.2.2.1
  have pg4 : w4.cell? ⟨g, 0, none⟩ = some (.slice (some ⟨G, 0, none⟩) l.length c) := cell_of_row w4 g 0 _ _ _ hg4
  have fg4 : w4.frozen? ⟨g, 0, none⟩ = false := frozen_of_row w4 g 0 _ _ hg4
  obtain ⟨qc0, qc1, qc2, qc3, qc4, qc5, qc6, qc7, qc8, qc9, qc10, qf0, qf1, qf2, qf3, qf4, qf5, qf6, qf7, qf8, qf9, qf10⟩ := box11 hbx4
  obtain ⟨rc0, rc1, rc2, rc3, rc4, rc5, rc6, rc7, rc8, rc9, rc10, rf0, rf1, rf2, rf3, rf4, rf5, rf6, rf7, rf8, rf9, rf10⟩ := box11 hbm4
  have hbs4 := hb4.size
  have Hh := Lib.hid (And.intro hg4 (And.intro hbm4 hbx4))
  clear hg4 hbm4 hbx4 hH
  go_wp2_with fail
  obtain ⟨hg4, hbm4, hbx4⟩ := Hh.out
  have hn4 : RefAt (w4.setCell ⟨g, 0, none⟩ (.slice A4 n4 c4)) g (fun x => (F x ∧ x < b) ∨ w2.heap.size ≤ x) (l.eraseIdx k) := RefAt.store hg4 (.inl (by have := hF; rw [hb] at this; exact this)) (hO4.mono fun x hx => by
    rcases hx with hx | hx
    · exact ⟨.inl ⟨hx.1, hx.2.1⟩, hx.2.2⟩
    · exact ⟨.inr hx, by omega⟩)
  have hbx5 : (w4.setCell ⟨g, 0, none⟩ (.slice A4 n4 c4)).heap[b]? = _ := (Below.heap_setCell _ _ _ _ (by simp; omega)).trans hbx4
  have hs5 : (w4.setCell ⟨g, 0, none⟩ (.slice A4 n4 c4)).heap.size = w4.heap.size := World.size_setCell ..
  have hr6 : RS kEntry (w4.setCell ⟨g, 0, none⟩ (.slice A4 n4 c4)) _ A6 m.Entries.length m.Entries := ((r6.below hb2).below hb4).far (p := ⟨g, 0, none⟩) (fun hx => hx.1.2 rfl) _
  have hr10 : RS (kInt .u8) (w4.setCell ⟨g, 0, none⟩ (.slice A4 n4 c4)) _ A10 m.Data.length m.Data := ((r10.below hb2).below hb4).far (p := ⟨g, 0, none⟩) (fun hx => hx.1.2 rfl) _
  have hkp : Keeps F w (w4.setCell ⟨g, 0, none⟩ (.slice A4 n4 c4)) := by
    refine Keeps.setCell ?_ (p := ⟨g, 0, none⟩) (fun _ => h0.foot.1) _
    exact ((Keeps.of_below (hb.symm ▸ hb1) F).then_below hb2).then_below hb4
  generalize w4.setCell ⟨g, 0, none⟩ (.slice A4 n4 c4) = w5 at hn4 hbx5 hs5 hr6 hr10 hkp ⊢
  obtain ⟨hw1, hw2⟩ := set11 w5 b _ _ _ _ _ _ _ _ _ _ _ _ hbx5 (.int .i64 m.Kind) (.int .i64 m.From) (.int .i64 m.To) (.int .i64 m.Term) (.int .i64 m.Last) (.int .i64 m.LastTerm) (.slice A6 m.Entries.length c6) (.int .i64 m.Commit) (.bool m.OK) (.int .i64 m.Match) (.slice A10 m.Data.length c10)
  generalize (((((((((((w5.setCell ⟨b, 0, none⟩ (.int .i64 m.Kind)).setCell ⟨b, 1, none⟩ (.int .i64 m.From)).setCell ⟨b, 2, none⟩ (.int .i64 m.To)).setCell ⟨b, 3, none⟩ (.int .i64 m.Term)).setCell ⟨b, 4, none⟩ (.int .i64 m.Last)).setCell ⟨b, 5, none⟩ (.int .i64 m.LastTerm)).setCell ⟨b, 6, none⟩ (.slice A6 m.Entries.length c6)).setCell ⟨b, 7, none⟩ (.int .i64 m.Commit)).setCell ⟨b, 8, none⟩ (.bool m.OK)).setCell ⟨b, 9, none⟩ (.int .i64 m.Match)).setCell ⟨b, 10, none⟩ (.slice A10 m.Data.length c10)) = w6 at hw1 hw2 ⊢
  obtain ⟨sc0, sc1, sc2, sc3, sc4, sc5, sc6, sc7, sc8, sc9, sc10, sf0, sf1, sf2, sf3, sf4, sf5, sf6, sf7, sf8, sf9, sf10⟩ := box11 hw1
  have hs6 := hw2.size
  refine bodyPost_ret (v := .tuple #[.agg #[.int .i64 m.Kind, .int .i64 m.From, .int .i64 m.To, .int .i64 m.Term, .int .i64 m.Last, .int .i64 m.LastTerm, .slice A6 m.Entries.length c6, .int .i64 m.Commit, .bool m.OK, .int .i64 m.Match, .slice A10 m.Data.length c10], .bool true]) (by simp [results, Try.results28, go_sem, sc0, sc1, sc2, sc3, sc4, sc5, sc6, sc7, sc8, sc9, sc10]) rfl ⟨_, _, _, _, rfl, ?_, ⟨l6, m6, ?_, l10, m10, ?_⟩, ?_⟩
  · refine (hn4.bound.keeps hw2 fun x hx hy => ?_).mono fun x hx => ?_
    · have : x = b := hy
      rcases hx.1 with h | h
      · have := h.2; omega
      · omega
    · rcases hx.1 with h | h
      · exact .inl h.1
      · have := hx.2; exact .inr ⟨by omega, by omega⟩
  · refine (hr6.keeps hw2 fun x hx hy => ?_).mono fun x hx => hx.1.1.1
    have := hx.1.1.2; have : x = b := hy; omega
  · refine (hr10.keeps hw2 fun x hx hy => ?_).mono fun x hx => hx.1.1.1
    have := hx.1.1.2; have : x = b := hy; omega
  · exact hkp.step hw2 fun x hx hlt => by have : x = b := hx; omega
end Go.Proofs.Ytngmipppgnlkdaa
