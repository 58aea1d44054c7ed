/- The document's own disk: NewDisk, put. Printed by gen_dr4.py (own work). -/
import Derived.Test.YtfjndjbpgcggkaaDoorDR3
import Derived.Test.YtfjndjbpgcggkaaDoorR2
set_option linter.unusedVariables false
set_option linter.unusedSimpArgs false
namespace Go.Proofs.YtfjndjbpgcggkaaDoor
open Go.RowKit
attribute [local go_sem] Same.cell

theorem tFiles : ElemT Tryd.prog 144 191 3 48 := ElemT.mk' (z := .agg #[.string ⟨#[]⟩, .slice none 0 0, .int .i64 0]) Tryd.underlying144 (by kernel_rfl) rfl

theorem RNew_any (room : Int) (w : World) :
    Calls Tryd.prog 37 #[.int .i64 room] w fun e w' => ∃ rb, e = .returned (.pointer (some ⟨rb, 0, none⟩)) ∧ RefAt w' (New w w') rb (max 0 room) [] none 0 ∧ Below w.heap.size w w' := by
  by_cases h : room < 0
  · have hm : max 0 room = 0 := by omega
    rw [hm]
    clear hm
    go_enter Tryd.func37, Tryd.ntmps37
    go_wp2
    go_ret
    exact ⟨w.heap.size, rfl, ⟨heap_alloc_new w _, ⟨by omega, by simp⟩, OwnS.nil⟩, (Below.refl _ _).alloc (Nat.le_refl _) _⟩
  · have hm : max 0 room = room := by omega
    rw [hm]
    clear hm
    go_enter Tryd.func37, Tryd.ntmps37
    go_wp2
    go_ret
    exact ⟨w.heap.size, rfl, ⟨heap_alloc_new w _, ⟨by omega, by simp⟩, OwnS.nil⟩, (Below.refl _ _).alloc (Nat.le_refl _) _⟩

/-- A file put into its place. -/
def rput (f : RFile) (l : List RFile) : List RFile := l.take (kp f.name l) ++ f :: l.drop (if isAt f.name l = true then kp f.name l + 1 else kp f.name l)
def RPutPost (w : World) (F G : Foot) (rb : Nat) (room : Int) (l' : List RFile) (en : Ending) (w' : World) : Prop :=
  en = .returned (.tuple #[]) ∧ (∃ A' c', RefAt w' (fun k => F k ∨ (G k ∧ k < w.heap.size) ∨ (w.heap.size ≤ k ∧ k < w'.heap.size)) rb room l' A' c') ∧ Keeps (fun k => k = rb) w w'

set_option maxHeartbeats 8000000 in
set_option maxRecDepth 100000 in
theorem rput_any (rb : Nat) (f : RFile) (A4 : Option Addr) (c4 : Nat) (w : World) (F G : Foot) (room : Int) (l : List RFile) (A : Option Addr) (c : Nat) (h : RefAt w F rb room l A c) (hn : l.length ≤ 1000000000)
    (l4 : f.b.length ≤ c4) (m4 : c4 ≤ 9223372036854775807) (r4 : RS (kInt .u8) w G A4 f.b.length f.b) (hG : ¬ G rb) :
    Calls Tryd.prog 133 #[.pointer (some ⟨rb, 0, none⟩), .agg #[.string f.name, .slice A4 f.b.length c4, .int .i64 f.loose]] w (RPutPost w F G rb room (rput f l)) := by
  have hrlt : rb < w.heap.size := (Array.getElem?_eq_some_iff.1 h.cells).1
  have hal : Below w.heap.size w (w.alloc (.cells #[.string f.name, .slice A4 f.b.length c4, .int .i64 f.loose] 191)) := (Below.refl _ _).alloc (Nat.le_refl _) _
  have hbx := heap_alloc_new w (.cells #[.string f.name, .slice A4 f.b.length c4, .int .i64 f.loose] 191)
  have HF := Lib.hid (fun W (hb : Below w.heap.size w W) => rfind_any rb f.name W F room l A c ⟨(hb.block rb hrlt).trans h.cells, h.fs, h.own.below hb⟩ hn)
  obtain ⟨A', c', hvv, hc, hm, hr⟩ := h.own.reads
  obtain ⟨rfl, rfl⟩ : A = A' ∧ c = c' := by injection hvv with h1 _ h2; exact ⟨h1, h2⟩
  have H := Lib.hid (And.intro h (And.intro hr r4))
  have hkl := kp_le f.name l
  unfold rput
  clear h hvv hr r4
  obtain ⟨k, hk⟩ : ∃ k, Hid (kp f.name l = k) := ⟨_, rfl⟩
  rw [hk.out] at hkl HF ⊢
  cases hat : isAt f.name l with
  | true =>
    rw [hat] at HF
    have hk1 : k < l.length := by
      obtain ⟨x, hx, _⟩ := isAt_get f.name l hat
      rw [hk.out] at hx
      exact (List.getElem?_eq_some_iff.1 hx).1
    rw [if_pos rfl]
    clear hat
    go_enter Tryd.func133, Tryd.ntmps133
    go_wp2_with fail
    refine (HF.out _ hal).mono ?_
    rintro e w2 ⟨rfl, nd, rfl⟩
    have hb2 : Below w.heap.size w ((w.alloc (.cells #[.string f.name, .slice A4 f.b.length c4, .int .i64 f.loose] 191)).drewN nd) := ⟨hal.os, hal.tape, hal.output, hal.size, hal.block⟩
    have hbx2 : ((w.alloc (.cells #[.string f.name, .slice A4 f.b.length c4, .int .i64 f.loose] 191)).drewN nd).heap[w.heap.size]? = some (.cells #[.string f.name, .slice A4 f.b.length c4, .int .i64 f.loose] 191 (0, 0)) := hbx
    generalize (w.alloc (.cells #[.string f.name, .slice A4 f.b.length c4, .int .i64 f.loose] 191)).drewN nd = w2 at hb2 hbx2 ⊢
    have hcl2 := (hb2.block rb hrlt).trans H.out.1.cells
    have hqlt : w.heap.size < w2.heap.size := (Array.getElem?_eq_some_iff.1 hbx2).1
    have b0 : w2.cell? ⟨w.heap.size, 0, none⟩ = some (.string f.name) := cell_of_row w2 _ 0 _ _ _ hbx2
    have b1 : w2.cell? ⟨w.heap.size, 1, none⟩ = some (.slice A4 f.b.length c4) := cell_of_row w2 _ 1 _ _ _ hbx2
    have b2 : w2.cell? ⟨w.heap.size, 2, none⟩ = some (.int .i64 f.loose) := cell_of_row w2 _ 2 _ _ _ hbx2
    have c1 : w2.cell? ⟨rb, 1, none⟩ = some (.slice A l.length c) := cell_of_row w2 rb 1 _ _ _ hcl2
    have hrlt2 : rb < w2.heap.size := by omega
    have hcut := cut_hi tFiles .i64 A l.length c k (by omega)
    have hNF : ¬ NoF rb := id
    have hNFq : ¬ NoF w.heap.size := id
    have HB := Lib.hid (And.intro hb2 hcl2)
    clear hal hbx hb2 hbx2 hcl2
    go_wp2_with fail
    refine wp_region_open [0, 0, 0, 0, 0, 0, 1, 0, 1, 1, 2] (fun w' => ∃ D : Same NoF w2, w' = D.world) 4 (by kernel_rfl) (by kernel_rfl) (by kernel_rfl) InSame.start ?_
    simp only [sel, Nat.reduceEqDiff, reduceIte]
    repeat (go_big_quiet_step (fail))
    refine wpQuiet_nil ?_
    have hr2 : RS kRFile w2 (fun j => (F j ∧ j ≠ rb) ∧ j < w.heap.size) A k (l.take k) := (H.out.2.1.bound.below HB.out.1).take_ k hkl
    have hr1 := hr2.drew
    have r42 : RS (kInt .u8) w2 (fun j => G j ∧ j < w.heap.size) A4 f.b.length f.b := H.out.2.2.bound.below HB.out.1
    have htk : (l.take k).length ≤ 1000000000 := by rw [List.length_take]; omega
    clear HF
    refine wpAnyI_fork (i := 6) (j := 8) (by kernel_rfl) (fun N hN => ?armAtrue) (fun N hN => ?armBtrue)
    case' armAtrue =>
      simp only [pickOp]
      go_wp2_with (first
        | (at_builtin
           refine wpList_append_S rfl tFiles _ (.tmp 24) rfl (K := kRFile) (F := NoF) (v := .slice none 0 0) (xs := []) rfl rfl OwnS.nil hr1 (fun k hk => by simp [Value.ownBlock] at hk) ?_ ?_ ?_))
      · simp; omega
      · simp; omega
      intro v3 w3 hA
      have hls : ∀ j, v3.ownBlock = some j → w2.heap.size ≤ j := fun j hj => by
        rcases hA.lies j hj with h | h
        · simp [Value.ownBlock] at h
        · have := h.1; rw [World.size_drew] at this; exact this
      have hO3 : OwnS kRFile 191 w3 (fun j => ((F j ∧ j ≠ rb) ∧ j < w.heap.size) ∨ w2.heap.size ≤ j) v3 (l.take k) := hA.own.mono fun j hj => by
        rcases hj with hj | hj | hj
        · exact hj.elim
        · exact .inl hj
        · exact .inr (by have := hj.1; rw [World.size_drew] at this; exact this)
      have hb3 : Below w2.heap.size w2 w3 := (drawn_below w2 1).trans ((Below.refl _ _).grown hA.grown (Nat.le_refl _) (by simp [Value.ownBlock]))
      obtain ⟨A3, n3, c3, rfl⟩ := hO3.shape
      clear hA hr1
      go_wp2
      refine hN _ _ (InSame.of_below hb3) ?_
      clear hN N
      refine wpAnyI_step (k := 8) (by kernel_rfl) (fun N hN => ?_)
      simp only [pickOp]
      go_wp2
      have hr4 : RS kRFile (w3.alloc (.cells #[.string f.name, .slice A4 f.b.length c4, .int .i64 f.loose] 191)) (fun j => (G j ∧ j < w.heap.size) ∨ j = w3.heap.size) (some ⟨w3.heap.size, 0, none⟩) 1 [f] :=
        RS.lit w3 (xs := [f]) (Elems.single (K := kRFile) ⟨A4, c4, rfl, l4, m4, r42.below hb3⟩)
      have hb4 : Below w2.heap.size w2 (w3.alloc (.cells #[.string f.name, .slice A4 f.b.length c4, .int .i64 f.loose] 191)) := hb3.alloc hb3.size _
      have hO4 := hO3.below ((Below.refl w3.heap.size w3).alloc (Nat.le_refl _) (.cells #[.string f.name, .slice A4 f.b.length c4, .int .i64 f.loose] 191))
      have hgl : w2.heap.size ≤ w3.heap.size := hb3.size
      have hnl : ∀ j, (Value.slice A3 n3 c3).ownBlock = some j → j ≠ w3.heap.size := fun j hj => by have := (hO3.lt j hj).2; omega
      refine hN _ _ (InSame.of_below hb4) ?_
      generalize w3.alloc (.cells #[.string f.name, .slice A4 f.b.length c4, .int .i64 f.loose] 191) = w4 at hr4 hb4 hO4 ⊢
      clear hb3 hO3 hN N
      generalize w3.heap.size = gl at hr4 hgl hnl ⊢
    case' armBtrue =>
      simp only [pickOp]
      go_wp2
      have hr4' : RS kRFile (w2.alloc (.cells #[.string f.name, .slice A4 f.b.length c4, .int .i64 f.loose] 191)).drew (fun j => (G j ∧ j < w.heap.size) ∨ j = w2.heap.size) (some ⟨w2.heap.size, 0, none⟩) 1 [f] :=
        (RS.lit w2 (xs := [f]) (Elems.single (K := kRFile) ⟨A4, c4, rfl, l4, m4, r42⟩)).drew
      have hb3 : Below w2.heap.size w2 (w2.alloc (.cells #[.string f.name, .slice A4 f.b.length c4, .int .i64 f.loose] 191)).drew := ((Below.refl _ _).alloc (Nat.le_refl _) _).drew
      have hsz3 : w2.heap.size < (w2.alloc (.cells #[.string f.name, .slice A4 f.b.length c4, .int .i64 f.loose] 191)).drew.heap.size := by simp
      refine hN _ _ (InSame.of_below hb3) ?_
      generalize (w2.alloc (.cells #[.string f.name, .slice A4 f.b.length c4, .int .i64 f.loose] 191)).drew = w3 at hr4' hb3 hsz3 ⊢
      clear hr1
      have hr1 := hr2.below hb3
      obtain ⟨gl, hg0, hgl⟩ : ∃ gl, w2.heap.size = gl ∧ w2.heap.size ≤ gl := ⟨_, rfl, Nat.le_refl _⟩
      have hgl3 : gl < w3.heap.size := by omega
      rw [hg0] at hr4' ⊢
      clear hg0 hN N
      refine wpAnyI_step (k := 6) (by kernel_rfl) (fun N hN => ?_)
      simp only [pickOp]
      go_wp2_with (first
        | (at_builtin
           refine wpList_append_S rfl tFiles _ (.tmp 24) rfl (K := kRFile) (F := NoF) (v := .slice none 0 0) (xs := []) rfl rfl OwnS.nil hr1 (fun k hk => by simp [Value.ownBlock] at hk) ?_ ?_ ?_))
      · simp; omega
      · simp; omega
      intro v3 w4 hA
      have hls : ∀ j, v3.ownBlock = some j → w2.heap.size ≤ j := fun j hj => by
        rcases hA.lies j hj with h | h
        · simp [Value.ownBlock] at h
        · have := h.1; have := hb3.size; omega
      have hnl : ∀ j, v3.ownBlock = some j → j ≠ gl := fun j hj => by
        rcases hA.lies j hj with h | h
        · simp [Value.ownBlock] at h
        · have := h.1; omega
      have hO4 : OwnS kRFile 191 w4 (fun j => ((F j ∧ j ≠ rb) ∧ j < w.heap.size) ∨ w2.heap.size ≤ j) v3 (l.take k) := hA.own.mono fun j hj => by
        rcases hj with hj | hj | hj
        · exact hj.elim
        · exact .inl hj
        · exact .inr (by have := hj.1; have := hb3.size; omega)
      have hb34 : Below w3.heap.size w3 w4 := (Below.refl _ _).grown hA.grown (Nat.le_refl _) (by simp [Value.ownBlock])
      have hr4 := hr4'.below hb34
      have hb4 : Below w2.heap.size w2 w4 := hb3.trans (hb34.mono hb3.size)
      obtain ⟨A3, n3, c3, rfl⟩ := hO4.shape
      clear hA hr1 hr4' hb3 hb34 hsz3 hgl3
      go_wp2
      refine hN _ _ (InSame.of_below hb4) ?_
      clear hN N
    all_goals
      refine wpAnyI_step (k := 9) (by kernel_rfl) (fun N hN => ?_)
      simp only [pickOp]
      go_wp2_with (first
        | (at_builtin
           refine wpList_append_S rfl tFiles (.tmp 25) (.tmp 27) rfl (K := kRFile) rfl rfl hO4 hr4 ?_ ?_ ?_ ?_))
      · intro j hj hj2
        have h1 := hls j hj
        have h2 := hnl j hj
        rcases hj2 with hj2 | hj2
        · have := hj2.2; omega
        · exact h2 hj2
      · omega
      · omega
      intro v5 w5 hA
      have hls5 : ∀ j, v5.ownBlock = some j → w2.heap.size ≤ j := fun j hj => by
        rcases hA.lies j hj with h | h
        · exact hls j h
        · have := h.1; have := hb4.size; omega
      have hO5 : OwnS kRFile 191 w5 (fun j => ((F j ∧ j ≠ rb) ∧ j < w.heap.size) ∨ (G j ∧ j < w.heap.size) ∨ w2.heap.size ≤ j) v5 (l.take k ++ [f]) := hA.own.mono fun j hj => by
        rcases hj with hj | hj | hj
        · rcases hj with hj | hj
          · exact .inl hj
          · exact .inr (.inr hj)
        · rcases hj with hj | hj
          · exact .inr (.inl hj)
          · exact .inr (.inr (by omega))
        · exact .inr (.inr (by have := hj.1; have := hb4.size; omega))
      have hb5 : Below w2.heap.size w2 w5 := hb4.grown hA.grown (by have := hb4.size; omega) (fun j hj => hls j hj)
      obtain ⟨A5, n5, c5, rfl⟩ := hO5.shape
      clear hA hO4 hr4 hb4 hls hnl
      go_wp2
      refine hN _ _ (InSame.of_below hb5) ?_
      clear hN N
      refine wpAnyI_stepz (k := 10) (by kernel_rfl) (by kernel_rfl) (fun N hN => ?_)
      simp only [pickOp]
      go_wp2
      refine wpAnyI_end (by kernel_rfl) ⟨rfl, ?_⟩
      have hb05 : Below w.heap.size w w5 := HB.out.1.trans (hb5.mono HB.out.1.size)
      have hcl5 := (hb5.block rb hrlt2).trans HB.out.2
      have c15 : w5.cell? ⟨rb, 1, none⟩ = some (.slice A l.length c) := cell_of_row w5 rb 1 _ _ _ hcl5
      have g15 : w5.frozen? ⟨rb, 1, none⟩ = false := frozen_of_row w5 rb 1 _ _ hcl5
      have hrlt5 : rb < w5.heap.size := by have := hb5.size; omega
      have hr5 : RS kRFile w5 (fun j => (F j ∧ j ≠ rb) ∧ j < w.heap.size) A l.length l := H.out.2.1.bound.below hb05
      obtain ⟨A6, hsl, htl⟩ := cut_lo tFiles .i64 A l.length c (k + 1) (by omega)
      have hsl1 : ∀ W, (Instr.slice 144 (.slice A l.length c) (some (.int .i64 ((k : Int) + 1))) none none).run Tryd.prog W = .ok (.slice A6 (l.length - (k + 1)) (c - (k + 1))) W := hsl
      have hr6 := htl kRFile w5 _ l rfl hc hr5
      obtain ⟨n6, hn6⟩ : ∃ n, Hid (l.length - (k + 1) = n) := ⟨_, rfl⟩
      obtain ⟨c6, hc6⟩ : ∃ n, Hid (c - (k + 1) = n) := ⟨_, rfl⟩
      rw [hn6.out] at hr6
      rw [hn6.out, hc6.out] at hsl1
      have hn6l : n6 ≤ 1000000000 := by have := hn6.out; omega
      have H5 := Lib.hid (And.intro hb05 (And.intro hcl5 hls5))
      clear hsl htl hr5 hcl5 hb05 hls5 c1 hcut b0 b1 b2
      go_wp2_with (first
        | (at_builtin
           refine wpList_append_S rfl tFiles (.tmp 30) (.tmp 36) rfl (K := kRFile) rfl rfl hO5 hr6 ?_ ?_ ?_ ?_))
      · intro j hj hj2
        have h1 := H5.out.2.2 j hj
        have := hj2.2
        omega
      · simp only [List.length_append, List.length_singleton]; omega
      · simp only [List.length_append, List.length_singleton]; omega
      intro v7 w7 hA
      have hs57 : w5.heap.size ≤ w7.heap.size := hA.grown.size
      have hcl7 := (hA.grown.block rb hrlt5 (fun e => by have := H5.out.2.2 rb e.symm; omega)).trans H5.out.2.1
      have hb7 : Below w2.heap.size w2 w7 := hb5.grown hA.grown (by have := hb5.size; omega) (fun j hj => H5.out.2.2 j hj)
      have hls7 : ∀ j, v7.ownBlock = some j → w2.heap.size ≤ j := fun j hj => by
        rcases hA.lies j hj with h | h
        · exact H5.out.2.2 j h
        · have := h.1; have := hb5.size; omega
      have hO7 : OwnS kRFile 191 w7 (fun j => ((F j ∧ j ≠ rb) ∧ j < w.heap.size) ∨ (G j ∧ j < w.heap.size) ∨ w2.heap.size ≤ j) v7 (l.take k ++ f :: l.drop (k + 1)) := hA.own.mono fun j hj => by
        rcases hj with hj | hj | hj
        · exact hj
        · exact .inl hj
        · exact .inr (.inr (by have := hj.1; have := hb5.size; omega))
      obtain ⟨A7, c7, hv7, -, -⟩ := hO7.slice
      obtain ⟨n7, hn7⟩ : ∃ n, Hid ((l.take k ++ f :: l.drop (k + 1)).length = n) := ⟨_, rfl⟩
      rw [hn7.out] at hv7
      subst hv7
      have c17 : w7.cell? ⟨rb, 1, none⟩ = some (.slice A l.length c) := cell_of_row w7 rb 1 _ _ _ hcl7
      have g17 : w7.frozen? ⟨rb, 1, none⟩ = false := frozen_of_row w7 rb 1 _ _ hcl7
      have H7 := Lib.hid (And.intro hcl7 (And.intro hb7 hO7))
      clear hA hO5 hr6 hb5 c15 g15 hcl7 hb7 hO7 hls7 H5 hrlt5
      go_wp2
      go_end0
      obtain ⟨hcl7, hb7, hO7⟩ := H7.out
      have hs2 := HB.out.1.size
      refine ⟨rfl, ⟨A7, c7, ⟨?_, .inl H.out.1.fs, ?_⟩⟩, ?_⟩
      · rw [hn7.out]
        exact heap_setCell_same w7 rb 1 _ _ (.slice A7 n7 c7) hcl7
      · rw [hn7.out]
        refine (hO7.bound.keep (W' := w7.setCell ⟨rb, 1, none⟩ (.slice A7 n7 c7)) (Nat.le_of_eq (World.size_setCell ..).symm) fun j hj _ => Below.heap_setCell w7 ⟨rb, 1, none⟩ (.slice A7 n7 c7) j (fun e => ?_)).mono fun j hj => ?_
        · have e' : j = rb := e
          rcases hj.1 with h | h | h
          · exact h.1.2 e'
          · exact hG (e' ▸ h.1)
          · have h' : w2.heap.size ≤ j := h
            omega
        · have h2 : j < w7.heap.size := hj.2
          rcases hj.1 with h | h | h
          · exact ⟨.inl h.1.1, h.1.2⟩
          · exact ⟨.inr (.inl h), fun e => hG (e ▸ h.1)⟩
          · exact ⟨.inr (.inr ⟨by omega, by rw [World.size_setCell]; exact h2⟩), by omega⟩
      · exact (Keeps.of_below (HB.out.1.trans (hb7.mono hs2)) (fun k => k = rb)).setCell (p := ⟨rb, 1, none⟩) (fun _ => rfl) _
  | false =>
    rw [hat] at HF

    rw [if_neg (by decide)]
    clear hat
    go_enter Tryd.func133, Tryd.ntmps133
    go_wp2_with fail
    refine (HF.out _ hal).mono ?_
    rintro e w2 ⟨rfl, nd, rfl⟩
    have hb2 : Below w.heap.size w ((w.alloc (.cells #[.string f.name, .slice A4 f.b.length c4, .int .i64 f.loose] 191)).drewN nd) := ⟨hal.os, hal.tape, hal.output, hal.size, hal.block⟩
    have hbx2 : ((w.alloc (.cells #[.string f.name, .slice A4 f.b.length c4, .int .i64 f.loose] 191)).drewN nd).heap[w.heap.size]? = some (.cells #[.string f.name, .slice A4 f.b.length c4, .int .i64 f.loose] 191 (0, 0)) := hbx
    generalize (w.alloc (.cells #[.string f.name, .slice A4 f.b.length c4, .int .i64 f.loose] 191)).drewN nd = w2 at hb2 hbx2 ⊢
    have hcl2 := (hb2.block rb hrlt).trans H.out.1.cells
    have hqlt : w.heap.size < w2.heap.size := (Array.getElem?_eq_some_iff.1 hbx2).1
    have b0 : w2.cell? ⟨w.heap.size, 0, none⟩ = some (.string f.name) := cell_of_row w2 _ 0 _ _ _ hbx2
    have b1 : w2.cell? ⟨w.heap.size, 1, none⟩ = some (.slice A4 f.b.length c4) := cell_of_row w2 _ 1 _ _ _ hbx2
    have b2 : w2.cell? ⟨w.heap.size, 2, none⟩ = some (.int .i64 f.loose) := cell_of_row w2 _ 2 _ _ _ hbx2
    have c1 : w2.cell? ⟨rb, 1, none⟩ = some (.slice A l.length c) := cell_of_row w2 rb 1 _ _ _ hcl2
    have hrlt2 : rb < w2.heap.size := by omega
    have hcut := cut_hi tFiles .i64 A l.length c k (by omega)
    have hNF : ¬ NoF rb := id
    have hNFq : ¬ NoF w.heap.size := id
    have HB := Lib.hid (And.intro hb2 hcl2)
    clear hal hbx hb2 hbx2 hcl2
    go_wp2_with fail
    refine wp_region_open [0, 0, 0, 0, 0, 0, 1, 0, 1, 1, 2] (fun w' => ∃ D : Same NoF w2, w' = D.world) 4 (by kernel_rfl) (by kernel_rfl) (by kernel_rfl) InSame.start ?_
    simp only [sel, Nat.reduceEqDiff, reduceIte]
    repeat (go_big_quiet_step (fail))
    refine wpQuiet_nil ?_
    have hr2 : RS kRFile w2 (fun j => (F j ∧ j ≠ rb) ∧ j < w.heap.size) A k (l.take k) := (H.out.2.1.bound.below HB.out.1).take_ k hkl
    have hr1 := hr2.drew
    have r42 : RS (kInt .u8) w2 (fun j => G j ∧ j < w.heap.size) A4 f.b.length f.b := H.out.2.2.bound.below HB.out.1
    have htk : (l.take k).length ≤ 1000000000 := by rw [List.length_take]; omega
    clear HF
    refine wpAnyI_fork (i := 6) (j := 8) (by kernel_rfl) (fun N hN => ?armAfalse) (fun N hN => ?armBfalse)
    case' armAfalse =>
      simp only [pickOp]
      go_wp2_with (first
        | (at_builtin
           refine wpList_append_S rfl tFiles _ (.tmp 24) rfl (K := kRFile) (F := NoF) (v := .slice none 0 0) (xs := []) rfl rfl OwnS.nil hr1 (fun k hk => by simp [Value.ownBlock] at hk) ?_ ?_ ?_))
      · simp; omega
      · simp; omega
      intro v3 w3 hA
      have hls : ∀ j, v3.ownBlock = some j → w2.heap.size ≤ j := fun j hj => by
        rcases hA.lies j hj with h | h
        · simp [Value.ownBlock] at h
        · have := h.1; rw [World.size_drew] at this; exact this
      have hO3 : OwnS kRFile 191 w3 (fun j => ((F j ∧ j ≠ rb) ∧ j < w.heap.size) ∨ w2.heap.size ≤ j) v3 (l.take k) := hA.own.mono fun j hj => by
        rcases hj with hj | hj | hj
        · exact hj.elim
        · exact .inl hj
        · exact .inr (by have := hj.1; rw [World.size_drew] at this; exact this)
      have hb3 : Below w2.heap.size w2 w3 := (drawn_below w2 1).trans ((Below.refl _ _).grown hA.grown (Nat.le_refl _) (by simp [Value.ownBlock]))
      obtain ⟨A3, n3, c3, rfl⟩ := hO3.shape
      clear hA hr1
      go_wp2
      refine hN _ _ (InSame.of_below hb3) ?_
      clear hN N
      refine wpAnyI_step (k := 8) (by kernel_rfl) (fun N hN => ?_)
      simp only [pickOp]
      go_wp2
      have hr4 : RS kRFile (w3.alloc (.cells #[.string f.name, .slice A4 f.b.length c4, .int .i64 f.loose] 191)) (fun j => (G j ∧ j < w.heap.size) ∨ j = w3.heap.size) (some ⟨w3.heap.size, 0, none⟩) 1 [f] :=
        RS.lit w3 (xs := [f]) (Elems.single (K := kRFile) ⟨A4, c4, rfl, l4, m4, r42.below hb3⟩)
      have hb4 : Below w2.heap.size w2 (w3.alloc (.cells #[.string f.name, .slice A4 f.b.length c4, .int .i64 f.loose] 191)) := hb3.alloc hb3.size _
      have hO4 := hO3.below ((Below.refl w3.heap.size w3).alloc (Nat.le_refl _) (.cells #[.string f.name, .slice A4 f.b.length c4, .int .i64 f.loose] 191))
      have hgl : w2.heap.size ≤ w3.heap.size := hb3.size
      have hnl : ∀ j, (Value.slice A3 n3 c3).ownBlock = some j → j ≠ w3.heap.size := fun j hj => by have := (hO3.lt j hj).2; omega
      refine hN _ _ (InSame.of_below hb4) ?_
      generalize w3.alloc (.cells #[.string f.name, .slice A4 f.b.length c4, .int .i64 f.loose] 191) = w4 at hr4 hb4 hO4 ⊢
      clear hb3 hO3 hN N
      generalize w3.heap.size = gl at hr4 hgl hnl ⊢
    case' armBfalse =>
      simp only [pickOp]
      go_wp2
      have hr4' : RS kRFile (w2.alloc (.cells #[.string f.name, .slice A4 f.b.length c4, .int .i64 f.loose] 191)).drew (fun j => (G j ∧ j < w.heap.size) ∨ j = w2.heap.size) (some ⟨w2.heap.size, 0, none⟩) 1 [f] :=
        (RS.lit w2 (xs := [f]) (Elems.single (K := kRFile) ⟨A4, c4, rfl, l4, m4, r42⟩)).drew
      have hb3 : Below w2.heap.size w2 (w2.alloc (.cells #[.string f.name, .slice A4 f.b.length c4, .int .i64 f.loose] 191)).drew := ((Below.refl _ _).alloc (Nat.le_refl _) _).drew
      have hsz3 : w2.heap.size < (w2.alloc (.cells #[.string f.name, .slice A4 f.b.length c4, .int .i64 f.loose] 191)).drew.heap.size := by simp
      refine hN _ _ (InSame.of_below hb3) ?_
      generalize (w2.alloc (.cells #[.string f.name, .slice A4 f.b.length c4, .int .i64 f.loose] 191)).drew = w3 at hr4' hb3 hsz3 ⊢
      clear hr1
      have hr1 := hr2.below hb3
      obtain ⟨gl, hg0, hgl⟩ : ∃ gl, w2.heap.size = gl ∧ w2.heap.size ≤ gl := ⟨_, rfl, Nat.le_refl _⟩
      have hgl3 : gl < w3.heap.size := by omega
      rw [hg0] at hr4' ⊢
      clear hg0 hN N
      refine wpAnyI_step (k := 6) (by kernel_rfl) (fun N hN => ?_)
      simp only [pickOp]
      go_wp2_with (first
        | (at_builtin
           refine wpList_append_S rfl tFiles _ (.tmp 24) rfl (K := kRFile) (F := NoF) (v := .slice none 0 0) (xs := []) rfl rfl OwnS.nil hr1 (fun k hk => by simp [Value.ownBlock] at hk) ?_ ?_ ?_))
      · simp; omega
      · simp; omega
      intro v3 w4 hA
      have hls : ∀ j, v3.ownBlock = some j → w2.heap.size ≤ j := fun j hj => by
        rcases hA.lies j hj with h | h
        · simp [Value.ownBlock] at h
        · have := h.1; have := hb3.size; omega
      have hnl : ∀ j, v3.ownBlock = some j → j ≠ gl := fun j hj => by
        rcases hA.lies j hj with h | h
        · simp [Value.ownBlock] at h
        · have := h.1; omega
      have hO4 : OwnS kRFile 191 w4 (fun j => ((F j ∧ j ≠ rb) ∧ j < w.heap.size) ∨ w2.heap.size ≤ j) v3 (l.take k) := hA.own.mono fun j hj => by
        rcases hj with hj | hj | hj
        · exact hj.elim
        · exact .inl hj
        · exact .inr (by have := hj.1; have := hb3.size; omega)
      have hb34 : Below w3.heap.size w3 w4 := (Below.refl _ _).grown hA.grown (Nat.le_refl _) (by simp [Value.ownBlock])
      have hr4 := hr4'.below hb34
      have hb4 : Below w2.heap.size w2 w4 := hb3.trans (hb34.mono hb3.size)
      obtain ⟨A3, n3, c3, rfl⟩ := hO4.shape
      clear hA hr1 hr4' hb3 hb34 hsz3 hgl3
      go_wp2
      refine hN _ _ (InSame.of_below hb4) ?_
      clear hN N
    all_goals
      refine wpAnyI_step (k := 9) (by kernel_rfl) (fun N hN => ?_)
      simp only [pickOp]
      go_wp2_with (first
        | (at_builtin
           refine wpList_append_S rfl tFiles (.tmp 25) (.tmp 27) rfl (K := kRFile) rfl rfl hO4 hr4 ?_ ?_ ?_ ?_))
      · intro j hj hj2
        have h1 := hls j hj
        have h2 := hnl j hj
        rcases hj2 with hj2 | hj2
        · have := hj2.2; omega
        · exact h2 hj2
      · omega
      · omega
      intro v5 w5 hA
      have hls5 : ∀ j, v5.ownBlock = some j → w2.heap.size ≤ j := fun j hj => by
        rcases hA.lies j hj with h | h
        · exact hls j h
        · have := h.1; have := hb4.size; omega
      have hO5 : OwnS kRFile 191 w5 (fun j => ((F j ∧ j ≠ rb) ∧ j < w.heap.size) ∨ (G j ∧ j < w.heap.size) ∨ w2.heap.size ≤ j) v5 (l.take k ++ [f]) := hA.own.mono fun j hj => by
        rcases hj with hj | hj | hj
        · rcases hj with hj | hj
          · exact .inl hj
          · exact .inr (.inr hj)
        · rcases hj with hj | hj
          · exact .inr (.inl hj)
          · exact .inr (.inr (by omega))
        · exact .inr (.inr (by have := hj.1; have := hb4.size; omega))
      have hb5 : Below w2.heap.size w2 w5 := hb4.grown hA.grown (by have := hb4.size; omega) (fun j hj => hls j hj)
      obtain ⟨A5, n5, c5, rfl⟩ := hO5.shape
      clear hA hO4 hr4 hb4 hls hnl
      go_wp2
      refine hN _ _ (InSame.of_below hb5) ?_
      clear hN N
      refine wpAnyI_stepz (k := 10) (by kernel_rfl) (by kernel_rfl) (fun N hN => ?_)
      simp only [pickOp]
      go_wp2
      refine wpAnyI_end (by kernel_rfl) ⟨rfl, ?_⟩
      have hb05 : Below w.heap.size w w5 := HB.out.1.trans (hb5.mono HB.out.1.size)
      have hcl5 := (hb5.block rb hrlt2).trans HB.out.2
      have c15 : w5.cell? ⟨rb, 1, none⟩ = some (.slice A l.length c) := cell_of_row w5 rb 1 _ _ _ hcl5
      have g15 : w5.frozen? ⟨rb, 1, none⟩ = false := frozen_of_row w5 rb 1 _ _ hcl5
      have hrlt5 : rb < w5.heap.size := by have := hb5.size; omega
      have hr5 : RS kRFile w5 (fun j => (F j ∧ j ≠ rb) ∧ j < w.heap.size) A l.length l := H.out.2.1.bound.below hb05
      obtain ⟨A6, hsl, htl⟩ := cut_lo tFiles .i64 A l.length c k (by omega)
      have hsl1 : ∀ W, (Instr.slice 144 (.slice A l.length c) (some (.int .i64 (k : Int))) none none).run Tryd.prog W = .ok (.slice A6 (l.length - k) (c - k)) W := hsl
      have hr6 := htl kRFile w5 _ l rfl hc hr5
      obtain ⟨n6, hn6⟩ : ∃ n, Hid (l.length - k = n) := ⟨_, rfl⟩
      obtain ⟨c6, hc6⟩ : ∃ n, Hid (c - k = n) := ⟨_, rfl⟩
      rw [hn6.out] at hr6
      rw [hn6.out, hc6.out] at hsl1
      have hn6l : n6 ≤ 1000000000 := by have := hn6.out; omega
      have H5 := Lib.hid (And.intro hb05 (And.intro hcl5 hls5))
      clear hsl htl hr5 hcl5 hb05 hls5 c1 hcut b0 b1 b2
      go_wp2_with (first
        | (at_builtin
           refine wpList_append_S rfl tFiles (.tmp 30) (.tmp 36) rfl (K := kRFile) rfl rfl hO5 hr6 ?_ ?_ ?_ ?_))
      · intro j hj hj2
        have h1 := H5.out.2.2 j hj
        have := hj2.2
        omega
      · simp only [List.length_append, List.length_singleton]; omega
      · simp only [List.length_append, List.length_singleton]; omega
      intro v7 w7 hA
      have hs57 : w5.heap.size ≤ w7.heap.size := hA.grown.size
      have hcl7 := (hA.grown.block rb hrlt5 (fun e => by have := H5.out.2.2 rb e.symm; omega)).trans H5.out.2.1
      have hb7 : Below w2.heap.size w2 w7 := hb5.grown hA.grown (by have := hb5.size; omega) (fun j hj => H5.out.2.2 j hj)
      have hls7 : ∀ j, v7.ownBlock = some j → w2.heap.size ≤ j := fun j hj => by
        rcases hA.lies j hj with h | h
        · exact H5.out.2.2 j h
        · have := h.1; have := hb5.size; omega
      have hO7 : OwnS kRFile 191 w7 (fun j => ((F j ∧ j ≠ rb) ∧ j < w.heap.size) ∨ (G j ∧ j < w.heap.size) ∨ w2.heap.size ≤ j) v7 (l.take k ++ f :: l.drop k) := hA.own.mono fun j hj => by
        rcases hj with hj | hj | hj
        · exact hj
        · exact .inl hj
        · exact .inr (.inr (by have := hj.1; have := hb5.size; omega))
      obtain ⟨A7, c7, hv7, -, -⟩ := hO7.slice
      obtain ⟨n7, hn7⟩ : ∃ n, Hid ((l.take k ++ f :: l.drop k).length = n) := ⟨_, rfl⟩
      rw [hn7.out] at hv7
      subst hv7
      have c17 : w7.cell? ⟨rb, 1, none⟩ = some (.slice A l.length c) := cell_of_row w7 rb 1 _ _ _ hcl7
      have g17 : w7.frozen? ⟨rb, 1, none⟩ = false := frozen_of_row w7 rb 1 _ _ hcl7
      have H7 := Lib.hid (And.intro hcl7 (And.intro hb7 hO7))
      clear hA hO5 hr6 hb5 c15 g15 hcl7 hb7 hO7 hls7 H5 hrlt5
      go_wp2
      go_end0
      obtain ⟨hcl7, hb7, hO7⟩ := H7.out
      have hs2 := HB.out.1.size
      refine ⟨rfl, ⟨A7, c7, ⟨?_, .inl H.out.1.fs, ?_⟩⟩, ?_⟩
      · rw [hn7.out]
        exact heap_setCell_same w7 rb 1 _ _ (.slice A7 n7 c7) hcl7
      · rw [hn7.out]
        refine (hO7.bound.keep (W' := w7.setCell ⟨rb, 1, none⟩ (.slice A7 n7 c7)) (Nat.le_of_eq (World.size_setCell ..).symm) fun j hj _ => Below.heap_setCell w7 ⟨rb, 1, none⟩ (.slice A7 n7 c7) j (fun e => ?_)).mono fun j hj => ?_
        · have e' : j = rb := e
          rcases hj.1 with h | h | h
          · exact h.1.2 e'
          · exact hG (e' ▸ h.1)
          · have h' : w2.heap.size ≤ j := h
            omega
        · have h2 : j < w7.heap.size := hj.2
          rcases hj.1 with h | h | h
          · exact ⟨.inl h.1.1, h.1.2⟩
          · exact ⟨.inr (.inl h), fun e => hG (e ▸ h.1)⟩
          · exact ⟨.inr (.inr ⟨by omega, by rw [World.size_setCell]; exact h2⟩), by omega⟩
      · exact (Keeps.of_below (HB.out.1.trans (hb7.mono hs2)) (fun k => k = rb)).setCell (p := ⟨rb, 1, none⟩) (fun _ => rfl) _
end Go.Proofs.YtfjndjbpgcggkaaDoor
