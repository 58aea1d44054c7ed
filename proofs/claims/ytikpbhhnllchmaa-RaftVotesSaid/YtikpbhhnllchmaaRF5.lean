/- raft.send. Printed by gen_rf5.py (own work). -/
import Derived.Test.YtikpbhhnllchmaaRF4
set_option linter.unusedVariables false
set_option linter.unusedSimpArgs false
namespace Go.Proofs.Ytikpbhhnllchmaa
open Go.RowKit
attribute [local go_sem] Same.cell Same.frozen

/-- What is sent to a node that is to get nx next. -/
def sendM (s : RaftS) (id : Nat) (nx : Int) : Message :=
  if nx ≤ s.log.base then ⟨7, s.id, id, s.term, s.log.base, s.log.term, [], 0, false, 0, s.snap⟩ else ⟨5, s.id, id, s.term, nx - 1, (s.log.Term (nx - 1)).1, s.log.From nx 8, s.commit, false, 0, []⟩

set_option maxHeartbeats 8000000 in
set_option maxRecDepth 100000 in
theorem send_snap (w : World) (rb : Nat) (F : Foot) (s : RaftS) (id : Nat) (nx : Int) (h : RaftAt w rb F s) (ok : s.Ok) (hnx : s.next[id]? = some nx) (h1 : 1 ≤ nx) (h2 : nx ≤ 2305843009213693952) (hsn : s.snap.length ≤ 1000000000000) (hid : id ≤ 1000) (hle : nx ≤ s.log.base) :
    Calls Try.prog 25 #[.pointer (some ⟨rb, 0, none⟩), .int .i64 id] w (MsgPost w (sendM s id nx)) := by
  have hM : sendM s id nx = ⟨7, s.id, id, s.term, s.log.base, s.log.term, [], 0, false, 0, s.snap⟩ := by unfold sendM; rw [if_pos hle]
  rw [hM]
  clear hM
  have hb1 : Below w.heap.size w (w.alloc (.cells #[.int .i64 0, .int .i64 0, .int .i64 0, .int .i64 0, .int .i64 0, .int .i64 0, .slice none 0 0, .int .i64 0, .bool false, .int .i64 0, .slice none 0 0] 34)) := (Below.refl _ _).alloc (Nat.le_refl _) _
  have hz1 := heap_alloc_new w (.cells #[.int .i64 0, .int .i64 0, .int .i64 0, .int .i64 0, .int .i64 0, .int .i64 0, .slice none 0 0, .int .i64 0, .bool false, .int .i64 0, .slice none 0 0] 34)
  have hlt0 : w.heap.size < (w.alloc (.cells #[.int .i64 0, .int .i64 0, .int .i64 0, .int .i64 0, .int .i64 0, .int .i64 0, .slice none 0 0, .int .i64 0, .bool false, .int .i64 0, .slice none 0 0] 34)).heap.size := by simp
  have h1' := h.below hb1
  have H0 := Lib.hid h
  clear h
  obtain ⟨lb, p, As, cs, vy, vn, vm, hR, hF⟩ := h1'
  obtain ⟨g, cn, rfl, hg1, hg2, hcn1, hcn2⟩ := hR.next.row1 rfl (by have := (List.getElem?_eq_some_iff.1 hnx).1; omega)
  obtain ⟨y1, -⟩ := hR.next.cell1 rfl (i := id) (x := nx) (u := .int .i64 nx) hnx (fun _ _ _ h => h)
  have hil : id < s.next.length := (List.getElem?_eq_some_iff.1 hnx).1
  obtain ⟨c0, c1, c2, c3, c4, c5, c6, c7, c8, c9, c10, c11, c12, c13, -, hlt⟩ := hR.facts
  have HBs := Lib.hid (Base_any lb _ s.log _ hR.log)
  have HR := Lib.hid hR
  obtain ⟨nl, hnl⟩ : ∃ nl, Hid (s.next.length = nl) := ⟨_, rfl⟩
  rw [hnl.out] at c12 hil hcn1
  clear hR hF hnx
  go_enter Try.func25, Try.ntmps25
  go_wp2_with fail
  generalize w.alloc (.cells #[.int .i64 0, .int .i64 0, .int .i64 0, .int .i64 0, .int .i64 0, .int .i64 0, .slice none 0 0, .int .i64 0, .bool false, .int .i64 0, .slice none 0 0] 34) = w1 at hb1 hz1 hlt0 c0 c1 c2 c3 c4 c5 c6 c7 c8 c9 c10 c11 c12 c13 y1 hg2 hlt HBs HR ⊢
  refine HBs.out.mono ?_
  rintro e w1' ⟨rfl, k1, rfl⟩
  have HRa := Lib.hid (show RaftAt (w1.drewN k1) rb (fun k => True) s from ⟨lb, p, As, cs, vy, _, vm, HR.out.keep (Nat.le_refl _) fun _ _ _ => rfl, fun _ _ _ => trivial⟩)
  have HMs := Lib.hid (message_any (w1.drewN k1) rb _ s 7 id s.term HRa.out)
  go_wp2_with fail
  refine HMs.out.mono ?_
  rintro e w2 ⟨rfl, hb2⟩
  have hb2 : Below w1.heap.size w1 w2 := (drawn_below w1 k1).trans (hb2.mono (Nat.le_refl _))
  unfold msgV
  have hR2 := HR.out.below hb2
  have hs2 := hb2.size
  have hz2 := (hb2.block _ hlt0).trans hz1
  have hlt02 : w.heap.size < w2.heap.size := by omega
  have hb02 : Below w.heap.size w w2 := hb1.trans (hb2.mono hb1.size)
  obtain ⟨-, -, -, -, -, -, d6, -, -, d9, d10, -, -, -, -, hlt2⟩ := hR2.facts
  have hb3 : Below w2.heap.size w2 (w2.alloc (.cells #[.int .i64 7, .int .i64 s.id, .int .i64 id, .int .i64 s.term, .int .i64 0, .int .i64 0, .slice none 0 0, .int .i64 0, .bool false, .int .i64 0, .slice none 0 0] 34)) := (Below.refl _ _).alloc (Nat.le_refl _) _
  have hc3 := heap_alloc_new w2 (.cells #[.int .i64 7, .int .i64 s.id, .int .i64 id, .int .i64 s.term, .int .i64 0, .int .i64 0, .slice none 0 0, .int .i64 0, .bool false, .int .i64 0, .slice none 0 0] 34)
  have hz3 := (hb3.block _ hlt02).trans hz2
  have hs3 : w2.heap.size < (w2.alloc (.cells #[.int .i64 7, .int .i64 s.id, .int .i64 id, .int .i64 s.term, .int .i64 0, .int .i64 0, .slice none 0 0, .int .i64 0, .bool false, .int .i64 0, .slice none 0 0] 34)).heap.size := by simp
  have hne1 : ¬ w.heap.size = w2.heap.size := by omega
  have hne2 : ¬ w2.heap.size = w.heap.size := by omega

  have HCl := Lib.hid (clone_byte As s.snap.length cs (w2.alloc (.cells #[.int .i64 7, .int .i64 s.id, .int .i64 id, .int .i64 s.term, .int .i64 0, .int .i64 0, .slice none 0 0, .int .i64 0, .bool false, .int .i64 0, .slice none 0 0] 34)) _ s.snap ((hR2.below hb3).snap) hsn)
  have HB := Lib.hid (And.intro hb02 (And.intro hb3 (And.intro hz3 hc3)))
  clear hb02 hb3 hz3 hc3 hR2 hb1 hz1 hlt0 hb2 hz2 HMs HRa
  go_wp2_with fail
  generalize w2.alloc (.cells #[.int .i64 7, .int .i64 s.id, .int .i64 id, .int .i64 s.term, .int .i64 0, .int .i64 0, .slice none 0 0, .int .i64 0, .bool false, .int .i64 0, .slice none 0 0] 34) = w3 at HB HCl hs3 ⊢
  refine HCl.out.mono ?_
  rintro e w4 ⟨v4, rfl, hM4⟩
  replace hM4 := hM4.flat (flat_int _)
  obtain ⟨A4, c4, rfl, l4, m4, hr4⟩ := hM4.own.reads
  obtain ⟨hb02, hb3, hz3, hc3⟩ := HB.out
  have hb4 := hM4.below
  have hc4 := (hb4.block _ hs3).trans hc3
  have hz4 := (hb4.block _ (by omega)).trans hz3
  obtain ⟨a0, a1, a2, a3, a4, a5, a6, a7, a8, a9, a10, e0, e1, e2, e3, e4, e5, e6, e7, e8, e9, e10⟩ := box11 hc4
  obtain ⟨b0, b1, b2, b3, b4, b5, b6, b7, b8, b9, b10, f0, f1, f2, f3, f4, f5, f6, f7, f8, f9, f10⟩ := box11 hz4
  have hl4 : w.heap.size < w4.heap.size := by have := hb4.size; omega
  have hl42 : w2.heap.size < w4.heap.size := by have := hb4.size; omega
  have HZ := Lib.hid hz4
  have HB4 := Lib.hid (And.intro hb4 hr4)
  clear hz3 hc3 hc4 hz4 hM4 hb4 hr4 hb02 hb3 HCl
  go_wp2
  have hz0 : (((w4.setCell ⟨w2.heap.size, 4, none⟩ (.int .i64 s.log.base)).setCell ⟨w2.heap.size, 5, none⟩ (.int .i64 s.log.term)).setCell ⟨w2.heap.size, 10, none⟩ (.slice A4 s.snap.length c4)).heap[w.heap.size]? = _ := (Below.heap_setCell _ ⟨w2.heap.size, 10, none⟩ _ _ hne1).trans ((Below.heap_setCell _ ⟨w2.heap.size, 5, none⟩ _ _ hne1).trans ((Below.heap_setCell _ ⟨w2.heap.size, 4, none⟩ _ _ hne1).trans (HZ.out)))
  obtain ⟨r1, r2⟩ := set11 _ w.heap.size _ _ _ _ _ _ _ _ _ _ _ _ hz0 (.int .i64 7) (.int .i64 s.id) (.int .i64 id) (.int .i64 s.term) (.int .i64 s.log.base) (.int .i64 s.log.term) (.slice none 0 0) (.int .i64 0) (.bool false) (.int .i64 0) (.slice A4 s.snap.length c4)
  refine bodyPost_ret (v := .agg #[.int .i64 7, .int .i64 s.id, .int .i64 id, .int .i64 s.term, .int .i64 s.log.base, .int .i64 s.log.term, .slice none 0 0, .int .i64 0, .bool false, .int .i64 0, .slice A4 s.snap.length c4]) (results_box Try.results25 rfl r1 Try.underlying34 rfl (by kernel_rfl)) rfl ?_
  have hs34 := HB4.out.1.size
  have hb5 : Below w.heap.size w w4 := (HB.out.1.trans (HB.out.2.1.mono (by omega))).trans (HB4.out.1.mono (by omega))
  have hb0 : Below w.heap.size w (((w4.setCell ⟨w2.heap.size, 4, none⟩ (.int .i64 s.log.base)).setCell ⟨w2.heap.size, 5, none⟩ (.int .i64 s.log.term)).setCell ⟨w2.heap.size, 10, none⟩ (.slice A4 s.snap.length c4)) := (((hb5).setCell (p := ⟨w2.heap.size, 4, none⟩) (by show w.heap.size ≤ w2.heap.size; omega) (.int .i64 s.log.base)).setCell (p := ⟨w2.heap.size, 5, none⟩) (by show w.heap.size ≤ w2.heap.size; omega) (.int .i64 s.log.term)).setCell (p := ⟨w2.heap.size, 10, none⟩) (by show w.heap.size ≤ w2.heap.size; omega) (.slice A4 s.snap.length c4)
  refine ⟨none, 0, A4, c4, rfl, ⟨Nat.le_refl _, by omega, RS.nil, l4, m4, ?_⟩, hb0.trans (r2.below_of hb0.size fun j hj => by have : j = w.heap.size := hj; omega)⟩
  refine (HB4.out.2.keep (W' := _) fun j hj hjl => ?_).mono fun j hj => ?_
  · have hjg : w3.heap.size ≤ j := hj.1
    exact (r2.block j (by simp; omega) (by show ¬ (j = w.heap.size); omega)).trans ((Below.heap_setCell _ ⟨w2.heap.size, 10, none⟩ _ _ (by show ¬ (j = w2.heap.size); omega)).trans ((Below.heap_setCell _ ⟨w2.heap.size, 5, none⟩ _ _ (by show ¬ (j = w2.heap.size); omega)).trans ((Below.heap_setCell _ ⟨w2.heap.size, 4, none⟩ _ _ (by show ¬ (j = w2.heap.size); omega)).trans (rfl))))
  · have hj2 := hj.2
    have hj1 : w3.heap.size ≤ j := hj.1
    have := r2.size
    simp at this
    exact ⟨by omega, by simp; omega⟩

set_option maxHeartbeats 8000000 in
set_option maxRecDepth 100000 in
theorem send_some (w : World) (rb : Nat) (F : Foot) (s : RaftS) (id : Nat) (nx : Int) (h : RaftAt w rb F s) (ok : s.Ok) (hnx : s.next[id]? = some nx) (h1 : 1 ≤ nx) (h2 : nx ≤ 2305843009213693952) (hsn : s.snap.length ≤ 1000000000000) (hid : id ≤ 1000) (hle : ¬ nx ≤ s.log.base) :
    Calls Try.prog 25 #[.pointer (some ⟨rb, 0, none⟩), .int .i64 id] w (MsgPost w (sendM s id nx)) := by
  have hM : sendM s id nx = ⟨5, s.id, id, s.term, nx - 1, (s.log.Term (nx - 1)).1, s.log.From nx 8, s.commit, false, 0, []⟩ := by unfold sendM; rw [if_neg hle]
  rw [hM]
  clear hM
  have hb1 : Below w.heap.size w (w.alloc (.cells #[.int .i64 0, .int .i64 0, .int .i64 0, .int .i64 0, .int .i64 0, .int .i64 0, .slice none 0 0, .int .i64 0, .bool false, .int .i64 0, .slice none 0 0] 34)) := (Below.refl _ _).alloc (Nat.le_refl _) _
  have hz1 := heap_alloc_new w (.cells #[.int .i64 0, .int .i64 0, .int .i64 0, .int .i64 0, .int .i64 0, .int .i64 0, .slice none 0 0, .int .i64 0, .bool false, .int .i64 0, .slice none 0 0] 34)
  have hlt0 : w.heap.size < (w.alloc (.cells #[.int .i64 0, .int .i64 0, .int .i64 0, .int .i64 0, .int .i64 0, .int .i64 0, .slice none 0 0, .int .i64 0, .bool false, .int .i64 0, .slice none 0 0] 34)).heap.size := by simp
  have h1' := h.below hb1
  have H0 := Lib.hid h
  clear h
  obtain ⟨lb, p, As, cs, vy, vn, vm, hR, hF⟩ := h1'
  obtain ⟨g, cn, rfl, hg1, hg2, hcn1, hcn2⟩ := hR.next.row1 rfl (by have := (List.getElem?_eq_some_iff.1 hnx).1; omega)
  obtain ⟨y1, -⟩ := hR.next.cell1 rfl (i := id) (x := nx) (u := .int .i64 nx) hnx (fun _ _ _ h => h)
  have hil : id < s.next.length := (List.getElem?_eq_some_iff.1 hnx).1
  obtain ⟨c0, c1, c2, c3, c4, c5, c6, c7, c8, c9, c10, c11, c12, c13, -, hlt⟩ := hR.facts
  have HBs := Lib.hid (Base_any lb _ s.log _ hR.log)
  have HR := Lib.hid hR
  obtain ⟨nl, hnl⟩ : ∃ nl, Hid (s.next.length = nl) := ⟨_, rfl⟩
  rw [hnl.out] at c12 hil hcn1
  clear hR hF hnx
  go_enter Try.func25, Try.ntmps25
  go_wp2_with fail
  generalize w.alloc (.cells #[.int .i64 0, .int .i64 0, .int .i64 0, .int .i64 0, .int .i64 0, .int .i64 0, .slice none 0 0, .int .i64 0, .bool false, .int .i64 0, .slice none 0 0] 34) = w1 at hb1 hz1 hlt0 c0 c1 c2 c3 c4 c5 c6 c7 c8 c9 c10 c11 c12 c13 y1 hg2 hlt HBs HR ⊢
  refine HBs.out.mono ?_
  rintro e w1' ⟨rfl, k1, rfl⟩
  have HRa := Lib.hid (show RaftAt (w1.drewN k1) rb (fun k => True) s from ⟨lb, p, As, cs, vy, _, vm, HR.out.keep (Nat.le_refl _) fun _ _ _ => rfl, fun _ _ _ => trivial⟩)
  have HMs := Lib.hid (message_any (w1.drewN k1) rb _ s 5 id s.term HRa.out)
  go_wp2_with fail
  refine HMs.out.mono ?_
  rintro e w2 ⟨rfl, hb2⟩
  have hb2 : Below w1.heap.size w1 w2 := (drawn_below w1 k1).trans (hb2.mono (Nat.le_refl _))
  unfold msgV
  have hR2 := HR.out.below hb2
  have hs2 := hb2.size
  have hz2 := (hb2.block _ hlt0).trans hz1
  have hlt02 : w.heap.size < w2.heap.size := by omega
  have hb02 : Below w.heap.size w w2 := hb1.trans (hb2.mono hb1.size)
  obtain ⟨-, -, -, -, -, -, d6, -, -, d9, d10, -, -, -, -, hlt2⟩ := hR2.facts
  have hb3 : Below w2.heap.size w2 (w2.alloc (.cells #[.int .i64 5, .int .i64 s.id, .int .i64 id, .int .i64 s.term, .int .i64 0, .int .i64 0, .slice none 0 0, .int .i64 0, .bool false, .int .i64 0, .slice none 0 0] 34)) := (Below.refl _ _).alloc (Nat.le_refl _) _
  have hc3 := heap_alloc_new w2 (.cells #[.int .i64 5, .int .i64 s.id, .int .i64 id, .int .i64 s.term, .int .i64 0, .int .i64 0, .slice none 0 0, .int .i64 0, .bool false, .int .i64 0, .slice none 0 0] 34)
  have hz3 := (hb3.block _ hlt02).trans hz2
  have hs3 : w2.heap.size < (w2.alloc (.cells #[.int .i64 5, .int .i64 s.id, .int .i64 id, .int .i64 s.term, .int .i64 0, .int .i64 0, .slice none 0 0, .int .i64 0, .bool false, .int .i64 0, .slice none 0 0] 34)).heap.size := by simp
  have hne1 : ¬ w.heap.size = w2.heap.size := by omega
  have hne2 : ¬ w2.heap.size = w.heap.size := by omega

  have HB := Lib.hid (And.intro hb02 (And.intro hb3 (And.intro hz3 hc3)))
  have HR2 := Lib.hid hR2
  clear hb02 hb3 hz3 hc3 hR2 hb1 hz1 hlt0 hb2 hz2 HMs HRa
  go_wp2_with fail
  generalize w2.alloc (.cells #[.int .i64 5, .int .i64 s.id, .int .i64 id, .int .i64 s.term, .int .i64 0, .int .i64 0, .slice none 0 0, .int .i64 0, .bool false, .int .i64 0, .slice none 0 0] 34) = w3 at HB hs3 ⊢
  obtain ⟨hb02, hb3, hz3, hc3⟩ := HB.out
  have hR3 := HR2.out.below hb3
  obtain ⟨-, -, -, -, -, -, x6, -, -, x9, -, -, -, -, -, hlt3⟩ := hR3.facts
  have HFr := Lib.hid (From_any lb _ s.log w3.drew nx 8 hR3.log.drew ok.log (by omega))
  obtain ⟨S, HS⟩ : ∃ S : Foot, Hid (∀ k, S k ↔ k = w2.heap.size) := ⟨_, fun _ => Iff.rfl⟩
  have hNS : ¬ S rb := fun h => by have := (HS.out rb).1 h; omega
  clear d6 d9 d10 c0 c1 c2 c3 c4 c5 c6 c7 c8 c9 c10 c11 c12 c13 y1
  refine wp_region_plan [0, 0, 0, 0, 0, 0, 0, 1, 0, 0, 0, 0, 0, 0, 1, 1, 1, 2, 2] (fun w' => ∃ D : Same S w3, w' = D.world) (by kernel_rfl) (by kernel_rfl) InSame.start ?_
  simp only [sel, selE, Nat.reduceEqDiff, reduceIte]
  repeat (go_big_quiet_step (fail))
  refine wpQuiet_nil ?_
  refine wpE_cons (fun N hN => ?_)
  go_wp2_with fail
  refine HFr.out.mono ?_
  rintro e w4 ⟨v4, rfl, hM4⟩
  obtain ⟨A4, c4, rfl, l4, m4, hr4⟩ := hM4.own.reads
  have hb4 : Below w3.heap.size w3 w4 := below_undrew hM4.below
  obtain ⟨ne, hne⟩ : ∃ ne, Hid ((s.log.From nx 8).length = ne) := ⟨_, rfl⟩
  rw [hne.out] at hr4 l4 ⊢
  have hR4 := hR3.below hb4
  have hc4 := (hb4.block _ hs3).trans hc3
  have hz4 := (hb4.block _ (by omega)).trans hz3
  have hs34 := hb4.size
  have Hr4 := Lib.hid hr4
  clear hM4 hr4 hz3 hc3 hR3 HFr
  go_wp2
  refine hN _ _ (InSame.of_below hb4) ?_
  refine wpE_cons (fun N3 hN3 => ?_)
  clear hN N
  obtain ⟨a0, a1, a2, a3, a4, a5, a6, a7, a8, a9, a10, e0, e1, e2, e3, e4, e5, e6, e7, e8, e9, e10⟩ := box11 hc4
  obtain ⟨-, -, -, -, -, -, -, -, -, x9', -, -, -, -, -, hlt4⟩ := hR4.facts
  have hner : ¬ rb = w2.heap.size := by omega
  have hner2 : ¬ w2.heap.size = rb := by omega
  have hl42 : w2.heap.size < w4.heap.size := by omega
  go_wp2
  refine hN3 _ _ ⟨⟨_, fun k hk hS => (Below.heap_setCell _ ⟨w2.heap.size, 4, none⟩ _ k (fun e => hS ((HS.out k).2 e))).trans (hb4.block k hk)⟩, rfl⟩ ?_
  refine wpE_cons (fun N4 hN4 => ?_)
  clear hN3 N3
  go_wp2
  refine hN4 _ _ ⟨⟨_, fun k hk hS => (Below.heap_setCell _ ⟨w2.heap.size, 4, none⟩ _ k (fun e => hS ((HS.out k).2 e))).trans (hb4.block k hk)⟩, rfl⟩ ?_
  refine wpE_cons (fun N5 hN5 => ?_)
  clear hN4 N4
  go_wp2
  refine hN5 _ _ ⟨⟨_, fun k hk hS => (Below.heap_setCell _ ⟨w2.heap.size, 6, none⟩ _ k (fun e => hS ((HS.out k).2 e))).trans ((Below.heap_setCell _ ⟨w2.heap.size, 4, none⟩ _ k (fun e => hS ((HS.out k).2 e))).trans (hb4.block k hk))⟩, rfl⟩ ?_
  refine wpE_nil ?_
  clear hN5 N5
  have g4 : (w4.setCell ⟨w2.heap.size, 4, none⟩ (.int .i64 (nx - 1))).heap[w2.heap.size]? = some (.cells #[.int .i64 5, .int .i64 s.id, .int .i64 id, .int .i64 s.term, .int .i64 (nx - 1), .int .i64 0, .slice none 0 0, .int .i64 0, .bool false, .int .i64 0, .slice none 0 0] 34 (0, 0)) := heap_setCell_same w4 w2.heap.size 4 _ _ (.int .i64 (nx - 1)) hc4
  have g6 : ((w4.setCell ⟨w2.heap.size, 4, none⟩ (.int .i64 (nx - 1))).setCell ⟨w2.heap.size, 6, none⟩ (.slice A4 ne c4)).heap[w2.heap.size]? = some (.cells #[.int .i64 5, .int .i64 s.id, .int .i64 id, .int .i64 s.term, .int .i64 (nx - 1), .int .i64 0, .slice A4 ne c4, .int .i64 0, .bool false, .int .i64 0, .slice none 0 0] 34 (0, 0)) := heap_setCell_same _ w2.heap.size 6 _ _ (.slice A4 ne c4) g4
  have g7 : (((w4.setCell ⟨w2.heap.size, 4, none⟩ (.int .i64 (nx - 1))).setCell ⟨w2.heap.size, 6, none⟩ (.slice A4 ne c4)).setCell ⟨w2.heap.size, 7, none⟩ (.int .i64 s.commit)).heap[w2.heap.size]? = some (.cells #[.int .i64 5, .int .i64 s.id, .int .i64 id, .int .i64 s.term, .int .i64 (nx - 1), .int .i64 0, .slice A4 ne c4, .int .i64 s.commit, .bool false, .int .i64 0, .slice none 0 0] 34 (0, 0)) := heap_setCell_same _ w2.heap.size 7 _ _ (.int .i64 s.commit) g6
  have hk5 : Keeps (fun k => k = w2.heap.size) w4 (((w4.setCell ⟨w2.heap.size, 4, none⟩ (.int .i64 (nx - 1))).setCell ⟨w2.heap.size, 6, none⟩ (.slice A4 ne c4)).setCell ⟨w2.heap.size, 7, none⟩ (.int .i64 s.commit)) := (((Keeps.refl (fun k => k = w2.heap.size) w4).setCell (p := ⟨w2.heap.size, 4, none⟩) (fun _ => rfl) _).setCell (p := ⟨w2.heap.size, 6, none⟩) (fun _ => rfl) _).setCell (p := ⟨w2.heap.size, 7, none⟩) (fun _ => rfl) _
  have H4 := Lib.hid (And.intro hb4 (And.intro hR4 (And.intro hz4 (And.intro hk5 g7))))
  clear g4 g6 g7 hk5 hb4 hR4 hz4 hc4 x6 x9 hb3 hb02
  go_wp2_with fail
  clear a0 a1 a2 a3 a4 a5 a6 a7 a8 a9 a10 e0 e1 e2 e3 e4 e5 e6 e7 e8 e9 e10 x9'
  generalize ((w4.setCell ⟨w2.heap.size, 4, none⟩ (.int .i64 (nx - 1))).setCell ⟨w2.heap.size, 6, none⟩ (.slice A4 ne c4)).setCell ⟨w2.heap.size, 7, none⟩ (.int .i64 s.commit) = w5 at H4 ⊢
  obtain ⟨hb4, hR4, hz4, hk5, g7⟩ := H4.out
  have hs45 := hk5.size
  have hR5 : RaftIn w5 rb lb p As cs vy _ vm s := hR4.keep hs45 fun i j hp => hk5.block j (hR4.lt i j hp) (fun e => by have : j = w2.heap.size := e; have := HR2.out.lt i j hp; omega)
  have HT := Lib.hid (Term_any lb _ s.log w5 (nx - 1) hR5.log ok.log)
  have hz5 := (hk5.block w.heap.size (by omega) (by show ¬ (w.heap.size = w2.heap.size); omega)).trans hz4
  obtain ⟨a0, a1, a2, a3, a4, a5, a6, a7, a8, a9, a10, e0, e1, e2, e3, e4, e5, e6, e7, e8, e9, e10⟩ := box11 g7
  obtain ⟨b0, b1, b2, b3, b4, b5, b6, b7, b8, b9, b10, f0, f1, f2, f3, f4, f5, f6, f7, f8, f9, f10⟩ := box11 hz5
  have hl5 : w.heap.size < w5.heap.size := by omega
  have hl52 : w2.heap.size < w5.heap.size := by omega
  have HZ := Lib.hid hz5
  clear hb4 hR4 hz4 hk5 g7 hR5 hz5
  refine HT.out.mono ?_
  rintro e w6 ⟨rfl, k2, rfl⟩
  obtain ⟨t, ht⟩ : ∃ t, Hid ((s.log.Term (nx - 1)).1 = t) := ⟨_, rfl⟩
  rw [ht.out]
  clear HT
  go_wp2
  have hz0 : ((w5.drewN k2).setCell ⟨w2.heap.size, 5, none⟩ (.int .i64 t)).heap[w.heap.size]? = _ := (Below.heap_setCell _ ⟨w2.heap.size, 5, none⟩ _ _ hne1).trans (HZ.out)
  obtain ⟨r1, r2⟩ := set11 _ w.heap.size _ _ _ _ _ _ _ _ _ _ _ _ hz0 (.int .i64 5) (.int .i64 s.id) (.int .i64 id) (.int .i64 s.term) (.int .i64 (nx - 1)) (.int .i64 t) (.slice A4 ne c4) (.int .i64 s.commit) (.bool false) (.int .i64 0) (.slice none 0 0)
  refine bodyPost_ret (v := .agg #[.int .i64 5, .int .i64 s.id, .int .i64 id, .int .i64 s.term, .int .i64 (nx - 1), .int .i64 t, .slice A4 ne c4, .int .i64 s.commit, .bool false, .int .i64 0, .slice none 0 0]) (results_box Try.results25 rfl r1 Try.underlying34 rfl (by kernel_rfl)) rfl ?_
  obtain ⟨hb4, hR4, hz4, hk5, g7⟩ := H4.out
  have hb5 : Below w.heap.size w (w5.drewN k2) := ((((HB.out.1.trans (HB.out.2.1.mono (by omega))).trans (hb4.mono (by omega)))).trans (hk5.below_of (by omega) (fun j hj => by have : j = w2.heap.size := hj; omega))).trans ((drawn_below w5 k2).mono (by omega))
  have hb0 : Below w.heap.size w ((w5.drewN k2).setCell ⟨w2.heap.size, 5, none⟩ (.int .i64 t)) := (hb5).setCell (p := ⟨w2.heap.size, 5, none⟩) (by show w.heap.size ≤ w2.heap.size; omega) (.int .i64 t)
  refine ⟨A4, c4, none, 0, by rw [hne.out, ← ht.out]; rfl, ⟨by rw [hne.out]; exact l4, m4, ?_, Nat.le_refl _, by omega, RS.nil⟩, hb0.trans (r2.below_of hb0.size fun j hj => by have : j = w.heap.size := hj; omega)⟩
  rw [hne.out]
  refine (Hr4.out.keep (W' := _) fun j hj hjl => ?_).mono fun j hj => ?_
  · have hjg : w3.heap.size ≤ j := hj.1
    exact (r2.block j (by simp; omega) (by show ¬ (j = w.heap.size); omega)).trans ((Below.heap_setCell _ ⟨w2.heap.size, 5, none⟩ _ _ (by show ¬ (j = w2.heap.size); omega)).trans (hk5.block j hjl (by show ¬ (j = w2.heap.size); omega)))
  · have hj2 := hj.2
    have hj1 : w3.heap.size ≤ j := hj.1
    have := r2.size
    simp at this
    exact ⟨by omega, by simp; omega⟩

end Go.Proofs.Ytikpbhhnllchmaa
