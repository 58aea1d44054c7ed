/- raft.typed, late. Printed by gen_rf10.py (own work). -/
import Derived.Test.YtikpbhhnllchmaaRF9
set_option linter.unusedVariables false
set_option linter.unusedSimpArgs false
namespace Go.Proofs.Ytikpbhhnllchmaa
open Go.RowKit
attribute [local go_sem] Same.cell Same.frozen

/-- What a call hands back that answers with messages. -/
def MsgsIs (w : World) (rb : Nat) (F : Foot) (s' : RaftS) (ms : List Message) (e : Ending) (w' : World) : Prop := ∃ v, e = .returned v ∧ OwnS kMessage 34 w' (New w w') v ms ∧ RStep w rb F s' w'
theorem MsgsIs.after {w w1 w2 : World} {rb : Nat} {F : Foot} {s1 s2 : RaftS} {ms : List Message} {e : Ending} (h2 : MsgsIs w1 rb (Grow F w w1) s2 ms e w2) (h1 : RStep w rb F s1 w1) : MsgsIs w rb F s2 ms e w2 := by
  obtain ⟨v, he, hO, hst⟩ := h2
  have := h1.size
  exact ⟨v, he, hO.mono fun k hk => ⟨by have := hk.1; omega, hk.2⟩, h1.trans hst⟩
theorem MsgsIs.step {w : World} {rb : Nat} {F : Foot} {s' : RaftS} {ms : List Message} {e : Ending} {w' : World} (h : MsgsIs w rb F s' ms e w') : MsgsStep w rb F s' e w' := by
  obtain ⟨v, he, hO, hst⟩ := h
  exact ⟨v, ms, he, hO, hst⟩
/-- The message of a kind to a node, as raft.message makes it. -/
def plainM (s : RaftS) (kind to : Int) : Message := ⟨kind, s.id, to, s.term, 0, 0, [], 0, false, 0, []⟩

set_option maxHeartbeats 4000000 in
set_option maxRecDepth 100000 in
theorem typed_2 (w : World) (m : Message) (A6 : Option Addr) (c6 : Nat) (A10 : Option Addr) (c10 : Nat) (hk : m.Kind = 2) :
    Calls Try.prog 28 #[.agg #[.int .i64 m.Kind, .int .i64 m.From, .int .i64 m.To, .int .i64 m.Term, .int .i64 m.Last, .int .i64 m.LastTerm, .slice A6 m.Entries.length c6, .int .i64 m.Commit, .bool m.OK, .int .i64 m.Match, .slice A10 m.Data.length c10]] w fun e w' => e = .returned (.iface 77 (.agg #[.int .i64 m.Kind, .int .i64 m.From, .int .i64 m.To, .int .i64 m.Term, .int .i64 m.Last, .int .i64 m.LastTerm, .slice A6 m.Entries.length c6, .int .i64 m.Commit, .bool m.OK, .int .i64 m.Match, .slice A10 m.Data.length c10])) ∧ Below w.heap.size w w' := by
  rw [hk]
  have hbw : Below w.heap.size w (w.alloc (.cells #[.int .i64 2, .int .i64 m.From, .int .i64 m.To, .int .i64 m.Term, .int .i64 m.Last, .int .i64 m.LastTerm, .slice A6 m.Entries.length c6, .int .i64 m.Commit, .bool m.OK, .int .i64 m.Match, .slice A10 m.Data.length c10] 34)) := (Below.refl _ _).alloc (Nat.le_refl _) _
  go_enter Try.func28, Try.ntmps28
  go_wp2_with fail
  go_ret
  exact ⟨rfl, hbw⟩

set_option maxHeartbeats 4000000 in
set_option maxRecDepth 100000 in
theorem typed_3 (w : World) (m : Message) (A6 : Option Addr) (c6 : Nat) (A10 : Option Addr) (c10 : Nat) (hk : m.Kind = 3) :
    Calls Try.prog 28 #[.agg #[.int .i64 m.Kind, .int .i64 m.From, .int .i64 m.To, .int .i64 m.Term, .int .i64 m.Last, .int .i64 m.LastTerm, .slice A6 m.Entries.length c6, .int .i64 m.Commit, .bool m.OK, .int .i64 m.Match, .slice A10 m.Data.length c10]] w fun e w' => e = .returned (.iface 80 (.agg #[.int .i64 m.Kind, .int .i64 m.From, .int .i64 m.To, .int .i64 m.Term, .int .i64 m.Last, .int .i64 m.LastTerm, .slice A6 m.Entries.length c6, .int .i64 m.Commit, .bool m.OK, .int .i64 m.Match, .slice A10 m.Data.length c10])) ∧ Below w.heap.size w w' := by
  rw [hk]
  have hbw : Below w.heap.size w (w.alloc (.cells #[.int .i64 3, .int .i64 m.From, .int .i64 m.To, .int .i64 m.Term, .int .i64 m.Last, .int .i64 m.LastTerm, .slice A6 m.Entries.length c6, .int .i64 m.Commit, .bool m.OK, .int .i64 m.Match, .slice A10 m.Data.length c10] 34)) := (Below.refl _ _).alloc (Nat.le_refl _) _
  go_enter Try.func28, Try.ntmps28
  go_wp2_with fail
  go_ret
  exact ⟨rfl, hbw⟩

set_option maxHeartbeats 4000000 in
set_option maxRecDepth 100000 in
theorem typed_4 (w : World) (m : Message) (A6 : Option Addr) (c6 : Nat) (A10 : Option Addr) (c10 : Nat) (hk : m.Kind = 4) :
    Calls Try.prog 28 #[.agg #[.int .i64 m.Kind, .int .i64 m.From, .int .i64 m.To, .int .i64 m.Term, .int .i64 m.Last, .int .i64 m.LastTerm, .slice A6 m.Entries.length c6, .int .i64 m.Commit, .bool m.OK, .int .i64 m.Match, .slice A10 m.Data.length c10]] w fun e w' => e = .returned (.iface 82 (.agg #[.int .i64 m.Kind, .int .i64 m.From, .int .i64 m.To, .int .i64 m.Term, .int .i64 m.Last, .int .i64 m.LastTerm, .slice A6 m.Entries.length c6, .int .i64 m.Commit, .bool m.OK, .int .i64 m.Match, .slice A10 m.Data.length c10])) ∧ Below w.heap.size w w' := by
  rw [hk]
  have hbw : Below w.heap.size w (w.alloc (.cells #[.int .i64 4, .int .i64 m.From, .int .i64 m.To, .int .i64 m.Term, .int .i64 m.Last, .int .i64 m.LastTerm, .slice A6 m.Entries.length c6, .int .i64 m.Commit, .bool m.OK, .int .i64 m.Match, .slice A10 m.Data.length c10] 34)) := (Below.refl _ _).alloc (Nat.le_refl _) _
  go_enter Try.func28, Try.ntmps28
  go_wp2_with fail
  go_ret
  exact ⟨rfl, hbw⟩

set_option maxHeartbeats 4000000 in
set_option maxRecDepth 100000 in
theorem typed_5 (w : World) (m : Message) (A6 : Option Addr) (c6 : Nat) (A10 : Option Addr) (c10 : Nat) (hk : m.Kind = 5) :
    Calls Try.prog 28 #[.agg #[.int .i64 m.Kind, .int .i64 m.From, .int .i64 m.To, .int .i64 m.Term, .int .i64 m.Last, .int .i64 m.LastTerm, .slice A6 m.Entries.length c6, .int .i64 m.Commit, .bool m.OK, .int .i64 m.Match, .slice A10 m.Data.length c10]] w fun e w' => e = .returned (.iface 89 (.agg #[.int .i64 m.Kind, .int .i64 m.From, .int .i64 m.To, .int .i64 m.Term, .int .i64 m.Last, .int .i64 m.LastTerm, .slice A6 m.Entries.length c6, .int .i64 m.Commit, .bool m.OK, .int .i64 m.Match, .slice A10 m.Data.length c10])) ∧ Below w.heap.size w w' := by
  rw [hk]
  have hbw : Below w.heap.size w (w.alloc (.cells #[.int .i64 5, .int .i64 m.From, .int .i64 m.To, .int .i64 m.Term, .int .i64 m.Last, .int .i64 m.LastTerm, .slice A6 m.Entries.length c6, .int .i64 m.Commit, .bool m.OK, .int .i64 m.Match, .slice A10 m.Data.length c10] 34)) := (Below.refl _ _).alloc (Nat.le_refl _) _
  go_enter Try.func28, Try.ntmps28
  go_wp2_with fail
  go_ret
  exact ⟨rfl, hbw⟩

set_option maxHeartbeats 4000000 in
set_option maxRecDepth 100000 in
theorem typed_6 (w : World) (m : Message) (A6 : Option Addr) (c6 : Nat) (A10 : Option Addr) (c10 : Nat) (hk : m.Kind = 6) :
    Calls Try.prog 28 #[.agg #[.int .i64 m.Kind, .int .i64 m.From, .int .i64 m.To, .int .i64 m.Term, .int .i64 m.Last, .int .i64 m.LastTerm, .slice A6 m.Entries.length c6, .int .i64 m.Commit, .bool m.OK, .int .i64 m.Match, .slice A10 m.Data.length c10]] w fun e w' => e = .returned (.iface 84 (.agg #[.int .i64 m.Kind, .int .i64 m.From, .int .i64 m.To, .int .i64 m.Term, .int .i64 m.Last, .int .i64 m.LastTerm, .slice A6 m.Entries.length c6, .int .i64 m.Commit, .bool m.OK, .int .i64 m.Match, .slice A10 m.Data.length c10])) ∧ Below w.heap.size w w' := by
  rw [hk]
  have hbw : Below w.heap.size w (w.alloc (.cells #[.int .i64 6, .int .i64 m.From, .int .i64 m.To, .int .i64 m.Term, .int .i64 m.Last, .int .i64 m.LastTerm, .slice A6 m.Entries.length c6, .int .i64 m.Commit, .bool m.OK, .int .i64 m.Match, .slice A10 m.Data.length c10] 34)) := (Below.refl _ _).alloc (Nat.le_refl _) _
  go_enter Try.func28, Try.ntmps28
  go_wp2_with fail
  go_ret
  exact ⟨rfl, hbw⟩

set_option maxHeartbeats 4000000 in
set_option maxRecDepth 100000 in
theorem typed_7 (w : World) (m : Message) (A6 : Option Addr) (c6 : Nat) (A10 : Option Addr) (c10 : Nat) (hk : m.Kind = 7) :
    Calls Try.prog 28 #[.agg #[.int .i64 m.Kind, .int .i64 m.From, .int .i64 m.To, .int .i64 m.Term, .int .i64 m.Last, .int .i64 m.LastTerm, .slice A6 m.Entries.length c6, .int .i64 m.Commit, .bool m.OK, .int .i64 m.Match, .slice A10 m.Data.length c10]] w fun e w' => e = .returned (.iface 87 (.agg #[.int .i64 m.Kind, .int .i64 m.From, .int .i64 m.To, .int .i64 m.Term, .int .i64 m.Last, .int .i64 m.LastTerm, .slice A6 m.Entries.length c6, .int .i64 m.Commit, .bool m.OK, .int .i64 m.Match, .slice A10 m.Data.length c10])) ∧ Below w.heap.size w w' := by
  rw [hk]
  have hbw : Below w.heap.size w (w.alloc (.cells #[.int .i64 7, .int .i64 m.From, .int .i64 m.To, .int .i64 m.Term, .int .i64 m.Last, .int .i64 m.LastTerm, .slice A6 m.Entries.length c6, .int .i64 m.Commit, .bool m.OK, .int .i64 m.Match, .slice A10 m.Data.length c10] 34)) := (Below.refl _ _).alloc (Nat.le_refl _) _
  go_enter Try.func28, Try.ntmps28
  go_wp2_with fail
  go_ret
  exact ⟨rfl, hbw⟩

set_option maxHeartbeats 4000000 in
set_option maxRecDepth 100000 in
theorem late_3 (w : World) (rb : Nat) (F : Foot) (s : RaftS) (h : RaftAt w rb F s) (m : Message) (A6 : Option Addr) (c6 : Nat) (A10 : Option Addr) (c10 : Nat) (hk : m.Kind = 3) :
    Calls Try.prog 31 #[.pointer (some ⟨rb, 0, none⟩), .agg #[.int .i64 m.Kind, .int .i64 m.From, .int .i64 m.To, .int .i64 m.Term, .int .i64 m.Last, .int .i64 m.LastTerm, .slice A6 m.Entries.length c6, .int .i64 m.Commit, .bool m.OK, .int .i64 m.Match, .slice A10 m.Data.length c10]] w (MsgsIs w rb F s [plainM s 4 m.From]) := by
  rw [hk]
  have hbw : Below w.heap.size w (w.alloc (.cells #[.int .i64 3, .int .i64 m.From, .int .i64 m.To, .int .i64 m.Term, .int .i64 m.Last, .int .i64 m.LastTerm, .slice A6 m.Entries.length c6, .int .i64 m.Commit, .bool m.OK, .int .i64 m.Match, .slice A10 m.Data.length c10] 34)) := (Below.refl _ _).alloc (Nat.le_refl _) _
  have hcw := heap_alloc_new w (.cells #[.int .i64 3, .int .i64 m.From, .int .i64 m.To, .int .i64 m.Term, .int .i64 m.Last, .int .i64 m.LastTerm, .slice A6 m.Entries.length c6, .int .i64 m.Commit, .bool m.OK, .int .i64 m.Match, .slice A10 m.Data.length c10] 34)
  have hlw : w.heap.size < (w.alloc (.cells #[.int .i64 3, .int .i64 m.From, .int .i64 m.To, .int .i64 m.Term, .int .i64 m.Last, .int .i64 m.LastTerm, .slice A6 m.Entries.length c6, .int .i64 m.Commit, .bool m.OK, .int .i64 m.Match, .slice A10 m.Data.length c10] 34)).heap.size := by simp
  have H := Lib.hid (h.below hbw)
  have Hw := Lib.hid h
  clear h
  obtain ⟨lb, p, As, cs, vy, vn, vm, hR, -⟩ := H.out
  obtain ⟨c0, c1, c2, c3, c4, c5, c6', c7, c8, c9, c10', c11, c12, c13, hfz, hlt⟩ := hR.facts
  have b1 := cell_of_row _ w.heap.size 1 _ _ _ hcw
  have hNF : ¬ NoF rb := id
  have hNF2 : ¬ NoF w.heap.size := id
  clear hR hfz c0 c1 c3 c4 c5 c6' c7 c8 c9 c10' c11 c12 c13
  go_enter Try.func31, Try.ntmps31
  go_wp2_with fail
  generalize w.alloc (.cells #[.int .i64 3, .int .i64 m.From, .int .i64 m.To, .int .i64 m.Term, .int .i64 m.Last, .int .i64 m.LastTerm, .slice A6 m.Entries.length c6, .int .i64 m.Commit, .bool m.OK, .int .i64 m.Match, .slice A10 m.Data.length c10] 34) = w1 at hbw hcw hlw H b1 hlt c2 ⊢
  have HM := Lib.hid (fun w2 (hb : Below w1.heap.size w1 w2) => message_any w2 rb _ s 4 m.From s.term (H.out.below hb))
  refine wp_region_plan [0, 0, 0, 0, 0, 0, 0, 0, 1, 1, 2] (fun w' => ∃ D : Same NoF w1, w' = D.world) (by kernel_rfl) (by kernel_rfl) InSame.start ?_
  simp only [sel, selE, Nat.reduceEqDiff, reduceIte]
  repeat (go_big_quiet_step (fail))
  refine wpQuiet_nil ?_
  refine wpE_cons (fun N hN => ?_)
  go_wp2_with fail
  refine (HM.out w1.drew (drawn_below w1 1)).mono ?_
  rintro e w2 ⟨rfl, hb2⟩
  have hb2 : Below w1.heap.size w1 w2 := below_undrew hb2
  unfold msgV
  go_wp2
  refine hN _ _ (InSame.of_below hb2) ?_
  refine wpE_cons (fun N2 hN2 => ?_)
  clear hN N
  go_wp2
  have hO : OwnS kMessage 34 (w2.alloc (.cells #[.int .i64 4, .int .i64 s.id, .int .i64 m.From, .int .i64 s.term, .int .i64 0, .int .i64 0, .slice none 0 0, .int .i64 0, .bool false, .int .i64 0, .slice none 0 0] 34)) (fun k => k = w2.heap.size) (.slice (some ⟨w2.heap.size, 0, none⟩) 1 1) [plainM s 4 m.From] :=
    (OwnS.lit w2 (F := NoF) (xs := [plainM s 4 m.From]) (Elems.single (K := kMessage) ⟨none, 0, none, 0, rfl, Nat.le_refl _, by omega, RS.nil, Nat.le_refl _, by omega, RS.nil⟩) (by simp)).mono fun k hk => hk.resolve_left id
  have hb3 : Below w1.heap.size w1 (w2.alloc (.cells #[.int .i64 4, .int .i64 s.id, .int .i64 m.From, .int .i64 s.term, .int .i64 0, .int .i64 0, .slice none 0 0, .int .i64 0, .bool false, .int .i64 0, .slice none 0 0] 34)) := hb2.alloc hb2.size _
  refine hN2 _ _ (InSame.of_below hb3) ?_
  refine wpE_nil ?_
  clear hN2 N2
  go_wp2
  go_ret
  have hs1 := hbw.size
  have hs2 := hb2.size
  exact ⟨_, rfl, hO.mono fun k hk => by have : k = w2.heap.size := hk; exact ⟨by omega, by simp; omega⟩, RStep.ofBelow Hw.out (hbw.trans (hb3.mono hs1))⟩

set_option maxHeartbeats 4000000 in
set_option maxRecDepth 100000 in
theorem late_5 (w : World) (rb : Nat) (F : Foot) (s : RaftS) (h : RaftAt w rb F s) (m : Message) (A6 : Option Addr) (c6 : Nat) (A10 : Option Addr) (c10 : Nat) (hk : m.Kind = 5) :
    Calls Try.prog 31 #[.pointer (some ⟨rb, 0, none⟩), .agg #[.int .i64 m.Kind, .int .i64 m.From, .int .i64 m.To, .int .i64 m.Term, .int .i64 m.Last, .int .i64 m.LastTerm, .slice A6 m.Entries.length c6, .int .i64 m.Commit, .bool m.OK, .int .i64 m.Match, .slice A10 m.Data.length c10]] w (MsgsIs w rb F s [plainM s 6 m.From]) := by
  rw [hk]
  have hbw : Below w.heap.size w (w.alloc (.cells #[.int .i64 5, .int .i64 m.From, .int .i64 m.To, .int .i64 m.Term, .int .i64 m.Last, .int .i64 m.LastTerm, .slice A6 m.Entries.length c6, .int .i64 m.Commit, .bool m.OK, .int .i64 m.Match, .slice A10 m.Data.length c10] 34)) := (Below.refl _ _).alloc (Nat.le_refl _) _
  have hcw := heap_alloc_new w (.cells #[.int .i64 5, .int .i64 m.From, .int .i64 m.To, .int .i64 m.Term, .int .i64 m.Last, .int .i64 m.LastTerm, .slice A6 m.Entries.length c6, .int .i64 m.Commit, .bool m.OK, .int .i64 m.Match, .slice A10 m.Data.length c10] 34)
  have hlw : w.heap.size < (w.alloc (.cells #[.int .i64 5, .int .i64 m.From, .int .i64 m.To, .int .i64 m.Term, .int .i64 m.Last, .int .i64 m.LastTerm, .slice A6 m.Entries.length c6, .int .i64 m.Commit, .bool m.OK, .int .i64 m.Match, .slice A10 m.Data.length c10] 34)).heap.size := by simp
  have H := Lib.hid (h.below hbw)
  have Hw := Lib.hid h
  clear h
  obtain ⟨lb, p, As, cs, vy, vn, vm, hR, -⟩ := H.out
  obtain ⟨c0, c1, c2, c3, c4, c5, c6', c7, c8, c9, c10', c11, c12, c13, hfz, hlt⟩ := hR.facts
  have b1 := cell_of_row _ w.heap.size 1 _ _ _ hcw
  have hNF : ¬ NoF rb := id
  have hNF2 : ¬ NoF w.heap.size := id
  clear hR hfz c0 c1 c3 c4 c5 c6' c7 c8 c9 c10' c11 c12 c13
  go_enter Try.func31, Try.ntmps31
  go_wp2_with fail
  generalize w.alloc (.cells #[.int .i64 5, .int .i64 m.From, .int .i64 m.To, .int .i64 m.Term, .int .i64 m.Last, .int .i64 m.LastTerm, .slice A6 m.Entries.length c6, .int .i64 m.Commit, .bool m.OK, .int .i64 m.Match, .slice A10 m.Data.length c10] 34) = w1 at hbw hcw hlw H b1 hlt c2 ⊢
  have HM := Lib.hid (fun w2 (hb : Below w1.heap.size w1 w2) => message_any w2 rb _ s 6 m.From s.term (H.out.below hb))
  refine wp_region_plan [0, 0, 0, 0, 0, 0, 0, 0, 1, 1, 2] (fun w' => ∃ D : Same NoF w1, w' = D.world) (by kernel_rfl) (by kernel_rfl) InSame.start ?_
  simp only [sel, selE, Nat.reduceEqDiff, reduceIte]
  repeat (go_big_quiet_step (fail))
  refine wpQuiet_nil ?_
  refine wpE_cons (fun N hN => ?_)
  go_wp2_with fail
  refine (HM.out w1.drew (drawn_below w1 1)).mono ?_
  rintro e w2 ⟨rfl, hb2⟩
  have hb2 : Below w1.heap.size w1 w2 := below_undrew hb2
  unfold msgV
  go_wp2
  refine hN _ _ (InSame.of_below hb2) ?_
  refine wpE_cons (fun N2 hN2 => ?_)
  clear hN N
  go_wp2
  have hO : OwnS kMessage 34 (w2.alloc (.cells #[.int .i64 6, .int .i64 s.id, .int .i64 m.From, .int .i64 s.term, .int .i64 0, .int .i64 0, .slice none 0 0, .int .i64 0, .bool false, .int .i64 0, .slice none 0 0] 34)) (fun k => k = w2.heap.size) (.slice (some ⟨w2.heap.size, 0, none⟩) 1 1) [plainM s 6 m.From] :=
    (OwnS.lit w2 (F := NoF) (xs := [plainM s 6 m.From]) (Elems.single (K := kMessage) ⟨none, 0, none, 0, rfl, Nat.le_refl _, by omega, RS.nil, Nat.le_refl _, by omega, RS.nil⟩) (by simp)).mono fun k hk => hk.resolve_left id
  have hb3 : Below w1.heap.size w1 (w2.alloc (.cells #[.int .i64 6, .int .i64 s.id, .int .i64 m.From, .int .i64 s.term, .int .i64 0, .int .i64 0, .slice none 0 0, .int .i64 0, .bool false, .int .i64 0, .slice none 0 0] 34)) := hb2.alloc hb2.size _
  refine hN2 _ _ (InSame.of_below hb3) ?_
  refine wpE_nil ?_
  clear hN2 N2
  go_wp2
  go_ret
  have hs1 := hbw.size
  have hs2 := hb2.size
  exact ⟨_, rfl, hO.mono fun k hk => by have : k = w2.heap.size := hk; exact ⟨by omega, by simp; omega⟩, RStep.ofBelow Hw.out (hbw.trans (hb3.mono hs1))⟩

set_option maxHeartbeats 4000000 in
set_option maxRecDepth 100000 in
theorem late_7 (w : World) (rb : Nat) (F : Foot) (s : RaftS) (h : RaftAt w rb F s) (m : Message) (A6 : Option Addr) (c6 : Nat) (A10 : Option Addr) (c10 : Nat) (hk : m.Kind = 7) :
    Calls Try.prog 31 #[.pointer (some ⟨rb, 0, none⟩), .agg #[.int .i64 m.Kind, .int .i64 m.From, .int .i64 m.To, .int .i64 m.Term, .int .i64 m.Last, .int .i64 m.LastTerm, .slice A6 m.Entries.length c6, .int .i64 m.Commit, .bool m.OK, .int .i64 m.Match, .slice A10 m.Data.length c10]] w (MsgsIs w rb F s [plainM s 6 m.From]) := by
  rw [hk]
  have hbw : Below w.heap.size w (w.alloc (.cells #[.int .i64 7, .int .i64 m.From, .int .i64 m.To, .int .i64 m.Term, .int .i64 m.Last, .int .i64 m.LastTerm, .slice A6 m.Entries.length c6, .int .i64 m.Commit, .bool m.OK, .int .i64 m.Match, .slice A10 m.Data.length c10] 34)) := (Below.refl _ _).alloc (Nat.le_refl _) _
  have hcw := heap_alloc_new w (.cells #[.int .i64 7, .int .i64 m.From, .int .i64 m.To, .int .i64 m.Term, .int .i64 m.Last, .int .i64 m.LastTerm, .slice A6 m.Entries.length c6, .int .i64 m.Commit, .bool m.OK, .int .i64 m.Match, .slice A10 m.Data.length c10] 34)
  have hlw : w.heap.size < (w.alloc (.cells #[.int .i64 7, .int .i64 m.From, .int .i64 m.To, .int .i64 m.Term, .int .i64 m.Last, .int .i64 m.LastTerm, .slice A6 m.Entries.length c6, .int .i64 m.Commit, .bool m.OK, .int .i64 m.Match, .slice A10 m.Data.length c10] 34)).heap.size := by simp
  have H := Lib.hid (h.below hbw)
  have Hw := Lib.hid h
  clear h
  obtain ⟨lb, p, As, cs, vy, vn, vm, hR, -⟩ := H.out
  obtain ⟨c0, c1, c2, c3, c4, c5, c6', c7, c8, c9, c10', c11, c12, c13, hfz, hlt⟩ := hR.facts
  have b1 := cell_of_row _ w.heap.size 1 _ _ _ hcw
  have hNF : ¬ NoF rb := id
  have hNF2 : ¬ NoF w.heap.size := id
  clear hR hfz c0 c1 c3 c4 c5 c6' c7 c8 c9 c10' c11 c12 c13
  go_enter Try.func31, Try.ntmps31
  go_wp2_with fail
  generalize w.alloc (.cells #[.int .i64 7, .int .i64 m.From, .int .i64 m.To, .int .i64 m.Term, .int .i64 m.Last, .int .i64 m.LastTerm, .slice A6 m.Entries.length c6, .int .i64 m.Commit, .bool m.OK, .int .i64 m.Match, .slice A10 m.Data.length c10] 34) = w1 at hbw hcw hlw H b1 hlt c2 ⊢
  have HM := Lib.hid (fun w2 (hb : Below w1.heap.size w1 w2) => message_any w2 rb _ s 6 m.From s.term (H.out.below hb))
  refine wp_region_plan [0, 0, 0, 0, 0, 0, 0, 0, 1, 1, 2] (fun w' => ∃ D : Same NoF w1, w' = D.world) (by kernel_rfl) (by kernel_rfl) InSame.start ?_
  simp only [sel, selE, Nat.reduceEqDiff, reduceIte]
  repeat (go_big_quiet_step (fail))
  refine wpQuiet_nil ?_
  refine wpE_cons (fun N hN => ?_)
  go_wp2_with fail
  refine (HM.out w1.drew (drawn_below w1 1)).mono ?_
  rintro e w2 ⟨rfl, hb2⟩
  have hb2 : Below w1.heap.size w1 w2 := below_undrew hb2
  unfold msgV
  go_wp2
  refine hN _ _ (InSame.of_below hb2) ?_
  refine wpE_cons (fun N2 hN2 => ?_)
  clear hN N
  go_wp2
  have hO : OwnS kMessage 34 (w2.alloc (.cells #[.int .i64 6, .int .i64 s.id, .int .i64 m.From, .int .i64 s.term, .int .i64 0, .int .i64 0, .slice none 0 0, .int .i64 0, .bool false, .int .i64 0, .slice none 0 0] 34)) (fun k => k = w2.heap.size) (.slice (some ⟨w2.heap.size, 0, none⟩) 1 1) [plainM s 6 m.From] :=
    (OwnS.lit w2 (F := NoF) (xs := [plainM s 6 m.From]) (Elems.single (K := kMessage) ⟨none, 0, none, 0, rfl, Nat.le_refl _, by omega, RS.nil, Nat.le_refl _, by omega, RS.nil⟩) (by simp)).mono fun k hk => hk.resolve_left id
  have hb3 : Below w1.heap.size w1 (w2.alloc (.cells #[.int .i64 6, .int .i64 s.id, .int .i64 m.From, .int .i64 s.term, .int .i64 0, .int .i64 0, .slice none 0 0, .int .i64 0, .bool false, .int .i64 0, .slice none 0 0] 34)) := hb2.alloc hb2.size _
  refine hN2 _ _ (InSame.of_below hb3) ?_
  refine wpE_nil ?_
  clear hN2 N2
  go_wp2
  go_ret
  have hs1 := hbw.size
  have hs2 := hb2.size
  exact ⟨_, rfl, hO.mono fun k hk => by have : k = w2.heap.size := hk; exact ⟨by omega, by simp; omega⟩, RStep.ofBelow Hw.out (hbw.trans (hb3.mono hs1))⟩

end Go.Proofs.Ytikpbhhnllchmaa
