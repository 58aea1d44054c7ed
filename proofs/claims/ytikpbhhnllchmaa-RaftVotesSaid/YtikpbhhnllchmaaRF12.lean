/- raft.Step at a vote. Printed by gen_rf12.py (own work). -/
import Derived.Test.YtikpbhhnllchmaaRF11
set_option linter.unusedVariables false
set_option linter.unusedSimpArgs false
namespace Go.Proofs.Ytikpbhhnllchmaa
open Go.RowKit
attribute [local go_sem] Same.cell Same.frozen
/-- Before the message is taken: its term followed. -/
def RaftS.upTo (s : RaftS) (t : Int) : RaftS := if s.term < t then s.follow t else s

@[go_sem] theorem as_2_1 (v : Value) (w : World) : (Instr.typeAssert (.iface 77 v) 73 75 true).run Try.prog w = .ok (.tuple #[.agg #[.int .i64 0, .int .i64 0, .int .i64 0, .int .i64 0, .int .i64 0, .int .i64 0, .slice none 0 0, .int .i64 0, .bool false, .int .i64 0, .slice none 0 0], .bool false]) w := by kernel_rfl
@[go_sem] theorem as_2_2 (v : Value) (w : World) : (Instr.typeAssert (.iface 77 v) 73 77 true).run Try.prog w = .ok (.tuple #[v, .bool true]) w := by kernel_rfl
@[go_sem] theorem as_2_3 (v : Value) (w : World) : (Instr.typeAssert (.iface 77 v) 73 80 true).run Try.prog w = .ok (.tuple #[.agg #[.int .i64 0, .int .i64 0, .int .i64 0, .int .i64 0, .int .i64 0, .int .i64 0, .slice none 0 0, .int .i64 0, .bool false, .int .i64 0, .slice none 0 0], .bool false]) w := by kernel_rfl
@[go_sem] theorem as_2_4 (v : Value) (w : World) : (Instr.typeAssert (.iface 77 v) 73 82 true).run Try.prog w = .ok (.tuple #[.agg #[.int .i64 0, .int .i64 0, .int .i64 0, .int .i64 0, .int .i64 0, .int .i64 0, .slice none 0 0, .int .i64 0, .bool false, .int .i64 0, .slice none 0 0], .bool false]) w := by kernel_rfl
@[go_sem] theorem as_2_6 (v : Value) (w : World) : (Instr.typeAssert (.iface 77 v) 73 84 true).run Try.prog w = .ok (.tuple #[.agg #[.int .i64 0, .int .i64 0, .int .i64 0, .int .i64 0, .int .i64 0, .int .i64 0, .slice none 0 0, .int .i64 0, .bool false, .int .i64 0, .slice none 0 0], .bool false]) w := by kernel_rfl
@[go_sem] theorem as_3_1 (v : Value) (w : World) : (Instr.typeAssert (.iface 80 v) 73 75 true).run Try.prog w = .ok (.tuple #[.agg #[.int .i64 0, .int .i64 0, .int .i64 0, .int .i64 0, .int .i64 0, .int .i64 0, .slice none 0 0, .int .i64 0, .bool false, .int .i64 0, .slice none 0 0], .bool false]) w := by kernel_rfl
@[go_sem] theorem as_3_2 (v : Value) (w : World) : (Instr.typeAssert (.iface 80 v) 73 77 true).run Try.prog w = .ok (.tuple #[.agg #[.int .i64 0, .int .i64 0, .int .i64 0, .int .i64 0, .int .i64 0, .int .i64 0, .slice none 0 0, .int .i64 0, .bool false, .int .i64 0, .slice none 0 0], .bool false]) w := by kernel_rfl
@[go_sem] theorem as_3_3 (v : Value) (w : World) : (Instr.typeAssert (.iface 80 v) 73 80 true).run Try.prog w = .ok (.tuple #[v, .bool true]) w := by kernel_rfl
@[go_sem] theorem as_3_4 (v : Value) (w : World) : (Instr.typeAssert (.iface 80 v) 73 82 true).run Try.prog w = .ok (.tuple #[.agg #[.int .i64 0, .int .i64 0, .int .i64 0, .int .i64 0, .int .i64 0, .int .i64 0, .slice none 0 0, .int .i64 0, .bool false, .int .i64 0, .slice none 0 0], .bool false]) w := by kernel_rfl
@[go_sem] theorem as_3_6 (v : Value) (w : World) : (Instr.typeAssert (.iface 80 v) 73 84 true).run Try.prog w = .ok (.tuple #[.agg #[.int .i64 0, .int .i64 0, .int .i64 0, .int .i64 0, .int .i64 0, .int .i64 0, .slice none 0 0, .int .i64 0, .bool false, .int .i64 0, .slice none 0 0], .bool false]) w := by kernel_rfl
@[go_sem] theorem as_4_1 (v : Value) (w : World) : (Instr.typeAssert (.iface 82 v) 73 75 true).run Try.prog w = .ok (.tuple #[.agg #[.int .i64 0, .int .i64 0, .int .i64 0, .int .i64 0, .int .i64 0, .int .i64 0, .slice none 0 0, .int .i64 0, .bool false, .int .i64 0, .slice none 0 0], .bool false]) w := by kernel_rfl
@[go_sem] theorem as_4_2 (v : Value) (w : World) : (Instr.typeAssert (.iface 82 v) 73 77 true).run Try.prog w = .ok (.tuple #[.agg #[.int .i64 0, .int .i64 0, .int .i64 0, .int .i64 0, .int .i64 0, .int .i64 0, .slice none 0 0, .int .i64 0, .bool false, .int .i64 0, .slice none 0 0], .bool false]) w := by kernel_rfl
@[go_sem] theorem as_4_3 (v : Value) (w : World) : (Instr.typeAssert (.iface 82 v) 73 80 true).run Try.prog w = .ok (.tuple #[.agg #[.int .i64 0, .int .i64 0, .int .i64 0, .int .i64 0, .int .i64 0, .int .i64 0, .slice none 0 0, .int .i64 0, .bool false, .int .i64 0, .slice none 0 0], .bool false]) w := by kernel_rfl
@[go_sem] theorem as_4_4 (v : Value) (w : World) : (Instr.typeAssert (.iface 82 v) 73 82 true).run Try.prog w = .ok (.tuple #[v, .bool true]) w := by kernel_rfl
@[go_sem] theorem as_4_6 (v : Value) (w : World) : (Instr.typeAssert (.iface 82 v) 73 84 true).run Try.prog w = .ok (.tuple #[.agg #[.int .i64 0, .int .i64 0, .int .i64 0, .int .i64 0, .int .i64 0, .int .i64 0, .slice none 0 0, .int .i64 0, .bool false, .int .i64 0, .slice none 0 0], .bool false]) w := by kernel_rfl
@[go_sem] theorem as_5_1 (v : Value) (w : World) : (Instr.typeAssert (.iface 89 v) 73 75 true).run Try.prog w = .ok (.tuple #[.agg #[.int .i64 0, .int .i64 0, .int .i64 0, .int .i64 0, .int .i64 0, .int .i64 0, .slice none 0 0, .int .i64 0, .bool false, .int .i64 0, .slice none 0 0], .bool false]) w := by kernel_rfl
@[go_sem] theorem as_5_2 (v : Value) (w : World) : (Instr.typeAssert (.iface 89 v) 73 77 true).run Try.prog w = .ok (.tuple #[.agg #[.int .i64 0, .int .i64 0, .int .i64 0, .int .i64 0, .int .i64 0, .int .i64 0, .slice none 0 0, .int .i64 0, .bool false, .int .i64 0, .slice none 0 0], .bool false]) w := by kernel_rfl
@[go_sem] theorem as_5_3 (v : Value) (w : World) : (Instr.typeAssert (.iface 89 v) 73 80 true).run Try.prog w = .ok (.tuple #[.agg #[.int .i64 0, .int .i64 0, .int .i64 0, .int .i64 0, .int .i64 0, .int .i64 0, .slice none 0 0, .int .i64 0, .bool false, .int .i64 0, .slice none 0 0], .bool false]) w := by kernel_rfl
@[go_sem] theorem as_5_4 (v : Value) (w : World) : (Instr.typeAssert (.iface 89 v) 73 82 true).run Try.prog w = .ok (.tuple #[.agg #[.int .i64 0, .int .i64 0, .int .i64 0, .int .i64 0, .int .i64 0, .int .i64 0, .slice none 0 0, .int .i64 0, .bool false, .int .i64 0, .slice none 0 0], .bool false]) w := by kernel_rfl
@[go_sem] theorem as_5_6 (v : Value) (w : World) : (Instr.typeAssert (.iface 89 v) 73 84 true).run Try.prog w = .ok (.tuple #[.agg #[.int .i64 0, .int .i64 0, .int .i64 0, .int .i64 0, .int .i64 0, .int .i64 0, .slice none 0 0, .int .i64 0, .bool false, .int .i64 0, .slice none 0 0], .bool false]) w := by kernel_rfl
@[go_sem] theorem as_6_1 (v : Value) (w : World) : (Instr.typeAssert (.iface 84 v) 73 75 true).run Try.prog w = .ok (.tuple #[.agg #[.int .i64 0, .int .i64 0, .int .i64 0, .int .i64 0, .int .i64 0, .int .i64 0, .slice none 0 0, .int .i64 0, .bool false, .int .i64 0, .slice none 0 0], .bool false]) w := by kernel_rfl
@[go_sem] theorem as_6_2 (v : Value) (w : World) : (Instr.typeAssert (.iface 84 v) 73 77 true).run Try.prog w = .ok (.tuple #[.agg #[.int .i64 0, .int .i64 0, .int .i64 0, .int .i64 0, .int .i64 0, .int .i64 0, .slice none 0 0, .int .i64 0, .bool false, .int .i64 0, .slice none 0 0], .bool false]) w := by kernel_rfl
@[go_sem] theorem as_6_3 (v : Value) (w : World) : (Instr.typeAssert (.iface 84 v) 73 80 true).run Try.prog w = .ok (.tuple #[.agg #[.int .i64 0, .int .i64 0, .int .i64 0, .int .i64 0, .int .i64 0, .int .i64 0, .slice none 0 0, .int .i64 0, .bool false, .int .i64 0, .slice none 0 0], .bool false]) w := by kernel_rfl
@[go_sem] theorem as_6_4 (v : Value) (w : World) : (Instr.typeAssert (.iface 84 v) 73 82 true).run Try.prog w = .ok (.tuple #[.agg #[.int .i64 0, .int .i64 0, .int .i64 0, .int .i64 0, .int .i64 0, .int .i64 0, .slice none 0 0, .int .i64 0, .bool false, .int .i64 0, .slice none 0 0], .bool false]) w := by kernel_rfl
@[go_sem] theorem as_6_6 (v : Value) (w : World) : (Instr.typeAssert (.iface 84 v) 73 84 true).run Try.prog w = .ok (.tuple #[v, .bool true]) w := by kernel_rfl
@[go_sem] theorem as_7_1 (v : Value) (w : World) : (Instr.typeAssert (.iface 87 v) 73 75 true).run Try.prog w = .ok (.tuple #[.agg #[.int .i64 0, .int .i64 0, .int .i64 0, .int .i64 0, .int .i64 0, .int .i64 0, .slice none 0 0, .int .i64 0, .bool false, .int .i64 0, .slice none 0 0], .bool false]) w := by kernel_rfl
@[go_sem] theorem as_7_2 (v : Value) (w : World) : (Instr.typeAssert (.iface 87 v) 73 77 true).run Try.prog w = .ok (.tuple #[.agg #[.int .i64 0, .int .i64 0, .int .i64 0, .int .i64 0, .int .i64 0, .int .i64 0, .slice none 0 0, .int .i64 0, .bool false, .int .i64 0, .slice none 0 0], .bool false]) w := by kernel_rfl
@[go_sem] theorem as_7_3 (v : Value) (w : World) : (Instr.typeAssert (.iface 87 v) 73 80 true).run Try.prog w = .ok (.tuple #[.agg #[.int .i64 0, .int .i64 0, .int .i64 0, .int .i64 0, .int .i64 0, .int .i64 0, .slice none 0 0, .int .i64 0, .bool false, .int .i64 0, .slice none 0 0], .bool false]) w := by kernel_rfl
@[go_sem] theorem as_7_4 (v : Value) (w : World) : (Instr.typeAssert (.iface 87 v) 73 82 true).run Try.prog w = .ok (.tuple #[.agg #[.int .i64 0, .int .i64 0, .int .i64 0, .int .i64 0, .int .i64 0, .int .i64 0, .slice none 0 0, .int .i64 0, .bool false, .int .i64 0, .slice none 0 0], .bool false]) w := by kernel_rfl
@[go_sem] theorem as_7_6 (v : Value) (w : World) : (Instr.typeAssert (.iface 87 v) 73 84 true).run Try.prog w = .ok (.tuple #[.agg #[.int .i64 0, .int .i64 0, .int .i64 0, .int .i64 0, .int .i64 0, .int .i64 0, .slice none 0 0, .int .i64 0, .bool false, .int .i64 0, .slice none 0 0], .bool false]) w := by kernel_rfl
@[go_sem] theorem as_5 (v : Value) (w : World) : (Instr.typeAssert (.iface 89 v) 73 89 false).run Try.prog w = .ok v w := by kernel_rfl
@[go_sem] theorem as_7 (v : Value) (w : World) : (Instr.typeAssert (.iface 87 v) 73 87 false).run Try.prog w = .ok v w := by kernel_rfl

theorem term_3 (w : World) (s : RaftS) (m : Message) (A6 : Option Addr) (c6 : Nat) (A10 : Option Addr) (c10 : Nat) :
    Calls Try.prog 103 #[.agg #[.int .i64 3, .int .i64 m.From, .int .i64 s.id, .int .i64 m.Term, .int .i64 m.Last, .int .i64 m.LastTerm, .slice A6 m.Entries.length c6, .int .i64 m.Commit, .bool m.OK, .int .i64 m.Match, .slice A10 m.Data.length c10]] w fun e w' => e = .returned (.int .i64 m.Term) ∧ Below w.heap.size w w' := by
  have hb : Below w.heap.size w (w.alloc (.cells #[.int .i64 3, .int .i64 m.From, .int .i64 s.id, .int .i64 m.Term, .int .i64 m.Last, .int .i64 m.LastTerm, .slice A6 m.Entries.length c6, .int .i64 m.Commit, .bool m.OK, .int .i64 m.Match, .slice A10 m.Data.length c10] 80)) := (Below.refl _ _).alloc (Nat.le_refl _) _
  go_enter Try.func103, Try.ntmps103
  go_wp2_with fail
  go_ret
  exact ⟨rfl, hb⟩


def RaftS.stepV (s : RaftS) (m : Message) : RaftS := if m.Term < s.term then s else (s.upTo m.Term).voteS m
def RaftS.stepVM (s : RaftS) (m : Message) : Message := if m.Term < s.term then plainM s 4 m.From else (s.upTo m.Term).voteM m
set_option maxHeartbeats 8000000 in
set_option maxRecDepth 100000 in
theorem Step_vote (w : World) (rb : Nat) (F : Foot) (s : RaftS) (h : RaftAt w rb F s) (ok : s.Ok) (m : Message) (A6 : Option Addr) (c6 : Nat) (A10 : Option Addr) (c10 : Nat) (hk : m.Kind = 3) (v1 : m.To = s.id) (v2 : m.From ≠ s.id) (v3 : 1 ≤ m.From) (v4 : m.From ≤ s.n) (v5 : 0 ≤ m.Term) (v6 : m.Term ≤ 1099511627776) :
    Calls Try.prog 14 #[.pointer (some ⟨rb, 0, none⟩), .agg #[.int .i64 m.Kind, .int .i64 m.From, .int .i64 m.To, .int .i64 m.Term, .int .i64 m.Last, .int .i64 m.LastTerm, .slice A6 m.Entries.length c6, .int .i64 m.Commit, .bool m.OK, .int .i64 m.Match, .slice A10 m.Data.length c10]] w (MsgsIs w rb F (s.stepV m) [s.stepVM m]) := by
  have HT := Lib.hid (fun w1 => typed_3 w1 m A6 c6 A10 c10 hk)
  rw [hk, v1] at HT
  rw [hk, v1]
  have hbw : Below w.heap.size w (w.alloc (.cells #[.int .i64 3, .int .i64 m.From, .int .i64 s.id, .int .i64 m.Term, .int .i64 m.Last, .int .i64 m.LastTerm, .slice A6 m.Entries.length c6, .int .i64 m.Commit, .bool m.OK, .int .i64 m.Match, .slice A10 m.Data.length c10] 34)) := (Below.refl _ _).alloc (Nat.le_refl _) _
  have hcw := heap_alloc_new w (.cells #[.int .i64 3, .int .i64 m.From, .int .i64 s.id, .int .i64 m.Term, .int .i64 m.Last, .int .i64 m.LastTerm, .slice A6 m.Entries.length c6, .int .i64 m.Commit, .bool m.OK, .int .i64 m.Match, .slice A10 m.Data.length c10] 34)
  have hlw : w.heap.size < (w.alloc (.cells #[.int .i64 3, .int .i64 m.From, .int .i64 s.id, .int .i64 m.Term, .int .i64 m.Last, .int .i64 m.LastTerm, .slice A6 m.Entries.length c6, .int .i64 m.Commit, .bool m.OK, .int .i64 m.Match, .slice A10 m.Data.length c10] 34)).heap.size := by simp
  have Hw := Lib.hid (And.intro h (And.intro ok (And.intro hk v1)))
  have e2 : (m.From == s.id) = false := by rw [beq_eq_false_iff_ne]; exact v2
  clear h ok hk v1 v2
  go_enter Try.func14, Try.ntmps14
  go_wp2_with fail
  obtain ⟨ba, hba⟩ : ∃ ba, w.heap.size = ba := ⟨_, rfl⟩
  rw [hba] at hcw hlw ⊢
  have hba := Lib.hid hba
  generalize w.alloc (.cells #[.int .i64 3, .int .i64 m.From, .int .i64 s.id, .int .i64 m.Term, .int .i64 m.Last, .int .i64 m.LastTerm, .slice A6 m.Entries.length c6, .int .i64 m.Commit, .bool m.OK, .int .i64 m.Match, .slice A10 m.Data.length c10] 34) = w1 at hbw hcw hlw ⊢
  refine (HT.out w1).mono ?_
  rintro e w2 ⟨rfl, hb2⟩
  have hbw2 : Below w.heap.size w w2 := hbw.trans (hb2.mono hbw.size)
  have hm2 := (hb2.block ba hlw).trans hcw
  have hl2 : ba < w2.heap.size := by have := hb2.size; omega
  have H2 := Lib.hid (Hw.out.1.below hbw2)
  obtain ⟨lb, p, As, cs, vy, vn, vm, hR, -⟩ := H2.out
  obtain ⟨c0, c1, c2, -, -, -, -, -, -, -, -, -, -, -, -, hlt⟩ := hR.facts
  have b1 : w2.cell? ⟨ba, 1, none⟩ = some (.int .i64 m.From) := cell_of_row _ ba 1 _ _ _ hm2
  have b2 : w2.cell? ⟨ba, 2, none⟩ = some (.int .i64 s.id) := cell_of_row _ ba 2 _ _ _ hm2
  have b3 : w2.cell? ⟨ba, 3, none⟩ = some (.int .i64 m.Term) := cell_of_row _ ba 3 _ _ _ hm2
  have HM2 := Lib.hid hm2
  clear hR hb2 hcw hlw hm2 HT
  go_wp2_with fail
  go_quiet (fail)
  have HM3 : Hid ((w2.drewN nq).heap[ba]? = _) := HM2
  have hbw3 : Hid (Below w.heap.size w (w2.drewN nq)) := hbw2.trans ((drawn_below w2 nq).mono hbw2.size)
  have hl3 : ba < (w2.drewN nq).heap.size := hl2
  have c2 : (w2.drewN nq).cell? ⟨rb, 2, none⟩ = some (.int .i64 s.term) := c2
  have hlt3 : rb < (w2.drewN nq).heap.size := hlt
  clear c0 c1 b1 b2 b3 e2 H2 HM2 hbw2 hl2 hlt
  generalize w2.drewN nq = w3 at HM3 hbw3 hl3 c2 hlt3 ⊢
  have H3 := Lib.hid (Hw.out.1.below hbw3.out)
  have hNF : ¬ NoF rb := id
  have hNF2 : ¬ NoF ba := id
  go_wp2_with fail
  refine wp_region_plan [0, 1, 0, 0, 0, 0, 0, 3] (fun w' => ∃ D : Same NoF w3, w' = D.world) (by kernel_rfl) (by kernel_rfl) InSame.start ?_
  simp only [sel, selE, Nat.reduceEqDiff, reduceIte]
  repeat (go_big_quiet_step (fail))
  refine wpQuiet_nil ?_
  refine wpE_cons (fun N hN => ?_)
  go_wp2_with fail
  refine (term_3 w3.drew s m A6 c6 A10 c10).mono ?_
  rintro e w4 ⟨rfl, hb4⟩
  have hb4 : Below w3.heap.size w3 w4 := below_undrew hb4
  go_wp2
  refine hN _ _ (InSame.of_below hb4) ?_
  clear hN N
  refine wpE_take (fun N hN => ?_)
  repeat (go_big_quiet_step (fail))
  refine wpQuiet_nil ?_
  refine hN _ ?_
  refine wpE_nil ?_
  clear hN N
  have HM4 := Lib.hid ((hb4.block ba hl3).trans HM3.out)
  have hbw4 : Hid (Below w.heap.size w w4) := hbw3.out.trans (hb4.mono hbw3.out.size)
  have hl4 : ba < w4.heap.size := by have := hb4.size; omega
  have H4 := Lib.hid (Hw.out.1.below hbw4.out)
  have hlt4 : rb < w4.heap.size := by have := hb4.size; omega
  have hs34 := hb4.size
  clear H3 HM3 hbw3 hl3 hlt3 c2 hb4
  by_cases hlate : m.Term < s.term
  · have hst4 := Lib.hid (RStep.ofBelow Hw.out.1 hbw4.out)
    have HL := Lib.hid (late_3 w4 rb _ s hst4.out.at_ m A6 c6 A10 c10 Hw.out.2.2.1)
    rw [Hw.out.2.2.1, Hw.out.2.2.2] at HL
    have hr1 : Hid (s.stepV m = s) := if_pos hlate
    have hr2 : Hid (s.stepVM m = plainM s 4 m.From) := if_pos hlate
    obtain ⟨a0, a1, a2, a3, a4, a5, a6, a7, a8, a9, a10, e0, e1, e2, e3, e4, e5, e6, e7, e8, e9, e10⟩ := box11 HM4.out
    go_wp2_with fail
    refine HL.out.mono ?_
    rintro e w5 hM
    obtain ⟨v, rfl, hQ⟩ := hM.after hst4.out
    go_wp2
    go_ret
    rw [hr1.out, hr2.out]
    exact ⟨v, rfl, hQ⟩
  · have hlate := Lib.hid hlate
    by_cases hnew : s.term < m.Term
    · have c2 : w4.cell? ⟨rb, 2, none⟩ = some (.int .i64 s.term) := by
        obtain ⟨lb, p, As, cs, vy, vn, vm, hR, -⟩ := H4.out
        exact hR.facts.2.2.1
      go_wp2_with fail
      refine wp_region_plan [0, 1, 0, 0, 0, 0, 0, 3] (fun w' => ∃ D : Same NoF w4, w' = D.world) (by kernel_rfl) (by kernel_rfl) InSame.start ?_
      simp only [sel, selE, Nat.reduceEqDiff, reduceIte]
      repeat (go_big_quiet_step (fail))
      refine wpQuiet_nil ?_
      refine wpE_cons (fun N hN => ?_)
      go_wp2_with fail
      refine (term_3 w4.drew s m A6 c6 A10 c10).mono ?_
      rintro e w5 ⟨rfl, hb5⟩
      have hb5 : Below w4.heap.size w4 w5 := below_undrew hb5
      go_wp2
      refine hN _ _ (InSame.of_below hb5) ?_
      clear hN N
      refine wpE_take (fun N hN => ?_)
      repeat (go_big_quiet_step (fail))
      refine wpQuiet_nil ?_
      refine hN _ ?_
      refine wpE_nil ?_
      clear hN N
      have hbw5 : Hid (Below w.heap.size w w5) := hbw4.out.trans (hb5.mono hbw4.out.size)
      have hst5 := Lib.hid (RStep.ofBelow Hw.out.1 hbw5.out)
      have HM5 := Lib.hid ((hb5.block ba hl4).trans HM4.out)
      have hl5 : ba < w5.heap.size := by have := hb5.size; omega
      clear H4 HM4 hbw4 hl4 hlt4 c2 hb5 hs34
      have hF1 := Lib.hid (fun w1 (hb : Below w5.heap.size w5 w1) => follow_any w1 rb _ s m.Term (hst5.out.thenBelow hb).at_)
      go_wp2_with fail
      refine (term_3 w5 s m A6 c6 A10 c10).mono ?_
      rintro e w6 ⟨rfl, hb6⟩
      go_wp2_with fail
      refine (hF1.out w6 hb6).mono ?_
      rintro e w7 ⟨rfl, hst7⟩
      have hstA := Lib.hid ((hst5.out.thenBelow hb6).trans hst7)
      have okA : (s.follow m.Term).Ok := by
        obtain ⟨o1, o2, o3, o4, o5, o6, o7, o8⟩ := Hw.out.2.1
        unfold RaftS.follow
        rw [if_pos hnew]
        exact ⟨o1, o2, o3, v5, by show m.Term ≤ _; omega, o6, o7, o8⟩
      have hup : Hid (s.upTo m.Term = s.follow m.Term) := if_pos hnew
      clear hst7 hF1
      have hch : Below w7.heap.size w7 (w7.alloc (.cells #[.int .i64 3, .int .i64 m.From, .int .i64 s.id, .int .i64 m.Term, .int .i64 m.Last, .int .i64 m.LastTerm, .slice A6 m.Entries.length c6, .int .i64 m.Commit, .bool m.OK, .int .i64 m.Match, .slice A10 m.Data.length c10] 80)) := (Below.refl _ _).alloc (Nat.le_refl _) _
      have HV := Lib.hid (fun w1 (hb : Below w7.heap.size w7 w1) => vote_any w1 rb _ (s.follow m.Term) (hstA.out.thenBelow hb).at_ okA m A6 c6 A10 c10)
      rw [Hw.out.2.2.1, Hw.out.2.2.2] at HV
      have hr1 : Hid (s.stepV m = (s.follow m.Term).voteS m) := (if_neg (Int.not_lt.mpr hlate.out)).trans (by rw [hup.out])
      have hr2 : Hid (s.stepVM m = (s.follow m.Term).voteM m) := (if_neg (Int.not_lt.mpr hlate.out)).trans (by rw [hup.out])
      go_wp2_with fail
      refine (HV.out _ hch).mono ?_
      rintro e w8 hM
      obtain ⟨v, rfl, hQ⟩ := hM.after (hstA.out.thenBelow hch)
      go_wp2
      go_ret
      rw [hr1.out, hr2.out]
      exact ⟨v, rfl, hQ⟩

    · have c2 : w4.cell? ⟨rb, 2, none⟩ = some (.int .i64 s.term) := by
        obtain ⟨lb, p, As, cs, vy, vn, vm, hR, -⟩ := H4.out
        exact hR.facts.2.2.1
      go_wp2_with fail
      refine wp_region_plan [0, 1, 0, 0, 0, 0, 0, 3] (fun w' => ∃ D : Same NoF w4, w' = D.world) (by kernel_rfl) (by kernel_rfl) InSame.start ?_
      simp only [sel, selE, Nat.reduceEqDiff, reduceIte]
      repeat (go_big_quiet_step (fail))
      refine wpQuiet_nil ?_
      refine wpE_cons (fun N hN => ?_)
      go_wp2_with fail
      refine (term_3 w4.drew s m A6 c6 A10 c10).mono ?_
      rintro e w5 ⟨rfl, hb5⟩
      have hb5 : Below w4.heap.size w4 w5 := below_undrew hb5
      go_wp2
      refine hN _ _ (InSame.of_below hb5) ?_
      clear hN N
      refine wpE_take (fun N hN => ?_)
      repeat (go_big_quiet_step (fail))
      refine wpQuiet_nil ?_
      refine hN _ ?_
      refine wpE_nil ?_
      clear hN N
      have hbw5 : Hid (Below w.heap.size w w5) := hbw4.out.trans (hb5.mono hbw4.out.size)
      have hst5 := Lib.hid (RStep.ofBelow Hw.out.1 hbw5.out)
      have HM5 := Lib.hid ((hb5.block ba hl4).trans HM4.out)
      have hl5 : ba < w5.heap.size := by have := hb5.size; omega
      clear H4 HM4 hbw4 hl4 hlt4 c2 hb5 hs34
      have hstA := hst5
      have okA := Hw.out.2.1
      have hup : Hid (s.upTo m.Term = s) := if_neg (Int.not_lt.mpr hnew)
      have hch : Below w5.heap.size w5 (w5.alloc (.cells #[.int .i64 3, .int .i64 m.From, .int .i64 s.id, .int .i64 m.Term, .int .i64 m.Last, .int .i64 m.LastTerm, .slice A6 m.Entries.length c6, .int .i64 m.Commit, .bool m.OK, .int .i64 m.Match, .slice A10 m.Data.length c10] 80)) := (Below.refl _ _).alloc (Nat.le_refl _) _
      have HV := Lib.hid (fun w1 (hb : Below w5.heap.size w5 w1) => vote_any w1 rb _ s (hstA.out.thenBelow hb).at_ okA m A6 c6 A10 c10)
      rw [Hw.out.2.2.1, Hw.out.2.2.2] at HV
      have hr1 : Hid (s.stepV m = s.voteS m) := (if_neg (Int.not_lt.mpr hlate.out)).trans (by rw [hup.out])
      have hr2 : Hid (s.stepVM m = s.voteM m) := (if_neg (Int.not_lt.mpr hlate.out)).trans (by rw [hup.out])
      go_wp2_with fail
      refine (HV.out _ hch).mono ?_
      rintro e w8 hM
      obtain ⟨v, rfl, hQ⟩ := hM.after (hstA.out.thenBelow hch)
      go_wp2
      go_ret
      rw [hr1.out, hr2.out]
      exact ⟨v, rfl, hQ⟩


end Go.Proofs.Ytikpbhhnllchmaa
