/- raft.vote. Printed by gen_rf11.py (own work). -/
import Derived.Test.YtikpbhhnllchmaaRF10
set_option linter.unusedVariables false
set_option linter.unusedSimpArgs false
namespace Go.Proofs.Ytikpbhhnllchmaa
open Go.RowKit
attribute [local go_sem] Same.cell Same.frozen

def RaftS.lets (s : RaftS) (m : Message) : Bool := ((s.vote == 0) || (s.vote == m.From)) && s.good m.Last m.LastTerm
def RaftS.voteS (s : RaftS) (m : Message) : RaftS := if s.lets m = true then { s with vote := m.From, clock := 0 } else s
def RaftS.voteM (s : RaftS) (m : Message) : Message := { plainM s 4 m.From with OK := s.lets m }

set_option maxHeartbeats 8000000 in
set_option maxRecDepth 100000 in
theorem vote_any (w : World) (rb : Nat) (F : Foot) (s : RaftS) (h : RaftAt w rb F s) (ok : s.Ok) (m : Message) (A6 : Option Addr) (c6 : Nat) (A10 : Option Addr) (c10 : Nat) :
    Calls Try.prog 33 #[.pointer (some ⟨rb, 0, none⟩), .agg #[.int .i64 m.Kind, .int .i64 m.From, .int .i64 m.To, .int .i64 m.Term, .int .i64 m.Last, .int .i64 m.LastTerm, .slice A6 m.Entries.length c6, .int .i64 m.Commit, .bool m.OK, .int .i64 m.Match, .slice A10 m.Data.length c10]] w (MsgsIs w rb F (s.voteS m) [s.voteM m]) := by
  have hbw : Below w.heap.size w (w.alloc (.cells #[.int .i64 m.Kind, .int .i64 m.From, .int .i64 m.To, .int .i64 m.Term, .int .i64 m.Last, .int .i64 m.LastTerm, .slice A6 m.Entries.length c6, .int .i64 m.Commit, .bool m.OK, .int .i64 m.Match, .slice A10 m.Data.length c10] 80)) := (Below.refl _ _).alloc (Nat.le_refl _) _
  have hcw := heap_alloc_new w (.cells #[.int .i64 m.Kind, .int .i64 m.From, .int .i64 m.To, .int .i64 m.Term, .int .i64 m.Last, .int .i64 m.LastTerm, .slice A6 m.Entries.length c6, .int .i64 m.Commit, .bool m.OK, .int .i64 m.Match, .slice A10 m.Data.length c10] 80)
  have hlw : w.heap.size < (w.alloc (.cells #[.int .i64 m.Kind, .int .i64 m.From, .int .i64 m.To, .int .i64 m.Term, .int .i64 m.Last, .int .i64 m.LastTerm, .slice A6 m.Entries.length c6, .int .i64 m.Commit, .bool m.OK, .int .i64 m.Match, .slice A10 m.Data.length c10] 80)).heap.size := by simp
  have H := Lib.hid (h.below hbw)
  have Hw := Lib.hid (And.intro h ok)
  have hrw := h.fr
  clear h ok
  obtain ⟨lb, p, As, cs, vy, vn, vm, hR, -⟩ := H.out
  obtain ⟨c0, c1, c2, c3, c4, c5, c6', c7, c8, c9, c10', c11, c12, c13, hfz, hlt⟩ := hR.facts
  have b1 := cell_of_row _ w.heap.size 1 _ _ _ hcw
  have hNF : ¬ NoF rb := id
  have hNF2 : ¬ NoF w.heap.size := id
  clear hR hfz c0 c1 c3 c4 c5 c6' c7 c8 c9 c10' c11 c12 c13
  go_enter Try.func33, Try.ntmps33
  go_wp2_with fail
  obtain ⟨ba, hba⟩ : ∃ ba, w.heap.size = ba := ⟨_, rfl⟩
  rw [hba] at hcw hlw b1 hNF2 ⊢
  have hba := Lib.hid hba
  generalize w.alloc (.cells #[.int .i64 m.Kind, .int .i64 m.From, .int .i64 m.To, .int .i64 m.Term, .int .i64 m.Last, .int .i64 m.LastTerm, .slice A6 m.Entries.length c6, .int .i64 m.Commit, .bool m.OK, .int .i64 m.Match, .slice A10 m.Data.length c10] 80) = w1 at hbw hcw hlw H b1 hlt c2 ⊢
  have HM := Lib.hid (fun w2 (hb : Below w1.heap.size w1 w2) => message_any w2 rb _ s 4 m.From s.term (H.out.below hb))
  refine wp_region_open [0, 0, 0, 0, 0, 0, 0, 0, 1, 1, 2] (fun w' => ∃ D : Same NoF w1, w' = D.world) 3 (by kernel_rfl) (by kernel_rfl) (by kernel_rfl) InSame.start ?_
  simp only [sel, Nat.reduceEqDiff, reduceIte]
  repeat (go_big_quiet_step (fail))
  refine wpQuiet_nil ?_
  refine wpAnyI_fork (i := 8) (j := 9) (by kernel_rfl) (fun N hN => ?armA) (fun N hN => ?armB)
  case armA =>
    simp only [pickOp]
    go_wp2_with fail
    refine (HM.out w1.drew (drawn_below w1 1)).mono ?_
    rintro e w2 ⟨rfl, hb2⟩
    unfold msgV
    replace hb2 : Below w1.heap.size w1 w2 := below_undrew hb2
    go_wp2
    refine hN _ _ (InSame.of_below hb2) ?_
    clear hN N
    refine wpAnyI_step (k := 9) (by kernel_rfl) (fun N hN => ?_)
    have hbz : Below w1.heap.size w1 (w2.alloc (.cells #[.int .i64 0, .int .i64 0, .int .i64 0, .int .i64 0, .int .i64 0, .int .i64 0, .slice none 0 0, .int .i64 0, .bool false, .int .i64 0, .slice none 0 0] 34)) := hb2.alloc hb2.size _
    have hz := heap_alloc_new w2 (.cells #[.int .i64 0, .int .i64 0, .int .i64 0, .int .i64 0, .int .i64 0, .int .i64 0, .slice none 0 0, .int .i64 0, .bool false, .int .i64 0, .slice none 0 0] 34)
    have hlz : w2.heap.size < (w2.alloc (.cells #[.int .i64 0, .int .i64 0, .int .i64 0, .int .i64 0, .int .i64 0, .int .i64 0, .slice none 0 0, .int .i64 0, .bool false, .int .i64 0, .slice none 0 0] 34)).heap.size := by simp
    have hgz : w1.heap.size ≤ w2.heap.size := hb2.size
    simp only [pickOp]
    go_wp2
    refine hN _ _ (InSame.of_below hbz) ?_
    clear hN N
    obtain ⟨g, hg⟩ : ∃ g, w2.heap.size = g := ⟨_, rfl⟩
    rw [hg] at hz hlz hgz ⊢
    have hg := Lib.hid hg
    generalize w2.alloc (.cells #[.int .i64 0, .int .i64 0, .int .i64 0, .int .i64 0, .int .i64 0, .int .i64 0, .slice none 0 0, .int .i64 0, .bool false, .int .i64 0, .slice none 0 0] 34) = w3 at hbz hz hlz ⊢
    refine wpAnyI_stepz (k := 10) (by kernel_rfl) (by kernel_rfl) (fun N hN => ?_)
    obtain ⟨a0, a1, a2, a3, a4, a5, a6, a7, a8, a9, a10, e0, e1, e2, e3, e4, e5, e6, e7, e8, e9, e10⟩ := box11 hz
    simp only [pickOp]
    go_wp2
    clear a0 a1 a2 a3 a4 a5 a6 a7 a8 a9 a10 e0 e1 e2 e3 e4 e5 e6 e7 e8 e9 e10
    refine wpAnyI_end (by kernel_rfl) ⟨rfl, ?_⟩
    obtain ⟨r1, r2⟩ := set11 _ g _ _ _ _ _ _ _ _ _ _ _ _ hz (.int .i64 4) (.int .i64 s.id) (.int .i64 m.From) (.int .i64 s.term) (.int .i64 0) (.int .i64 0) (.slice none 0 0) (.int .i64 0) (.bool false) (.int .i64 0) (.slice none 0 0)
    have hs3 := hbz.size
    generalize (((((((((((w3.setCell ⟨g, 0, none⟩ (.int .i64 4)).setCell ⟨g, 1, none⟩ (.int .i64 s.id)).setCell ⟨g, 2, none⟩ (.int .i64 m.From)).setCell ⟨g, 3, none⟩ (.int .i64 s.term)).setCell ⟨g, 4, none⟩ (.int .i64 0)).setCell ⟨g, 5, none⟩ (.int .i64 0)).setCell ⟨g, 6, none⟩ (.slice none 0 0)).setCell ⟨g, 7, none⟩ (.int .i64 0)).setCell ⟨g, 8, none⟩ (.bool false)).setCell ⟨g, 9, none⟩ (.int .i64 0)).setCell ⟨g, 10, none⟩ (.slice none 0 0)) = w4 at r1 r2 ⊢
    have hb4 : Below w1.heap.size w1 w4 := hbz.trans (r2.below_of hbz.size fun k hk => by have : k = g := hk; omega)
    have hlg : g < w4.heap.size := by have := r2.size; omega
    have hm4 := (hb4.block ba hlw).trans hcw
    clear hz hlz hbz r2 hcw b1 c2
    have HA4 := Lib.hid (H.out.below hb4)
    obtain ⟨lb2, p2, As2, cs2, vy2, vn2, vm2, hR4, -⟩ := HA4.out
    obtain ⟨-, -, -, c3, -, -, -, -, -, -, -, -, -, -, -, hlt4⟩ := hR4.facts
    clear hR4
    have b1 : w4.cell? ⟨ba, 1, none⟩ = some (.int .i64 m.From) := cell_of_row _ ba 1 _ _ _ hm4
    have b4 : w4.cell? ⟨ba, 4, none⟩ = some (.int .i64 m.Last) := cell_of_row _ ba 4 _ _ _ hm4
    have b5 : w4.cell? ⟨ba, 5, none⟩ = some (.int .i64 m.LastTerm) := cell_of_row _ ba 5 _ _ _ hm4
    have HG := Lib.hid (fun w5 (hb : Below w4.heap.size w4 w5) => good_any w5 rb _ s m.Last m.LastTerm (HA4.out.below hb) Hw.out.2.log)
    obtain ⟨v0, hv0⟩ : ∃ v0, (s.vote == 0) = v0 := ⟨_, rfl⟩
    obtain ⟨v1, hv1⟩ : ∃ v1, (s.vote == m.From) = v1 := ⟨_, rfl⟩
    obtain ⟨gd, hgd⟩ : ∃ gd, s.good m.Last m.LastTerm = gd := ⟨_, rfl⟩
    have hlets : Hid (s.lets m = ((v0 || v1) && gd)) := by show s.lets m = _; unfold RaftS.lets; rw [hv0, hv1, hgd]
    rw [hgd] at HG
    have hgd := Lib.hid hgd
    have hba2 : Hid (ba < w1.heap.size) := hlw
    have hlb : ba < w4.heap.size := by have := hb4.size; omega
    go_wp2_with fail
    cases v0
    · cases v1
      · have hl : Hid (s.lets m = false) := by show s.lets m = false; rw [hlets.out]; cases gd <;> rfl
        replace hlets := hl
        go_quiet ((go_at_call 53; exact Calls.quiet_of (HG.out _ (drawn_below _ _))))
        have hb5 : Below w1.heap.size w1 (w4.drewN nq) := hb4.trans ((drawn_below w4 nq).mono hb4.size)
        have r5 : (w4.drewN nq).heap[g]? = some (.cells #[.int .i64 4, .int .i64 s.id, .int .i64 m.From, .int .i64 s.term, .int .i64 0, .int .i64 0, .slice none 0 0, .int .i64 0, .bool false, .int .i64 0, .slice none 0 0] 34 (0, 0)) := r1
        have hlg5 : g < (w4.drewN nq).heap.size := hlg
        have b1 : (w4.drewN nq).cell? ⟨ba, 1, none⟩ = some (.int .i64 m.From) := b1
        have hlb5 : ba < (w4.drewN nq).heap.size := hlb
        have hlt5 : rb < (w4.drewN nq).heap.size := hlt4
        clear c3 b4 b5 hlg hlb hlt4 r1 HG HA4 hv0 hm4
        generalize w4.drewN nq = w5 at hb5 r5 hlg5 b1 hlb5 hlt5 ⊢
        obtain ⟨a0, a1, a2, a3, a4, a5, a6, a7, a8, a9, a10, e0, e1, e2, e3, e4, e5, e6, e7, e8, e9, e10⟩ := box11 r5
        obtain ⟨lb5, p5, As5, cs5, vy5, vn5, vm5, hR0, hF0⟩ := Hw.out.1
        have hR5 := hR0.below (hbw.trans (hb5.mono hbw.size))
        obtain ⟨-, -, -, x3, -, -, -, -, x8, -, -, -, -, -, hfz, -⟩ := hR5.facts
        have f3 := hfz 3
        have f8 := hfz 8
        have hbaE := hba.out
        have hgrb : ¬ g = rb := fun e => by have := hR0.rlt; have := hbw.size; omega
        have hrbg : ¬ rb = g := fun e => hgrb e.symm
        have hbarb : ¬ ba = rb := fun e => by have := hR0.rlt; omega
        have hrbba : ¬ rb = ba := fun e => hbarb e.symm
        have HR := Lib.hid (And.intro hR0 (And.intro hF0 hR5))
        clear hR0 hF0 hR5 hfz hbaE
        go_wp2
        have hR7 := HR.out.2.2
        have hk7 : Keeps F w w5 := (Keeps.refl F w).then_below (hbw.trans (hb5.mono hbw.size))
        have hsv : s.voteS m = s := if_neg (by rw [hlets.out]; decide)
        have hsm : s.voteM m = ⟨4, s.id, m.From, s.term, 0, 0, [], 0, false, 0, []⟩ := by unfold RaftS.voteM; rw [hlets.out]; rfl
        rw [hsv, hsm]
        have hO : OwnS kMessage 34 (w5.alloc (.cells #[.int .i64 4, .int .i64 s.id, .int .i64 m.From, .int .i64 s.term, .int .i64 0, .int .i64 0, .slice none 0 0, .int .i64 0, .bool false, .int .i64 0, .slice none 0 0] 34)) (fun k => k = w5.heap.size) (.slice (some ⟨w5.heap.size, 0, none⟩) 1 1) [⟨4, s.id, m.From, s.term, 0, 0, [], 0, false, 0, []⟩] :=
          (OwnS.lit w5 (F := NoF) (xs := [⟨4, s.id, m.From, s.term, 0, 0, [], 0, false, 0, []⟩]) (Elems.single (K := kMessage) ⟨none, 0, none, 0, rfl, Nat.le_refl _, by omega, RS.nil, Nat.le_refl _, by omega, RS.nil⟩) (by simp)).mono fun k hk => hk.resolve_left id
        have hba8 : Below w5.heap.size w5 (w5.alloc (.cells #[.int .i64 4, .int .i64 s.id, .int .i64 m.From, .int .i64 s.term, .int .i64 0, .int .i64 0, .slice none 0 0, .int .i64 0, .bool false, .int .i64 0, .slice none 0 0] 34)) := (Below.refl _ _).alloc (Nat.le_refl _) _
        have hs9 : w.heap.size ≤ w5.heap.size := hk7.size
        go_ret
        refine ⟨_, rfl, hO.mono fun k hk => by have : k = w5.heap.size := hk; exact ⟨by omega, by simp; omega⟩, ⟨lb5, p5, As5, cs5, vy5, vn5, vm5, hR7.below hba8, fun i k hk => .inl (HR.out.2.1 i k hk)⟩, hk7.then_below hba8⟩
      · cases gd
        · skip
          replace hlets : Hid (s.lets m = false) := hlets.out
          go_quiet ((go_at_call 53; exact Calls.quiet_of (HG.out _ (drawn_below _ _))))
          have hb5 : Below w1.heap.size w1 (w4.drewN nq) := hb4.trans ((drawn_below w4 nq).mono hb4.size)
          have r5 : (w4.drewN nq).heap[g]? = some (.cells #[.int .i64 4, .int .i64 s.id, .int .i64 m.From, .int .i64 s.term, .int .i64 0, .int .i64 0, .slice none 0 0, .int .i64 0, .bool false, .int .i64 0, .slice none 0 0] 34 (0, 0)) := r1
          have hlg5 : g < (w4.drewN nq).heap.size := hlg
          have b1 : (w4.drewN nq).cell? ⟨ba, 1, none⟩ = some (.int .i64 m.From) := b1
          have hlb5 : ba < (w4.drewN nq).heap.size := hlb
          have hlt5 : rb < (w4.drewN nq).heap.size := hlt4
          clear c3 b4 b5 hlg hlb hlt4 r1 HG HA4 hv0 hm4
          generalize w4.drewN nq = w5 at hb5 r5 hlg5 b1 hlb5 hlt5 ⊢
          obtain ⟨a0, a1, a2, a3, a4, a5, a6, a7, a8, a9, a10, e0, e1, e2, e3, e4, e5, e6, e7, e8, e9, e10⟩ := box11 r5
          obtain ⟨lb5, p5, As5, cs5, vy5, vn5, vm5, hR0, hF0⟩ := Hw.out.1
          have hR5 := hR0.below (hbw.trans (hb5.mono hbw.size))
          obtain ⟨-, -, -, x3, -, -, -, -, x8, -, -, -, -, -, hfz, -⟩ := hR5.facts
          have f3 := hfz 3
          have f8 := hfz 8
          have hbaE := hba.out
          have hgrb : ¬ g = rb := fun e => by have := hR0.rlt; have := hbw.size; omega
          have hrbg : ¬ rb = g := fun e => hgrb e.symm
          have hbarb : ¬ ba = rb := fun e => by have := hR0.rlt; omega
          have hrbba : ¬ rb = ba := fun e => hbarb e.symm
          have HR := Lib.hid (And.intro hR0 (And.intro hF0 hR5))
          clear hR0 hF0 hR5 hfz hbaE
          go_wp2
          have hR7 := HR.out.2.2
          have hk7 : Keeps F w w5 := (Keeps.refl F w).then_below (hbw.trans (hb5.mono hbw.size))
          have hsv : s.voteS m = s := if_neg (by rw [hlets.out]; decide)
          have hsm : s.voteM m = ⟨4, s.id, m.From, s.term, 0, 0, [], 0, false, 0, []⟩ := by unfold RaftS.voteM; rw [hlets.out]; rfl
          rw [hsv, hsm]
          have hO : OwnS kMessage 34 (w5.alloc (.cells #[.int .i64 4, .int .i64 s.id, .int .i64 m.From, .int .i64 s.term, .int .i64 0, .int .i64 0, .slice none 0 0, .int .i64 0, .bool false, .int .i64 0, .slice none 0 0] 34)) (fun k => k = w5.heap.size) (.slice (some ⟨w5.heap.size, 0, none⟩) 1 1) [⟨4, s.id, m.From, s.term, 0, 0, [], 0, false, 0, []⟩] :=
            (OwnS.lit w5 (F := NoF) (xs := [⟨4, s.id, m.From, s.term, 0, 0, [], 0, false, 0, []⟩]) (Elems.single (K := kMessage) ⟨none, 0, none, 0, rfl, Nat.le_refl _, by omega, RS.nil, Nat.le_refl _, by omega, RS.nil⟩) (by simp)).mono fun k hk => hk.resolve_left id
          have hba8 : Below w5.heap.size w5 (w5.alloc (.cells #[.int .i64 4, .int .i64 s.id, .int .i64 m.From, .int .i64 s.term, .int .i64 0, .int .i64 0, .slice none 0 0, .int .i64 0, .bool false, .int .i64 0, .slice none 0 0] 34)) := (Below.refl _ _).alloc (Nat.le_refl _) _
          have hs9 : w.heap.size ≤ w5.heap.size := hk7.size
          go_ret
          refine ⟨_, rfl, hO.mono fun k hk => by have : k = w5.heap.size := hk; exact ⟨by omega, by simp; omega⟩, ⟨lb5, p5, As5, cs5, vy5, vn5, vm5, hR7.below hba8, fun i k hk => .inl (HR.out.2.1 i k hk)⟩, hk7.then_below hba8⟩
        · skip
          replace hlets : Hid (s.lets m = true) := hlets.out
          go_quiet ((go_at_call 53; exact Calls.quiet_of (HG.out _ (drawn_below _ _))))
          have hb5 : Below w1.heap.size w1 (w4.drewN nq) := hb4.trans ((drawn_below w4 nq).mono hb4.size)
          have r5 : (w4.drewN nq).heap[g]? = some (.cells #[.int .i64 4, .int .i64 s.id, .int .i64 m.From, .int .i64 s.term, .int .i64 0, .int .i64 0, .slice none 0 0, .int .i64 0, .bool false, .int .i64 0, .slice none 0 0] 34 (0, 0)) := r1
          have hlg5 : g < (w4.drewN nq).heap.size := hlg
          have b1 : (w4.drewN nq).cell? ⟨ba, 1, none⟩ = some (.int .i64 m.From) := b1
          have hlb5 : ba < (w4.drewN nq).heap.size := hlb
          have hlt5 : rb < (w4.drewN nq).heap.size := hlt4
          clear c3 b4 b5 hlg hlb hlt4 r1 HG HA4 hv0 hm4
          generalize w4.drewN nq = w5 at hb5 r5 hlg5 b1 hlb5 hlt5 ⊢
          obtain ⟨a0, a1, a2, a3, a4, a5, a6, a7, a8, a9, a10, e0, e1, e2, e3, e4, e5, e6, e7, e8, e9, e10⟩ := box11 r5
          obtain ⟨lb5, p5, As5, cs5, vy5, vn5, vm5, hR0, hF0⟩ := Hw.out.1
          have hR5 := hR0.below (hbw.trans (hb5.mono hbw.size))
          obtain ⟨-, -, -, x3, -, -, -, -, x8, -, -, -, -, -, hfz, -⟩ := hR5.facts
          have f3 := hfz 3
          have f8 := hfz 8
          have hbaE := hba.out
          have hgrb : ¬ g = rb := fun e => by have := hR0.rlt; have := hbw.size; omega
          have hrbg : ¬ rb = g := fun e => hgrb e.symm
          have hbarb : ¬ ba = rb := fun e => by have := hR0.rlt; omega
          have hrbba : ¬ rb = ba := fun e => hbarb e.symm
          have HR := Lib.hid (And.intro hR0 (And.intro hF0 hR5))
          clear hR0 hF0 hR5 hfz hbaE
          go_wp2
          have hR6 := (HR.out.2.2.set_vote m.From).set_clock 0
          have h8 : (((w5.setCell ⟨rb, 3, none⟩ (.int .i64 m.From)).setCell ⟨rb, 8, none⟩ (.int .i64 0)).setCell ⟨g, 8, none⟩ (.bool true)).heap.size = w5.heap.size := by simp
          have hR7 : RaftIn (((w5.setCell ⟨rb, 3, none⟩ (.int .i64 m.From)).setCell ⟨rb, 8, none⟩ (.int .i64 0)).setCell ⟨g, 8, none⟩ (.bool true)) rb lb5 p5 As5 cs5 vy5 vn5 vm5 { s with vote := m.From, clock := 0 } := hR6.keep (by simp) fun i k hk => Below.heap_setCell _ ⟨g, 8, none⟩ _ k (by have := HR.out.1.lt i k hk; have := hbw.size; show k ≠ g; omega)
          have hk7 : Keeps F w (((w5.setCell ⟨rb, 3, none⟩ (.int .i64 m.From)).setCell ⟨rb, 8, none⟩ (.int .i64 0)).setCell ⟨g, 8, none⟩ (.bool true)) := ((((Keeps.refl F w).then_below (hbw.trans (hb5.mono hbw.size))).setCell (p := ⟨rb, 3, none⟩) (fun _ => hrw) _).setCell (p := ⟨rb, 8, none⟩) (fun _ => hrw) _).setCell (p := ⟨g, 8, none⟩) (fun hl => by have h1 : g < w.heap.size := hl; have := hbw.size; omega) _
          have hsv : s.voteS m = { s with vote := m.From, clock := 0 } := if_pos hlets.out
          have hsm : s.voteM m = ⟨4, s.id, m.From, s.term, 0, 0, [], 0, true, 0, []⟩ := by unfold RaftS.voteM; rw [hlets.out]; rfl
          rw [hsv, hsm]
          generalize ((w5.setCell ⟨rb, 3, none⟩ (.int .i64 m.From)).setCell ⟨rb, 8, none⟩ (.int .i64 0)).setCell ⟨g, 8, none⟩ (.bool true) = w7 at h8 hR7 hk7 ⊢
          have hO : OwnS kMessage 34 (w7.alloc (.cells #[.int .i64 4, .int .i64 s.id, .int .i64 m.From, .int .i64 s.term, .int .i64 0, .int .i64 0, .slice none 0 0, .int .i64 0, .bool true, .int .i64 0, .slice none 0 0] 34)) (fun k => k = w7.heap.size) (.slice (some ⟨w7.heap.size, 0, none⟩) 1 1) [⟨4, s.id, m.From, s.term, 0, 0, [], 0, true, 0, []⟩] :=
            (OwnS.lit w7 (F := NoF) (xs := [⟨4, s.id, m.From, s.term, 0, 0, [], 0, true, 0, []⟩]) (Elems.single (K := kMessage) ⟨none, 0, none, 0, rfl, Nat.le_refl _, by omega, RS.nil, Nat.le_refl _, by omega, RS.nil⟩) (by simp)).mono fun k hk => hk.resolve_left id
          rw [h8] at hO
          have hba8 : Below w7.heap.size w7 (w7.alloc (.cells #[.int .i64 4, .int .i64 s.id, .int .i64 m.From, .int .i64 s.term, .int .i64 0, .int .i64 0, .slice none 0 0, .int .i64 0, .bool true, .int .i64 0, .slice none 0 0] 34)) := (Below.refl _ _).alloc (Nat.le_refl _) _
          have hs9 : w.heap.size ≤ w7.heap.size := hk7.size
          go_ret
          refine ⟨_, rfl, hO.mono fun k hk => by have : k = w5.heap.size := hk; exact ⟨by omega, by simp; omega⟩, ⟨lb5, p5, As5, cs5, vy5, vn5, vm5, hR7.below hba8, fun i k hk => .inl (HR.out.2.1 i k hk)⟩, hk7.then_below hba8⟩
    · cases gd
      · have hl : Hid (s.lets m = false) := by show s.lets m = false; rw [hlets.out]; cases v1 <;> rfl
        replace hlets := hl
        go_quiet ((go_at_call 53; exact Calls.quiet_of (HG.out _ (drawn_below _ _))))
        have hb5 : Below w1.heap.size w1 (w4.drewN nq) := hb4.trans ((drawn_below w4 nq).mono hb4.size)
        have r5 : (w4.drewN nq).heap[g]? = some (.cells #[.int .i64 4, .int .i64 s.id, .int .i64 m.From, .int .i64 s.term, .int .i64 0, .int .i64 0, .slice none 0 0, .int .i64 0, .bool false, .int .i64 0, .slice none 0 0] 34 (0, 0)) := r1
        have hlg5 : g < (w4.drewN nq).heap.size := hlg
        have b1 : (w4.drewN nq).cell? ⟨ba, 1, none⟩ = some (.int .i64 m.From) := b1
        have hlb5 : ba < (w4.drewN nq).heap.size := hlb
        have hlt5 : rb < (w4.drewN nq).heap.size := hlt4
        clear c3 b4 b5 hlg hlb hlt4 r1 HG HA4 hv0 hm4
        generalize w4.drewN nq = w5 at hb5 r5 hlg5 b1 hlb5 hlt5 ⊢
        obtain ⟨a0, a1, a2, a3, a4, a5, a6, a7, a8, a9, a10, e0, e1, e2, e3, e4, e5, e6, e7, e8, e9, e10⟩ := box11 r5
        obtain ⟨lb5, p5, As5, cs5, vy5, vn5, vm5, hR0, hF0⟩ := Hw.out.1
        have hR5 := hR0.below (hbw.trans (hb5.mono hbw.size))
        obtain ⟨-, -, -, x3, -, -, -, -, x8, -, -, -, -, -, hfz, -⟩ := hR5.facts
        have f3 := hfz 3
        have f8 := hfz 8
        have hbaE := hba.out
        have hgrb : ¬ g = rb := fun e => by have := hR0.rlt; have := hbw.size; omega
        have hrbg : ¬ rb = g := fun e => hgrb e.symm
        have hbarb : ¬ ba = rb := fun e => by have := hR0.rlt; omega
        have hrbba : ¬ rb = ba := fun e => hbarb e.symm
        have HR := Lib.hid (And.intro hR0 (And.intro hF0 hR5))
        clear hR0 hF0 hR5 hfz hbaE
        go_wp2
        have hR7 := HR.out.2.2
        have hk7 : Keeps F w w5 := (Keeps.refl F w).then_below (hbw.trans (hb5.mono hbw.size))
        have hsv : s.voteS m = s := if_neg (by rw [hlets.out]; decide)
        have hsm : s.voteM m = ⟨4, s.id, m.From, s.term, 0, 0, [], 0, false, 0, []⟩ := by unfold RaftS.voteM; rw [hlets.out]; rfl
        rw [hsv, hsm]
        have hO : OwnS kMessage 34 (w5.alloc (.cells #[.int .i64 4, .int .i64 s.id, .int .i64 m.From, .int .i64 s.term, .int .i64 0, .int .i64 0, .slice none 0 0, .int .i64 0, .bool false, .int .i64 0, .slice none 0 0] 34)) (fun k => k = w5.heap.size) (.slice (some ⟨w5.heap.size, 0, none⟩) 1 1) [⟨4, s.id, m.From, s.term, 0, 0, [], 0, false, 0, []⟩] :=
          (OwnS.lit w5 (F := NoF) (xs := [⟨4, s.id, m.From, s.term, 0, 0, [], 0, false, 0, []⟩]) (Elems.single (K := kMessage) ⟨none, 0, none, 0, rfl, Nat.le_refl _, by omega, RS.nil, Nat.le_refl _, by omega, RS.nil⟩) (by simp)).mono fun k hk => hk.resolve_left id
        have hba8 : Below w5.heap.size w5 (w5.alloc (.cells #[.int .i64 4, .int .i64 s.id, .int .i64 m.From, .int .i64 s.term, .int .i64 0, .int .i64 0, .slice none 0 0, .int .i64 0, .bool false, .int .i64 0, .slice none 0 0] 34)) := (Below.refl _ _).alloc (Nat.le_refl _) _
        have hs9 : w.heap.size ≤ w5.heap.size := hk7.size
        go_ret
        refine ⟨_, rfl, hO.mono fun k hk => by have : k = w5.heap.size := hk; exact ⟨by omega, by simp; omega⟩, ⟨lb5, p5, As5, cs5, vy5, vn5, vm5, hR7.below hba8, fun i k hk => .inl (HR.out.2.1 i k hk)⟩, hk7.then_below hba8⟩
      · have hl : Hid (s.lets m = true) := by show s.lets m = true; rw [hlets.out]; cases v1 <;> rfl
        replace hlets := hl
        go_quiet ((go_at_call 53; exact Calls.quiet_of (HG.out _ (drawn_below _ _))))
        have hb5 : Below w1.heap.size w1 (w4.drewN nq) := hb4.trans ((drawn_below w4 nq).mono hb4.size)
        have r5 : (w4.drewN nq).heap[g]? = some (.cells #[.int .i64 4, .int .i64 s.id, .int .i64 m.From, .int .i64 s.term, .int .i64 0, .int .i64 0, .slice none 0 0, .int .i64 0, .bool false, .int .i64 0, .slice none 0 0] 34 (0, 0)) := r1
        have hlg5 : g < (w4.drewN nq).heap.size := hlg
        have b1 : (w4.drewN nq).cell? ⟨ba, 1, none⟩ = some (.int .i64 m.From) := b1
        have hlb5 : ba < (w4.drewN nq).heap.size := hlb
        have hlt5 : rb < (w4.drewN nq).heap.size := hlt4
        clear c3 b4 b5 hlg hlb hlt4 r1 HG HA4 hv0 hm4
        generalize w4.drewN nq = w5 at hb5 r5 hlg5 b1 hlb5 hlt5 ⊢
        obtain ⟨a0, a1, a2, a3, a4, a5, a6, a7, a8, a9, a10, e0, e1, e2, e3, e4, e5, e6, e7, e8, e9, e10⟩ := box11 r5
        obtain ⟨lb5, p5, As5, cs5, vy5, vn5, vm5, hR0, hF0⟩ := Hw.out.1
        have hR5 := hR0.below (hbw.trans (hb5.mono hbw.size))
        obtain ⟨-, -, -, x3, -, -, -, -, x8, -, -, -, -, -, hfz, -⟩ := hR5.facts
        have f3 := hfz 3
        have f8 := hfz 8
        have hbaE := hba.out
        have hgrb : ¬ g = rb := fun e => by have := hR0.rlt; have := hbw.size; omega
        have hrbg : ¬ rb = g := fun e => hgrb e.symm
        have hbarb : ¬ ba = rb := fun e => by have := hR0.rlt; omega
        have hrbba : ¬ rb = ba := fun e => hbarb e.symm
        have HR := Lib.hid (And.intro hR0 (And.intro hF0 hR5))
        clear hR0 hF0 hR5 hfz hbaE
        go_wp2
        have hR6 := (HR.out.2.2.set_vote m.From).set_clock 0
        have h8 : (((w5.setCell ⟨rb, 3, none⟩ (.int .i64 m.From)).setCell ⟨rb, 8, none⟩ (.int .i64 0)).setCell ⟨g, 8, none⟩ (.bool true)).heap.size = w5.heap.size := by simp
        have hR7 : RaftIn (((w5.setCell ⟨rb, 3, none⟩ (.int .i64 m.From)).setCell ⟨rb, 8, none⟩ (.int .i64 0)).setCell ⟨g, 8, none⟩ (.bool true)) rb lb5 p5 As5 cs5 vy5 vn5 vm5 { s with vote := m.From, clock := 0 } := hR6.keep (by simp) fun i k hk => Below.heap_setCell _ ⟨g, 8, none⟩ _ k (by have := HR.out.1.lt i k hk; have := hbw.size; show k ≠ g; omega)
        have hk7 : Keeps F w (((w5.setCell ⟨rb, 3, none⟩ (.int .i64 m.From)).setCell ⟨rb, 8, none⟩ (.int .i64 0)).setCell ⟨g, 8, none⟩ (.bool true)) := ((((Keeps.refl F w).then_below (hbw.trans (hb5.mono hbw.size))).setCell (p := ⟨rb, 3, none⟩) (fun _ => hrw) _).setCell (p := ⟨rb, 8, none⟩) (fun _ => hrw) _).setCell (p := ⟨g, 8, none⟩) (fun hl => by have h1 : g < w.heap.size := hl; have := hbw.size; omega) _
        have hsv : s.voteS m = { s with vote := m.From, clock := 0 } := if_pos hlets.out
        have hsm : s.voteM m = ⟨4, s.id, m.From, s.term, 0, 0, [], 0, true, 0, []⟩ := by unfold RaftS.voteM; rw [hlets.out]; rfl
        rw [hsv, hsm]
        generalize ((w5.setCell ⟨rb, 3, none⟩ (.int .i64 m.From)).setCell ⟨rb, 8, none⟩ (.int .i64 0)).setCell ⟨g, 8, none⟩ (.bool true) = w7 at h8 hR7 hk7 ⊢
        have hO : OwnS kMessage 34 (w7.alloc (.cells #[.int .i64 4, .int .i64 s.id, .int .i64 m.From, .int .i64 s.term, .int .i64 0, .int .i64 0, .slice none 0 0, .int .i64 0, .bool true, .int .i64 0, .slice none 0 0] 34)) (fun k => k = w7.heap.size) (.slice (some ⟨w7.heap.size, 0, none⟩) 1 1) [⟨4, s.id, m.From, s.term, 0, 0, [], 0, true, 0, []⟩] :=
          (OwnS.lit w7 (F := NoF) (xs := [⟨4, s.id, m.From, s.term, 0, 0, [], 0, true, 0, []⟩]) (Elems.single (K := kMessage) ⟨none, 0, none, 0, rfl, Nat.le_refl _, by omega, RS.nil, Nat.le_refl _, by omega, RS.nil⟩) (by simp)).mono fun k hk => hk.resolve_left id
        rw [h8] at hO
        have hba8 : Below w7.heap.size w7 (w7.alloc (.cells #[.int .i64 4, .int .i64 s.id, .int .i64 m.From, .int .i64 s.term, .int .i64 0, .int .i64 0, .slice none 0 0, .int .i64 0, .bool true, .int .i64 0, .slice none 0 0] 34)) := (Below.refl _ _).alloc (Nat.le_refl _) _
        have hs9 : w.heap.size ≤ w7.heap.size := hk7.size
        go_ret
        refine ⟨_, rfl, hO.mono fun k hk => by have : k = w5.heap.size := hk; exact ⟨by omega, by simp; omega⟩, ⟨lb5, p5, As5, cs5, vy5, vn5, vm5, hR7.below hba8, fun i k hk => .inl (HR.out.2.1 i k hk)⟩, hk7.then_below hba8⟩
  case armB =>
    simp only [pickOp]
    have hb2 : Below w1.heap.size w1 ((w1.alloc (.cells #[.int .i64 0, .int .i64 0, .int .i64 0, .int .i64 0, .int .i64 0, .int .i64 0, .slice none 0 0, .int .i64 0, .bool false, .int .i64 0, .slice none 0 0] 34)).drew) := ((Below.refl _ _).alloc (Nat.le_refl _) _).trans ((drawn_below (w1.alloc (.cells #[.int .i64 0, .int .i64 0, .int .i64 0, .int .i64 0, .int .i64 0, .int .i64 0, .slice none 0 0, .int .i64 0, .bool false, .int .i64 0, .slice none 0 0] 34)) 1).mono (by simp))
    have hz0 : ((w1.alloc (.cells #[.int .i64 0, .int .i64 0, .int .i64 0, .int .i64 0, .int .i64 0, .int .i64 0, .slice none 0 0, .int .i64 0, .bool false, .int .i64 0, .slice none 0 0] 34)).drew).heap[w1.heap.size]? = some (.cells #[.int .i64 0, .int .i64 0, .int .i64 0, .int .i64 0, .int .i64 0, .int .i64 0, .slice none 0 0, .int .i64 0, .bool false, .int .i64 0, .slice none 0 0] 34 (0, 0)) := heap_alloc_new w1 (.cells #[.int .i64 0, .int .i64 0, .int .i64 0, .int .i64 0, .int .i64 0, .int .i64 0, .slice none 0 0, .int .i64 0, .bool false, .int .i64 0, .slice none 0 0] 34)
    have hlz0 : w1.heap.size < ((w1.alloc (.cells #[.int .i64 0, .int .i64 0, .int .i64 0, .int .i64 0, .int .i64 0, .int .i64 0, .slice none 0 0, .int .i64 0, .bool false, .int .i64 0, .slice none 0 0] 34)).drew).heap.size := by show _ < (w1.alloc (.cells #[.int .i64 0, .int .i64 0, .int .i64 0, .int .i64 0, .int .i64 0, .int .i64 0, .slice none 0 0, .int .i64 0, .bool false, .int .i64 0, .slice none 0 0] 34)).heap.size; simp
    go_wp2
    refine hN _ _ (InSame.of_below hb2) ?_
    clear hN N
    refine wpAnyI_step (k := 8) (by kernel_rfl) (fun N hN => ?_)
    obtain ⟨g, hg⟩ : ∃ g, w1.heap.size = g := ⟨_, rfl⟩
    have hgz : w1.heap.size ≤ g := by omega
    have hlz0 : g < ((w1.alloc (.cells #[.int .i64 0, .int .i64 0, .int .i64 0, .int .i64 0, .int .i64 0, .int .i64 0, .slice none 0 0, .int .i64 0, .bool false, .int .i64 0, .slice none 0 0] 34)).drew).heap.size := by rw [← hg]; exact hlz0
    have hz0 : ((w1.alloc (.cells #[.int .i64 0, .int .i64 0, .int .i64 0, .int .i64 0, .int .i64 0, .int .i64 0, .slice none 0 0, .int .i64 0, .bool false, .int .i64 0, .slice none 0 0] 34)).drew).heap[g]? = some (.cells #[.int .i64 0, .int .i64 0, .int .i64 0, .int .i64 0, .int .i64 0, .int .i64 0, .slice none 0 0, .int .i64 0, .bool false, .int .i64 0, .slice none 0 0] 34 (0, 0)) := by rw [← hg]; exact hz0
    rw [show w1.heap.size = g from hg]
    have hg := Lib.hid hg
    generalize (w1.alloc (.cells #[.int .i64 0, .int .i64 0, .int .i64 0, .int .i64 0, .int .i64 0, .int .i64 0, .slice none 0 0, .int .i64 0, .bool false, .int .i64 0, .slice none 0 0] 34)).drew = w2 at hb2 hz0 hlz0 ⊢
    simp only [pickOp]
    go_wp2_with fail
    refine (HM.out w2 hb2).mono ?_
    rintro e w3 ⟨rfl, hb3⟩
    unfold msgV
    have hbz : Below w1.heap.size w1 w3 := hb2.trans (hb3.mono hb2.size)
    have hz := (hb3.block g hlz0).trans hz0
    have hlz : g < w3.heap.size := by have := hb3.size; omega
    go_wp2
    refine hN _ _ (InSame.of_below hbz) ?_
    clear hN N hb3 hz0 hlz0
    refine wpAnyI_stepz (k := 10) (by kernel_rfl) (by kernel_rfl) (fun N hN => ?_)
    obtain ⟨a0, a1, a2, a3, a4, a5, a6, a7, a8, a9, a10, e0, e1, e2, e3, e4, e5, e6, e7, e8, e9, e10⟩ := box11 hz
    simp only [pickOp]
    go_wp2
    clear a0 a1 a2 a3 a4 a5 a6 a7 a8 a9 a10 e0 e1 e2 e3 e4 e5 e6 e7 e8 e9 e10
    refine wpAnyI_end (by kernel_rfl) ⟨rfl, ?_⟩
    obtain ⟨r1, r2⟩ := set11 _ g _ _ _ _ _ _ _ _ _ _ _ _ hz (.int .i64 4) (.int .i64 s.id) (.int .i64 m.From) (.int .i64 s.term) (.int .i64 0) (.int .i64 0) (.slice none 0 0) (.int .i64 0) (.bool false) (.int .i64 0) (.slice none 0 0)
    have hs3 := hbz.size
    generalize (((((((((((w3.setCell ⟨g, 0, none⟩ (.int .i64 4)).setCell ⟨g, 1, none⟩ (.int .i64 s.id)).setCell ⟨g, 2, none⟩ (.int .i64 m.From)).setCell ⟨g, 3, none⟩ (.int .i64 s.term)).setCell ⟨g, 4, none⟩ (.int .i64 0)).setCell ⟨g, 5, none⟩ (.int .i64 0)).setCell ⟨g, 6, none⟩ (.slice none 0 0)).setCell ⟨g, 7, none⟩ (.int .i64 0)).setCell ⟨g, 8, none⟩ (.bool false)).setCell ⟨g, 9, none⟩ (.int .i64 0)).setCell ⟨g, 10, none⟩ (.slice none 0 0)) = w4 at r1 r2 ⊢
    have hb4 : Below w1.heap.size w1 w4 := hbz.trans (r2.below_of hbz.size fun k hk => by have : k = g := hk; omega)
    have hlg : g < w4.heap.size := by have := r2.size; omega
    have hm4 := (hb4.block ba hlw).trans hcw
    clear hz hlz hbz r2 hcw b1 c2
    have HA4 := Lib.hid (H.out.below hb4)
    obtain ⟨lb2, p2, As2, cs2, vy2, vn2, vm2, hR4, -⟩ := HA4.out
    obtain ⟨-, -, -, c3, -, -, -, -, -, -, -, -, -, -, -, hlt4⟩ := hR4.facts
    clear hR4
    have b1 : w4.cell? ⟨ba, 1, none⟩ = some (.int .i64 m.From) := cell_of_row _ ba 1 _ _ _ hm4
    have b4 : w4.cell? ⟨ba, 4, none⟩ = some (.int .i64 m.Last) := cell_of_row _ ba 4 _ _ _ hm4
    have b5 : w4.cell? ⟨ba, 5, none⟩ = some (.int .i64 m.LastTerm) := cell_of_row _ ba 5 _ _ _ hm4
    have HG := Lib.hid (fun w5 (hb : Below w4.heap.size w4 w5) => good_any w5 rb _ s m.Last m.LastTerm (HA4.out.below hb) Hw.out.2.log)
    obtain ⟨v0, hv0⟩ : ∃ v0, (s.vote == 0) = v0 := ⟨_, rfl⟩
    obtain ⟨v1, hv1⟩ : ∃ v1, (s.vote == m.From) = v1 := ⟨_, rfl⟩
    obtain ⟨gd, hgd⟩ : ∃ gd, s.good m.Last m.LastTerm = gd := ⟨_, rfl⟩
    have hlets : Hid (s.lets m = ((v0 || v1) && gd)) := by show s.lets m = _; unfold RaftS.lets; rw [hv0, hv1, hgd]
    rw [hgd] at HG
    have hgd := Lib.hid hgd
    have hba2 : Hid (ba < w1.heap.size) := hlw
    have hlb : ba < w4.heap.size := by have := hb4.size; omega
    go_wp2_with fail
    cases v0
    · cases v1
      · have hl : Hid (s.lets m = false) := by show s.lets m = false; rw [hlets.out]; cases gd <;> rfl
        replace hlets := hl
        go_quiet ((go_at_call 53; exact Calls.quiet_of (HG.out _ (drawn_below _ _))))
        have hb5 : Below w1.heap.size w1 (w4.drewN nq) := hb4.trans ((drawn_below w4 nq).mono hb4.size)
        have r5 : (w4.drewN nq).heap[g]? = some (.cells #[.int .i64 4, .int .i64 s.id, .int .i64 m.From, .int .i64 s.term, .int .i64 0, .int .i64 0, .slice none 0 0, .int .i64 0, .bool false, .int .i64 0, .slice none 0 0] 34 (0, 0)) := r1
        have hlg5 : g < (w4.drewN nq).heap.size := hlg
        have b1 : (w4.drewN nq).cell? ⟨ba, 1, none⟩ = some (.int .i64 m.From) := b1
        have hlb5 : ba < (w4.drewN nq).heap.size := hlb
        have hlt5 : rb < (w4.drewN nq).heap.size := hlt4
        clear c3 b4 b5 hlg hlb hlt4 r1 HG HA4 hv0 hm4
        generalize w4.drewN nq = w5 at hb5 r5 hlg5 b1 hlb5 hlt5 ⊢
        obtain ⟨a0, a1, a2, a3, a4, a5, a6, a7, a8, a9, a10, e0, e1, e2, e3, e4, e5, e6, e7, e8, e9, e10⟩ := box11 r5
        obtain ⟨lb5, p5, As5, cs5, vy5, vn5, vm5, hR0, hF0⟩ := Hw.out.1
        have hR5 := hR0.below (hbw.trans (hb5.mono hbw.size))
        obtain ⟨-, -, -, x3, -, -, -, -, x8, -, -, -, -, -, hfz, -⟩ := hR5.facts
        have f3 := hfz 3
        have f8 := hfz 8
        have hbaE := hba.out
        have hgrb : ¬ g = rb := fun e => by have := hR0.rlt; have := hbw.size; omega
        have hrbg : ¬ rb = g := fun e => hgrb e.symm
        have hbarb : ¬ ba = rb := fun e => by have := hR0.rlt; omega
        have hrbba : ¬ rb = ba := fun e => hbarb e.symm
        have HR := Lib.hid (And.intro hR0 (And.intro hF0 hR5))
        clear hR0 hF0 hR5 hfz hbaE
        go_wp2
        have hR7 := HR.out.2.2
        have hk7 : Keeps F w w5 := (Keeps.refl F w).then_below (hbw.trans (hb5.mono hbw.size))
        have hsv : s.voteS m = s := if_neg (by rw [hlets.out]; decide)
        have hsm : s.voteM m = ⟨4, s.id, m.From, s.term, 0, 0, [], 0, false, 0, []⟩ := by unfold RaftS.voteM; rw [hlets.out]; rfl
        rw [hsv, hsm]
        have hO : OwnS kMessage 34 (w5.alloc (.cells #[.int .i64 4, .int .i64 s.id, .int .i64 m.From, .int .i64 s.term, .int .i64 0, .int .i64 0, .slice none 0 0, .int .i64 0, .bool false, .int .i64 0, .slice none 0 0] 34)) (fun k => k = w5.heap.size) (.slice (some ⟨w5.heap.size, 0, none⟩) 1 1) [⟨4, s.id, m.From, s.term, 0, 0, [], 0, false, 0, []⟩] :=
          (OwnS.lit w5 (F := NoF) (xs := [⟨4, s.id, m.From, s.term, 0, 0, [], 0, false, 0, []⟩]) (Elems.single (K := kMessage) ⟨none, 0, none, 0, rfl, Nat.le_refl _, by omega, RS.nil, Nat.le_refl _, by omega, RS.nil⟩) (by simp)).mono fun k hk => hk.resolve_left id
        have hba8 : Below w5.heap.size w5 (w5.alloc (.cells #[.int .i64 4, .int .i64 s.id, .int .i64 m.From, .int .i64 s.term, .int .i64 0, .int .i64 0, .slice none 0 0, .int .i64 0, .bool false, .int .i64 0, .slice none 0 0] 34)) := (Below.refl _ _).alloc (Nat.le_refl _) _
        have hs9 : w.heap.size ≤ w5.heap.size := hk7.size
        go_ret
        refine ⟨_, rfl, hO.mono fun k hk => by have : k = w5.heap.size := hk; exact ⟨by omega, by simp; omega⟩, ⟨lb5, p5, As5, cs5, vy5, vn5, vm5, hR7.below hba8, fun i k hk => .inl (HR.out.2.1 i k hk)⟩, hk7.then_below hba8⟩
      · cases gd
        · skip
          replace hlets : Hid (s.lets m = false) := hlets.out
          go_quiet ((go_at_call 53; exact Calls.quiet_of (HG.out _ (drawn_below _ _))))
          have hb5 : Below w1.heap.size w1 (w4.drewN nq) := hb4.trans ((drawn_below w4 nq).mono hb4.size)
          have r5 : (w4.drewN nq).heap[g]? = some (.cells #[.int .i64 4, .int .i64 s.id, .int .i64 m.From, .int .i64 s.term, .int .i64 0, .int .i64 0, .slice none 0 0, .int .i64 0, .bool false, .int .i64 0, .slice none 0 0] 34 (0, 0)) := r1
          have hlg5 : g < (w4.drewN nq).heap.size := hlg
          have b1 : (w4.drewN nq).cell? ⟨ba, 1, none⟩ = some (.int .i64 m.From) := b1
          have hlb5 : ba < (w4.drewN nq).heap.size := hlb
          have hlt5 : rb < (w4.drewN nq).heap.size := hlt4
          clear c3 b4 b5 hlg hlb hlt4 r1 HG HA4 hv0 hm4
          generalize w4.drewN nq = w5 at hb5 r5 hlg5 b1 hlb5 hlt5 ⊢
          obtain ⟨a0, a1, a2, a3, a4, a5, a6, a7, a8, a9, a10, e0, e1, e2, e3, e4, e5, e6, e7, e8, e9, e10⟩ := box11 r5
          obtain ⟨lb5, p5, As5, cs5, vy5, vn5, vm5, hR0, hF0⟩ := Hw.out.1
          have hR5 := hR0.below (hbw.trans (hb5.mono hbw.size))
          obtain ⟨-, -, -, x3, -, -, -, -, x8, -, -, -, -, -, hfz, -⟩ := hR5.facts
          have f3 := hfz 3
          have f8 := hfz 8
          have hbaE := hba.out
          have hgrb : ¬ g = rb := fun e => by have := hR0.rlt; have := hbw.size; omega
          have hrbg : ¬ rb = g := fun e => hgrb e.symm
          have hbarb : ¬ ba = rb := fun e => by have := hR0.rlt; omega
          have hrbba : ¬ rb = ba := fun e => hbarb e.symm
          have HR := Lib.hid (And.intro hR0 (And.intro hF0 hR5))
          clear hR0 hF0 hR5 hfz hbaE
          go_wp2
          have hR7 := HR.out.2.2
          have hk7 : Keeps F w w5 := (Keeps.refl F w).then_below (hbw.trans (hb5.mono hbw.size))
          have hsv : s.voteS m = s := if_neg (by rw [hlets.out]; decide)
          have hsm : s.voteM m = ⟨4, s.id, m.From, s.term, 0, 0, [], 0, false, 0, []⟩ := by unfold RaftS.voteM; rw [hlets.out]; rfl
          rw [hsv, hsm]
          have hO : OwnS kMessage 34 (w5.alloc (.cells #[.int .i64 4, .int .i64 s.id, .int .i64 m.From, .int .i64 s.term, .int .i64 0, .int .i64 0, .slice none 0 0, .int .i64 0, .bool false, .int .i64 0, .slice none 0 0] 34)) (fun k => k = w5.heap.size) (.slice (some ⟨w5.heap.size, 0, none⟩) 1 1) [⟨4, s.id, m.From, s.term, 0, 0, [], 0, false, 0, []⟩] :=
            (OwnS.lit w5 (F := NoF) (xs := [⟨4, s.id, m.From, s.term, 0, 0, [], 0, false, 0, []⟩]) (Elems.single (K := kMessage) ⟨none, 0, none, 0, rfl, Nat.le_refl _, by omega, RS.nil, Nat.le_refl _, by omega, RS.nil⟩) (by simp)).mono fun k hk => hk.resolve_left id
          have hba8 : Below w5.heap.size w5 (w5.alloc (.cells #[.int .i64 4, .int .i64 s.id, .int .i64 m.From, .int .i64 s.term, .int .i64 0, .int .i64 0, .slice none 0 0, .int .i64 0, .bool false, .int .i64 0, .slice none 0 0] 34)) := (Below.refl _ _).alloc (Nat.le_refl _) _
          have hs9 : w.heap.size ≤ w5.heap.size := hk7.size
          go_ret
          refine ⟨_, rfl, hO.mono fun k hk => by have : k = w5.heap.size := hk; exact ⟨by omega, by simp; omega⟩, ⟨lb5, p5, As5, cs5, vy5, vn5, vm5, hR7.below hba8, fun i k hk => .inl (HR.out.2.1 i k hk)⟩, hk7.then_below hba8⟩
        · skip
          replace hlets : Hid (s.lets m = true) := hlets.out
          go_quiet ((go_at_call 53; exact Calls.quiet_of (HG.out _ (drawn_below _ _))))
          have hb5 : Below w1.heap.size w1 (w4.drewN nq) := hb4.trans ((drawn_below w4 nq).mono hb4.size)
          have r5 : (w4.drewN nq).heap[g]? = some (.cells #[.int .i64 4, .int .i64 s.id, .int .i64 m.From, .int .i64 s.term, .int .i64 0, .int .i64 0, .slice none 0 0, .int .i64 0, .bool false, .int .i64 0, .slice none 0 0] 34 (0, 0)) := r1
          have hlg5 : g < (w4.drewN nq).heap.size := hlg
          have b1 : (w4.drewN nq).cell? ⟨ba, 1, none⟩ = some (.int .i64 m.From) := b1
          have hlb5 : ba < (w4.drewN nq).heap.size := hlb
          have hlt5 : rb < (w4.drewN nq).heap.size := hlt4
          clear c3 b4 b5 hlg hlb hlt4 r1 HG HA4 hv0 hm4
          generalize w4.drewN nq = w5 at hb5 r5 hlg5 b1 hlb5 hlt5 ⊢
          obtain ⟨a0, a1, a2, a3, a4, a5, a6, a7, a8, a9, a10, e0, e1, e2, e3, e4, e5, e6, e7, e8, e9, e10⟩ := box11 r5
          obtain ⟨lb5, p5, As5, cs5, vy5, vn5, vm5, hR0, hF0⟩ := Hw.out.1
          have hR5 := hR0.below (hbw.trans (hb5.mono hbw.size))
          obtain ⟨-, -, -, x3, -, -, -, -, x8, -, -, -, -, -, hfz, -⟩ := hR5.facts
          have f3 := hfz 3
          have f8 := hfz 8
          have hbaE := hba.out
          have hgrb : ¬ g = rb := fun e => by have := hR0.rlt; have := hbw.size; omega
          have hrbg : ¬ rb = g := fun e => hgrb e.symm
          have hbarb : ¬ ba = rb := fun e => by have := hR0.rlt; omega
          have hrbba : ¬ rb = ba := fun e => hbarb e.symm
          have HR := Lib.hid (And.intro hR0 (And.intro hF0 hR5))
          clear hR0 hF0 hR5 hfz hbaE
          go_wp2
          have hR6 := (HR.out.2.2.set_vote m.From).set_clock 0
          have h8 : (((w5.setCell ⟨rb, 3, none⟩ (.int .i64 m.From)).setCell ⟨rb, 8, none⟩ (.int .i64 0)).setCell ⟨g, 8, none⟩ (.bool true)).heap.size = w5.heap.size := by simp
          have hR7 : RaftIn (((w5.setCell ⟨rb, 3, none⟩ (.int .i64 m.From)).setCell ⟨rb, 8, none⟩ (.int .i64 0)).setCell ⟨g, 8, none⟩ (.bool true)) rb lb5 p5 As5 cs5 vy5 vn5 vm5 { s with vote := m.From, clock := 0 } := hR6.keep (by simp) fun i k hk => Below.heap_setCell _ ⟨g, 8, none⟩ _ k (by have := HR.out.1.lt i k hk; have := hbw.size; show k ≠ g; omega)
          have hk7 : Keeps F w (((w5.setCell ⟨rb, 3, none⟩ (.int .i64 m.From)).setCell ⟨rb, 8, none⟩ (.int .i64 0)).setCell ⟨g, 8, none⟩ (.bool true)) := ((((Keeps.refl F w).then_below (hbw.trans (hb5.mono hbw.size))).setCell (p := ⟨rb, 3, none⟩) (fun _ => hrw) _).setCell (p := ⟨rb, 8, none⟩) (fun _ => hrw) _).setCell (p := ⟨g, 8, none⟩) (fun hl => by have h1 : g < w.heap.size := hl; have := hbw.size; omega) _
          have hsv : s.voteS m = { s with vote := m.From, clock := 0 } := if_pos hlets.out
          have hsm : s.voteM m = ⟨4, s.id, m.From, s.term, 0, 0, [], 0, true, 0, []⟩ := by unfold RaftS.voteM; rw [hlets.out]; rfl
          rw [hsv, hsm]
          generalize ((w5.setCell ⟨rb, 3, none⟩ (.int .i64 m.From)).setCell ⟨rb, 8, none⟩ (.int .i64 0)).setCell ⟨g, 8, none⟩ (.bool true) = w7 at h8 hR7 hk7 ⊢
          have hO : OwnS kMessage 34 (w7.alloc (.cells #[.int .i64 4, .int .i64 s.id, .int .i64 m.From, .int .i64 s.term, .int .i64 0, .int .i64 0, .slice none 0 0, .int .i64 0, .bool true, .int .i64 0, .slice none 0 0] 34)) (fun k => k = w7.heap.size) (.slice (some ⟨w7.heap.size, 0, none⟩) 1 1) [⟨4, s.id, m.From, s.term, 0, 0, [], 0, true, 0, []⟩] :=
            (OwnS.lit w7 (F := NoF) (xs := [⟨4, s.id, m.From, s.term, 0, 0, [], 0, true, 0, []⟩]) (Elems.single (K := kMessage) ⟨none, 0, none, 0, rfl, Nat.le_refl _, by omega, RS.nil, Nat.le_refl _, by omega, RS.nil⟩) (by simp)).mono fun k hk => hk.resolve_left id
          rw [h8] at hO
          have hba8 : Below w7.heap.size w7 (w7.alloc (.cells #[.int .i64 4, .int .i64 s.id, .int .i64 m.From, .int .i64 s.term, .int .i64 0, .int .i64 0, .slice none 0 0, .int .i64 0, .bool true, .int .i64 0, .slice none 0 0] 34)) := (Below.refl _ _).alloc (Nat.le_refl _) _
          have hs9 : w.heap.size ≤ w7.heap.size := hk7.size
          go_ret
          refine ⟨_, rfl, hO.mono fun k hk => by have : k = w5.heap.size := hk; exact ⟨by omega, by simp; omega⟩, ⟨lb5, p5, As5, cs5, vy5, vn5, vm5, hR7.below hba8, fun i k hk => .inl (HR.out.2.1 i k hk)⟩, hk7.then_below hba8⟩
    · cases gd
      · have hl : Hid (s.lets m = false) := by show s.lets m = false; rw [hlets.out]; cases v1 <;> rfl
        replace hlets := hl
        go_quiet ((go_at_call 53; exact Calls.quiet_of (HG.out _ (drawn_below _ _))))
        have hb5 : Below w1.heap.size w1 (w4.drewN nq) := hb4.trans ((drawn_below w4 nq).mono hb4.size)
        have r5 : (w4.drewN nq).heap[g]? = some (.cells #[.int .i64 4, .int .i64 s.id, .int .i64 m.From, .int .i64 s.term, .int .i64 0, .int .i64 0, .slice none 0 0, .int .i64 0, .bool false, .int .i64 0, .slice none 0 0] 34 (0, 0)) := r1
        have hlg5 : g < (w4.drewN nq).heap.size := hlg
        have b1 : (w4.drewN nq).cell? ⟨ba, 1, none⟩ = some (.int .i64 m.From) := b1
        have hlb5 : ba < (w4.drewN nq).heap.size := hlb
        have hlt5 : rb < (w4.drewN nq).heap.size := hlt4
        clear c3 b4 b5 hlg hlb hlt4 r1 HG HA4 hv0 hm4
        generalize w4.drewN nq = w5 at hb5 r5 hlg5 b1 hlb5 hlt5 ⊢
        obtain ⟨a0, a1, a2, a3, a4, a5, a6, a7, a8, a9, a10, e0, e1, e2, e3, e4, e5, e6, e7, e8, e9, e10⟩ := box11 r5
        obtain ⟨lb5, p5, As5, cs5, vy5, vn5, vm5, hR0, hF0⟩ := Hw.out.1
        have hR5 := hR0.below (hbw.trans (hb5.mono hbw.size))
        obtain ⟨-, -, -, x3, -, -, -, -, x8, -, -, -, -, -, hfz, -⟩ := hR5.facts
        have f3 := hfz 3
        have f8 := hfz 8
        have hbaE := hba.out
        have hgrb : ¬ g = rb := fun e => by have := hR0.rlt; have := hbw.size; omega
        have hrbg : ¬ rb = g := fun e => hgrb e.symm
        have hbarb : ¬ ba = rb := fun e => by have := hR0.rlt; omega
        have hrbba : ¬ rb = ba := fun e => hbarb e.symm
        have HR := Lib.hid (And.intro hR0 (And.intro hF0 hR5))
        clear hR0 hF0 hR5 hfz hbaE
        go_wp2
        have hR7 := HR.out.2.2
        have hk7 : Keeps F w w5 := (Keeps.refl F w).then_below (hbw.trans (hb5.mono hbw.size))
        have hsv : s.voteS m = s := if_neg (by rw [hlets.out]; decide)
        have hsm : s.voteM m = ⟨4, s.id, m.From, s.term, 0, 0, [], 0, false, 0, []⟩ := by unfold RaftS.voteM; rw [hlets.out]; rfl
        rw [hsv, hsm]
        have hO : OwnS kMessage 34 (w5.alloc (.cells #[.int .i64 4, .int .i64 s.id, .int .i64 m.From, .int .i64 s.term, .int .i64 0, .int .i64 0, .slice none 0 0, .int .i64 0, .bool false, .int .i64 0, .slice none 0 0] 34)) (fun k => k = w5.heap.size) (.slice (some ⟨w5.heap.size, 0, none⟩) 1 1) [⟨4, s.id, m.From, s.term, 0, 0, [], 0, false, 0, []⟩] :=
          (OwnS.lit w5 (F := NoF) (xs := [⟨4, s.id, m.From, s.term, 0, 0, [], 0, false, 0, []⟩]) (Elems.single (K := kMessage) ⟨none, 0, none, 0, rfl, Nat.le_refl _, by omega, RS.nil, Nat.le_refl _, by omega, RS.nil⟩) (by simp)).mono fun k hk => hk.resolve_left id
        have hba8 : Below w5.heap.size w5 (w5.alloc (.cells #[.int .i64 4, .int .i64 s.id, .int .i64 m.From, .int .i64 s.term, .int .i64 0, .int .i64 0, .slice none 0 0, .int .i64 0, .bool false, .int .i64 0, .slice none 0 0] 34)) := (Below.refl _ _).alloc (Nat.le_refl _) _
        have hs9 : w.heap.size ≤ w5.heap.size := hk7.size
        go_ret
        refine ⟨_, rfl, hO.mono fun k hk => by have : k = w5.heap.size := hk; exact ⟨by omega, by simp; omega⟩, ⟨lb5, p5, As5, cs5, vy5, vn5, vm5, hR7.below hba8, fun i k hk => .inl (HR.out.2.1 i k hk)⟩, hk7.then_below hba8⟩
      · have hl : Hid (s.lets m = true) := by show s.lets m = true; rw [hlets.out]; cases v1 <;> rfl
        replace hlets := hl
        go_quiet ((go_at_call 53; exact Calls.quiet_of (HG.out _ (drawn_below _ _))))
        have hb5 : Below w1.heap.size w1 (w4.drewN nq) := hb4.trans ((drawn_below w4 nq).mono hb4.size)
        have r5 : (w4.drewN nq).heap[g]? = some (.cells #[.int .i64 4, .int .i64 s.id, .int .i64 m.From, .int .i64 s.term, .int .i64 0, .int .i64 0, .slice none 0 0, .int .i64 0, .bool false, .int .i64 0, .slice none 0 0] 34 (0, 0)) := r1
        have hlg5 : g < (w4.drewN nq).heap.size := hlg
        have b1 : (w4.drewN nq).cell? ⟨ba, 1, none⟩ = some (.int .i64 m.From) := b1
        have hlb5 : ba < (w4.drewN nq).heap.size := hlb
        have hlt5 : rb < (w4.drewN nq).heap.size := hlt4
        clear c3 b4 b5 hlg hlb hlt4 r1 HG HA4 hv0 hm4
        generalize w4.drewN nq = w5 at hb5 r5 hlg5 b1 hlb5 hlt5 ⊢
        obtain ⟨a0, a1, a2, a3, a4, a5, a6, a7, a8, a9, a10, e0, e1, e2, e3, e4, e5, e6, e7, e8, e9, e10⟩ := box11 r5
        obtain ⟨lb5, p5, As5, cs5, vy5, vn5, vm5, hR0, hF0⟩ := Hw.out.1
        have hR5 := hR0.below (hbw.trans (hb5.mono hbw.size))
        obtain ⟨-, -, -, x3, -, -, -, -, x8, -, -, -, -, -, hfz, -⟩ := hR5.facts
        have f3 := hfz 3
        have f8 := hfz 8
        have hbaE := hba.out
        have hgrb : ¬ g = rb := fun e => by have := hR0.rlt; have := hbw.size; omega
        have hrbg : ¬ rb = g := fun e => hgrb e.symm
        have hbarb : ¬ ba = rb := fun e => by have := hR0.rlt; omega
        have hrbba : ¬ rb = ba := fun e => hbarb e.symm
        have HR := Lib.hid (And.intro hR0 (And.intro hF0 hR5))
        clear hR0 hF0 hR5 hfz hbaE
        go_wp2
        have hR6 := (HR.out.2.2.set_vote m.From).set_clock 0
        have h8 : (((w5.setCell ⟨rb, 3, none⟩ (.int .i64 m.From)).setCell ⟨rb, 8, none⟩ (.int .i64 0)).setCell ⟨g, 8, none⟩ (.bool true)).heap.size = w5.heap.size := by simp
        have hR7 : RaftIn (((w5.setCell ⟨rb, 3, none⟩ (.int .i64 m.From)).setCell ⟨rb, 8, none⟩ (.int .i64 0)).setCell ⟨g, 8, none⟩ (.bool true)) rb lb5 p5 As5 cs5 vy5 vn5 vm5 { s with vote := m.From, clock := 0 } := hR6.keep (by simp) fun i k hk => Below.heap_setCell _ ⟨g, 8, none⟩ _ k (by have := HR.out.1.lt i k hk; have := hbw.size; show k ≠ g; omega)
        have hk7 : Keeps F w (((w5.setCell ⟨rb, 3, none⟩ (.int .i64 m.From)).setCell ⟨rb, 8, none⟩ (.int .i64 0)).setCell ⟨g, 8, none⟩ (.bool true)) := ((((Keeps.refl F w).then_below (hbw.trans (hb5.mono hbw.size))).setCell (p := ⟨rb, 3, none⟩) (fun _ => hrw) _).setCell (p := ⟨rb, 8, none⟩) (fun _ => hrw) _).setCell (p := ⟨g, 8, none⟩) (fun hl => by have h1 : g < w.heap.size := hl; have := hbw.size; omega) _
        have hsv : s.voteS m = { s with vote := m.From, clock := 0 } := if_pos hlets.out
        have hsm : s.voteM m = ⟨4, s.id, m.From, s.term, 0, 0, [], 0, true, 0, []⟩ := by unfold RaftS.voteM; rw [hlets.out]; rfl
        rw [hsv, hsm]
        generalize ((w5.setCell ⟨rb, 3, none⟩ (.int .i64 m.From)).setCell ⟨rb, 8, none⟩ (.int .i64 0)).setCell ⟨g, 8, none⟩ (.bool true) = w7 at h8 hR7 hk7 ⊢
        have hO : OwnS kMessage 34 (w7.alloc (.cells #[.int .i64 4, .int .i64 s.id, .int .i64 m.From, .int .i64 s.term, .int .i64 0, .int .i64 0, .slice none 0 0, .int .i64 0, .bool true, .int .i64 0, .slice none 0 0] 34)) (fun k => k = w7.heap.size) (.slice (some ⟨w7.heap.size, 0, none⟩) 1 1) [⟨4, s.id, m.From, s.term, 0, 0, [], 0, true, 0, []⟩] :=
          (OwnS.lit w7 (F := NoF) (xs := [⟨4, s.id, m.From, s.term, 0, 0, [], 0, true, 0, []⟩]) (Elems.single (K := kMessage) ⟨none, 0, none, 0, rfl, Nat.le_refl _, by omega, RS.nil, Nat.le_refl _, by omega, RS.nil⟩) (by simp)).mono fun k hk => hk.resolve_left id
        rw [h8] at hO
        have hba8 : Below w7.heap.size w7 (w7.alloc (.cells #[.int .i64 4, .int .i64 s.id, .int .i64 m.From, .int .i64 s.term, .int .i64 0, .int .i64 0, .slice none 0 0, .int .i64 0, .bool true, .int .i64 0, .slice none 0 0] 34)) := (Below.refl _ _).alloc (Nat.le_refl _) _
        have hs9 : w.heap.size ≤ w7.heap.size := hk7.size
        go_ret
        refine ⟨_, rfl, hO.mono fun k hk => by have : k = w5.heap.size := hk; exact ⟨by omega, by simp; omega⟩, ⟨lb5, p5, As5, cs5, vy5, vn5, vm5, hR7.below hba8, fun i k hk => .inl (HR.out.2.1 i k hk)⟩, hk7.then_below hba8⟩
end Go.Proofs.Ytikpbhhnllchmaa
