/- raft.stand, ask, Tick. -/
import Derived.Test.YtikpbhhnllchmaaRF8
set_option linter.unusedVariables false
set_option linter.unusedSimpArgs false
namespace Go.Proofs.Ytikpbhhnllchmaa
open Go.RowKit
attribute [local go_sem] Same.cell Same.frozen

theorem MsgsStep.after {w w1 w2 : World} {rb : Nat} {F : Foot} {s1 s2 : RaftS} {e : Ending} (h1 : RStep w rb F s1 w1) (h2 : MsgsStep w1 rb (Grow F w w1) s2 e w2) : MsgsStep w rb F s2 e w2 := by
  obtain ⟨v, ms, he, hO, hst⟩ := h2
  have := h1.size
  exact ⟨v, ms, he, hO.mono fun k hk => ⟨by have := hk.1; omega, hk.2⟩, h1.trans hst⟩
theorem MsgsStep.sent {w w1 w2 : World} {rb : Nat} {F : Foot} {s1 : RaftS} {e : Ending} (h1 : RStep w rb F s1 w1) (h2 : MsgsPost w1 e w2) : MsgsStep w rb F s1 e w2 := by
  obtain ⟨v, ms, he, hO, hb⟩ := h2
  have := h1.size
  exact ⟨v, ms, he, hO.mono fun k hk => ⟨by have := hk.1; omega, hk.2⟩, h1.thenBelow hb⟩
theorem MsgsStep.none {w w1 : World} {rb : Nat} {F : Foot} {s1 : RaftS} (h1 : RStep w rb F s1 w1) : MsgsStep w rb F s1 (.returned (.slice none 0 0)) w1 := ⟨_, [], rfl, OwnS.nil, h1⟩
theorem RStep.after' {w w1 w2 : World} {rb : Nat} {F : Foot} {s1 s2 : RaftS} {e : Ending} (h1 : RStep w rb F s1 w1) (h2 : MsgsStep w1 rb (Grow F w w1) s2 e w2) : MsgsStep w rb F s2 e w2 := MsgsStep.after h1 h2
theorem RStep.sent' {w w1 w2 : World} {rb : Nat} {F : Foot} {s1 : RaftS} {e : Ending} (h1 : RStep w rb F s1 w1) (h2 : MsgsPost w1 e w2) : MsgsStep w rb F s1 e w2 := MsgsStep.sent h1 h2
/-- Two cells of the node set. -/
theorem RStep.cells2 {w w1 : World} {rb : Nat} {F : Foot} {s1 s2 : RaftS} (h1 : RStep w rb F s1 w1) (hr : F rb) (i j : Nat) (u v : Value)
    (h : ∀ lb p As cs vy vn vm, RaftIn w1 rb lb p As cs vy vn vm s1 → RaftIn ((w1.setCell ⟨rb, i, none⟩ u).setCell ⟨rb, j, none⟩ v) rb lb p As cs vy vn vm s2) : RStep w rb F s2 ((w1.setCell ⟨rb, i, none⟩ u).setCell ⟨rb, j, none⟩ v) := by
  obtain ⟨lb, p, As, cs, vy, vn, vm, hR, hF⟩ := h1.at_
  have hs : ((w1.setCell ⟨rb, i, none⟩ u).setCell ⟨rb, j, none⟩ v).heap.size = w1.heap.size := by simp
  exact ⟨⟨lb, p, As, cs, vy, vn, vm, h _ _ _ _ _ _ _ hR, fun q k hk => (hF q k hk).imp id fun hk => ⟨hk.1, by rw [hs]; exact hk.2⟩⟩, (h1.keeps.setCell (p := ⟨rb, i, none⟩) (fun _ => hr) _).setCell (p := ⟨rb, j, none⟩) (fun _ => hr) _⟩
theorem RStep.cells1 {w w1 : World} {rb : Nat} {F : Foot} {s1 s2 : RaftS} (h1 : RStep w rb F s1 w1) (hr : F rb) (i : Nat) (u : Value)
    (h : ∀ lb p As cs vy vn vm, RaftIn w1 rb lb p As cs vy vn vm s1 → RaftIn (w1.setCell ⟨rb, i, none⟩ u) rb lb p As cs vy vn vm s2) : RStep w rb F s2 (w1.setCell ⟨rb, i, none⟩ u) := by
  obtain ⟨lb, p, As, cs, vy, vn, vm, hR, hF⟩ := h1.at_
  have hs : (w1.setCell ⟨rb, i, none⟩ u).heap.size = w1.heap.size := by simp
  exact ⟨⟨lb, p, As, cs, vy, vn, vm, h _ _ _ _ _ _ _ hR, fun q k hk => (hF q k hk).imp id fun hk => ⟨hk.1, by rw [hs]; exact hk.2⟩⟩, h1.keeps.setCell (p := ⟨rb, i, none⟩) (fun _ => hr) _⟩
def RaftS.stood (s : RaftS) : RaftS := { s.begin 2 with term := s.term + 1, vote := s.id }
def RaftS.standS (s : RaftS) : RaftS := if s.stood.most = true then s.stood.leadS else s.stood
theorem RaftS.begin_len (s : RaftS) (r : Int) (ok : s.Ok) : (s.begin r).yes.length ≤ 1000 := by
  have := ok.n7
  show ((List.replicate (s.n + 1).toNat false).set s.id.toNat true).length ≤ 1000
  rw [List.length_set, List.length_replicate]
  omega
theorem RaftS.begin_ok (s : RaftS) (r : Int) (ok : s.Ok) : (s.begin r).Ok := ⟨ok.i1, ok.i2, ok.n7, ok.t0, ok.t1, Int.le_refl 0, by show (0 : Int) ≤ _; omega, ok.log⟩

set_option maxHeartbeats 4000000 in
set_option maxRecDepth 100000 in
theorem stand_any (w : World) (rb : Nat) (F : Foot) (s : RaftS) (h : RaftAt w rb F s) (ok : s.Ok) (hsn : s.snap.length ≤ 1000000000000) (hll : s.log.l.length < 1000000000) (ht : s.term + 1 ≤ 1152921504606846976) :
    Calls Try.prog 51 #[.pointer (some ⟨rb, 0, none⟩)] w (MsgsStep w rb F s.standS) := by
  have HB := Lib.hid (begin_any w rb F s 2 h ok)
  have hr := h.fr
  have Hok := Lib.hid (And.intro ok (And.intro hsn (And.intro hll ht)))
  have hw : wrap64 (s.term + 1) = s.term + 1 := by have := ok.t0; unfold wrap64; omega
  clear h ok hsn hll ht
  go_enter Try.func51, Try.ntmps51
  go_wp2_with fail
  refine HB.out.mono ?_
  rintro e w1 ⟨rfl, hst1⟩
  have hst3 := Lib.hid (hst1.cells2 (s2 := s.stood) hr 2 3 (.int .i64 (s.term + 1)) (.int .i64 s.id) fun lb p As cs vy vn vm h => (h.set_term (s.term + 1)).set_vote s.id)
  obtain ⟨lb, p, As, cs, vy, vn, vm, hR, -⟩ := hst1.at_
  obtain ⟨c0, c1, c2, c3, c4, c5, c6, c7, c8, c9, c10, c11, c12, c13, hfz, hlt⟩ := hR.facts
  have f2 := hfz 2
  have f3 := hfz 3
  replace c0 : w1.cell? ⟨rb, 0, none⟩ = some (.int .i64 s.id) := c0
  replace c2 : w1.cell? ⟨rb, 2, none⟩ = some (.int .i64 s.term) := c2
  clear hst1 hR hfz HB
  go_wp2_with fail
  generalize (w1.setCell ⟨rb, 2, none⟩ (.int .i64 (s.term + 1))).setCell ⟨rb, 3, none⟩ (.int .i64 s.id) = w3 at hst3 ⊢
  clear c0 c1 c2 c3 c4 c5 c6 c7 c8 c9 c10 c11 c12 c13 f2 f3 hlt
  have hok3 : s.stood.Ok := ⟨Hok.out.1.i1, Hok.out.1.i2, Hok.out.1.n7, by have := Hok.out.1.t0; show 0 ≤ s.term + 1; omega, Hok.out.2.2.2, Int.le_refl 0, by show (0 : Int) ≤ _; omega, Hok.out.1.log⟩
  have HM := Lib.hid (most_any w3 rb _ _ hst3.out.at_ (s.begin_len 2 Hok.out.1) (by have h1 := Hok.out.1.i1; have h2 := Hok.out.1.i2; have h3 := Hok.out.1.n7; show 0 ≤ s.n ∧ s.n ≤ 1000; omega))
  refine HM.out.mono ?_
  rintro e w' ⟨rfl, hw'⟩
  rw [hw']
  clear hw' w'
  have Hok3 := Lib.hid hok3
  clear hok3 HM
  by_cases hm : s.stood.most = true
  · have HLd := Lib.hid (lead_any w3 rb _ _ hst3.out.at_ Hok3.out Hok.out.2.1 Hok.out.2.2.1)
    have he : Hid (s.standS = s.stood.leadS) := if_pos hm
    rw [hm]
    go_wp2_with fail
    refine HLd.out.mono ?_
    rintro e w4 hM
    obtain ⟨v, ms, rfl, hQ⟩ := hst3.out.after' hM
    go_wp2
    go_ret
    rw [he.out]
    exact ⟨v, ms, rfl, hQ⟩
  · have hm : s.stood.most = false := by simpa using hm
    have HAb := Lib.hid (about_any w3 rb _ s.stood 3 (s.term + 1) hst3.out.at_ Hok3.out)
    have he : Hid (s.standS = s.stood) := if_neg (by rw [hm]; decide)
    obtain ⟨lb, p, As, cs, vy, vn, vm, hR, -⟩ := hst3.out.at_
    obtain ⟨c0, c1, c2, c3, c4, c5, c6, c7, c8, c9, c10, c11, c12, c13, hfz, hlt⟩ := hR.facts
    replace c2 : w3.cell? ⟨rb, 2, none⟩ = some (.int .i64 (s.term + 1)) := c2
    clear hR hfz c0 c1 c3 c4 c5 c6 c7 c8 c9 c10 c11 c12 c13
    rw [hm]
    go_wp2_with fail
    refine HAb.out.mono ?_
    rintro e w4 hM
    obtain ⟨v, ms, rfl, hQ⟩ := hst3.out.sent' hM
    go_wp2
    go_ret
    rw [he.out]
    exact ⟨v, ms, rfl, hQ⟩

def RaftS.askS (s : RaftS) : RaftS := if (s.begin 1).most = true then (s.begin 1).standS else s.begin 1
set_option maxHeartbeats 4000000 in
set_option maxRecDepth 100000 in
theorem ask_any (w : World) (rb : Nat) (F : Foot) (s : RaftS) (h : RaftAt w rb F s) (ok : s.Ok) (hsn : s.snap.length ≤ 1000000000000) (hll : s.log.l.length < 1000000000) (ht : s.term + 1 ≤ 1152921504606846976) :
    Calls Try.prog 27 #[.pointer (some ⟨rb, 0, none⟩)] w (MsgsStep w rb F s.askS) := by
  have HB := Lib.hid (begin_any w rb F s 1 h ok)
  have Hok := Lib.hid (And.intro ok (And.intro hsn (And.intro hll ht)))
  have hw : wrap64 (s.term + 1) = s.term + 1 := by have := ok.t0; unfold wrap64; omega
  clear h ok hsn hll ht
  go_enter Try.func27, Try.ntmps27
  go_wp2_with fail
  refine HB.out.mono ?_
  rintro e w1 ⟨rfl, hst1⟩
  have hst3 := Lib.hid hst1
  clear hst1 HB
  go_wp2_with fail
  refine (most_any w1 rb _ _ hst3.out.at_ (s.begin_len 1 Hok.out.1) (by have h1 := Hok.out.1.i1; have h2 := Hok.out.1.i2; have h3 := Hok.out.1.n7; show 0 ≤ s.n ∧ s.n ≤ 1000; omega)).mono ?_
  rintro e w' ⟨rfl, hw'⟩
  rw [hw']
  clear hw' w'
  by_cases hm : (s.begin 1).most = true
  · have HLd := Lib.hid (stand_any w1 rb _ _ hst3.out.at_ (s.begin_ok 1 Hok.out.1) Hok.out.2.1 Hok.out.2.2.1 Hok.out.2.2.2)
    have he : Hid (s.askS = (s.begin 1).standS) := if_pos hm
    rw [hm]
    go_wp2_with fail
    refine HLd.out.mono ?_
    rintro e w4 hM
    obtain ⟨v, ms, rfl, hQ⟩ := hst3.out.after' hM
    go_wp2
    go_ret
    rw [he.out]
    exact ⟨v, ms, rfl, hQ⟩
  · have hm : (s.begin 1).most = false := by simpa using hm
    have HAb := Lib.hid (about_any w1 rb _ (s.begin 1) 1 (s.term + 1) hst3.out.at_ (s.begin_ok 1 Hok.out.1))
    have he : Hid (s.askS = s.begin 1) := if_neg (by rw [hm]; decide)
    obtain ⟨lb, p, As, cs, vy, vn, vm, hR, -⟩ := hst3.out.at_
    obtain ⟨c0, c1, c2, c3, c4, c5, c6, c7, c8, c9, c10, c11, c12, c13, hfz, hlt⟩ := hR.facts
    replace c2 : w1.cell? ⟨rb, 2, none⟩ = some (.int .i64 s.term) := c2
    clear hR hfz c0 c1 c3 c4 c5 c6 c7 c8 c9 c10 c11 c12 c13
    rw [hm]
    go_wp2_with fail
    refine HAb.out.mono ?_
    rintro e w4 hM
    obtain ⟨v, ms, rfl, hQ⟩ := hst3.out.sent' hM
    go_wp2
    go_ret
    rw [he.out]
    exact ⟨v, ms, rfl, hQ⟩

def RaftS.tickS (s : RaftS) : RaftS :=
  if s.role = 3 then (if 2 ≤ s.clock + 1 then { s with clock := 0 } else { s with clock := s.clock + 1 })
  else if s.patience ≤ s.clock + 1 then RaftS.askS { s with clock := s.clock + 1 } else { s with clock := s.clock + 1 }
set_option maxHeartbeats 4000000 in
set_option maxRecDepth 100000 in
theorem Tick_any (w : World) (rb : Nat) (F : Foot) (s : RaftS) (h : RaftAt w rb F s) (ok : s.Ok) (hl : s.role = 3 → s.Lead) (hsn : s.snap.length ≤ 1000000000000) (hll : s.log.l.length < 1000000000) (ht : s.term + 1 ≤ 1152921504606846976) (hc : s.clock < 1152921504606846976) :
    Calls Try.prog 13 #[.pointer (some ⟨rb, 0, none⟩)] w (MsgsStep w rb F s.tickS) := by
  have hst1 := Lib.hid ((RStep.refl h).cells1 (s2 := { s with clock := s.clock + 1 }) h.fr 8 (.int .i64 (s.clock + 1)) fun lb p As cs vy vn vm h => h.set_clock (s.clock + 1))
  have hr := h.fr
  have Hok := Lib.hid (And.intro ok (And.intro hsn (And.intro hll (And.intro ht hl))))
  have hk0 := ok.k0
  have hw : wrap64 (s.clock + 1) = s.clock + 1 := by unfold wrap64; omega
  obtain ⟨lb, p, As, cs, vy, vn, vm, hR, -⟩ := h
  obtain ⟨c0, c1, c2, c3, c4, c5, c6, c7, c8, c9, c10, c11, c12, c13, hfz, hlt⟩ := hR.facts
  have f8 := hfz 8
  have hok2 : Hid (RaftS.Ok { s with clock := s.clock + 1 }) := ⟨ok.i1, ok.i2, ok.n7, ok.t0, ok.t1, by show 0 ≤ s.clock + 1; omega, by show s.clock + 1 ≤ _; omega, ok.log⟩
  have hm1 : ∀ (fn : Fn) (first cap : Array Value) (w : World), (Instr.makeFunc fn first cap).run Try.prog w = .ok (.func fn first cap) w := fun _ _ _ _ => rfl
  clear ok hl hsn hll ht hR hfz
  by_cases h3 : s.role = 3
  · rw [h3] at c4
    by_cases h2 : 2 ≤ s.clock + 1
    · have he : Hid (s.tickS = { s with clock := 0 }) := by show _ = _; unfold RaftS.tickS; rw [if_pos h3, if_pos h2]
      have hst2 := Lib.hid (hst1.out.cells1 (s2 := { s with clock := 0 }) hr 8 (.int .i64 0) fun lb p As cs vy vn vm h => h.set_clock 0)
      have HS := Lib.hid (sendAll_any _ rb _ _ hst2.out.at_ ⟨Hok.out.1.i1, Hok.out.1.i2, Hok.out.1.n7, Hok.out.1.t0, Hok.out.1.t1, Int.le_refl 0, by show (0 : Int) ≤ _; omega, Hok.out.1.log⟩ ⟨(Hok.out.2.2.2.2 h3).nlen, (Hok.out.2.2.2.2 h3).mlen, (Hok.out.2.2.2.2 h3).nx, (Hok.out.2.2.2.2 h3).snap⟩)
      clear h3
      go_enter Try.func13, Try.ntmps13
      go_wp2_with fail
      refine HS.out.mono ?_
      rintro e w4 hM
      obtain ⟨v, ms, rfl, hQ⟩ := hst2.out.sent' hM
      go_wp2
      go_ret
      rw [he.out]
      exact ⟨v, ms, rfl, hQ⟩
    · have he : Hid (s.tickS = { s with clock := s.clock + 1 }) := by show _ = _; unfold RaftS.tickS; rw [if_pos h3, if_neg h2]
      have h3 := Lib.hid h3
      go_enter Try.func13, Try.ntmps13
      go_wp2_with fail
      generalize w.setCell ⟨rb, 8, none⟩ (.int .i64 (s.clock + 1)) = w2 at hst1 ⊢
      clear c0 c1 c2 c3 c4 c5 c6 c7 c8 c9 c10 c11 c12 c13 f8 hlt
      obtain ⟨lb2, p2, As2, cs2, vy2, vn2, vm2, hR2, -⟩ := hst1.out.at_
      obtain ⟨-, -, -, -, c4, -, -, -, c8, -, -, -, -, -, -, hlt2⟩ := hR2.facts
      clear hR2
      replace c4 : w2.cell? ⟨rb, 4, none⟩ = some (.int .i64 3) := by rw [c4]; show some (Value.int .i64 s.role) = _; rw [h3.out]
      replace c8 : w2.cell? ⟨rb, 8, none⟩ = some (.int .i64 (s.clock + 1)) := c8
      go_quiet (fail)
      go_wp2
      go_ret
      rw [he.out]
      exact ⟨_, [], rfl, OwnS.nil, hst1.out.thenBelow (drawn_below _ _)⟩
  · have e1 : (s.role == 3) = false := by rw [beq_eq_false_iff_ne]; exact h3
    have e2 : (s.role != 3) = true := by rw [bne_iff_ne]; exact h3
    obtain ⟨T, hT⟩ : ∃ T, Hid (s.patience = T) := ⟨_, rfl⟩
    have HP := Lib.hid (fun w1 (hb : Below (w.setCell ⟨rb, 8, none⟩ (.int .i64 (s.clock + 1))).heap.size (w.setCell ⟨rb, 8, none⟩ (.int .i64 (s.clock + 1))) w1) => patience_any w1 rb _ _ (hst1.out.at_.below hb) hok2.out)
    by_cases h2 : T ≤ s.clock + 1
    · have he : Hid (s.tickS = RaftS.askS { s with clock := s.clock + 1 }) := by show _ = _; unfold RaftS.tickS; rw [if_neg h3, hT.out, if_pos h2]
      clear h3
      go_enter Try.func13, Try.ntmps13
      go_wp2_with fail
      generalize w.setCell ⟨rb, 8, none⟩ (.int .i64 (s.clock + 1)) = w2 at hst1 HP ⊢
      clear c0 c1 c2 c3 c4 c5 c6 c7 c8 c9 c10 c11 c12 c13 f8 hlt
      obtain ⟨lb2, p2, As2, cs2, vy2, vn2, vm2, hR2, -⟩ := hst1.out.at_
      obtain ⟨-, -, -, -, c4, -, -, -, c8, -, -, -, -, -, -, hlt2⟩ := hR2.facts
      clear hR2
      replace c4 : w2.cell? ⟨rb, 4, none⟩ = some (.int .i64 s.role) := c4
      replace c8 : w2.cell? ⟨rb, 8, none⟩ = some (.int .i64 (s.clock + 1)) := c8
      have hpt : RaftS.patience { s with clock := s.clock + 1 } = T := hT.out
      rw [hpt] at HP
      go_quiet ((go_at_call 26; exact Calls.quiet_of (HP.out _ (drawn_below _ _))))
      have hst2 := Lib.hid (hst1.out.thenBelow (drawn_below w2 nq))
      generalize w2.drewN nq = w3 at hst2 ⊢
      have HAs := Lib.hid (ask_any w3 rb _ _ hst2.out.at_ hok2.out Hok.out.2.1 Hok.out.2.2.1 Hok.out.2.2.2.1)
      clear hpt hT HP c4 c8
      go_wp2_with fail
      refine HAs.out.mono ?_
      rintro e w4 hM
      obtain ⟨v, ms, rfl, hQ⟩ := hst2.out.after' hM
      go_wp2
      go_ret
      rw [he.out]
      exact ⟨v, ms, rfl, hQ⟩
    · have he : Hid (s.tickS = { s with clock := s.clock + 1 }) := by show _ = _; unfold RaftS.tickS; rw [if_neg h3, hT.out, if_neg h2]
      clear h3
      go_enter Try.func13, Try.ntmps13
      go_wp2_with fail
      generalize w.setCell ⟨rb, 8, none⟩ (.int .i64 (s.clock + 1)) = w2 at hst1 HP ⊢
      clear c0 c1 c2 c3 c4 c5 c6 c7 c8 c9 c10 c11 c12 c13 f8 hlt
      obtain ⟨lb2, p2, As2, cs2, vy2, vn2, vm2, hR2, -⟩ := hst1.out.at_
      obtain ⟨-, -, -, -, c4, -, -, -, c8, -, -, -, -, -, -, hlt2⟩ := hR2.facts
      clear hR2
      replace c4 : w2.cell? ⟨rb, 4, none⟩ = some (.int .i64 s.role) := c4
      replace c8 : w2.cell? ⟨rb, 8, none⟩ = some (.int .i64 (s.clock + 1)) := c8
      have hpt : RaftS.patience { s with clock := s.clock + 1 } = T := hT.out
      rw [hpt] at HP
      go_quiet ((go_at_call 26; exact Calls.quiet_of (HP.out _ (drawn_below _ _))))
      go_wp2
      go_ret
      rw [he.out]
      exact ⟨_, [], rfl, OwnS.nil, hst1.out.thenBelow (drawn_below _ _)⟩
end Go.Proofs.Ytikpbhhnllchmaa
