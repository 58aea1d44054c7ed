/- Contracts of the document's Log: Reset, Cut. -/
import Derived.Test.YtngmipppgnlkdaaS2
import Derived.Test.YtngmipppgnlkdaaR2
set_option linter.unusedVariables false
set_option linter.unusedSimpArgs false
namespace Go.Proofs.Ytngmipppgnlkdaa
open Go.RowKit
attribute [local go_sem] Same.cell

set_option maxHeartbeats 1000000 in
theorem RReset_any (g : Nat) (F : Foot) (s : LogS) (w : World) (i t : Int) (h : RLogAt w g F s) :
    Calls Try.prog 52 #[.pointer (some ⟨g, 0, none⟩), .int .i64 i, .int .i64 t] w fun e w' => e = .returned (.tuple #[]) ∧ RLogAt w' g (Grow F w w') (LogS.Reset i t) ∧ Keeps F w w' := by
  obtain ⟨A, c, h0, h1, h2, hfz, hF, hlt, ho, hc1, hc2, hr, hbk⟩ := h.cells
  have f0 := hfz 0
  have f1 := hfz 1
  have f2 := hfz 2
  have Hbk := Lib.hid hbk
  clear hbk
  by_cases hi : i < 0
  · have hR : LogS.Reset i t = ⟨0, t, []⟩ := by unfold LogS.Reset; rw [if_neg (by omega)]
    rw [hR]
    go_enter Try.func52, Try.ntmps52
    go_wp2
    go_end0
    exact ⟨rfl, RLogAt.set3 Hbk.out (.inl hF), (Keeps.refl _ _).set3 hF _ _ _ _ _ _⟩
  · have hR : LogS.Reset i t = ⟨i, t, []⟩ := by
      unfold LogS.Reset
      by_cases h0 : 0 < i
      · rw [if_pos h0]
      · rw [if_neg h0, show i = 0 by omega]
    rw [hR]
    go_enter Try.func52, Try.ntmps52
    go_wp2
    go_end0
    exact ⟨rfl, RLogAt.set3 Hbk.out (.inl hF), (Keeps.refl _ _).set3 hF _ _ _ _ _ _⟩

set_option maxHeartbeats 2000000 in
theorem RCut_any (g : Nat) (F : Foot) (s : LogS) (w : World) (i : Int) (h : RLogAt w g F s) (ok : s.Ok) :
    Calls Try.prog 50 #[.pointer (some ⟨g, 0, none⟩), .int .i64 i] w fun e w' => e = .returned (.bool (s.Cut i).1) ∧ RLogAt w' g (Grow F w w') (s.Cut i).2 ∧ Keeps F w w' := by
  obtain ⟨A, c, h0, h1, h2, hfz, hF, hlt, ho, hc1, hc2, hr, hbk⟩ := h.cells
  have Hbk := Lib.hid hbk
  clear hbk
  have b0 := ok.b0
  have b1 := ok.b1
  have l1 := ok.l1
  have HL := Lib.hid (show s.last = s.base + s.l.length from rfl)
  obtain ⟨t, ht⟩ : ∃ t, Hid ((s.Term i).1 = t) := ⟨_, rfl⟩
  obtain ⟨b, hb⟩ : ∃ b, Hid ((s.Term i).2 = b) := ⟨_, rfl⟩
  cases b
  · have hT : s.Cut i = (false, s) := by
      unfold LogS.Cut
      have := hb.out
      unfold LogS.Term at this
      by_cases c1 : i < s.base ∨ s.last < i
      · rw [if_pos (by omega)]
      · rw [if_neg c1] at this
        split at this <;> cases this
    rw [hT]
    go_enter Try.func50, Try.ntmps50
    go_wp2_with fail
    refine (RTerm_any _ _ _ _ _ h ok).mono ?_
    rintro e w' ⟨rfl, k, rfl⟩
    rw [ht.out, hb.out]
    go_wp2
    go_ret
    exact ⟨rfl, h.same rfl, (Keeps.refl _ _).drewN k⟩
  have hin := LogS.Term_ok hb.out
  by_cases c1 : i ≤ s.base
  · have hT : s.Cut i = (false, s) := by unfold LogS.Cut; rw [if_pos (.inl c1)]
    rw [hT]
    clear hin
    go_enter Try.func50, Try.ntmps50
    go_wp2_with fail
    refine (RTerm_any _ _ _ _ _ h ok).mono ?_
    rintro e w' ⟨rfl, k, rfl⟩
    rw [ht.out, hb.out]
    go_wp2
    go_ret
    exact ⟨rfl, h.same rfl, (Keeps.refl _ _).drewN k⟩
  obtain ⟨j, hj⟩ : ∃ j : Nat, i = s.base + j := ⟨(i - s.base).toNat, by omega⟩
  have hT : s.Cut i = (true, ⟨i, t, s.l.drop j⟩) := by
    unfold LogS.Cut
    rw [if_neg (by omega), show (i - s.base).toNat = j by omega, ht.out]
  rw [hT]
  clear hT
  subst hj
  have hjl : j ≤ s.l.length := by have := HL.out; omega
  obtain ⟨A', hcut, hrs⟩ := cut_lo tEntry .i64 A s.l.length c j (by omega)
  have Hr2 := Lib.hid (hrs kEntry _ _ _ rfl hc1 hr)
  clear hrs hin
  have e1 : s.base + (j : Int) - s.base = (j : Int) := by omega
  go_enter Try.func50, Try.ntmps50
  go_wp2_with fail
  refine (RTerm_any _ _ _ _ _ h ok).mono ?_
  rintro e w' ⟨rfl, k, rfl⟩
  rw [ht.out, hb.out]
  have q0 : (w.drewN k).cell? ⟨g, 0, none⟩ = some (.int .i64 s.base) := h0
  have q2 : (w.drewN k).cell? ⟨g, 2, none⟩ = some (.slice A s.l.length c) := h2
  have hb1 := drawn_below w k
  have hlt1 : g < (w.drewN k).heap.size := hlt
  generalize w.drewN k = w1 at hb1 q0 q2 hlt1 ⊢
  go_wp2_with fail
  have hNF : ¬ NoF g := id
  refine wp_region_plan [0, 0, 0, 0, 0, 0, 0, 0, 0, 0, 0, 0, 1, 2, 2, 2] (fun w' => ∃ D : Same NoF w1, w' = D.world) (by kernel_rfl) (by kernel_rfl) InSame.start ?_
  simp only [sel, selE, Nat.reduceEqDiff, reduceIte]
  repeat (go_big_quiet_step (fail))
  refine wpQuiet_nil ?_
  refine wpE_cons (fun N hN => ?_)
  have hr2 := (Hr2.out.below hb1).drew
  have hdl : (s.l.drop j).length = s.l.length - j := List.length_drop
  go_wp2_with (first
    | (at_builtin
       refine wpList_append_S rfl tEntry _ (.tmp 34) rfl (K := kEntry) (F := NoF) (v := .slice none 0 0) (xs := []) rfl rfl OwnS.nil hr2 (fun k hk => by simp [Value.ownBlock] at hk) ?_ ?_ ?_))
  · simp; omega
  · simp; omega
  intro v3 w3 hA
  obtain ⟨A3, n3, c3, rfl⟩ := hA.own.shape
  clear hr2 hdl
  have hb3 : Below w1.heap.size w1 w3 := (drawn_below w1 1).trans ((Below.refl _ _).grown hA.grown (Nat.le_refl _) (by simp [Value.ownBlock]))
  have hO3 : OwnS kEntry 38 w3 (fun k => (F k ∧ k ≠ g) ∨ w1.heap.size ≤ k) (.slice A3 n3 c3) (s.l.drop j) := by
    refine hA.own.mono fun k hk => ?_
    rcases hk with hk | hk | hk
    · exact hk.elim
    · exact .inl hk
    · exact .inr (by have := hk.1; rw [World.size_drew] at this; exact this)
  clear hA
  go_wp2
  have hb03 : Below w.heap.size w w3 := hb1.trans (hb3.mono hb1.size)
  refine hN _ _ (InSame.of_below hb3) ?_
  refine wpE_nil ?_
  clear hN N
  have hg4 : w3.heap[g]? = some (.cells #[.int .i64 s.base, .int .i64 s.term, .slice A s.l.length c] 77 (0, 0)) := (hb03.block g hlt).trans Hbk.out
  have p0 : w3.cell? ⟨g, 0, none⟩ = some (.int .i64 s.base) := cell_of_row w3 g 0 _ _ _ hg4
  have p1 : w3.cell? ⟨g, 1, none⟩ = some (.int .i64 s.term) := cell_of_row w3 g 1 _ _ _ hg4
  have p2 : w3.cell? ⟨g, 2, none⟩ = some (.slice A s.l.length c) := cell_of_row w3 g 2 _ _ _ hg4
  have f0 : w3.frozen? ⟨g, 0, none⟩ = false := frozen_of_row w3 g 0 _ _ hg4
  have f1 : w3.frozen? ⟨g, 1, none⟩ = false := frozen_of_row w3 g 1 _ _ hg4
  have f2 : w3.frozen? ⟨g, 2, none⟩ = false := frozen_of_row w3 g 2 _ _ hg4
  have Hg4 := Lib.hid hg4
  clear hg4
  go_wp2
  go_ret
  refine ⟨rfl, ?_, ?_⟩
  · have hh1 := heap_setCell_same w3 g 2 _ _ (.slice A3 n3 c3) Hg4.out
    have hh2 := heap_setCell_same _ g 0 _ _ (.int .i64 (s.base + (j : Int))) hh1
    have hh3 := heap_setCell_same _ g 1 _ _ (.int .i64 t) hh2
    have hs3 := hb3.size
    have hs1 := hb1.size
    have hO4 := hO3.bound
    refine ⟨.slice A3 n3 c3, hh3.trans rfl, .inl hF, (hO4.keep (by simp) fun k hk hlt3 => ?_).mono fun k hk => ?_⟩
    · have hkg : k ≠ g := by
        rcases hk.1 with hk | hk
        · exact hk.2
        · omega
      rw [Below.heap_setCell _ _ _ _ hkg, Below.heap_setCell _ _ _ _ hkg, Below.heap_setCell _ _ _ _ hkg]
    · rcases hk.1 with hk1 | hk1
      · exact ⟨.inl hk1.1, hk1.2⟩
      · refine ⟨.inr ⟨by omega, ?_⟩, by omega⟩
        simpa using hk.2
  · refine Keeps.setCell (Keeps.setCell (Keeps.setCell (Keeps.of_below hb03 F) (p := ⟨g, 2, none⟩) (fun _ => hF) _) (p := ⟨g, 0, none⟩) (fun _ => hF) _) (p := ⟨g, 1, none⟩) (fun _ => hF) _
end Go.Proofs.Ytngmipppgnlkdaa
