/- Log.Cut, Log.Reset. -/
import Derived.Test.YtikpbhhnllchmaaLB
import Derived.Test.YtikpbhhnllchmaaR
set_option linter.unusedVariables false
set_option linter.unusedSimpArgs false
namespace Go.Proofs.Ytikpbhhnllchmaa
open Go.RowKit
attribute [local go_sem] Same.cell

def LogS.Cut (s : LogS) (i : Int) : Bool × LogS :=
  if i ≤ s.base ∨ s.last < i then (false, s) else (true, ⟨i, (s.Term i).1, s.l.drop (i - s.base).toNat⟩)

theorem LogAt.same {W W' : World} {g : Nat} {F : Foot} {s : LogS} (h : LogAt W g F s) (hk : W'.heap = W.heap) : LogAt W' g (Grow F W W') s :=
  (h.keep (by rw [hk]; exact Nat.le_refl _) fun k _ _ => by rw [hk]).mono fun _ hk => .inl hk

set_option maxHeartbeats 1000000 in
theorem Cut_any (g : Nat) (F : Foot) (s : LogS) (w : World) (i : Int) (h : LogAt w g F s) (ok : s.Ok) :
    Calls Try.prog 45 #[.pointer (some ⟨g, 0, none⟩), .int .i64 i] w fun e w' => e = .returned (.bool (s.Cut i).1) ∧ LogAt w' g (Grow F w w') (s.Cut i).2 ∧ Keeps F w w' := by
  obtain ⟨A, c, h0, h1, h2, hfz, hF, hlt, ho, hc1, hc2, hr, hbk⟩ := h.cells
  have Hbk := Lib.hid hbk
  clear hbk
  have b0 := ok.b0
  have b1 := ok.b1
  have l1 := ok.l1
  by_cases c1 : i ≤ s.base
  · have hT : s.Cut i = (false, s) := by unfold LogS.Cut; rw [if_pos (.inl c1)]
    rw [hT]
    go_enter Try.func45, Try.ntmps45
    go_wp2
    go_ret
    exact ⟨rfl, h.same rfl, Keeps.refl _ _⟩
  by_cases c2 : s.last < i
  · have hT : s.Cut i = (false, s) := by unfold LogS.Cut; rw [if_pos (.inr c2)]
    rw [hT]
    go_enter Try.func45, Try.ntmps45
    go_wp2_with (go_at_call 40; refine (last_any _ _ _ _ h ok).mono ?_; rintro e w' ⟨rfl, k, rfl⟩)
    go_ret
    exact ⟨rfl, h.same rfl, (Keeps.refl _ _).drewN k⟩
  have hL : s.last = s.base + s.l.length := rfl
  obtain ⟨j, hj⟩ : ∃ j : Nat, i = s.base + j := ⟨(i - s.base).toNat, by omega⟩
  have hT : s.Cut i = (true, ⟨i, (s.Term i).1, s.l.drop j⟩) := by
    unfold LogS.Cut
    rw [if_neg (by omega), show (i - s.base).toNat = j by omega]
  rw [hT]
  clear hT
  subst hj
  obtain ⟨A', hcut, hrs⟩ := cut_lo tEntry .i64 A s.l.length c j (by omega)
  have hr2 := hrs kEntry _ _ _ rfl hc1 hr
  have hjl : j ≤ s.l.length := by omega
  clear hrs hL
  have e1 : s.base + (j : Int) - s.base = (j : Int) := by omega
  obtain ⟨t, ht⟩ : ∃ t, Hid (t = (s.Term (s.base + j)).1) := ⟨_, rfl⟩
  rw [← ht.out]
  go_enter Try.func45, Try.ntmps45
  go_wp2_with (first
    | (go_at_call 40; refine (last_any _ _ _ _ h ok).mono ?_; rintro e w' ⟨rfl, k, rfl⟩)
    | (go_at_call 48; refine (Term_any _ _ _ _ _ (h.drewN _) ok).mono ?_; rintro e w' ⟨rfl, k2, rfl⟩; rw [← ht.out]))
  have q0 : (w.drewN (k + k2)).cell? ⟨g, 0, none⟩ = some (.int .i64 s.base) := h0
  have q2 : (w.drewN (k + k2)).cell? ⟨g, 2, none⟩ = some (.slice A s.l.length c) := h2
  have hb1 := drawn_below w (k + k2)
  have hlt1 : g < (w.drewN (k + k2)).heap.size := hlt
  generalize w.drewN (k + k2) = w1 at hb1 q0 q2 hlt1 ⊢
  have hNF : ¬ NoF g := id
  refine wp_region_plan [0, 0, 0, 0, 0, 0, 0, 0, 0, 0, 0, 0, 1, 2, 2, 2] (fun w' => ∃ D : Same NoF w1, w' = D.world) (by kernel_rfl) (by kernel_rfl) InSame.start ?_
  simp only [sel, selE, Nat.reduceEqDiff, reduceIte]
  repeat (go_big_quiet_step (fail))
  refine wpQuiet_nil ?_
  refine wpE_cons (fun N hN => ?_)
  go_wp2_with fail
  refine (clone_entry _ _ _ _ _ _ ((hr2.below hb1).drew) (by omega)).mono ?_
  rintro e w3 ⟨v3, rfl, hM⟩
  obtain ⟨A3, n3, c3, rfl⟩ := hM.own.shape
  go_wp2
  have hb3 : Below w1.heap.size w1 w3 := below_undrew hM.below
  have hb03 : Below w.heap.size w w3 := hb1.trans (hb3.mono hb1.size)
  refine hN _ _ (InSame.of_below hb3) ?_
  refine wpE_nil ?_
  clear hN N
  have hg4 : w3.heap[g]? = some (.cells #[.int .i64 s.base, .int .i64 s.term, .slice A s.l.length c] 65 (0, 0)) := (hb03.block g hlt).trans Hbk.out
  have p0 : w3.cell? ⟨g, 0, none⟩ = some (.int .i64 s.base) := cell_of_row w3 g 0 _ _ _ hg4
  have p1 : w3.cell? ⟨g, 1, none⟩ = some (.int .i64 s.term) := cell_of_row w3 g 1 _ _ _ hg4
  have p2 : w3.cell? ⟨g, 2, none⟩ = some (.slice A s.l.length c) := cell_of_row w3 g 2 _ _ _ hg4
  have f0 : w3.frozen? ⟨g, 0, none⟩ = false := frozen_of_row w3 g 0 _ _ hg4
  have f1 : w3.frozen? ⟨g, 1, none⟩ = false := frozen_of_row w3 g 1 _ _ hg4
  have f2 : w3.frozen? ⟨g, 2, none⟩ = false := frozen_of_row w3 g 2 _ _ hg4
  have Hg4 := Lib.hid hg4
  clear hg4
  go_wp2
  go_ret
  refine ⟨rfl, ?_, ?_⟩
  · have hh1 := heap_setCell_same w3 g 2 _ _ (.slice A3 n3 c3) Hg4.out
    have hh2 := heap_setCell_same _ g 0 _ _ (.int .i64 (s.base + (j : Int))) hh1
    have hh3 := heap_setCell_same _ g 1 _ _ (.int .i64 t) hh2
    refine ⟨.slice A3 n3 c3, hh3.trans (by rw [ht.out]; rfl), .inl hF, (hM.own.keep (by simp) fun k hk hlt3 => ?_).mono fun k hk => ?_⟩
    · have hkg : k ≠ g := by
        rcases hk with hk | hk
        · exact hk.2
        · have hh : w1.heap.size ≤ k := hk.1
          omega
      rw [Below.heap_setCell _ _ _ _ hkg, Below.heap_setCell _ _ _ _ hkg, Below.heap_setCell _ _ _ _ hkg]
    · have hs := hb1.size
      rcases hk with hk | hk
      · exact ⟨.inl hk.1, hk.2⟩
      · have hh : w1.heap.size ≤ k := hk.1
        refine ⟨.inr ⟨by omega, ?_⟩, by omega⟩
        simpa using hk.2
  · refine Keeps.setCell (Keeps.setCell (Keeps.setCell (Keeps.of_below hb03 F) (p := ⟨g, 2, none⟩) (fun _ => hF) _) (p := ⟨g, 0, none⟩) (fun _ => hF) _) (p := ⟨g, 1, none⟩) (fun _ => hF) _

def LogS.Reset (i t : Int) : LogS := ⟨if 0 < i then i else 0, t, []⟩
theorem LogAt.set3 {W : World} {g : Nat} {F : Foot} {b t b' t' : Int} {v0 : Value} (hb : W.heap[g]? = some (.cells #[.int .i64 b, .int .i64 t, v0] 65 (0, 0))) (hF : F g) :
    LogAt (((W.setCell ⟨g, 0, none⟩ (.int .i64 b')).setCell ⟨g, 1, none⟩ (.int .i64 t')).setCell ⟨g, 2, none⟩ (.slice none 0 0)) g F ⟨b', t', []⟩ := by
  have hh1 := heap_setCell_same W g 0 _ _ (.int .i64 b') hb
  have hh2 := heap_setCell_same _ g 1 _ _ (.int .i64 t') hh1
  have hh3 := heap_setCell_same _ g 2 _ _ (.slice none 0 0) hh2
  exact ⟨.slice none 0 0, hh3.trans rfl, hF, OwnS.nil⟩
theorem Keeps.set3 {S : Foot} {w W : World} (h : Keeps S w W) {g : Nat} (hg : S g) (i0 i1 i2 : Nat) (a b c : Value) : Keeps S w (((W.setCell ⟨g, i0, none⟩ a).setCell ⟨g, i1, none⟩ b).setCell ⟨g, i2, none⟩ c) :=
  ((h.setCell (p := ⟨g, i0, none⟩) (fun _ => hg) a).setCell (p := ⟨g, i1, none⟩) (fun _ => hg) b).setCell (p := ⟨g, i2, none⟩) (fun _ => hg) c
set_option maxHeartbeats 1000000 in
theorem Reset_any (g : Nat) (F : Foot) (s : LogS) (w : World) (i t : Int) (h : LogAt w g F s) :
    Calls Try.prog 57 #[.pointer (some ⟨g, 0, none⟩), .int .i64 i, .int .i64 t] w fun e w' => e = .returned (.tuple #[]) ∧ LogAt w' g (Grow F w w') (LogS.Reset i t) ∧ Keeps F w w' := by
  obtain ⟨A, c, h0, h1, h2, hfz, hF, hlt, ho, hc1, hc2, hr, hbk⟩ := h.cells
  have f0 := hfz 0
  have f1 := hfz 1
  have f2 := hfz 2
  have Hbk := Lib.hid hbk
  clear hbk
  by_cases hi : 0 < i
  · have hR : LogS.Reset i t = ⟨i, t, []⟩ := by unfold LogS.Reset; rw [if_pos hi]
    rw [hR]
    go_enter Try.func57, Try.ntmps57
    go_wp2
    go_end0
    exact ⟨rfl, LogAt.set3 Hbk.out (.inl hF), (Keeps.refl _ _).set3 hF _ _ _ _ _ _⟩
  · have hR : LogS.Reset i t = ⟨0, t, []⟩ := by unfold LogS.Reset; rw [if_neg hi]
    rw [hR]
    go_enter Try.func57, Try.ntmps57
    go_wp2
    go_end0
    exact ⟨rfl, LogAt.set3 Hbk.out (.inl hF), (Keeps.refl _ _).set3 hF _ _ _ _ _ _⟩
end Go.Proofs.Ytikpbhhnllchmaa
