/- store.call, walked, whatever it is told to do. -/
import Derived.Test.YtfjndjbpgcggkaaDoorTS4
set_option linter.unusedVariables false
set_option linter.unusedSimpArgs false
namespace Go.Proofs.YtfjndjbpgcggkaaDoor
open Go.RowKit
attribute [local go_sem] Same.cell

theorem cut1 (g off n cap : Nat) (hn : n + 1 ≤ cap) : ∀ W : World,
    (Instr.slice 35 (.slice (some ⟨g, off, none⟩) (n + 1) cap) (some (.int .i64 1)) none none).run Tryd.prog W = .ok (.slice (if cap = 1 then some ⟨g, off, none⟩ else some ⟨g, off + 1, none⟩) n (cap - 1)) W := by
  obtain ⟨i, z, hi, hz, hs, hb, hzs⟩ := tInts.info
  intro W
  have hel : Tryd.prog.elem 35 = 3 := by simp [Program.elem, tInts.ht]
  have hu : Tryd.prog.underlying 35 = some (.slice (Tryd.prog.elem 35)) := by rw [hel]; exact tInts.ht
  rw [run_slice_l W 35 (some ⟨g, off, none⟩) (n + 1) cap hu .i64 1 (by omega) (by omega), hel]
  simp [sizeOf, typeInfo, hi, hs, sliced, Result.andThen, Addr.add]

def how : List Int → Int
  | [] => 0
  | x :: _ => x
/-- What call leaves: it is not done; or do is done in w1. -/
def CallPost (w : World) (F : Foot) (sb : Nat) (room : Int) (bad : List Int) (c : SObjs) (PD : World → Value → Int → World → Prop) (en : Ending) (w' : World) : Prop :=
  if how bad ≠ 0 ∧ how bad ≠ 2 then en = .returned (.tuple #[.nilIface, .int .i64 9]) ∧ StoreAt w' F sb room bad.tail c ∧ Keeps F w w'
  else ∃ (w1 : World) (v : Value) (err : Int), StoreAt w1 F sb room bad.tail c ∧ Keeps F w w1 ∧ w1.heap.size = w.heap.size ∧ PD w1 v err w' ∧ en = .returned (.tuple (if err = 0 ∧ how bad = 2 then #[.nilIface, .int .i64 9] else #[v, .int .i64 err]))

set_option maxHeartbeats 2000000 in
set_option maxRecDepth 100000 in
theorem call_any (f : Nat) (first cap : Array Value) (hcf : ∀ w, (callFunc f (first ++ cap)).run Tryd.prog w = .ok (.enter f (first ++ cap)) w) (PD : World → Value → Int → World → Prop) (sb : Nat) (w : World) (F : Foot) (room : Int) (bad : List Int) (c : SObjs) (h : StoreAt w F sb room bad c)
    (hd : ∀ w1, StoreAt w1 F sb room bad.tail c → Keeps F w w1 → w1.heap.size = w.heap.size → Calls Tryd.prog f (first ++ cap) w1 fun en w2 => ∃ v err, en = .returned (.tuple #[v, .int .i64 err]) ∧ PD w1 v err w2) :
    Calls Tryd.prog 137 #[.pointer (some ⟨sb, 0, none⟩), .func (.func f) first cap] w (CallPost w F sb room bad c PD) := by
  have HD := Lib.hid hd
  have HG := Lib.hid h
  clear hd
  obtain ⟨mb, clock, m, fv, h⟩ := h
  have hslt := h.slt
  cases bad with
  | nil =>
    obtain ⟨A, cp, rfl, hc1, hc2⟩ := h.q.slice
    have c3 : w.cell? ⟨sb, 3, none⟩ = some (.slice A 0 cp) := cell_of_row w sb 3 _ _ _ h.cells
    clear h hc1 hc2
    go_enter Tryd.func137, Tryd.ntmps137
    go_wp2_with fail
    refine (HD.out w HG.out (Keeps.refl _ _) rfl).mono ?_
    rintro e w1 ⟨v, err, rfl, hP⟩
    have hfin : Hid (CallPost w F sb room [] c PD (.returned (.tuple #[v, .int .i64 err])) w1) := by
      show CallPost w F sb room [] c PD (.returned (.tuple #[v, .int .i64 err])) w1
      unfold CallPost
      rw [if_neg (by simp [how])]
      refine ⟨w, v, err, HG.out, Keeps.refl _ _, rfl, hP, ?_⟩
      rw [if_neg (by simp [how])]
    clear hP
    by_cases he : err = 0
    · subst he
      go_wp2
      go_ret2
      exact hfin.out
    · have eb : (err == 0) = false := by rw [beq_eq_false_iff_ne]; exact he
      clear he
      go_wp2
      go_ret2
      exact hfin.out
  | cons x r =>
    obtain ⟨g, off, cp, A, rfl, hFg, hglt, hx, hc1, hc2, hA, hq⟩ := h.q.pop
    have hcl := h.cells
    have c3 : w.cell? ⟨sb, 3, none⟩ = some (.slice (some ⟨g, off, none⟩) (r.length + 1) cp) := cell_of_row w sb 3 _ _ _ hcl
    have f3 : w.frozen? ⟨sb, 3, none⟩ = false := frozen_of_row w sb 3 _ _ hcl
    have hcut := cut1 g off r.length cp hc1
    rw [← hA] at hcut
    have hcl2 := heap_setCell_same w sb 3 _ _ (.slice A r.length (cp - 1)) hcl
    have hoth : ∀ k, k ≠ sb → (w.setCell ⟨sb, 3, none⟩ (.slice A r.length (cp - 1))).drew.heap[k]? = w.heap[k]? := fun k hk => Below.heap_setCell _ _ _ _ hk
    have hst : StoreAt (w.setCell ⟨sb, 3, none⟩ (.slice A r.length (cp - 1))).drew F sb room r c := by
      have hgq := h.q.lt g rfl
      refine ⟨mb, clock, m, .slice A r.length (cp - 1), ⟨hcl2, (hoth mb (Ne.symm h.ne)).trans h.map, h.fs, h.fm, ?_, ?_, h.len, h.wf, h.nd⟩⟩
      · refine (hq.keep fun k hk _ => hoth k ?_).mono fun k hk => ?_
        · rw [hk]; exact hgq.1.2.1
        · rw [hk]; exact hgq.1
      · refine (h.e.keep fun k hk _ => hoth k hk.2.1).mono fun k hk => ⟨hk.1, hk.2.1, hk.2.2.1, fun he => hk.2.2.2 ?_⟩
        have := hq.lt k he
        rw [this.1]
        rfl
    have hkp : Keeps F w (w.setCell ⟨sb, 3, none⟩ (.slice A r.length (cp - 1))).drew := ((Keeps.refl F w).setCell (p := ⟨sb, 3, none⟩) (fun _ => h.fs) _).drew
    have hsz : (w.setCell ⟨sb, 3, none⟩ (.slice A r.length (cp - 1))).drew.heap.size = w.heap.size := by rw [World.size_drew, World.size_setCell]
    have HS := Lib.hid (And.intro hst (And.intro hkp hsz))
    clear hst hkp hsz hcl hq hA h hFg hcl2 hoth
    have hNFs : ¬ NoF sb := id
    have hNFg : ¬ NoF g := id
    by_cases hx0 : x = 0
    · subst hx0
      go_enter Tryd.func137, Tryd.ntmps137
      go_wp2
      refine wp_region_plan [0, 0, 0, 0, 0, 0, 0, 0, 0, 0, 0, 0, 0, 2, 2, 2] (fun w' => ∃ D : Same NoF w, w' = D.world) (by kernel_rfl) (by kernel_rfl) InSame.start ?_
      simp only [sel, selE, Nat.reduceEqDiff, reduceIte]
      repeat (go_big_quiet_step (fail))
      refine wpQuiet_nil ?_
      refine wpE_nil ?_
      go_wp2_with fail
      obtain ⟨hst, hkp, hsz⟩ := HS.out
      refine (HD.out _ hst hkp hsz).mono ?_
      rintro e w1 ⟨v, err, rfl, hP⟩
      have hfin : Hid (CallPost w F sb room (0 :: r) c PD (.returned (.tuple #[v, .int .i64 err])) w1) := by
        show CallPost w F sb room (0 :: r) c PD (.returned (.tuple #[v, .int .i64 err])) w1
        unfold CallPost
        rw [if_neg (by simp [how])]
        refine ⟨_, v, err, hst, hkp, hsz, hP, ?_⟩
        rw [if_neg (by simp [how])]
      clear hP hst hkp hsz
      by_cases he : err = 0
      · subst he
        go_wp2
        go_ret2
        exact hfin.out
      · have eb : (err == 0) = false := by rw [beq_eq_false_iff_ne]; exact he
        clear he
        go_wp2
        go_ret2
        exact hfin.out
    · by_cases hx2 : x = 2
      · subst hx2
        clear hx0
        go_enter Tryd.func137, Tryd.ntmps137
        go_wp2
        refine wp_region_plan [0, 0, 0, 0, 0, 0, 0, 0, 0, 0, 0, 0, 0, 2, 2, 2] (fun w' => ∃ D : Same NoF w, w' = D.world) (by kernel_rfl) (by kernel_rfl) InSame.start ?_
        simp only [sel, selE, Nat.reduceEqDiff, reduceIte]
        repeat (go_big_quiet_step (fail))
        refine wpQuiet_nil ?_
        refine wpE_nil ?_
        go_wp2_with fail
        obtain ⟨hst, hkp, hsz⟩ := HS.out
        refine (HD.out _ hst hkp hsz).mono ?_
        rintro e w1 ⟨v, err, rfl, hP⟩
        have hfin : Hid (CallPost w F sb room (2 :: r) c PD (.returned (.tuple (if err = 0 then #[.nilIface, .int .i64 9] else #[v, .int .i64 err]))) w1) := by
          show CallPost w F sb room (2 :: r) c PD (.returned (.tuple (if err = 0 then #[.nilIface, .int .i64 9] else #[v, .int .i64 err]))) w1
          unfold CallPost
          rw [if_neg (by simp [how])]
          refine ⟨_, v, err, hst, hkp, hsz, hP, ?_⟩
          simp [how]
        clear hP hst hkp hsz
        by_cases he : err = 0
        · subst he
          rw [if_pos rfl] at hfin
          go_wp2
          go_ret2
          exact hfin.out
        · rw [if_neg he] at hfin
          have eb : (err == 0) = false := by rw [beq_eq_false_iff_ne]; exact he
          clear he
          go_wp2
          go_ret2
          exact hfin.out
      · have eb0 : (x != 0) = true := by rw [bne_iff_ne]; exact hx0
        have eb2 : (x != 2) = true := by rw [bne_iff_ne]; exact hx2
        have hfin : Hid (CallPost w F sb room (x :: r) c PD (.returned (.tuple #[.nilIface, .int .i64 9])) (w.setCell ⟨sb, 3, none⟩ (.slice A r.length (cp - 1))).drew) := by
          obtain ⟨hst, hkp, hsz⟩ := HS.out
          show CallPost w F sb room (x :: r) c PD (.returned (.tuple #[.nilIface, .int .i64 9])) (w.setCell ⟨sb, 3, none⟩ (.slice A r.length (cp - 1))).drew
          unfold CallPost
          rw [if_pos ⟨hx0, hx2⟩]
          exact ⟨rfl, hst, hkp⟩
        clear hx0 hx2
        go_enter Tryd.func137, Tryd.ntmps137
        go_wp2
        refine wp_region_plan [0, 0, 0, 0, 0, 0, 0, 0, 0, 0, 0, 0, 0, 2, 2, 2] (fun w' => ∃ D : Same NoF w, w' = D.world) (by kernel_rfl) (by kernel_rfl) InSame.start ?_
        simp only [sel, selE, Nat.reduceEqDiff, reduceIte]
        repeat (go_big_quiet_step (fail))
        refine wpQuiet_nil ?_
        refine wpE_nil ?_
        go_wp2
        go_ret2
        exact hfin.out
end Go.Proofs.YtfjndjbpgcggkaaDoor
