/- Contracts of SameEntries and Big. -/
import Derived.Test.YtngmipppgnlkdaaGS
import Derived.Test.YtngmipppgnlkdaaR
set_option linter.unusedVariables false
set_option linter.unusedSimpArgs false
namespace Go.Proofs.Ytngmipppgnlkdaa
open Go.RowKit
attribute [local go_sem] Same.cell

theorem ext_Entry (x y : Entry) : x = y ↔ x.Term = y.Term ∧ x.Cmd = y.Cmd := by
  constructor
  · rintro rfl; exact ⟨rfl, rfl⟩
  · rintro ⟨h0, h1⟩; cases x; cases y; dsimp only at h0 h1; rw [h0, h1]

set_option maxHeartbeats 2000000 in
theorem SameEntries_any (A B : Option Addr) (n m c d : Nat) (xs ys : List Entry) (F G : Foot) (w : World) (hx : RS kEntry w F A n xs) (hy : RS kEntry w G B m ys) (hn : n ≤ 140737488355328) (hm : m ≤ 140737488355328)
    (hrx : ∀ x ∈ xs, x.Cmd.Records.length ≤ 140737488355328) (hry : ∀ x ∈ ys, x.Cmd.Records.length ≤ 140737488355328) :
    Calls Try.prog 14 #[.slice A n c, .slice B m d] w (Tells (xs = ys) w) := by
  obtain rfl := hx.length
  obtain rfl := hy.length
  by_cases hl : xs.length = ys.length
  · go_enter Try.func14, Try.ntmps14
    go_wp2
    go_loopw [5] (fun q wr => ∃ k : Nat, q = .int .i64 k ∧ k ≤ xs.length ∧ Hid (xs.take k = ys.take k) ∧ Below w.heap.size w wr) (fun q _ => xs.length - (intOf q).toNat)
    case atStart => exact ⟨0, rfl, Nat.zero_le _, rfl, Below.refl _ _⟩
    case round =>
      obtain ⟨k, rfl, hk, hE, hB⟩ := hrel
      by_cases hlt : k < xs.length
      · obtain ⟨x, hxk⟩ : ∃ x, xs[k]? = some x := ⟨_, List.getElem?_eq_getElem hlt⟩
        obtain ⟨y, hyk⟩ : ∃ y, ys[k]? = some y := ⟨_, List.getElem?_eq_getElem (by omega)⟩
        obtain ⟨ad, pA3, pc3, hA0, hFa, k0, k1, k2, k3, k4, k5, k6, k7, k8, k9, k10, k11, k12, k13, hx1, hx2, hx3⟩ := at_Entry (hx.below hB) hxk
        obtain ⟨bd, qA3, qc3, hB0, hFb, l0, l1, l2, l3, l4, l5, l6, l7, l8, l9, l10, l11, l12, l13, hy1, hy2, hy3⟩ := at_Entry (hy.below hB) hyk
        have hxr := hrx x (List.mem_of_getElem? hxk)
        have hyr := hry y (List.mem_of_getElem? hyk)
        have HA0 := Lib.hid hA0
        have HB0 := Lib.hid hB0
        rw [hA0, hB0]
        clear hA0 hB0
        have Hxk := Lib.hid hxk
        have Hyk := Lib.hid hyk
        clear hxk hyk
        have hlt2 : k < ys.length := by omega
        have had : (ad.add (k * 14)).block < wr.heap.size := World.block_lt_of_cell? wr _ k0
        have hbd : (bd.add (k * 14)).block < wr.heap.size := World.block_lt_of_cell? wr _ l0
        have hN1 : ¬ NoF (ad.add (k * 14)).block := id
        have hN2 : ¬ NoF (bd.add (k * 14)).block := id
        by_cases ht : x.Term = y.Term
        · have hb0 : (x.Term != y.Term) = false := by rw [bne_eq_false_iff_eq]; exact ht
          have Ht := Lib.hid ht
          clear hl ht
          go_wp2_with fail
          refine wp_region_plan [0, 0, 0, 0, 0, 0, 0, 0, 0, 0, 0, 0, 0, 0, 0, 0, 0, 0, 0, 0, 0, 0, 1, 1, 1] (fun w' => ∃ D : Same NoF wr, w' = D.world) (by kernel_rfl) (by kernel_rfl) InSame.start ?_
          simp only [sel, selE, Nat.reduceEqDiff, reduceIte]
          repeat (go_big_quiet_step (fail))
          refine wpQuiet_nil ?_
          refine wpE_cons (fun N hN => ?_)
          go_wp2_with fail
          refine (Same_any x.Cmd y.Cmd _ _ _ _ _ _ _ hx3.drew hy3.drew hxr hyr).mono ?_
          rintro e w2 ⟨r, rfl, hr, hb⟩
          have hb2 : Below w.heap.size w w2 := hB.trans ((below_undrew hb).mono hB.size)
          have hC : ∃ D : Same NoF wr, w2 = D.world := InSame.of_below (below_undrew hb)
          have Hr := Lib.hid hr
          clear hr
          cases r
          all_goals
            go_wp2
            refine hN _ _ hC ?_
            clear hN N
            refine wpE_cons (fun N hN => ?_)
            go_wp2
            refine hN _ _ hC ?_
            clear hN N
            refine wpE_cons (fun N hN => ?_)
            go_wp2
            refine hN _ _ hC ?_
            refine wpE_nil ?_
            clear hN N
            go_wp2
          · go_ret
            refine ⟨false, rfl, ?_, hb2⟩
            have hq : ¬ x.Cmd = y.Cmd := by simpa using Hr.out
            simp only [Bool.false_eq_true, false_iff]
            intro he
            have hh := Hxk.out
            rw [he, Hyk.out] at hh
            injection hh with hh
            exact hq (by rw [hh])
          · go_roundw
            case rel =>
              have hq : x.Cmd = y.Cmd := by simpa using Hr.out
              refine ⟨k + 1, by go_num, by omega, ?_, hb2⟩
              have he := hE.out
              show xs.take (k + 1) = ys.take (k + 1)
              rw [List.take_add_one, List.take_add_one, he, Hxk.out, Hyk.out, (ext_Entry x y).2 ⟨Ht.out, hq⟩]
            case measure => simp [intOf]; omega
        · have hb0 : (x.Term != y.Term) = true := by rw [bne_iff_ne]; exact ht
          clear hl
          go_wp2
          go_quiet (fail)
          go_wp2
          go_ret
          refine ⟨false, rfl, ?_, hB.trans ((drawn_below wr nq).mono hB.size)⟩
          simp only [Bool.false_eq_true, false_iff]
          intro he
          have hh := Hxk.out
          rw [he, Hyk.out] at hh
          injection hh with hh
          exact ht (by rw [hh])
      · obtain rfl : k = xs.length := by omega
        go_wp2
        go_ret
        refine ⟨true, rfl, ?_, hB⟩
        simp only [true_iff]
        have he := hE.out
        rw [List.take_of_length_le (Nat.le_refl _), List.take_of_length_le (by omega)] at he
        exact he
  · have hne : xs ≠ ys := fun h => hl (by rw [h])
    have hlb : ((xs.length : Int) != (ys.length : Int)) = true := by rw [bne_iff_ne]; omega
    go_enter Try.func14, Try.ntmps14
    go_wp2
    go_ret
    exact ⟨false, rfl, by simp [hne], Below.refl _ _⟩
end Go.Proofs.Ytngmipppgnlkdaa
