/- Contract of the document's CopyEntries. -/
import Derived.Test.YtngmipppgnlkdaaZ2
set_option linter.unusedVariables false
set_option linter.unusedSimpArgs false
namespace Go.Proofs.Ytngmipppgnlkdaa
open Go.RowKit
attribute [local go_sem] Same.cell

set_option maxHeartbeats 4000000 in
theorem CopyEntries_any (A : Option Addr) (n c : Nat) (w : World) (F : Foot) (xs : List Entry) (h : RS kEntry w F A n xs) (hn : n ≤ 1000000000) (hr : ∀ x ∈ xs, x.Cmd.Records.length ≤ 1000000000) :
    Calls Try.prog 47 #[.slice A n c] w fun e w' => ∃ v, e = .returned v ∧ Made kEntry 38 w w' (New w w') v xs := by
  obtain rfl := h.length
  go_enter Try.func47, Try.ntmps47
  go_wp2_with fail
  go_loopw [3, 4] (fun v q wr => ∃ k : Nat, q = .int .i64 k ∧ k ≤ xs.length ∧ OwnS kEntry 38 wr (New w wr) v (xs.take k) ∧ Below w.heap.size w wr) (fun v q _ => xs.length - (intOf q).toNat)
  case atStart => exact ⟨0, rfl, Nat.zero_le _, OwnS.nil, Below.refl _ _⟩
  case round =>
    obtain ⟨k, rfl, hk, hO, hB⟩ := hrel
    obtain ⟨A5, n5, c5, rfl⟩ := hO.shape
    by_cases hlk : k < xs.length
    · obtain ⟨x, hx⟩ : ∃ x, xs[k]? = some x := ⟨_, List.getElem?_eq_getElem hlk⟩
      have hxr := hr x (List.mem_of_getElem? hx)
      obtain ⟨ad, A4, c4, hA0, hFa, k0, k1, k2, k3, k4, k5, k6, k7, k8, k9, k10, k11, k12, k13, l4, m4, r4⟩ := at_Entry (h.bound.below hB) hx
      subst hA0
      have Hx := Lib.hid hx
      clear hx
      have hal : (ad.add (k * 14)).block < wr.heap.size := World.block_lt_of_cell? wr _ k0
      have hNF : ¬ NoF (ad.add (k * 14)).block := id
      have hlist : xs.take k ++ [x] = xs.take (k + 1) := by rw [List.take_add_one, Hx.out]; rfl
      have Hlist := Lib.hid hlist
      clear hlist
      have hkl : (xs.take k).length = k := by rw [List.length_take]; omega
      have hsr := hB.size
      go_wp2_with fail
      obtain ⟨B, HB⟩ : ∃ B : Foot, Hid (∀ k, B k ↔ (Value.slice A5 n5 c5).ownBlock = some k) := ⟨_, fun _ => Iff.rfl⟩
      have hBa : ¬ B (ad.add (k * 14)).block := fun hb => by
        have h1 := (hO.lt _ ((HB.out _).1 hb)).1.1
        have h2 : ad.block < w.heap.size := hFa.2
        rw [block_add] at h1
        omega
      refine wp_region_plan [0, 0, 0, 0, 0, 0, 0, 0, 0, 0, 0, 1, 1, 1, 1, 1] (fun w' => ∃ D : Same B wr, w' = D.world) (by kernel_rfl) (by kernel_rfl) InSame.start ?_
      simp only [sel, selE, Nat.reduceEqDiff, reduceIte]
      repeat (go_big_quiet_step (fail))
      refine wpQuiet_nil ?_
      refine wpE_cons (fun N hN => ?_)
      go_wp2_with fail
      refine (Copy_any x.Cmd A4 c4 _ _ r4.drew l4 m4 (by omega)).mono ?_
      rintro e w1 ⟨qA4, qc4, rfl, hd1, hd2, hr1, hb1'⟩
      have hb1 : Below wr.heap.size wr w1 := below_undrew hb1'
      go_wp2
      refine hN _ _ (InSame.of_below hb1) ?_
      clear hN N
      refine wpE_cons (fun N hN => ?_)
      go_wp2
      refine hN _ _ (InSame.of_below hb1) ?_
      clear hN N
      refine wpE_cons (fun N hN => ?_)
      go_wp2
      have hr2 : RS kEntry (w1.alloc (.cells #[.int .i64 x.Term, .int .i64 x.Cmd.Kind, .int .i64 x.Cmd.Pid, .int .i64 x.Cmd.Seq, .slice qA4 x.Cmd.Records.length qc4, .string x.Cmd.Group, .int .i64 x.Cmd.Offset, .int .i64 x.Cmd.Max, .int .i64 x.Cmd.Now, .int .u32 x.Cmd.Sum, .int .i64 x.Cmd.Conf.Segment, .int .i64 x.Cmd.Conf.Keep, .int .i64 x.Cmd.Conf.Age, .int .i64 x.Cmd.Conf.Grace] 38)) (fun k => New wr.drew w1 k ∨ k = w1.heap.size) (some ⟨w1.heap.size, 0, none⟩) 1 [x] :=
        RS.lit w1 (xs := [x]) (Elems.single (K := kEntry) ⟨qA4, qc4, rfl, hd1, hd2, hr1⟩)
      have hb2 : Below wr.heap.size wr (w1.alloc (.cells #[.int .i64 x.Term, .int .i64 x.Cmd.Kind, .int .i64 x.Cmd.Pid, .int .i64 x.Cmd.Seq, .slice qA4 x.Cmd.Records.length qc4, .string x.Cmd.Group, .int .i64 x.Cmd.Offset, .int .i64 x.Cmd.Max, .int .i64 x.Cmd.Now, .int .u32 x.Cmd.Sum, .int .i64 x.Cmd.Conf.Segment, .int .i64 x.Cmd.Conf.Keep, .int .i64 x.Cmd.Conf.Age, .int .i64 x.Cmd.Conf.Grace] 38)) := hb1.alloc hb1.size _
      have hs2 : (w1.alloc (.cells #[.int .i64 x.Term, .int .i64 x.Cmd.Kind, .int .i64 x.Cmd.Pid, .int .i64 x.Cmd.Seq, .slice qA4 x.Cmd.Records.length qc4, .string x.Cmd.Group, .int .i64 x.Cmd.Offset, .int .i64 x.Cmd.Max, .int .i64 x.Cmd.Now, .int .u32 x.Cmd.Sum, .int .i64 x.Cmd.Conf.Segment, .int .i64 x.Cmd.Conf.Keep, .int .i64 x.Cmd.Conf.Age, .int .i64 x.Cmd.Conf.Grace] 38)).heap.size = w1.heap.size + 1 := by simp
      refine hN _ _ (InSame.of_below hb2) ?_
      have hs1 := hb1.size
      generalize (w1.alloc (.cells #[.int .i64 x.Term, .int .i64 x.Cmd.Kind, .int .i64 x.Cmd.Pid, .int .i64 x.Cmd.Seq, .slice qA4 x.Cmd.Records.length qc4, .string x.Cmd.Group, .int .i64 x.Cmd.Offset, .int .i64 x.Cmd.Max, .int .i64 x.Cmd.Now, .int .u32 x.Cmd.Sum, .int .i64 x.Cmd.Conf.Segment, .int .i64 x.Cmd.Conf.Keep, .int .i64 x.Cmd.Conf.Age, .int .i64 x.Cmd.Conf.Grace] 38)) = w2 at hb2 hr2 hs2 ⊢
      clear hN N
      refine wpE_cons (fun N hN => ?_)
      go_wp2_with (first
        | (at_builtin
           refine wpList_append_S rfl tEntry (.tmp 11) (.tmp 24) rfl (K := kEntry) rfl rfl (hO.below hb2) hr2 ?_ ?_ ?_ ?_))
      · intro x hx hx2
        have h1 := (hO.lt x hx).2
        rcases hx2 with hx2 | hx2
        · have : wr.heap.size ≤ x := hx2.1
          omega
        · omega
      · rw [hkl]; omega
      · rw [hkl]; omega
      intro v4 w4 hA
      obtain ⟨A7, n7, c7, rfl⟩ := hA.own.shape
      have hs4 := hA.grown.size
      have hb4 : Below w.heap.size w w4 := (hB.trans (hb2.mono hB.size)).grown hA.grown (by omega) (fun x hx => (hO.lt x hx).1.1)
      have hO4 : OwnS kEntry 38 w4 (New w w4) (.slice A7 n7 c7) (xs.take (k + 1)) := by
        rw [← Hlist.out]
        refine hA.own.mono fun x hx => ?_
        rcases hx with hx | hx | hx
        · exact ⟨hx.1, by have := hx.2; omega⟩
        · rcases hx with hx | hx
          · have : wr.heap.size ≤ x := hx.1
            have := hx.2; exact ⟨by omega, by omega⟩
          · exact ⟨by omega, by omega⟩
        · have := hx.1; have := hx.2; exact ⟨by omega, by omega⟩
      have hS4 : InSame B wr w4 := ⟨⟨w4, fun k hk hn => (hA.grown.block k (by omega) (fun e => hn ((HB.out k).2 e.symm))).trans (hb2.block k hk)⟩, rfl⟩
      clear hA
      go_wp2
      refine hN _ _ hS4 ?_
      clear hN N
      refine wpE_cons (fun N hN => ?_)
      go_wp2
      refine hN _ _ hS4 ?_
      refine wpE_nil ?_
      clear hN N
      go_wp2
      go_roundw
      case rel => exact ⟨k + 1, by go_num, by omega, hO4, hb4⟩
      case measure => simp [intOf]; omega
    · obtain rfl : k = xs.length := by omega
      rw [List.take_of_length_le (Nat.le_refl _)] at hO
      go_wp2
      go_ret
      exact ⟨_, rfl, hO, fun x hx => (hO.lt x hx).1.1, hB⟩
end Go.Proofs.Ytngmipppgnlkdaa
