/- Contracts of net.Net's methods: Drop, Add. -/
import Derived.Test.YtngmipppgnlkdaaU
set_option linter.unusedVariables false
set_option linter.unusedSimpArgs false
namespace Go.Proofs.Ytngmipppgnlkdaa
open Go.RowKit
attribute [local go_sem] Same.cell

theorem Drop_none (g : Nat) (F : Foot) (w : World) (i : Int) (h : NetAt w g F []) :
    Calls Try.prog 25 #[.pointer (some ⟨g, 0, none⟩), .int .i64 i] w fun e w' => e = .returned (.bool false) ∧ Below w.heap.size w w' := by
  go_enter Try.func25, Try.ntmps25
  go_wp2_with fail
  refine (Take_none g F w i h).mono ?_
  rintro e w1 ⟨rfl, hb⟩
  go_wp2_with fail
  go_ret
  exact ⟨rfl, hb.alloc hb.size _⟩

theorem Drop_any (g : Nat) (F : Foot) (l : List Message) (w : World) (i : Int) (h : NetAt w g F l) (hn : l.length ≤ 1000000000) (h0 : 0 < l.length) :
    Calls Try.prog 25 #[.pointer (some ⟨g, 0, none⟩), .int .i64 i] w fun e w' => e = .returned (.bool true) ∧ NetAt w' g F (l.eraseIdx (netIx i l.length)) ∧ Keeps F w w' := by
  obtain ⟨m, hm⟩ : ∃ m, l[netIx i l.length]? = some m := ⟨_, List.getElem?_eq_getElem (netIx_lt i _ h0)⟩
  go_enter Try.func25, Try.ntmps25
  go_wp2_with fail
  refine (Take_any g F l w i h hn hm).mono ?_
  rintro e w1 ⟨A6, c6, A10, c10, rfl, hN, hM, hK⟩
  go_wp2_with fail
  go_ret
  exact ⟨rfl, hN.below ((Below.refl _ _).alloc (Nat.le_refl _) _), hK.alloc _⟩

def netAdd (l : List Message) : List Message → List Message
  | [] => l
  | m :: r => netAdd (if l.length < 10000 then l ++ [m] else l) r
theorem netAdd_append (l : List Message) : ∀ (a b : List Message), netAdd l (a ++ b) = netAdd (netAdd l a) b := by
  intro a
  induction a generalizing l with
  | nil => intro b; rfl
  | cons m r ih => intro b; exact ih _ b
theorem netAdd_len : ∀ (a l : List Message), l.length ≤ 10000 → (netAdd l a).length ≤ 10000
  | [], l, h => h
  | m :: r, l, h => by
    unfold netAdd
    refine netAdd_len r _ ?_
    split
    · rw [List.length_append, List.length_singleton]; omega
    · exact h

set_option maxRecDepth 100000 in
set_option maxHeartbeats 4000000 in
theorem Add_any_ (g : Nat) (F G : Foot) (l : List Message) (A : Option Addr) (c : Nat) (ys : List Message) (w : World) (h : NetAt w g F l) (hl : l.length ≤ 10000)
    (hx : RS kMessage w G A ys.length ys) (hc : ys.length ≤ 1000000000) (hf : ∀ m ∈ ys, m.Fits) (hap : ys.length ≤ 1 ∨ Apart G F) (hG : ∀ k, G k → k < w.heap.size) :
    Calls Try.prog 20 #[.pointer (some ⟨g, 0, none⟩), .slice A ys.length c] w fun e w' => e = .returned (.tuple #[]) ∧ NetAt w' g (Grow F w w') (netAdd l ys) ∧ Keeps F w w' := by
  go_enter Try.func20, Try.ntmps20
  go_wp2_with fail
  go_loopw [8] (fun q wr => ∃ k : Nat, q = .int .i64 k ∧ k ≤ ys.length ∧ NetAt wr g (Grow F w wr) (netAdd l (ys.take k)) ∧ Keeps F w wr ∧ (k < ys.length → RS kMessage wr G A ys.length ys)) (fun q _ => ys.length - (intOf q).toNat)
  case atStart => exact ⟨0, rfl, Nat.zero_le _, h.mono fun k hk => .inl hk, Keeps.refl _ _, fun _ => hx⟩
  case round =>
    obtain ⟨k, rfl, hk, hN, hK, hR⟩ := hrel
    by_cases hlt : k < ys.length
    · have hRk := hR hlt
      clear hR
      obtain ⟨m, hm⟩ : ∃ m, ys[k]? = some m := ⟨_, List.getElem?_eq_getElem hlt⟩
      have hmf := hf m (List.mem_of_getElem? hm)
      obtain ⟨ad, A6, c6, A10, c10, hA0, hFa, k0, k1, k2, k3, k4, k5, k6, k7, k8, k9, k10, l6, m6, r6, l10, m10, r10⟩ := at_Message hRk hm
      have hl' := netAdd_len (ys.take k) l hl
      have hstep : netAdd l (ys.take (k + 1)) = if (netAdd l (ys.take k)).length < 10000 then netAdd l (ys.take k) ++ [m] else netAdd l (ys.take k) := by
        rw [List.take_add_one, hm, netAdd_append]; rfl
      generalize netAdd l (ys.take k) = l' at hl' hstep hN
      have Hm := Lib.hid hm
      clear hm
      subst hA0
      obtain ⟨A', c', hg0, hg1, hgf, hF, hglt, ho, hc1, hc2, hr⟩ := hN.cells
      have Hg0 := Lib.hid hg0
      clear hg0
      have hne : wr.heap.size ≠ g := by omega
      by_cases hfull : l'.length < 10000
      · rw [if_pos hfull] at hstep
        have Hst := Lib.hid hstep
        clear hstep
        go_wp2_with fail
        have hb1 : Below wr.heap.size wr (wr.alloc (.cells #[.int .i64 m.Kind, .int .i64 m.From, .int .i64 m.To, .int .i64 m.Term, .int .i64 m.Last, .int .i64 m.LastTerm, .slice A6 m.Entries.length c6, .int .i64 m.Commit, .bool m.OK, .int .i64 m.Match, .slice A10 m.Data.length c10] 54)) := (Below.refl _ _).alloc (Nat.le_refl _) _
        have hs1 : wr.heap.size < (wr.alloc (.cells #[.int .i64 m.Kind, .int .i64 m.From, .int .i64 m.To, .int .i64 m.Term, .int .i64 m.Last, .int .i64 m.LastTerm, .slice A6 m.Entries.length c6, .int .i64 m.Commit, .bool m.OK, .int .i64 m.Match, .slice A10 m.Data.length c10] 54)).heap.size := by simp
        have hbx : (wr.alloc (.cells #[.int .i64 m.Kind, .int .i64 m.From, .int .i64 m.To, .int .i64 m.Term, .int .i64 m.Last, .int .i64 m.LastTerm, .slice A6 m.Entries.length c6, .int .i64 m.Commit, .bool m.OK, .int .i64 m.Match, .slice A10 m.Data.length c10] 54)).heap[wr.heap.size]? = some (.cells #[.int .i64 m.Kind, .int .i64 m.From, .int .i64 m.To, .int .i64 m.Term, .int .i64 m.Last, .int .i64 m.LastTerm, .slice A6 m.Entries.length c6, .int .i64 m.Commit, .bool m.OK, .int .i64 m.Match, .slice A10 m.Data.length c10] 54 (0, 0)) := heap_alloc_new wr _
        generalize wr.alloc (.cells #[.int .i64 m.Kind, .int .i64 m.From, .int .i64 m.To, .int .i64 m.Term, .int .i64 m.Last, .int .i64 m.LastTerm, .slice A6 m.Entries.length c6, .int .i64 m.Commit, .bool m.OK, .int .i64 m.Match, .slice A10 m.Data.length c10] 54) = w1 at hb1 hs1 hbx ⊢
        clear k0 k1 k2 k3 k4 k5 k6 k7 k8 k9 k10
        obtain ⟨k0, k1, k2, k3, k4, k5, k6, k7, k8, k9, k10⟩ := box_Message hbx
        have hg2 : w1.cell? ⟨g, 0, none⟩ = some (.slice A' l'.length c') := (hb1.cell hglt).trans hg1
        have hlt1 : g < w1.heap.size := by omega
        obtain ⟨B, HB⟩ : ∃ B : Foot, Hid (∀ k, B k ↔ (Value.slice A' l'.length c').ownBlock = some k) := ⟨_, fun _ => Iff.rfl⟩
        have hBg : ¬ B g := fun hk => (ho.lt g ((HB.out g).1 hk)).1.2 rfl
        have hBb : ¬ B wr.heap.size := fun hk => by have := (ho.lt _ ((HB.out _).1 hk)).2; omega
        refine wp_region_plan [0, 0, 0, 0, 0, 0, 1, 1, 1, 2, 2, 2] (fun w' => ∃ D : Same B w1, w' = D.world) (by kernel_rfl) (by kernel_rfl) InSame.start ?_
        simp only [sel, selE, Nat.reduceEqDiff, reduceIte]
        repeat (go_big_quiet_step (fail))
        refine wpQuiet_nil ?_
        refine wpE_cons (fun N hN => ?_)
        go_wp2_with fail
        refine (ncopied_any m A6 c6 A10 c10 _ G ⟨l6, m6, (r6.below hb1).drew, l10, m10, (r10.below hb1).drew⟩ hmf).mono ?_
        rintro e w2 ⟨qA6, qc6, qA10, qc10, rfl, hM, hb2'⟩
        have hb2 : Below w1.heap.size w1 w2 := below_undrew hb2'
        go_wp2
        refine hN _ _ (InSame.of_below hb2) ?_
        clear hN N
        refine wpE_cons (fun N hN => ?_)
        go_wp2
        have hb3 : Below w1.heap.size w1 (w2.alloc (.cells #[.int .i64 m.Kind, .int .i64 m.From, .int .i64 m.To, .int .i64 m.Term, .int .i64 m.Last, .int .i64 m.LastTerm, .slice qA6 m.Entries.length qc6, .int .i64 m.Commit, .bool m.OK, .int .i64 m.Match, .slice qA10 m.Data.length qc10] 54)) := hb2.alloc hb2.size _
        have hr3 : RS kMessage (w2.alloc (.cells #[.int .i64 m.Kind, .int .i64 m.From, .int .i64 m.To, .int .i64 m.Term, .int .i64 m.Last, .int .i64 m.LastTerm, .slice qA6 m.Entries.length qc6, .int .i64 m.Commit, .bool m.OK, .int .i64 m.Match, .slice qA10 m.Data.length qc10] 54)) (fun k => New w1.drew w2 k ∨ k = w2.heap.size) (some ⟨w2.heap.size, 0, none⟩) 1 [m] :=
          RS.lit w2 (xs := [m]) (Elems.single (K := kMessage) hM.rep)
        refine hN _ _ (InSame.of_below hb3) ?_
        have hs3 : (w2.alloc (.cells #[.int .i64 m.Kind, .int .i64 m.From, .int .i64 m.To, .int .i64 m.Term, .int .i64 m.Last, .int .i64 m.LastTerm, .slice qA6 m.Entries.length qc6, .int .i64 m.Commit, .bool m.OK, .int .i64 m.Match, .slice qA10 m.Data.length qc10] 54)).heap.size = w2.heap.size + 1 := by simp
        generalize w2.alloc (.cells #[.int .i64 m.Kind, .int .i64 m.From, .int .i64 m.To, .int .i64 m.Term, .int .i64 m.Last, .int .i64 m.LastTerm, .slice qA6 m.Entries.length qc6, .int .i64 m.Commit, .bool m.OK, .int .i64 m.Match, .slice qA10 m.Data.length qc10] 54) = w3 at hb3 hr3 hs3 ⊢
        clear hN N
        refine wpE_cons (fun N hN => ?_)
        have hb03 : Below wr.heap.size wr w3 := hb1.trans (hb3.mono hb1.size)
        go_wp2_with (first
          | (at_builtin
             refine wpList_append_S rfl tMessage (.tmp 22) (.tmp 25) rfl (K := kMessage) rfl rfl (ho.below hb03) hr3 ?_ ?_ ?_ ?_))
        · intro k hk hk2
          have h1 := ho.lt k hk
          have h2 := h1.2
          have h3 := hb2.size
          rcases hk2 with hk2 | hk2
          · have := hk2.1; rw [World.size_drew] at this; omega
          · omega
        · omega
        · omega
        intro v4 w4 hA
        obtain ⟨A5, n5, c5, rfl⟩ := hA.own.shape
        go_wp2
        have hs4 := hA.grown.size
        have hs3' := hb3.size
        refine hN _ _ ⟨⟨w4, fun k hk hn => (hA.grown.block k (by omega) (fun e => hn ((HB.out k).2 e.symm))).trans (hb3.block k hk)⟩, rfl⟩ ?_
        refine wpE_nil ?_
        clear hN N
        have hgo : some g ≠ (Value.slice A' l'.length c').ownBlock := fun e => hBg ((HB.out g).2 e.symm)
        have hg4 : w4.heap[g]? = some (.cells #[.slice A' l'.length c'] 50 (0, 0)) := (hA.grown.block g (by omega) hgo).trans ((hb03.block g hglt).trans Hg0.out)
        have q1 : w4.cell? ⟨g, 0, none⟩ = some (.slice A' l'.length c') := cell_of_row w4 g 0 _ _ _ hg4
        have q2 : w4.frozen? ⟨g, 0, none⟩ = false := frozen_of_row w4 g 0 _ _ hg4
        have Hg4 := Lib.hid hg4
        clear hg4
        go_wp2
        have hNn : NetAt (w4.setCell ⟨g, 0, none⟩ (.slice A5 n5 c5)) g (Grow F w w4) (l' ++ [m]) := by
          have hwr := hK.size
          have h2s := hb2.size
          refine NetAt.store Hg4.out ?_ (hA.own.mono fun k hk => ?_)
          · rcases hF with hF | hF
            · exact .inl hF
            · exact .inr ⟨hF.1, by omega⟩
          · rcases hk with hk | hk | hk
            · exact ⟨hk.1.imp id fun hy => ⟨hy.1, by omega⟩, hk.2⟩
            · rcases hk with hk | hk
              · have h1 := hk.1; have h2 := hk.2; rw [World.size_drew] at h1
                exact ⟨.inr ⟨by omega, by omega⟩, by omega⟩
              · exact ⟨.inr ⟨by omega, by omega⟩, by omega⟩
            · exact ⟨.inr ⟨by omega, by omega⟩, by omega⟩
        have hKn : Keeps (Grow F w wr) wr (w4.setCell ⟨g, 0, none⟩ (.slice A5 n5 c5)) :=
          Keeps.setCell ((Keeps.of_below hb03 _).grown hA.grown fun k hk _ => (ho.lt k hk).1.1) (p := ⟨g, 0, none⟩) (fun _ => hF) _
        have hs5 : (w4.setCell ⟨g, 0, none⟩ (.slice A5 n5 c5)).heap.size = w4.heap.size := World.size_setCell ..
        generalize w4.setCell ⟨g, 0, none⟩ (.slice A5 n5 c5) = w5 at hNn hKn hs5 ⊢
        go_roundw
        case rel =>
          refine ⟨k + 1, by go_num, by omega, ?_, hK.step hKn (fun x hx hlt => ?_), fun hlt2 => hRk.keeps hKn ?_⟩
          · rw [Hst.out]
            unfold Grow at hNn ⊢
            rw [hs5]
            exact hNn
          · rcases hx with hx | hx
            · exact hx
            · omega
          · rcases hap with hap | hap
            · omega
            · intro x hx hy
              rcases hy with hy | hy
              · exact hap x hx hy
              · have := hG x hx; omega
        case measure => simp [intOf]; omega
      · rw [if_neg hfull] at hstep
        have Hst := Lib.hid hstep
        clear hstep
        go_wp2_with fail
        have hb1 : Below wr.heap.size wr (wr.alloc (.cells #[.int .i64 m.Kind, .int .i64 m.From, .int .i64 m.To, .int .i64 m.Term, .int .i64 m.Last, .int .i64 m.LastTerm, .slice A6 m.Entries.length c6, .int .i64 m.Commit, .bool m.OK, .int .i64 m.Match, .slice A10 m.Data.length c10] 54)) := (Below.refl _ _).alloc (Nat.le_refl _) _
        generalize wr.alloc (.cells #[.int .i64 m.Kind, .int .i64 m.From, .int .i64 m.To, .int .i64 m.Term, .int .i64 m.Last, .int .i64 m.LastTerm, .slice A6 m.Entries.length c6, .int .i64 m.Commit, .bool m.OK, .int .i64 m.Match, .slice A10 m.Data.length c10] 54) = w1 at hb1 ⊢
        go_roundw
        case rel =>
          refine ⟨k + 1, by go_num, by omega, ?_, hK.then_below hb1, fun _ => hRk.below hb1⟩
          rw [Hst.out]
          exact (hN.below hb1).mono fun x hx => hx.imp id fun hy => ⟨hy.1, by have := hb1.size; omega⟩
        case measure => simp [intOf]; omega
    · obtain rfl : k = ys.length := by omega
      rw [List.take_of_length_le (Nat.le_refl _)] at hN
      go_wp2
      go_end0
      exact ⟨rfl, hN, hK⟩
end Go.Proofs.Ytngmipppgnlkdaa
