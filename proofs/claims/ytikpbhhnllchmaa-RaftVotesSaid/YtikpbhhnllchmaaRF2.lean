/- raftlog.Copy; raft.Again, New. -/
import Derived.Test.YtikpbhhnllchmaaRF1
set_option linter.unusedVariables false
set_option linter.unusedSimpArgs false
namespace Go.Proofs.Ytikpbhhnllchmaa
open Go.RowKit
attribute [local go_sem] Same.cell Same.frozen

set_option maxHeartbeats 1000000 in
theorem Copy_any (g : Nat) (F : Foot) (s : LogS) (w : World) (h : LogAt w g F s) (ok : s.Ok) :
    Calls Try.prog 38 #[.pointer (some ⟨g, 0, none⟩)] w fun e w' => ∃ g2, e = .returned (.pointer (some ⟨g2, 0, none⟩)) ∧ LogAt w' g2 (New w w') s ∧ Below w.heap.size w w' := by
  obtain ⟨A, c, h0, h1, h2, hfz, hF, hlt, ho, hc1, hc2, hr, hbk⟩ := h.cells
  have l1 := ok.l1
  have HC := Lib.hid (copied_any A s.l.length c w.drew _ s.l hr.drew (by omega) (fun x hx => by have := ok.r1 x hx; omega))
  have hNF : ¬ NoF g := id
  clear h ho hr hbk hfz
  go_enter Try.func38, Try.ntmps38
  go_wp2
  refine wp_region_plan [0, 0, 0, 0, 0, 0, 0, 0, 0, 0, 0, 0, 1, 1, 1, 2] (fun w' => ∃ D : Same NoF w, w' = D.world) (by kernel_rfl) (by kernel_rfl) InSame.start ?_
  simp only [sel, selE, Nat.reduceEqDiff, reduceIte]
  repeat (go_big_quiet_step (fail))
  refine wpQuiet_nil ?_
  refine wpE_cons (fun N hN => ?_)
  go_wp2_with fail
  refine HC.out.mono ?_
  rintro e w3 ⟨v3, rfl, hM⟩
  obtain ⟨A3, n3, c3, rfl⟩ := hM.own.shape
  have hb3 : Below w.heap.size w w3 := below_undrew hM.below
  have hM3 := Lib.hid hM
  clear hM
  go_wp2
  refine hN _ _ (InSame.of_below hb3) ?_
  refine wpE_cons (fun N2 hN2 => ?_)
  clear hN N
  go_wp2
  refine hN2 _ _ (InSame.of_below hb3) ?_
  refine wpE_cons (fun N3 hN3 => ?_)
  clear hN2 N2
  have hb4 : Below w.heap.size w (w3.alloc (.cells #[.int .i64 s.base, .int .i64 s.term, .slice A3 n3 c3] 65)) := hb3.alloc hb3.size _
  have hnew := Lib.hid (heap_alloc_new w3 (.cells #[.int .i64 s.base, .int .i64 s.term, .slice A3 n3 c3] 65))
  have hown := Lib.hid (hM3.out.own.below ((Below.refl _ _).alloc (Nat.le_refl _) (.cells #[.int .i64 s.base, .int .i64 s.term, .slice A3 n3 c3] 65)))
  go_wp2
  refine hN3 _ _ (InSame.of_below hb4) ?_
  refine wpE_nil ?_
  clear hN3 N3
  go_wp2
  go_ret
  have hs3 := hb3.size
  refine ⟨w3.heap.size, rfl, ⟨_, hnew.out, ⟨hs3, by simp⟩, hown.out.mono fun k hk => ?_⟩, hb4⟩
  have h1 : w.heap.size ≤ k := hk.1
  have h2 := hk.2
  exact ⟨⟨h1, by simp; omega⟩, by omega⟩

/-- Three parts. -/
def newP (q : Nat) (A B : Foot) : Nat → Foot
  | 0 => fun k => k = q
  | 1 => A
  | 2 => B
  | _ + 3 => NoF
theorem newP_dis {q : Nat} {A B : Foot} (h1 : ∀ k, A k → k ≠ q) (h2 : ∀ k, B k → k ≠ q) (h3 : ∀ k, A k → ¬ B k) : ∀ i j k, newP q A B i k → newP q A B j k → i = j
  | 0, 0, _, _, _ => rfl
  | 0, 1, k, hi, hj => absurd hi (h1 k hj)
  | 0, 2, k, hi, hj => absurd hi (h2 k hj)
  | 1, 0, k, hi, hj => absurd hj (h1 k hi)
  | 1, 1, _, _, _ => rfl
  | 1, 2, k, hi, hj => absurd hj (h3 k hi)
  | 2, 0, k, hi, hj => absurd hj (h2 k hi)
  | 2, 1, k, hi, hj => absurd hi (h3 k hj)
  | 2, 2, _, _, _ => rfl
  | _ + 3, _, _, hi, _ => hi.elim
  | _, _ + 3, _, _, hj => hj.elim
theorem newP_all {q : Nat} {A B : Foot} {P : Nat → Prop} (h0 : P q) (h1 : ∀ k, A k → P k) (h2 : ∀ k, B k → P k) : ∀ i k, newP q A B i k → P k
  | 0, k, hi => by have : k = q := hi; rw [this]; exact h0
  | 1, k, hi => h1 k hi
  | 2, k, hi => h2 k hi
  | _ + 3, _, hi => hi.elim
/-- A node that remembers a log, and nothing else. -/
def newS (id n : Int) (l : LogS) : RaftS := ⟨id, n, 0, 0, 0, 0, l.base, 0, 0, l, [], [], [], []⟩
set_option maxHeartbeats 2000000 in
theorem Again_any (id n : Int) (lb : Nat) (l : LogS) (G : Foot) (w : World) (h : LogAt w lb G l) (ok : l.Ok) (hi : 1 ≤ id) (hin : id ≤ n) (hn : n ≤ 7) :
    Calls Try.prog 22 #[.int .i64 id, .int .i64 n, .int .i64 0, .int .i64 0, .pointer (some ⟨lb, 0, none⟩), .slice none 0 0] w fun e w' => ∃ rb, e = .returned (.pointer (some ⟨rb, 0, none⟩)) ∧ RaftAt w' rb (New w w') (newS id n l) ∧ Below w.heap.size w w' := by
  have m1 : (if (1 : Int) < n then n else 1) = n := by split <;> omega
  have m3 : (if (1 : Int) < id then id else 1) = id := by split <;> omega
  have HC := Lib.hid (Copy_any lb G l w h ok)
  have b0 := ok.b0
  have Hok := Lib.hid ok
  clear h ok
  go_enter Try.func22, Try.ntmps22
  go_wp2_with fail
  refine HC.out.mono ?_
  rintro e w1 ⟨g2, rfl, hL1, hb1⟩
  have H1 := Lib.hid (And.intro hL1 hb1)
  clear hL1 hb1 HC
  go_wp2_with fail
  refine (clone_byte none 0 0 w1 NoF [] RS.nil (by omega)).mono ?_
  rintro e w2 ⟨v, rfl, hM⟩
  obtain ⟨As, cs, rfl, l1, l2, hrd⟩ := hM.own.reads
  have H2 := Lib.hid (And.intro hrd (And.intro l1 (And.intro l2 hM.below)))
  simp only [List.length_nil]
  clear hM hrd l1 l2
  have hs1 := H1.out.2.size
  have hs2 := H2.out.2.2.2.size
  have hL2 := H1.out.1.below H2.out.2.2.2
  go_wp2_with fail
  have hnew := heap_alloc_new w2 (.cells #[.int .i64 id, .int .i64 n, .int .i64 0, .int .i64 0, .int .i64 0, .int .i64 0, .int .i64 0, .int .i64 0, .int .i64 0, .pointer (some ⟨g2, 0, none⟩), .slice As 0 cs, .slice none 0 0, .slice none 0 0, .slice none 0 0] 68)
  have hb3 : Below w2.heap.size w2 (w2.alloc (.cells #[.int .i64 id, .int .i64 n, .int .i64 0, .int .i64 0, .int .i64 0, .int .i64 0, .int .i64 0, .int .i64 0, .int .i64 0, .pointer (some ⟨g2, 0, none⟩), .slice As 0 cs, .slice none 0 0, .slice none 0 0, .slice none 0 0] 68)) := (Below.refl _ _).alloc (Nat.le_refl _) _
  have hwl : w2.heap.size < (w2.alloc (.cells #[.int .i64 id, .int .i64 n, .int .i64 0, .int .i64 0, .int .i64 0, .int .i64 0, .int .i64 0, .int .i64 0, .int .i64 0, .pointer (some ⟨g2, 0, none⟩), .slice As 0 cs, .slice none 0 0, .slice none 0 0, .slice none 0 0] 68)).heap.size := by simp
  generalize w2.alloc (.cells #[.int .i64 id, .int .i64 n, .int .i64 0, .int .i64 0, .int .i64 0, .int .i64 0, .int .i64 0, .int .i64 0, .int .i64 0, .pointer (some ⟨g2, 0, none⟩), .slice As 0 cs, .slice none 0 0, .slice none 0 0, .slice none 0 0] 68) = wb at hnew hb3 hwl ⊢
  have hLb := hL2.below hb3
  have HB := Lib.hid (Base_any g2 _ l wb hLb)
  have hR : RaftIn wb w2.heap.size g2 (newP w2.heap.size (New w w1) (New w1 w2)) As cs (.slice none 0 0) (.slice none 0 0) (.slice none 0 0) { newS id n l with commit := 0 } := by
    refine ⟨hnew, rfl, hLb, ?_, H2.out.2.1 |> fun h => ⟨h, H2.out.2.2.1⟩, OwnS.nil, OwnS.nil, OwnS.nil, ?_, ?_⟩
    · exact (H2.out.1.below hb3).mono fun k hk => hk.resolve_left (fun h => h)
    · exact newP_dis (fun k hk => by have := hk.2; omega) (fun k hk => by have := hk.2; omega) (fun k h1 h2 => by have := h1.2; have := h2.1; omega)
    · exact newP_all hwl (fun k hk => by have := hk.2; omega) (fun k hk => by have := hk.2; omega)
  have HR := Lib.hid (And.intro hR hb3)
  obtain ⟨c0, c1, c2, c3, c4, c5, c6, c7, c8, c9, c10, c11, c12, c13, hfz, -⟩ := hR.facts
  have f6 := hfz 6
  dsimp only [newS] at c6
  clear hR hnew hb3 hLb hL2 c0 c1 c2 c3 c4 c5 c7 c8 c9 c10 c11 c12 c13 hfz
  refine HB.out.mono ?_
  rintro e w4 ⟨rfl, k, rfl⟩
  go_wp2
  go_ret
  have hb02 : Below w.heap.size w w2 := H1.out.2.trans (H2.out.2.2.2.mono hs1)
  have hs02 := hb02.size
  have hb4 : Below w.heap.size w (wb.drewN k) := (hb02.trans (HR.out.2.mono hs02)).trans ((drawn_below wb k).mono (by omega))
  have hR2 : RaftIn (wb.drewN k) _ _ _ _ _ _ _ _ _ := HR.out.1.keep (Nat.le_refl _) fun _ _ _ => rfl
  refine ⟨w2.heap.size, rfl, ⟨g2, _, As, cs, _, _, _, hR2.set_commit l.base, ?_⟩, hb4.setCell (p := ⟨w2.heap.size, 6, none⟩) hs02 _⟩
  intro i k' hi
  have hsz : ((wb.drewN k).setCell ⟨w2.heap.size, 6, none⟩ (.int .i64 l.base)).heap.size = wb.heap.size := World.size_setCell ..
  have hlt := HR.out.1.lt i k' hi
  refine ⟨?_, by rw [hsz]; exact hlt⟩
  exact newP_all (P := fun k => w.heap.size ≤ k) (by omega) (fun k hk => hk.1) (fun k hk => by have := hk.1; omega) i k' hi
theorem New_any (id n : Int) (w : World) (hi : 1 ≤ id) (hin : id ≤ n) (hn : n ≤ 7) :
    Calls Try.prog 11 #[.int .i64 id, .int .i64 n] w fun e w' => ∃ rb, e = .returned (.pointer (some ⟨rb, 0, none⟩)) ∧ RaftAt w' rb (New w w') (newS id n ⟨0, 0, []⟩) ∧ Below w.heap.size w w' := by
  have hL : LogAt (w.alloc (.cells #[.int .i64 0, .int .i64 0, .slice none 0 0] 65)) w.heap.size (fun k => k = w.heap.size) ⟨0, 0, []⟩ := ⟨_, heap_alloc_new w _, rfl, OwnS.nil⟩
  have hb1 : Below w.heap.size w (w.alloc (.cells #[.int .i64 0, .int .i64 0, .slice none 0 0] 65)) := (Below.refl _ _).alloc (Nat.le_refl _) _
  have HA := Lib.hid (Again_any id n w.heap.size ⟨0, 0, []⟩ _ _ hL ⟨by simp, by simp, by simp, by simp⟩ hi hin hn)
  have HB := Lib.hid hb1
  clear hL hb1
  go_enter Try.func11, Try.ntmps11
  go_wp2_with fail
  refine HA.out.mono ?_
  rintro e w1 ⟨rb, rfl, hR, hb⟩
  have hs := HB.out.size
  have HH := Lib.hid (And.intro (hR.mono (G := New w w1) fun k hk => ⟨by have := hk.1; omega, hk.2⟩) (HB.out.trans (hb.mono hs)))
  clear hR hb
  go_wp2
  go_ret
  exact ⟨rb, rfl, HH.out⟩
end Go.Proofs.Ytikpbhhnllchmaa
