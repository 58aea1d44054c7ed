/- Contracts of net.Net's methods: Take, Drop. -/
import Derived.Test.YtngmipppgnlkdaaQ
set_option linter.unusedVariables false
set_option linter.unusedSimpArgs false
namespace Go.Proofs.Ytngmipppgnlkdaa
open Go.RowKit
attribute [local go_sem] Same.cell

/-- The cells of a block of eleven. -/
theorem box11 {W : World} {g : Nat} {t : TypeId} {z0 z1 z2 z3 z4 z5 z6 z7 z8 z9 z10 : Value} (h : W.heap[g]? = some (.cells #[z0, z1, z2, z3, z4, z5, z6, z7, z8, z9, z10] t (0, 0))) : W.cell? ⟨g, 0, none⟩ = some z0 ∧ W.cell? ⟨g, 1, none⟩ = some z1 ∧ W.cell? ⟨g, 2, none⟩ = some z2 ∧ W.cell? ⟨g, 3, none⟩ = some z3 ∧ W.cell? ⟨g, 4, none⟩ = some z4 ∧ W.cell? ⟨g, 5, none⟩ = some z5 ∧ W.cell? ⟨g, 6, none⟩ = some z6 ∧ W.cell? ⟨g, 7, none⟩ = some z7 ∧ W.cell? ⟨g, 8, none⟩ = some z8 ∧ W.cell? ⟨g, 9, none⟩ = some z9 ∧ W.cell? ⟨g, 10, none⟩ = some z10 ∧ W.frozen? ⟨g, 0, none⟩ = false ∧ W.frozen? ⟨g, 1, none⟩ = false ∧ W.frozen? ⟨g, 2, none⟩ = false ∧ W.frozen? ⟨g, 3, none⟩ = false ∧ W.frozen? ⟨g, 4, none⟩ = false ∧ W.frozen? ⟨g, 5, none⟩ = false ∧ W.frozen? ⟨g, 6, none⟩ = false ∧ W.frozen? ⟨g, 7, none⟩ = false ∧ W.frozen? ⟨g, 8, none⟩ = false ∧ W.frozen? ⟨g, 9, none⟩ = false ∧ W.frozen? ⟨g, 10, none⟩ = false :=
  ⟨cell_of_row W g 0 _ _ _ h, cell_of_row W g 1 _ _ _ h, cell_of_row W g 2 _ _ _ h, cell_of_row W g 3 _ _ _ h, cell_of_row W g 4 _ _ _ h, cell_of_row W g 5 _ _ _ h, cell_of_row W g 6 _ _ _ h, cell_of_row W g 7 _ _ _ h, cell_of_row W g 8 _ _ _ h, cell_of_row W g 9 _ _ _ h, cell_of_row W g 10 _ _ _ h, frozen_of_row W g 0 _ _ h, frozen_of_row W g 1 _ _ h, frozen_of_row W g 2 _ _ h, frozen_of_row W g 3 _ _ h, frozen_of_row W g 4 _ _ h, frozen_of_row W g 5 _ _ h, frozen_of_row W g 6 _ _ h, frozen_of_row W g 7 _ _ h, frozen_of_row W g 8 _ _ h, frozen_of_row W g 9 _ _ h, frozen_of_row W g 10 _ _ h⟩
theorem OwnS.split {α : Type} {K : Kind α} {e : TypeId} {W : World} {F : Foot} {v : Value} {xs : List α} (h : OwnS K e W F v xs) (i : Nat) : OwnSp K e W F F v xs i := by
  obtain ⟨cs, h1, h2, h3⟩ := h
  exact ⟨cs, h1, h2.take_ i, h2.drop_ i, h3⟩
theorem Keeps.of_set {W W' : World} {g : Nat} (h : Keeps (fun k => k = g) W W') {k : Nat} (hk : k ≠ g) (hlt : k < W.heap.size) : W'.heap[k]? = W.heap[k]? := h.block k hlt hk

set_option maxHeartbeats 1000000 in
theorem Take_none (g : Nat) (F : Foot) (w : World) (i : Int) (h : NetAt w g F []) :
    Calls Try.prog 21 #[.pointer (some ⟨g, 0, none⟩), .int .i64 i] w fun e w' => e = .returned (.tuple #[.agg #[.int .i64 0, .int .i64 0, .int .i64 0, .int .i64 0, .int .i64 0, .int .i64 0, .slice none 0 0, .int .i64 0, .bool false, .int .i64 0, .slice none 0 0], .bool false]) ∧ Below w.heap.size w w' := by
  go_enter Try.func21, Try.ntmps21
  go_wp2_with fail
  have hb1 : Below w.heap.size w (w.alloc (.cells #[.int .i64 0, .int .i64 0, .int .i64 0, .int .i64 0, .int .i64 0, .int .i64 0, .slice none 0 0, .int .i64 0, .bool false, .int .i64 0, .slice none 0 0] 54)) := (Below.refl _ _).alloc (Nat.le_refl _) _
  have hbx := heap_alloc_new w (.cells #[.int .i64 0, .int .i64 0, .int .i64 0, .int .i64 0, .int .i64 0, .int .i64 0, .slice none 0 0, .int .i64 0, .bool false, .int .i64 0, .slice none 0 0] 54)
  generalize hW : w.alloc (.cells #[.int .i64 0, .int .i64 0, .int .i64 0, .int .i64 0, .int .i64 0, .int .i64 0, .slice none 0 0, .int .i64 0, .bool false, .int .i64 0, .slice none 0 0] 54) = w1 at hb1 hbx ⊢
  generalize hb : w.heap.size = b at hb1 hbx ⊢
  refine (at_none g F w1 i (h.below (hb ▸ hb1))).mono ?_
  rintro e w2 ⟨rfl, rfl⟩
  obtain ⟨qc0, qc1, qc2, qc3, qc4, qc5, qc6, qc7, qc8, qc9, qc10, qf0, qf1, qf2, qf3, qf4, qf5, qf6, qf7, qf8, qf9, qf10⟩ := box11 hbx
  have Hbx := Lib.hid hbx
  clear hbx
  go_wp2_with fail
  obtain ⟨hw1, hw2⟩ := set11 w2 b _ _ _ _ _ _ _ _ _ _ _ _ Hbx.out (.int .i64 0) (.int .i64 0) (.int .i64 0) (.int .i64 0) (.int .i64 0) (.int .i64 0) (.slice none 0 0) (.int .i64 0) (.bool false) (.int .i64 0) (.slice none 0 0)
  generalize ((((((((((w2.setCell ⟨b, 0, none⟩ (.int .i64 0)).setCell ⟨b, 1, none⟩ (.int .i64 0)).setCell ⟨b, 2, none⟩ (.int .i64 0)).setCell ⟨b, 3, none⟩ (.int .i64 0)).setCell ⟨b, 4, none⟩ (.int .i64 0)).setCell ⟨b, 5, none⟩ (.int .i64 0)).setCell ⟨b, 6, none⟩ (.slice none 0 0)).setCell ⟨b, 7, none⟩ (.int .i64 0)).setCell ⟨b, 8, none⟩ (.bool false)).setCell ⟨b, 9, none⟩ (.int .i64 0)).setCell ⟨b, 10, none⟩ (.slice none 0 0) = w3 at hw1 hw2 ⊢
  obtain ⟨rc0, rc1, rc2, rc3, rc4, rc5, rc6, rc7, rc8, rc9, rc10, rf0, rf1, rf2, rf3, rf4, rf5, rf6, rf7, rf8, rf9, rf10⟩ := box11 hw1
  refine bodyPost_ret (v := .tuple #[.agg #[.int .i64 0, .int .i64 0, .int .i64 0, .int .i64 0, .int .i64 0, .int .i64 0, .slice none 0 0, .int .i64 0, .bool false, .int .i64 0, .slice none 0 0], .bool false]) (by simp [results, Try.results21, go_sem, rc0, rc1, rc2, rc3, rc4, rc5, rc6, rc7, rc8, rc9, rc10]) rfl ⟨rfl, ?_⟩
  have ht := Keeps.below_of (a := w) hw2 hb1.size (fun k hk => by have : k = b := hk; omega)
  rw [hb] at ht
  exact hb ▸ hb1.trans ht

set_option maxHeartbeats 4000000 in
theorem Take_any (g : Nat) (F : Foot) (l : List Message) (w : World) (i : Int) (h : NetAt w g F l) (hn : l.length ≤ 1000000000) {m : Message} (hm : l[netIx i l.length]? = some m) :
    Calls Try.prog 21 #[.pointer (some ⟨g, 0, none⟩), .int .i64 i] w fun e w' => ∃ A6 c6 A10 c10, e = .returned (.tuple #[.agg #[.int .i64 m.Kind, .int .i64 m.From, .int .i64 m.To, .int .i64 m.Term, .int .i64 m.Last, .int .i64 m.LastTerm, .slice A6 m.Entries.length c6, .int .i64 m.Commit, .bool m.OK, .int .i64 m.Match, .slice A10 m.Data.length c10], .bool true]) ∧
      NetAt w' g F (l.eraseIdx (netIx i l.length)) ∧ MsgAt w' F m A6 c6 A10 c10 ∧ Keeps F w w' := by
  have h0 := h.bound
  clear h
  obtain ⟨k, hk⟩ : ∃ k, Hid (netIx i l.length = k) := ⟨_, rfl⟩
  rw [hk.out] at hm ⊢
  have hkl : k < l.length := (List.getElem?_eq_some_iff.1 hm).1
  have hm' := Lib.hid hm
  clear hm
  go_enter Try.func21, Try.ntmps21
  go_wp2_with fail
  have hb1 : Below w.heap.size w (w.alloc (.cells #[.int .i64 0, .int .i64 0, .int .i64 0, .int .i64 0, .int .i64 0, .int .i64 0, .slice none 0 0, .int .i64 0, .bool false, .int .i64 0, .slice none 0 0] 54)) := (Below.refl _ _).alloc (Nat.le_refl _) _
  have hbx := heap_alloc_new w (.cells #[.int .i64 0, .int .i64 0, .int .i64 0, .int .i64 0, .int .i64 0, .int .i64 0, .slice none 0 0, .int .i64 0, .bool false, .int .i64 0, .slice none 0 0] 54)
  have hs1 : (w.alloc (.cells #[.int .i64 0, .int .i64 0, .int .i64 0, .int .i64 0, .int .i64 0, .int .i64 0, .slice none 0 0, .int .i64 0, .bool false, .int .i64 0, .slice none 0 0] 54)).heap.size = w.heap.size + 1 := by simp
  generalize hW : w.alloc (.cells #[.int .i64 0, .int .i64 0, .int .i64 0, .int .i64 0, .int .i64 0, .int .i64 0, .slice none 0 0, .int .i64 0, .bool false, .int .i64 0, .slice none 0 0] 54) = w1 at hb1 hbx hs1 ⊢
  have h1 := h0.below hb1
  have hgw := h0.lt
  generalize hb : w.heap.size = b at hb1 hbx hs1 hgw ⊢
  refine (at_any g _ l w1 i h1 hn (by omega)).mono ?_
  rintro e w1' ⟨rfl, rfl⟩
  rw [hk.out]
  obtain ⟨A, c, hg0, hg1, hgf, hF, hlt, ho, hc1, hc2, hr⟩ := h1.cells
  obtain ⟨G, rfl⟩ := (ho.split k).addr (by omega)
  obtain ⟨cc, hrep, hcell, hGl, hstep⟩ := (ho.split k).step hm'.out
  clear hstep
  obtain ⟨A6, c6, A10, c10, rfl, l6, m6, r6, l10, m10, r10⟩ := hrep
  have hG := ho.lt G rfl
  have kc0 : w1'.cell? ⟨G, k * 11, none⟩ = some (.int .i64 m.Kind) := (hcell 0 _ rfl).1
  have kc1 : w1'.cell? ⟨G, k * 11 + 1, none⟩ = some (.int .i64 m.From) := (hcell 1 _ rfl).1
  have kc2 : w1'.cell? ⟨G, k * 11 + 2, none⟩ = some (.int .i64 m.To) := (hcell 2 _ rfl).1
  have kc3 : w1'.cell? ⟨G, k * 11 + 3, none⟩ = some (.int .i64 m.Term) := (hcell 3 _ rfl).1
  have kc4 : w1'.cell? ⟨G, k * 11 + 4, none⟩ = some (.int .i64 m.Last) := (hcell 4 _ rfl).1
  have kc5 : w1'.cell? ⟨G, k * 11 + 5, none⟩ = some (.int .i64 m.LastTerm) := (hcell 5 _ rfl).1
  have kc6 : w1'.cell? ⟨G, k * 11 + 6, none⟩ = some (.slice A6 m.Entries.length c6) := (hcell 6 _ rfl).1
  have kc7 : w1'.cell? ⟨G, k * 11 + 7, none⟩ = some (.int .i64 m.Commit) := (hcell 7 _ rfl).1
  have kc8 : w1'.cell? ⟨G, k * 11 + 8, none⟩ = some (.bool m.OK) := (hcell 8 _ rfl).1
  have kc9 : w1'.cell? ⟨G, k * 11 + 9, none⟩ = some (.int .i64 m.Match) := (hcell 9 _ rfl).1
  have kc10 : w1'.cell? ⟨G, k * 11 + 10, none⟩ = some (.slice A10 m.Data.length c10) := (hcell 10 _ rfl).1
  have HO := Lib.hid (And.intro hg0 ho)
  clear hcell hg0 hr
  have Hbx := Lib.hid hbx
  clear hbx
  go_wp2_with fail
  have hb2 : Below w1'.heap.size w1' (w1'.alloc (.cells #[.int .i64 m.Kind, .int .i64 m.From, .int .i64 m.To, .int .i64 m.Term, .int .i64 m.Last, .int .i64 m.LastTerm, .slice A6 m.Entries.length c6, .int .i64 m.Commit, .bool m.OK, .int .i64 m.Match, .slice A10 m.Data.length c10] 54)) := (Below.refl _ _).alloc (Nat.le_refl _) _
  have hbm : (w1'.alloc (.cells #[.int .i64 m.Kind, .int .i64 m.From, .int .i64 m.To, .int .i64 m.Term, .int .i64 m.Last, .int .i64 m.LastTerm, .slice A6 m.Entries.length c6, .int .i64 m.Commit, .bool m.OK, .int .i64 m.Match, .slice A10 m.Data.length c10] 54)).heap[b + 1]? = some (.cells #[.int .i64 m.Kind, .int .i64 m.From, .int .i64 m.To, .int .i64 m.Term, .int .i64 m.Last, .int .i64 m.LastTerm, .slice A6 m.Entries.length c6, .int .i64 m.Commit, .bool m.OK, .int .i64 m.Match, .slice A10 m.Data.length c10] 54 (0, 0)) := hs1 ▸ heap_alloc_new w1' (.cells #[.int .i64 m.Kind, .int .i64 m.From, .int .i64 m.To, .int .i64 m.Term, .int .i64 m.Last, .int .i64 m.LastTerm, .slice A6 m.Entries.length c6, .int .i64 m.Commit, .bool m.OK, .int .i64 m.Match, .slice A10 m.Data.length c10] 54)
  have hs2 : (w1'.alloc (.cells #[.int .i64 m.Kind, .int .i64 m.From, .int .i64 m.To, .int .i64 m.Term, .int .i64 m.Last, .int .i64 m.LastTerm, .slice A6 m.Entries.length c6, .int .i64 m.Commit, .bool m.OK, .int .i64 m.Match, .slice A10 m.Data.length c10] 54)).heap.size = b + 2 := by simp [hs1]
  generalize w1'.alloc (.cells #[.int .i64 m.Kind, .int .i64 m.From, .int .i64 m.To, .int .i64 m.Term, .int .i64 m.Last, .int .i64 m.LastTerm, .slice A6 m.Entries.length c6, .int .i64 m.Commit, .bool m.OK, .int .i64 m.Match, .slice A10 m.Data.length c10] 54) = w2 at hb2 hbm hs2 ⊢
  refine (Delete_any _ _ _ _ _ _ (ho.below hb2) hkl hn).mono ?_
  rintro e w3 ⟨v, rfl, ho3, hob, hk3⟩
  obtain ⟨A3, n3, c3, rfl⟩ := ho3.shape
  have hGg : G ≠ g := hG.1.2
  have hGb : G < b := hb ▸ hG.1.1.2
  have kk : ∀ x, x < w2.heap.size → x ≠ G → w3.heap[x]? = w2.heap[x]? := fun x hx hne => hk3.block x hx (fun e => hne (by simpa [Value.ownBlock] using e.symm))
  have hs3 := hk3.size
  have hg3 := (kk g (by omega) (Ne.symm hGg)).trans ((hb2.block g hlt).trans HO.out.1)
  have hbm3 := (kk (b + 1) (by omega) (by omega)).trans hbm
  have hbx3 := (kk b (by omega) (by omega)).trans ((hb2.block b (by omega)).trans Hbx.out)
  have pg : w3.cell? ⟨g, 0, none⟩ = some (.slice (some ⟨G, 0, none⟩) l.length c) := cell_of_row w3 g 0 _ _ _ hg3
  have fg : w3.frozen? ⟨g, 0, none⟩ = false := frozen_of_row w3 g 0 _ _ hg3
  obtain ⟨qc0, qc1, qc2, qc3, qc4, qc5, qc6, qc7, qc8, qc9, qc10, qf0, qf1, qf2, qf3, qf4, qf5, qf6, qf7, qf8, qf9, qf10⟩ := box11 hbx3
  obtain ⟨rc0, rc1, rc2, rc3, rc4, rc5, rc6, rc7, rc8, rc9, rc10, rf0, rf1, rf2, rf3, rf4, rf5, rf6, rf7, rf8, rf9, rf10⟩ := box11 hbm3
  have Hkk := Lib.hid kk
  have Hh := Lib.hid (And.intro hg3 (And.intro hbm3 hbx3))
  clear kk hg3 hbm3 hbx3 hbm kc0 kc1 kc2 kc3 kc4 kc5 kc6 kc7 kc8 kc9 kc10
  go_wp2_with fail
  obtain ⟨hg3, hbm3, hbx3⟩ := Hh.out
  have hn4 : NetAt (w3.setCell ⟨g, 0, none⟩ (.slice A3 n3 c3)) g _ _ := NetAt.store (F := fun k => F k ∧ k < w.heap.size) hg3 hF ho3
  have hbx4 : (w3.setCell ⟨g, 0, none⟩ (.slice A3 n3 c3)).heap[b]? = _ := (Below.heap_setCell _ _ _ _ (by simp; omega)).trans hbx3
  have hs4 : (w3.setCell ⟨g, 0, none⟩ (.slice A3 n3 c3)).heap.size = w3.heap.size := World.size_setCell ..
  have hr6 : RS kEntry (w3.setCell ⟨g, 0, none⟩ (.slice A3 n3 c3)) _ A6 m.Entries.length m.Entries := ((r6.below hb2).keeps hk3 (fun x hx hy => hx.2 (by simpa [Value.ownBlock] using hy))).far (p := ⟨g, 0, none⟩) (fun hx => hx.1.2 rfl) _
  have hr10 : RS (kInt .u8) (w3.setCell ⟨g, 0, none⟩ (.slice A3 n3 c3)) _ A10 m.Data.length m.Data := ((r10.below hb2).keeps hk3 (fun x hx hy => hx.2 (by simpa [Value.ownBlock] using hy))).far (p := ⟨g, 0, none⟩) (fun hx => hx.1.2 rfl) _
  have hkp : Keeps F w (w3.setCell ⟨g, 0, none⟩ (.slice A3 n3 c3)) := by
    refine Keeps.setCell ?_ (p := ⟨g, 0, none⟩) (fun _ => h0.foot.1) _
    refine (Keeps.of_below (hb.symm ▸ hb1) F).step ((Keeps.of_below hb2 _).step hk3 (T := fun k => (Value.slice (some (⟨G, 0, none⟩ : Addr)) l.length c).ownBlock = some k) (S := fun k => k = G) ?_) ?_
    · intro x hx _; simpa [Value.ownBlock] using hx.symm
    · intro x hx _; subst hx; exact hG.1.1.1
  generalize w3.setCell ⟨g, 0, none⟩ (.slice A3 n3 c3) = w4 at hn4 hbx4 hs4 hr6 hr10 hkp ⊢
  obtain ⟨hw1, hw2⟩ := set11 w4 b _ _ _ _ _ _ _ _ _ _ _ _ hbx4 (.int .i64 m.Kind) (.int .i64 m.From) (.int .i64 m.To) (.int .i64 m.Term) (.int .i64 m.Last) (.int .i64 m.LastTerm) (.slice A6 m.Entries.length c6) (.int .i64 m.Commit) (.bool m.OK) (.int .i64 m.Match) (.slice A10 m.Data.length c10)
  generalize (((((((((((w4.setCell ⟨b, 0, none⟩ (.int .i64 m.Kind)).setCell ⟨b, 1, none⟩ (.int .i64 m.From)).setCell ⟨b, 2, none⟩ (.int .i64 m.To)).setCell ⟨b, 3, none⟩ (.int .i64 m.Term)).setCell ⟨b, 4, none⟩ (.int .i64 m.Last)).setCell ⟨b, 5, none⟩ (.int .i64 m.LastTerm)).setCell ⟨b, 6, none⟩ (.slice A6 m.Entries.length c6)).setCell ⟨b, 7, none⟩ (.int .i64 m.Commit)).setCell ⟨b, 8, none⟩ (.bool m.OK)).setCell ⟨b, 9, none⟩ (.int .i64 m.Match)).setCell ⟨b, 10, none⟩ (.slice A10 m.Data.length c10)) = w5 at hw1 hw2 ⊢
  obtain ⟨sc0, sc1, sc2, sc3, sc4, sc5, sc6, sc7, sc8, sc9, sc10, sf0, sf1, sf2, sf3, sf4, sf5, sf6, sf7, sf8, sf9, sf10⟩ := box11 hw1
  refine bodyPost_ret (v := .tuple #[.agg #[.int .i64 m.Kind, .int .i64 m.From, .int .i64 m.To, .int .i64 m.Term, .int .i64 m.Last, .int .i64 m.LastTerm, .slice A6 m.Entries.length c6, .int .i64 m.Commit, .bool m.OK, .int .i64 m.Match, .slice A10 m.Data.length c10], .bool true]) (by simp [results, Try.results21, go_sem, sc0, sc1, sc2, sc3, sc4, sc5, sc6, sc7, sc8, sc9, sc10]) rfl ⟨_, _, _, _, rfl, ?_, ⟨l6, m6, ?_, l10, m10, ?_⟩, ?_⟩
  · refine (hn4.keeps hw2 fun x hx hy => ?_).mono fun x hx => hx.1
    have := hx.2; have : x = b := hy; omega
  · refine (hr6.keeps hw2 fun x hx hy => ?_).mono fun x hx => hx.1.1.1
    have := hx.1.1.2; have : x = b := hy; omega
  · refine (hr10.keeps hw2 fun x hx hy => ?_).mono fun x hx => hx.1.1.1
    have := hx.1.1.2; have : x = b := hy; omega
  · exact hkp.step hw2 fun x hx hlt => by have : x = b := hx; omega
end Go.Proofs.Ytngmipppgnlkdaa
