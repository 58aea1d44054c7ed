/- Contracts of net.Net's methods: copied. -/
import Derived.Test.YtngmipppgnlkdaaA
import Derived.Test.YtngmipppgnlkdaaM
import Derived.Test.YtngmipppgnlkdaaR
set_option linter.unusedVariables false
set_option linter.unusedSimpArgs false
namespace Go.Proofs.Ytngmipppgnlkdaa
open Go.RowKit
attribute [local go_sem] Same.cell

theorem tMessage : ElemT Try.prog 48 54 11 120 := ElemT.mk' (z := .agg #[.int .i64 0, .int .i64 0, .int .i64 0, .int .i64 0, .int .i64 0, .int .i64 0, .slice none 0 0, .int .i64 0, .bool false, .int .i64 0, .slice none 0 0]) Try.underlying48 (by kernel_rfl) rfl

/-- What a message's slices are. -/
structure MsgAt (W : World) (F : Foot) (m : Message) (A6 : Option Addr) (c6 : Nat) (A10 : Option Addr) (c10 : Nat) : Prop where
  l6 : m.Entries.length ≤ c6
  m6 : c6 ≤ 9223372036854775807
  r6 : RS kEntry W F A6 m.Entries.length m.Entries
  l10 : m.Data.length ≤ c10
  m10 : c10 ≤ 9223372036854775807
  r10 : RS (kInt .u8) W F A10 m.Data.length m.Data
theorem MsgAt.rep {W : World} {F : Foot} {m : Message} {A6 : Option Addr} {c6 : Nat} {A10 : Option Addr} {c10 : Nat} (h : MsgAt W F m A6 c6 A10 c10) : kMessage.rep W F m [.int .i64 m.Kind, .int .i64 m.From, .int .i64 m.To, .int .i64 m.Term, .int .i64 m.Last, .int .i64 m.LastTerm, .slice A6 m.Entries.length c6, .int .i64 m.Commit, .bool m.OK, .int .i64 m.Match, .slice A10 m.Data.length c10] :=
  ⟨A6, c6, A10, c10, rfl, h.l6, h.m6, h.r6, h.l10, h.m10, h.r10⟩
theorem MsgAt.below {W W' : World} {F : Foot} {m : Message} {A6 : Option Addr} {c6 : Nat} {A10 : Option Addr} {c10 : Nat} (h : MsgAt W F m A6 c6 A10 c10) (hb : Below W.heap.size W W') : MsgAt W' F m A6 c6 A10 c10 :=
  ⟨h.l6, h.m6, h.r6.below hb, h.l10, h.m10, h.r10.below hb⟩
theorem MsgAt.mono {W : World} {F G : Foot} {m : Message} {A6 : Option Addr} {c6 : Nat} {A10 : Option Addr} {c10 : Nat} (h : MsgAt W F m A6 c6 A10 c10) (hG : ∀ k, F k → G k) : MsgAt W G m A6 c6 A10 c10 :=
  ⟨h.l6, h.m6, h.r6.mono hG, h.l10, h.m10, h.r10.mono hG⟩
/-- Lengths that the memory bears. -/
def Message.Fits (m : Message) : Prop := m.Entries.length ≤ 1000000000 ∧ m.Data.length ≤ 1000000000 ∧ ∀ x ∈ m.Entries, x.Cmd.Records.length ≤ 1000000000

theorem set11 (W : World) (g : Nat) (t : TypeId) (z0 z1 z2 z3 z4 z5 z6 z7 z8 z9 z10 : Value) (h : W.heap[g]? = some (.cells #[z0, z1, z2, z3, z4, z5, z6, z7, z8, z9, z10] t (0, 0))) (v0 v1 v2 v3 v4 v5 v6 v7 v8 v9 v10 : Value) :
    (((((((((((W.setCell ⟨g, 0, none⟩ v0).setCell ⟨g, 1, none⟩ v1).setCell ⟨g, 2, none⟩ v2).setCell ⟨g, 3, none⟩ v3).setCell ⟨g, 4, none⟩ v4).setCell ⟨g, 5, none⟩ v5).setCell ⟨g, 6, none⟩ v6).setCell ⟨g, 7, none⟩ v7).setCell ⟨g, 8, none⟩ v8).setCell ⟨g, 9, none⟩ v9).setCell ⟨g, 10, none⟩ v10).heap[g]? = some (.cells #[v0, v1, v2, v3, v4, v5, v6, v7, v8, v9, v10] t (0, 0)) ∧ Keeps (fun k => k = g) W (((((((((((W.setCell ⟨g, 0, none⟩ v0).setCell ⟨g, 1, none⟩ v1).setCell ⟨g, 2, none⟩ v2).setCell ⟨g, 3, none⟩ v3).setCell ⟨g, 4, none⟩ v4).setCell ⟨g, 5, none⟩ v5).setCell ⟨g, 6, none⟩ v6).setCell ⟨g, 7, none⟩ v7).setCell ⟨g, 8, none⟩ v8).setCell ⟨g, 9, none⟩ v9).setCell ⟨g, 10, none⟩ v10) := by
  have h0 := heap_setCell_same _ g 0 _ _ v0 h
  have h1 := heap_setCell_same _ g 1 _ _ v1 h0
  have h2 := heap_setCell_same _ g 2 _ _ v2 h1
  have h3 := heap_setCell_same _ g 3 _ _ v3 h2
  have h4 := heap_setCell_same _ g 4 _ _ v4 h3
  have h5 := heap_setCell_same _ g 5 _ _ v5 h4
  have h6 := heap_setCell_same _ g 6 _ _ v6 h5
  have h7 := heap_setCell_same _ g 7 _ _ v7 h6
  have h8 := heap_setCell_same _ g 8 _ _ v8 h7
  have h9 := heap_setCell_same _ g 9 _ _ v9 h8
  have h10 := heap_setCell_same _ g 10 _ _ v10 h9
  simp only [List.setIfInBounds_toArray, List.set_cons_zero, List.set_cons_succ] at h10
  exact ⟨h10, ((((((((((((Keeps.refl (fun k => k = g) W).setCell (p := ⟨g, 0, none⟩) (fun _ => rfl) v0).setCell (p := ⟨g, 1, none⟩) (fun _ => rfl) v1).setCell (p := ⟨g, 2, none⟩) (fun _ => rfl) v2).setCell (p := ⟨g, 3, none⟩) (fun _ => rfl) v3).setCell (p := ⟨g, 4, none⟩) (fun _ => rfl) v4).setCell (p := ⟨g, 5, none⟩) (fun _ => rfl) v5).setCell (p := ⟨g, 6, none⟩) (fun _ => rfl) v6).setCell (p := ⟨g, 7, none⟩) (fun _ => rfl) v7).setCell (p := ⟨g, 8, none⟩) (fun _ => rfl) v8).setCell (p := ⟨g, 9, none⟩) (fun _ => rfl) v9).setCell (p := ⟨g, 10, none⟩) (fun _ => rfl) v10)⟩

set_option maxHeartbeats 1000000 in
theorem ncopied_any (m : Message) (A6 : Option Addr) (c6 : Nat) (A10 : Option Addr) (c10 : Nat) (w : World) (F : Foot) (h : MsgAt w F m A6 c6 A10 c10) (hf : m.Fits) :
    Calls Try.prog 40 #[.agg #[.int .i64 m.Kind, .int .i64 m.From, .int .i64 m.To, .int .i64 m.Term, .int .i64 m.Last, .int .i64 m.LastTerm, .slice A6 m.Entries.length c6, .int .i64 m.Commit, .bool m.OK, .int .i64 m.Match, .slice A10 m.Data.length c10]] w fun e w' => ∃ qA6 qc6 qA10 qc10, e = .returned (.agg #[.int .i64 m.Kind, .int .i64 m.From, .int .i64 m.To, .int .i64 m.Term, .int .i64 m.Last, .int .i64 m.LastTerm, .slice qA6 m.Entries.length qc6, .int .i64 m.Commit, .bool m.OK, .int .i64 m.Match, .slice qA10 m.Data.length qc10]) ∧ MsgAt w' (New w w') m qA6 qc6 qA10 qc10 ∧ Below w.heap.size w w' := by
  obtain ⟨l6, m6, r6, l10, m10, r10⟩ := h
  obtain ⟨hf6, hf10, hfr⟩ := hf
  go_enter Try.func40, Try.ntmps40
  go_wp2_with fail
  have hb2 : Below w.heap.size w ((w.alloc (.cells #[.int .i64 m.Kind, .int .i64 m.From, .int .i64 m.To, .int .i64 m.Term, .int .i64 m.Last, .int .i64 m.LastTerm, .slice A6 m.Entries.length c6, .int .i64 m.Commit, .bool m.OK, .int .i64 m.Match, .slice A10 m.Data.length c10] 54)).alloc (.cells #[.int .i64 0, .int .i64 0, .int .i64 0, .int .i64 0, .int .i64 0, .int .i64 0, .slice none 0 0, .int .i64 0, .bool false, .int .i64 0, .slice none 0 0] 54)) := ((Below.refl _ _).alloc (Nat.le_refl _) _).alloc (by simp) _
  have hs2 : ((w.alloc (.cells #[.int .i64 m.Kind, .int .i64 m.From, .int .i64 m.To, .int .i64 m.Term, .int .i64 m.Last, .int .i64 m.LastTerm, .slice A6 m.Entries.length c6, .int .i64 m.Commit, .bool m.OK, .int .i64 m.Match, .slice A10 m.Data.length c10] 54)).alloc (.cells #[.int .i64 0, .int .i64 0, .int .i64 0, .int .i64 0, .int .i64 0, .int .i64 0, .slice none 0 0, .int .i64 0, .bool false, .int .i64 0, .slice none 0 0] 54)).heap.size = w.heap.size + 2 := by simp
  have hbx : ((w.alloc (.cells #[.int .i64 m.Kind, .int .i64 m.From, .int .i64 m.To, .int .i64 m.Term, .int .i64 m.Last, .int .i64 m.LastTerm, .slice A6 m.Entries.length c6, .int .i64 m.Commit, .bool m.OK, .int .i64 m.Match, .slice A10 m.Data.length c10] 54)).alloc (.cells #[.int .i64 0, .int .i64 0, .int .i64 0, .int .i64 0, .int .i64 0, .int .i64 0, .slice none 0 0, .int .i64 0, .bool false, .int .i64 0, .slice none 0 0] 54)).heap[w.heap.size]? = some (.cells #[.int .i64 m.Kind, .int .i64 m.From, .int .i64 m.To, .int .i64 m.Term, .int .i64 m.Last, .int .i64 m.LastTerm, .slice A6 m.Entries.length c6, .int .i64 m.Commit, .bool m.OK, .int .i64 m.Match, .slice A10 m.Data.length c10] 54 (0, 0)) := (Below.heap_alloc _ _ _ (by simp)).trans (heap_alloc_new w _)
  have hbz : ((w.alloc (.cells #[.int .i64 m.Kind, .int .i64 m.From, .int .i64 m.To, .int .i64 m.Term, .int .i64 m.Last, .int .i64 m.LastTerm, .slice A6 m.Entries.length c6, .int .i64 m.Commit, .bool m.OK, .int .i64 m.Match, .slice A10 m.Data.length c10] 54)).alloc (.cells #[.int .i64 0, .int .i64 0, .int .i64 0, .int .i64 0, .int .i64 0, .int .i64 0, .slice none 0 0, .int .i64 0, .bool false, .int .i64 0, .slice none 0 0] 54)).heap[w.heap.size + 1]? = some (.cells #[.int .i64 0, .int .i64 0, .int .i64 0, .int .i64 0, .int .i64 0, .int .i64 0, .slice none 0 0, .int .i64 0, .bool false, .int .i64 0, .slice none 0 0] 54 (0, 0)) := by have := heap_alloc_new (w.alloc (.cells #[.int .i64 m.Kind, .int .i64 m.From, .int .i64 m.To, .int .i64 m.Term, .int .i64 m.Last, .int .i64 m.LastTerm, .slice A6 m.Entries.length c6, .int .i64 m.Commit, .bool m.OK, .int .i64 m.Match, .slice A10 m.Data.length c10] 54)) (.cells #[.int .i64 0, .int .i64 0, .int .i64 0, .int .i64 0, .int .i64 0, .int .i64 0, .slice none 0 0, .int .i64 0, .bool false, .int .i64 0, .slice none 0 0] 54); simpa using this
  generalize (w.alloc (.cells #[.int .i64 m.Kind, .int .i64 m.From, .int .i64 m.To, .int .i64 m.Term, .int .i64 m.Last, .int .i64 m.LastTerm, .slice A6 m.Entries.length c6, .int .i64 m.Commit, .bool m.OK, .int .i64 m.Match, .slice A10 m.Data.length c10] 54)).alloc (.cells #[.int .i64 0, .int .i64 0, .int .i64 0, .int .i64 0, .int .i64 0, .int .i64 0, .slice none 0 0, .int .i64 0, .bool false, .int .i64 0, .slice none 0 0] 54) = w2 at hb2 hs2 hbx hbz ⊢
  generalize hb : w.heap.size = b at hb2 hs2 hbx hbz ⊢
  refine (clone_byte _ _ _ _ F _ (r10.below (hb ▸ hb2)) (by omega)).mono ?_
  rintro e w3 ⟨v, rfl, hM⟩
  have hU := hM.flat (flat_int .u8)
  obtain ⟨A11, c11, rfl, l11, m11, r11⟩ := hU.own.reads
  have hbx3 := (hM.below.block b (by omega)).trans hbx
  have hbz3 := (hM.below.block (b + 1) (by omega)).trans hbz
  have hs3 := hM.below.size
  have q6 : w3.cell? ⟨b, 6, none⟩ = some (.slice A6 m.Entries.length c6) := cell_of_row w3 b 6 _ _ _ hbx3
  have p10 : w3.cell? ⟨b, 10, none⟩ = some (.slice A10 m.Data.length c10) := cell_of_row w3 b 10 _ _ _ hbx3
  have f10 : w3.frozen? ⟨b, 10, none⟩ = false := frozen_of_row w3 b 10 _ _ hbx3
  have Hbx3 := Lib.hid hbx3
  have Hbz3 := Lib.hid hbz3
  have Hbx := Lib.hid (And.intro hbx hbz)
  clear hbx3 hbz3 hbx hbz
  go_wp2_with fail
  have hb4 : Below b w (w3.setCell ⟨b, 10, none⟩ (.slice A11 m.Data.length c11)) := (hb2.trans (hM.below.mono (by omega))).setCell (p := ⟨b, 10, none⟩) (Nat.le_refl _) _
  have hbx4 : (w3.setCell ⟨b, 10, none⟩ (.slice A11 m.Data.length c11)).heap[b]? = some (.cells #[.int .i64 m.Kind, .int .i64 m.From, .int .i64 m.To, .int .i64 m.Term, .int .i64 m.Last, .int .i64 m.LastTerm, .slice A6 m.Entries.length c6, .int .i64 m.Commit, .bool m.OK, .int .i64 m.Match, .slice A11 m.Data.length c11] 54 (0, 0)) := (heap_setCell_same w3 b 10 _ _ _ Hbx3.out).trans rfl
  have hbz4 : (w3.setCell ⟨b, 10, none⟩ (.slice A11 m.Data.length c11)).heap[b + 1]? = some (.cells #[.int .i64 0, .int .i64 0, .int .i64 0, .int .i64 0, .int .i64 0, .int .i64 0, .slice none 0 0, .int .i64 0, .bool false, .int .i64 0, .slice none 0 0] 54 (0, 0)) := (Below.heap_setCell _ _ _ _ (by simp)).trans Hbz3.out
  have hr11 : RS (kInt .u8) (w3.setCell ⟨b, 10, none⟩ (.slice A11 m.Data.length c11)) (New w2 w3) A11 m.Data.length m.Data := r11.far (p := ⟨b, 10, none⟩) (fun hk => by have := hk.1; simp only at this; omega) _
  have hs4 : (w3.setCell ⟨b, 10, none⟩ (.slice A11 m.Data.length c11)).heap.size = w3.heap.size := World.size_setCell ..
  generalize w3.setCell ⟨b, 10, none⟩ (.slice A11 m.Data.length c11) = w4 at hb4 hbx4 hbz4 hr11 hs4 ⊢
  clear q6 p10 f10
  refine (clone_entry _ _ _ _ (fun k => F k ∧ k < b) _ ((hb ▸ r6.bound : RS kEntry w (fun k => F k ∧ k < b) A6 m.Entries.length m.Entries).below (hb ▸ hb4)) (by omega)).mono ?_
  rintro e w5 ⟨v, rfl, hE⟩
  obtain ⟨A1, c1, rfl, hc1, hm1⟩ := hE.own.slice
  have hs5 := hE.below.size
  have hbx5 := (hE.below.block b (by omega)).trans hbx4
  have hbz5 := (hE.below.block (b + 1) (by omega)).trans hbz4
  have p6 : w5.cell? ⟨b, 6, none⟩ = some (.slice A6 m.Entries.length c6) := cell_of_row w5 b 6 _ _ _ hbx5
  have f6 : w5.frozen? ⟨b, 6, none⟩ = false := frozen_of_row w5 b 6 _ _ hbx5
  have hb6 : Below b w (w5.setCell ⟨b, 6, none⟩ (.slice A1 m.Entries.length c1)) := (hb4.trans (hE.below.mono (by omega))).setCell (p := ⟨b, 6, none⟩) (Nat.le_refl _) _
  have hbx6 : (w5.setCell ⟨b, 6, none⟩ (.slice A1 m.Entries.length c1)).heap[b]? = some (.cells #[.int .i64 m.Kind, .int .i64 m.From, .int .i64 m.To, .int .i64 m.Term, .int .i64 m.Last, .int .i64 m.LastTerm, .slice A1 m.Entries.length c1, .int .i64 m.Commit, .bool m.OK, .int .i64 m.Match, .slice A11 m.Data.length c11] 54 (0, 0)) := (heap_setCell_same w5 b 6 _ _ _ hbx5).trans rfl
  have hbz6 : (w5.setCell ⟨b, 6, none⟩ (.slice A1 m.Entries.length c1)).heap[b + 1]? = some (.cells #[.int .i64 0, .int .i64 0, .int .i64 0, .int .i64 0, .int .i64 0, .int .i64 0, .slice none 0 0, .int .i64 0, .bool false, .int .i64 0, .slice none 0 0] 54 (0, 0)) := (Below.heap_setCell _ _ _ _ (by simp)).trans hbz5
  have hr6 : RS (kInt .u8) (w5.setCell ⟨b, 6, none⟩ (.slice A1 m.Entries.length c1)) (New w2 w3) A11 m.Data.length m.Data := (hr11.below hE.below).far (p := ⟨b, 6, none⟩) (fun hk => by have := hk.1; simp only at this; omega) _
  have hO : OwnSp kEntry 38 (w5.setCell ⟨b, 6, none⟩ (.slice A1 m.Entries.length c1)) (fun k => w3.heap.size ≤ k) (fun k => (F k ∧ k < b) ∨ w3.heap.size ≤ k) (.slice A1 m.Entries.length c1) m.Entries 0 := by
    refine OwnSp.start ?_ (fun k hk => by have := hE.new k hk; omega)
    refine (hE.own.mono fun k hk => ?_).keep (by simp) fun k hk hlt => Below.heap_setCell _ _ _ _ ?_
    · exact hk.imp id (fun h => by have := h.1; omega)
    · simp only; rcases hk with hk | hk <;> omega
  have Hbx5 := Lib.hid hbx5
  have Hbx6 : Hid (_ ∧ _ ∧ _) := Lib.hid (And.intro hbx6 (And.intro hbz6 hr6))
  have q6 : (w5.setCell ⟨b, 6, none⟩ (.slice A1 m.Entries.length c1)).cell? ⟨b, 6, none⟩ = some (.slice A1 m.Entries.length c1) := cell_of_row _ b 6 _ _ _ hbx6
  clear hbx5 hbz5 hbx4 hbz4 hbx6 hbz6 hr6
  go_wp2_with fail
  have hs6 : (w5.setCell ⟨b, 6, none⟩ (.slice A1 m.Entries.length c1)).heap.size = w5.heap.size := World.size_setCell ..
  generalize w5.setCell ⟨b, 6, none⟩ (.slice A1 m.Entries.length c1) = w6 at hb6 Hbx6 hO q6 hs6 ⊢
  clear p6 f6 q6
  go_loopw [15] (fun q wr => ∃ i : Nat, q = .int .i64 i ∧ i ≤ m.Entries.length ∧ OwnSp kEntry 38 wr (fun k => w3.heap.size ≤ k) (fun k => (F k ∧ k < b) ∨ w3.heap.size ≤ k) (.slice A1 m.Entries.length c1) m.Entries i ∧ Below b w wr ∧ w3.heap.size ≤ wr.heap.size ∧
    Hid (wr.heap[b]? = some (.cells #[.int .i64 m.Kind, .int .i64 m.From, .int .i64 m.To, .int .i64 m.Term, .int .i64 m.Last, .int .i64 m.LastTerm, .slice A1 m.Entries.length c1, .int .i64 m.Commit, .bool m.OK, .int .i64 m.Match, .slice A11 m.Data.length c11] 54 (0, 0)) ∧ wr.heap[b + 1]? = some (.cells #[.int .i64 0, .int .i64 0, .int .i64 0, .int .i64 0, .int .i64 0, .int .i64 0, .slice none 0 0, .int .i64 0, .bool false, .int .i64 0, .slice none 0 0] 54 (0, 0)) ∧ RS (kInt .u8) wr (New w2 w3) A11 m.Data.length m.Data)) (fun q _ => m.Entries.length - (intOf q).toNat)
  case atStart => exact ⟨0, rfl, by omega, hO, hb6, by omega, Hbx6⟩
  case round =>
    obtain ⟨i, rfl, hi, hS, hB, hs7, hX⟩ := hrel
    by_cases hlt : i < m.Entries.length
    · obtain ⟨x, hx⟩ : ∃ x, m.Entries[i]? = some x := ⟨_, List.getElem?_eq_getElem (by omega)⟩
      obtain ⟨g, rfl⟩ := hS.addr (by omega)
      have hgw := hS.row g rfl
      obtain ⟨cc, hrep, hcell, hg, hstep⟩ := hS.step hx
      obtain ⟨A4, c4, rfl, l4, m4, r4⟩ := hrep
      have hc4 : wr.cell? ⟨g, i * 14 + 4, none⟩ = some (.slice A4 x.Cmd.Records.length c4) := (hcell 4 _ rfl).1
      have hf4 : wr.frozen? ⟨g, i * 14 + 4, none⟩ = false := (hcell 4 _ rfl).2
      have hxr := hfr x (List.mem_of_getElem? hx)
      have q6 : wr.cell? ⟨b, 6, none⟩ = some (.slice (some ⟨g, 0, none⟩) m.Entries.length c1) := cell_of_row wr b 6 _ _ _ hX.out.1
      go_wp2_with fail
      have hNF : ¬ NoF g := id
      have hNFb : ¬ NoF b := id
      have hblt : b < wr.heap.size := by have := World.block_lt_of_cell? wr _ q6; exact this
      have e5 : (0 : Int) ≤ (i : Int) := by omega
      have e6 : (i : Int) < (m.Entries.length : Int) := by omega
      refine wp_region_plan [0, 0, 0, 0, 0, 0, 0, 0, 0, 0, 1, 2, 2, 2, 2] (fun w' => ∃ D : Same NoF wr, w' = D.world) (by kernel_rfl) (by kernel_rfl) InSame.start ?_
      simp only [sel, selE, Nat.reduceEqDiff, reduceIte]
      repeat (go_big_quiet_step (fail))
      refine wpQuiet_nil ?_
      refine wpE_cons (fun N hN => ?_)
      go_wp2_with fail
      refine (clone_record _ _ _ _ _ _ (r4.drew) (by omega)).mono ?_
      rintro e w7 ⟨u, rfl, hU0⟩
      have hU := hU0.flat flat_Record
      obtain ⟨A5, c5, rfl, l5, m5, r5⟩ := hU.own.reads
      have hb7 : Below wr.heap.size wr w7 := below_undrew hU.below
      go_wp2
      refine hN _ _ (InSame.of_below hb7) ?_
      clear hN N
      refine wpE_nil ?_
      have hc5 : w7.cell? ⟨g, i * 14 + 4, none⟩ = some (.slice A4 x.Cmd.Records.length c4) := (hb7.cell hg).trans hc4
      have hf5 : w7.frozen? ⟨g, i * 14 + 4, none⟩ = false := (hb7.frozen hg).trans hf4
      go_wp2
      go_roundw
      case rel =>
        refine ⟨i + 1, by go_num, by omega, hstep w7 (hb7.block g hg) hb7.size (fun k _ hk => hb7.block k hk) 4 _ (by decide) (fun W2 hW2 => ⟨A5, c5, rfl, l5, m5, ?_⟩), ?_, by rw [World.size_setCell]; have := hb7.size; omega, ?_⟩
        · refine (r5.keep fun k hk _ => hW2 k ?_).mono fun k hk => ⟨?_, ?_⟩
          · have := hk.1; rw [World.size_drew] at this; omega
          · have := hk.1; have := hB.size; rw [World.size_drew] at *; omega
          · have := hk.1; rw [World.size_drew] at this; omega
        · exact (hB.trans (hb7.mono (hb ▸ hB.size))).setCell (p := ⟨g, _, none⟩) (by simp only; omega) _
        · refine ⟨?_, ?_, ?_⟩
          · refine (Below.heap_setCell _ _ _ _ (by simp only; omega)).trans ((hb7.block b hblt).trans hX.out.1)
          · have := (Array.getElem?_eq_some_iff.1 hX.out.2.1).1
            refine (Below.heap_setCell _ _ _ _ (by simp only; omega)).trans ((hb7.block (b + 1) this).trans hX.out.2.1)
          · exact (hX.out.2.2.below hb7).far (p := ⟨g, _, none⟩) (fun hk => by have := hk.2; simp only at this; omega) _
      case measure => simp [intOf]; omega
    · obtain rfl : i = m.Entries.length := by omega
      obtain ⟨hXb, hXz, hXr⟩ := hX.out
      obtain ⟨hW1, hW2⟩ := set11 wr (b + 1) _ _ _ _ _ _ _ _ _ _ _ _ hXz (.int .i64 m.Kind) (.int .i64 m.From) (.int .i64 m.To) (.int .i64 m.Term) (.int .i64 m.Last) (.int .i64 m.LastTerm) (.slice A1 m.Entries.length c1) (.int .i64 m.Commit) (.bool m.OK) (.int .i64 m.Match) (.slice A11 m.Data.length c11)
      obtain ⟨kb0, kb1, kb2, kb3, kb4, kb5, kb6, kb7, kb8, kb9, kb10⟩ := box_Message hXb
      have z0 := cell_of_row wr (b + 1) 0 _ _ _ hXz
      have f0 := frozen_of_row wr (b + 1) 0 _ _ hXz
      have z1 := cell_of_row wr (b + 1) 1 _ _ _ hXz
      have f1 := frozen_of_row wr (b + 1) 1 _ _ hXz
      have z2 := cell_of_row wr (b + 1) 2 _ _ _ hXz
      have f2 := frozen_of_row wr (b + 1) 2 _ _ hXz
      have z3 := cell_of_row wr (b + 1) 3 _ _ _ hXz
      have f3 := frozen_of_row wr (b + 1) 3 _ _ hXz
      have z4 := cell_of_row wr (b + 1) 4 _ _ _ hXz
      have f4 := frozen_of_row wr (b + 1) 4 _ _ hXz
      have z5 := cell_of_row wr (b + 1) 5 _ _ _ hXz
      have f5 := frozen_of_row wr (b + 1) 5 _ _ hXz
      have z6 := cell_of_row wr (b + 1) 6 _ _ _ hXz
      have f6 := frozen_of_row wr (b + 1) 6 _ _ hXz
      have z7 := cell_of_row wr (b + 1) 7 _ _ _ hXz
      have f7 := frozen_of_row wr (b + 1) 7 _ _ hXz
      have z8 := cell_of_row wr (b + 1) 8 _ _ _ hXz
      have f8 := frozen_of_row wr (b + 1) 8 _ _ hXz
      have z9 := cell_of_row wr (b + 1) 9 _ _ _ hXz
      have f9 := frozen_of_row wr (b + 1) 9 _ _ hXz
      have z10 := cell_of_row wr (b + 1) 10 _ _ _ hXz
      have f10 := frozen_of_row wr (b + 1) 10 _ _ hXz
      simp only [List.getElem?_toArray, List.getElem?_cons_zero, List.getElem?_cons_succ] at z0 z1 z2 z3 z4 z5 z6 z7 z8 z9 z10
      have HW1 := Lib.hid hW1
      clear hXb hXz hW1
      go_wp2_with fail
      generalize (((((((((((wr.setCell ⟨b + 1, 0, none⟩ (.int .i64 m.Kind)).setCell ⟨b + 1, 1, none⟩ (.int .i64 m.From)).setCell ⟨b + 1, 2, none⟩ (.int .i64 m.To)).setCell ⟨b + 1, 3, none⟩ (.int .i64 m.Term)).setCell ⟨b + 1, 4, none⟩ (.int .i64 m.Last)).setCell ⟨b + 1, 5, none⟩ (.int .i64 m.LastTerm)).setCell ⟨b + 1, 6, none⟩ (.slice A1 m.Entries.length c1)).setCell ⟨b + 1, 7, none⟩ (.int .i64 m.Commit)).setCell ⟨b + 1, 8, none⟩ (.bool m.OK)).setCell ⟨b + 1, 9, none⟩ (.int .i64 m.Match)).setCell ⟨b + 1, 10, none⟩ (.slice A11 m.Data.length c11)) = we at hW2 HW1 ⊢
      obtain ⟨kc0, kc1, kc2, kc3, kc4, kc5, kc6, kc7, kc8, kc9, kc10⟩ := box_Message HW1.out
      have hbe : Below b w we := hB.trans (hb ▸ hW2.below_of (a := w) hB.size (fun k hk => by subst hk; omega))
      have hsz35 : w3.heap.size ≤ we.heap.size := by have := hW2.size; omega
      obtain ⟨A1', c1', hv1, hl1', hm1', hr1'⟩ := hS.done.bound.reads
      injection hv1 with e1 e2 e3
      subst e1 e3
      refine bodyPost_ret (v := .agg #[.int .i64 m.Kind, .int .i64 m.From, .int .i64 m.To, .int .i64 m.Term, .int .i64 m.Last, .int .i64 m.LastTerm, .slice A1 m.Entries.length c1, .int .i64 m.Commit, .bool m.OK, .int .i64 m.Match, .slice A11 m.Data.length c11]) (by simp [results, Try.results40, go_sem, kc0, kc1, kc2, kc3, kc4, kc5, kc6, kc7, kc8, kc9, kc10]) rfl ⟨_, _, _, _, rfl, ⟨hc1, hm1, ?_, l11, m11, ?_⟩, by rw [hb]; exact hbe⟩
      · refine (hr1'.keeps hW2 fun k hk => ?_).mono fun k hk => ?_
        · have := hk.1; omega
        · have := hk.1; have := hk.2; have := hW2.size; exact ⟨by omega, by omega⟩
      · refine (hXr.keeps hW2 fun k hk => ?_).mono fun k hk => ?_
        · have := hk.1; omega
        · have := hk.1; have := hk.2; have := hbe.size; have := hW2.size; exact ⟨by omega, by omega⟩
end Go.Proofs.Ytngmipppgnlkdaa
