/- Right at a request's command. -/
import Derived.Test.YtngmipppgnlkdaaDoorDH3
set_option linter.unusedVariables false
set_option linter.unusedSimpArgs false
namespace Go.Proofs.YtngmipppgnlkdaaDoor
open Go.RowKit

theorem box13 {W : World} {g : Nat} {t : TypeId} {z0 z1 z2 z3 z4 z5 z6 z7 z8 z9 z10 z11 z12 : Value} (h : W.heap[g]? = some (.cells #[z0, z1, z2, z3, z4, z5, z6, z7, z8, z9, z10, z11, z12] t (0, 0))) : W.cell? ⟨g, 0, none⟩ = some z0 ∧ W.cell? ⟨g, 1, none⟩ = some z1 ∧ W.cell? ⟨g, 2, none⟩ = some z2 ∧ W.cell? ⟨g, 3, none⟩ = some z3 ∧ W.cell? ⟨g, 4, none⟩ = some z4 ∧ W.cell? ⟨g, 5, none⟩ = some z5 ∧ W.cell? ⟨g, 6, none⟩ = some z6 ∧ W.cell? ⟨g, 7, none⟩ = some z7 ∧ W.cell? ⟨g, 8, none⟩ = some z8 ∧ W.cell? ⟨g, 9, none⟩ = some z9 ∧ W.cell? ⟨g, 10, none⟩ = some z10 ∧ W.cell? ⟨g, 11, none⟩ = some z11 ∧ W.cell? ⟨g, 12, none⟩ = some z12 :=
  ⟨cell_of_row W g 0 _ _ _ h, cell_of_row W g 1 _ _ _ h, cell_of_row W g 2 _ _ _ h, cell_of_row W g 3 _ _ _ h, cell_of_row W g 4 _ _ _ h, cell_of_row W g 5 _ _ _ h, cell_of_row W g 6 _ _ _ h, cell_of_row W g 7 _ _ _ h, cell_of_row W g 8 _ _ _ h, cell_of_row W g 9 _ _ _ h, cell_of_row W g 10 _ _ _ h, cell_of_row W g 11 _ _ _ h, cell_of_row W g 12 _ _ _ h⟩

set_option maxRecDepth 100000 in
set_option maxHeartbeats 4000000 in
theorem Right_sub (tm : Int) (K V : ByteArray) (A : Option Addr) (n c : Nat) (F : Foot) (w : World) (hr : RS kRecord w F A n [⟨0, tm, K, V, false⟩]) (hn : n = 1) (t0 : 0 ≤ tm) (t1 : tm ≤ 1000) (k0 : 1 ≤ K.size) (k1 : K.size ≤ 200) (v1 : V.size ≤ 2000) :
    Calls Tryd.prog 23 #[.agg #[.int .i64 1, .int .i64 0, .int .i64 0, .slice A n c, .string ⟨#[]⟩, .int .i64 0, .int .i64 0, .int .i64 0, .int .u32 0, .int .i64 0, .int .i64 0, .int .i64 0, .int .i64 0]] w fun e w' => e = .returned (.bool true) ∧ Below w.heap.size w w' := by
  have hr1 := hr.alloc (.cells #[.int .i64 1, .int .i64 0, .int .i64 0, .slice A n c, .string ⟨#[]⟩, .int .i64 0, .int .i64 0, .int .i64 0, .int .u32 0, .int .i64 0, .int .i64 0, .int .i64 0, .int .i64 0] 50)
  have hb1 : (w.alloc (.cells #[.int .i64 1, .int .i64 0, .int .i64 0, .slice A n c, .string ⟨#[]⟩, .int .i64 0, .int .i64 0, .int .i64 0, .int .u32 0, .int .i64 0, .int .i64 0, .int .i64 0, .int .i64 0] 50)).heap[w.heap.size]? = some (.cells #[.int .i64 1, .int .i64 0, .int .i64 0, .slice A n c, .string ⟨#[]⟩, .int .i64 0, .int .i64 0, .int .i64 0, .int .u32 0, .int .i64 0, .int .i64 0, .int .i64 0, .int .i64 0] 50 (0, 0)) := heap_alloc_new w _
  have hB1 : Below w.heap.size w (w.alloc (.cells #[.int .i64 1, .int .i64 0, .int .i64 0, .slice A n c, .string ⟨#[]⟩, .int .i64 0, .int .i64 0, .int .i64 0, .int .u32 0, .int .i64 0, .int .i64 0, .int .i64 0, .int .i64 0] 50)) := (Below.refl _ _).alloc (Nat.le_refl _) _
  have n1 : 1 ≤ n := by omega
  have n50 : n ≤ 50 := by omega
  have Hn := Lib.hid hn
  clear hn
  obtain ⟨g, hg⟩ : ∃ g, Hid (w.heap.size = g) := ⟨_, rfl⟩
  rw [hg.out] at hb1 hB1 ⊢
  have HH := Lib.hid (And.intro hr1 (And.intro hb1 hB1))
  clear hr1 hb1 hB1
  go_enter Tryd.func23, Tryd.ntmps23
  go_wp2_with fail
  refine (plain_sub A n c n1 n50 _).mono ?_
  rintro e w2 ⟨rfl, hb⟩
  rw [hg.out]
  obtain ⟨hr1, hb1, hB1⟩ := HH.out
  have hr2 := hr1.below hb
  have hb2 := (hb.block _ (Array.getElem?_eq_some_iff.1 hb1).1).trans hb1
  have hB2 : Below g w w2 := hB1.trans (hb.mono (Nat.le_of_lt (Array.getElem?_eq_some_iff.1 hb1).1))
  clear HH hr1 hb1 hB1 hb
  have hlt2 := (Array.getElem?_eq_some_iff.1 hb2).1
  obtain ⟨p0, p1, p2, p3, p4, p5, p6, p7, p8, p9, p10, p11, p12⟩ := box13 hb2
  have HH := Lib.hid (And.intro hr2 (And.intro hb2 hB2))
  clear hr2 hb2 hB2
  go_wp2_with fail
  refine (within_any 0 1099511627776 w2 (by omega) (by omega)).mono ?_
  rintro e w2 ⟨rfl, rfl⟩
  go_wp2_with fail
  refine (within_any 0 1099511627776 w2 (by omega) (by omega)).mono ?_
  rintro e w2 ⟨rfl, rfl⟩
  go_wp2_with fail
  clear p0 p1 p2 p3 p4 p5 p6 p7 p8 p9 p10 p11 p12
  obtain ⟨hr2, hb2, hB2⟩ := HH.out
  clear HH
  go_loopw [3] (fun q wr => ∃ k : Nat, q = .int .i64 k ∧ k ≤ n ∧ Below w2.heap.size w2 wr) (fun q _ => n - (intOf q).toNat)
  case atStart => exact ⟨0, rfl, Nat.zero_le _, Below.refl _ _⟩
  case round =>
    obtain ⟨k, rfl, hk, hB⟩ := hrel
    have hb3 := (hB.block _ hlt2).trans hb2
    have hr3 := hr2.below hB
    obtain ⟨p0, p1, p2, p3, p4, p5, p6, p7, p8, p9, p10, p11, p12⟩ := box13 hb3
    by_cases hlt : k < n
    · have hxk : ([⟨0, tm, K, V, false⟩] : List Record)[k]? = some ⟨0, tm, K, V, false⟩ := by
        have : k = 0 := by have := Hn.out; omega
        rw [this]
        rfl
      obtain ⟨ad, hA0, hFa, q0, q1, q2, q3, q4⟩ := at_Record hr3 hxk
      dsimp only at q0 q1 q2 q3 q4
      clear hxk
      subst hA0
      have HH := Lib.hid (And.intro hr3 hb3)
      clear hr3 hb3
      go_wp2_with fail
      refine (RRight_any tm K V wr t0 t1 k0 k1 v1).mono ?_
      rintro e w4 ⟨rfl, hb4⟩
      go_wp2
      go_roundw
      case rel => exact ⟨k + 1, by go_num, by omega, hB.trans (hb4.mono hB.size)⟩
      case measure => simp [intOf]; omega
    · obtain rfl : k = n := by omega
      go_wp2
      go_ret
      exact ⟨rfl, hB2.trans (hB.mono (Nat.le_of_lt hlt2))⟩
end Go.Proofs.YtngmipppgnlkdaaDoor
