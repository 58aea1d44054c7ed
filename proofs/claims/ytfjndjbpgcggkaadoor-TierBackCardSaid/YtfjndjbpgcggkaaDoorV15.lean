/- record.Get. -/
import Derived.Test.YtfjndjbpgcggkaaDoorV14
set_option linter.unusedVariables false
set_option linter.unusedSimpArgs false
namespace Go.Proofs.YtfjndjbpgcggkaaDoor
open Go.RowKit
attribute [local go_sem] Same.cell Same.frozen

/-- Where record.Get stands: its reader, its result's cell, its record. -/
structure GS (w W : World) (F : Foot) (q6 : Nat) (A : Option Addr) (L c : Nat) (bs : List Int) (i : Nat) (e : Int) (r : Record) : Prop where
  rd : RdAt W F (w.heap.size + 1) A L c bs i e
  z : W.heap[w.heap.size]? = some (.cells #[.int .i64 0, .int .i64 0, .string ⟨#[]⟩, .string ⟨#[]⟩, .bool false] 79 (0, 0))
  x : W.heap[q6]? = some (.cells #[.int .i64 r.Offset, .int .i64 r.Time, .string r.Key, .string r.Value, .bool r.Dead] 79 (0, 0))
  q : w.heap.size + 2 ≤ q6
  fin : ∀ k, F k → k < w.heap.size
  b : Below w.heap.size w W
section
variable {w W W' : World} {F : Foot} {q6 : Nat} {A : Option Addr} {L c : Nat} {bs : List Int} {i i' : Nat} {e e' : Int} {r r' : Record}
theorem GS.step (h : GS w W F q6 A L c bs i e r) (hr : RdAt W' F (w.heap.size + 1) A L c bs i' e') (hk : Keeps (fun k => k = w.heap.size + 1) W W') : GS w W' F q6 A L c bs i' e' r := by
  have h1 : w.heap.size < W.heap.size := (Array.getElem?_eq_some_iff.1 h.z).1
  have h2 : q6 < W.heap.size := (Array.getElem?_eq_some_iff.1 h.x).1
  have hq := h.q
  refine ⟨hr, (hk.block _ h1 (by omega)).trans h.z, (hk.block _ h2 (by omega)).trans h.x, h.q, h.fin, ?_⟩
  exact h.b.trans (hk.below_of h.b.size (fun k hk => by have : k = w.heap.size + 1 := hk; omega))
theorem GS.setf (h : GS w W F q6 A L c bs i e r) (j : Nat) (u : Value) (hx : (W.setCell ⟨q6, j, none⟩ u).heap[q6]? = some (.cells #[.int .i64 r'.Offset, .int .i64 r'.Time, .string r'.Key, .string r'.Value, .bool r'.Dead] 79 (0, 0))) : GS w (W.setCell ⟨q6, j, none⟩ u) F q6 A L c bs i e r' := by
  have hq := h.q
  have hot : ∀ k, k ≠ q6 → (W.setCell ⟨q6, j, none⟩ u).heap[k]? = W.heap[k]? := fun k hn => Below.heap_setCell _ ⟨q6, j, none⟩ _ k hn
  refine ⟨⟨(hot _ (by omega)).trans h.rd.cells, h.rd.rd.keep fun k hk _ => hot k (fun e => by have := h.fin k hk.1; omega), h.rd.lc, h.rd.il⟩, (hot _ (by omega)).trans h.z, hx, h.q, h.fin, h.b.setCell (p := ⟨q6, j, none⟩) (by show w.heap.size ≤ q6; omega) _⟩
theorem GS.below (h : GS w W F q6 A L c bs i e r) (hb : Below W.heap.size W W') : GS w W' F q6 A L c bs i e r := by
  have h0 : w.heap.size + 1 < W.heap.size := (Array.getElem?_eq_some_iff.1 h.rd.cells).1
  have h1 : w.heap.size < W.heap.size := (Array.getElem?_eq_some_iff.1 h.z).1
  have h2 : q6 < W.heap.size := (Array.getElem?_eq_some_iff.1 h.x).1
  exact ⟨⟨(hb.block _ h0).trans h.rd.cells, h.rd.rd.below hb, h.rd.lc, h.rd.il⟩, (hb.block _ h1).trans h.z, (hb.block _ h2).trans h.x, h.q, h.fin, h.b.trans (hb.mono h.b.size)⟩
theorem GS.facts (h : GS w W F q6 A L c bs i e r) : W.frozen? ⟨q6, 1, none⟩ = false ∧ W.frozen? ⟨q6, 2, none⟩ = false ∧ W.frozen? ⟨q6, 3, none⟩ = false ∧ W.frozen? ⟨q6, 4, none⟩ = false ∧ q6 < W.heap.size :=
  ⟨frozen_of_row W q6 1 _ _ h.x, frozen_of_row W q6 2 _ _ h.x, frozen_of_row W q6 3 _ _ h.x, frozen_of_row W q6 4 _ _ h.x, (Array.getElem?_eq_some_iff.1 h.x).1⟩
end
theorem vgetGo_lt : ∀ (bs : List Int) (i x : Nat), Bytes bs → i ≤ 9 → x < 128 ^ i → (vgetGo bs i x).1 < 18446744073709551616
  | [], i, x, _, _, _ => by unfold vgetGo; show 0 < _; omega
  | c :: r, i, x, hB, hi, hx => by
    have hc := hB c List.mem_cons_self
    have hBr : Bytes r := fun y hy => hB y (List.mem_cons_of_mem _ hy)
    unfold vgetGo
    by_cases h9 : i = 9 ∧ 1 < c
    · rw [if_pos h9]; show 0 < _; omega
    · rw [if_neg h9]
      by_cases hb : 128 ≤ c
      · rw [if_pos hb]
        have hi8 : i ≤ 8 := by omega
        refine vgetGo_lt r (i + 1) _ hBr (by omega) ?_
        rw [Nat.pow_succ]
        have : (c - 128).toNat * 128 ^ i ≤ 127 * 128 ^ i := Nat.mul_le_mul (by omega) (Nat.le_refl _)
        omega
      · rw [if_neg hb]
        split
        · show 0 < _; omega
        · show x + c.toNat * 128 ^ i < _
          by_cases hi9 : i = 9
          · subst hi9
            have : c.toNat * 128 ^ 9 ≤ 1 * 128 ^ 9 := Nat.mul_le_mul (by omega) (Nat.le_refl _)
            omega
          · have h8 : (128 : Nat) ^ i ≤ 128 ^ 8 := Nat.pow_le_pow_right (by omega) (by omega)
            have : c.toNat * 128 ^ i ≤ 127 * 128 ^ 8 := Nat.mul_le_mul (by omega) h8
            omega
theorem rdNum_lt (bs : List Int) (i : Nat) (e : Int) (m : Nat) (hB : Bytes bs) : (rdNum bs i e m).1 < 18446744073709551616 := by
  unfold rdNum
  split
  · show 0 < _; omega
  · exact vgetGo_lt _ 0 0 (hB.sub fun y hy => List.mem_of_mem_drop hy) (by omega) (by omega)

theorem recGet_facts {bs : List Int} {x1 i1 x2 i2 i3 i4 i5 : Nat} {e1 e2 e3 e4 e5 : Int} {s3 : Bool} {s4 s5 : ByteArray} (h1 : rdNum bs 0 0 1125899906842624 = (x1, i1, e1)) (h2 : rdNum bs i1 e1 2199023255552 = (x2, i2, e2)) (h3 : rdSign bs i2 e2 = (s3, i3, e3)) (h4 : rdText bs i3 e3 200 = (s4, i4, e4)) (h5 : rdText bs i4 e4 2000 = (s5, i5, e5))
    (hz : (recGet bs).2.2 = 0) : e5 = 0 ∧ Record.Okay ⟨IntKind.i64.wrap x1, vunfold x2, s4, s5, s3⟩ ∧ recGet bs = (⟨IntKind.i64.wrap x1, vunfold x2, s4, s5, s3⟩, i5, 0) := by
  have e : recGet bs = if (if e5 = 0 ∧ ¬ Record.Okay ⟨IntKind.i64.wrap x1, vunfold x2, s4, s5, s3⟩ then (2 : Int) else e5) ≠ 0 then (⟨0, 0, ⟨#[]⟩, ⟨#[]⟩, false⟩, 0, if e5 = 0 ∧ ¬ Record.Okay ⟨IntKind.i64.wrap x1, vunfold x2, s4, s5, s3⟩ then (2 : Int) else e5) else (⟨IntKind.i64.wrap x1, vunfold x2, s4, s5, s3⟩, i5, 0) := by
    unfold recGet
    simp only [h1, h2, h3, h4, h5]
  rw [e] at hz ⊢
  by_cases hp : e5 = 0 ∧ ¬ Record.Okay ⟨IntKind.i64.wrap x1, vunfold x2, s4, s5, s3⟩
  · rw [if_pos hp, if_pos (by decide)] at hz
    exact absurd hz (by decide)
  · rw [if_neg hp] at hz ⊢
    by_cases h0 : e5 = 0
    · rw [if_neg (fun h => h h0)]
      exact ⟨h0, Decidable.not_not.1 fun hn => hp ⟨h0, hn⟩, rfl⟩
    · rw [if_pos h0] at hz
      exact absurd hz h0
theorem sets5 (W : World) (q : Nat) (v0 v1 v2 v3 v4 u0 u1 u2 u3 u4 : Value) (T : TypeId) (h : W.heap[q]? = some (.cells #[u0, u1, u2, u3, u4] T (0, 0))) :
    (((((W.setCell ⟨q, 0, none⟩ v0).setCell ⟨q, 1, none⟩ v1).setCell ⟨q, 2, none⟩ v2).setCell ⟨q, 3, none⟩ v3).setCell ⟨q, 4, none⟩ v4).drew.heap[q]? = some (.cells #[v0, v1, v2, v3, v4] T (0, 0)) ∧
    (∀ k, k ≠ q → (((((W.setCell ⟨q, 0, none⟩ v0).setCell ⟨q, 1, none⟩ v1).setCell ⟨q, 2, none⟩ v2).setCell ⟨q, 3, none⟩ v3).setCell ⟨q, 4, none⟩ v4).drew.heap[k]? = W.heap[k]?) ∧
    (∀ B, B ≤ q → Below B W (((((W.setCell ⟨q, 0, none⟩ v0).setCell ⟨q, 1, none⟩ v1).setCell ⟨q, 2, none⟩ v2).setCell ⟨q, 3, none⟩ v3).setCell ⟨q, 4, none⟩ v4).drew) := by
  have f0 : (∀ k, k ≠ q → W.heap[k]? = W.heap[k]?) ∧ ∀ B, B ≤ q → Below B W W := ⟨fun _ _ => rfl, fun B _ => Below.refl B W⟩
  have h1 : (W.setCell ⟨q, 0, none⟩ v0).heap[q]? = some (.cells #[v0, u1, u2, u3, u4] T (0, 0)) := heap_setCell_same W q 0 _ _ v0 h
  have f1 : (∀ k, k ≠ q → (W.setCell ⟨q, 0, none⟩ v0).heap[k]? = W.heap[k]?) ∧ ∀ B, B ≤ q → Below B W (W.setCell ⟨q, 0, none⟩ v0) := ⟨fun k hk => (Below.heap_setCell _ ⟨q, 0, none⟩ _ k hk).trans (f0.1 k hk), fun B hB => (f0.2 B hB).setCell (p := ⟨q, 0, none⟩) hB v0⟩
  generalize W.setCell ⟨q, 0, none⟩ v0 = W1 at h1 f1 ⊢
  have h2 : (W1.setCell ⟨q, 1, none⟩ v1).heap[q]? = some (.cells #[v0, v1, u2, u3, u4] T (0, 0)) := heap_setCell_same W1 q 1 _ _ v1 h1
  have f2 : (∀ k, k ≠ q → (W1.setCell ⟨q, 1, none⟩ v1).heap[k]? = W.heap[k]?) ∧ ∀ B, B ≤ q → Below B W (W1.setCell ⟨q, 1, none⟩ v1) := ⟨fun k hk => (Below.heap_setCell _ ⟨q, 1, none⟩ _ k hk).trans (f1.1 k hk), fun B hB => (f1.2 B hB).setCell (p := ⟨q, 1, none⟩) hB v1⟩
  generalize W1.setCell ⟨q, 1, none⟩ v1 = W2 at h2 f2 ⊢
  have h3 : (W2.setCell ⟨q, 2, none⟩ v2).heap[q]? = some (.cells #[v0, v1, v2, u3, u4] T (0, 0)) := heap_setCell_same W2 q 2 _ _ v2 h2
  have f3 : (∀ k, k ≠ q → (W2.setCell ⟨q, 2, none⟩ v2).heap[k]? = W.heap[k]?) ∧ ∀ B, B ≤ q → Below B W (W2.setCell ⟨q, 2, none⟩ v2) := ⟨fun k hk => (Below.heap_setCell _ ⟨q, 2, none⟩ _ k hk).trans (f2.1 k hk), fun B hB => (f2.2 B hB).setCell (p := ⟨q, 2, none⟩) hB v2⟩
  generalize W2.setCell ⟨q, 2, none⟩ v2 = W3 at h3 f3 ⊢
  have h4 : (W3.setCell ⟨q, 3, none⟩ v3).heap[q]? = some (.cells #[v0, v1, v2, v3, u4] T (0, 0)) := heap_setCell_same W3 q 3 _ _ v3 h3
  have f4 : (∀ k, k ≠ q → (W3.setCell ⟨q, 3, none⟩ v3).heap[k]? = W.heap[k]?) ∧ ∀ B, B ≤ q → Below B W (W3.setCell ⟨q, 3, none⟩ v3) := ⟨fun k hk => (Below.heap_setCell _ ⟨q, 3, none⟩ _ k hk).trans (f3.1 k hk), fun B hB => (f3.2 B hB).setCell (p := ⟨q, 3, none⟩) hB v3⟩
  generalize W3.setCell ⟨q, 3, none⟩ v3 = W4 at h4 f4 ⊢
  have h5 : (W4.setCell ⟨q, 4, none⟩ v4).heap[q]? = some (.cells #[v0, v1, v2, v3, v4] T (0, 0)) := heap_setCell_same W4 q 4 _ _ v4 h4
  have f5 : (∀ k, k ≠ q → (W4.setCell ⟨q, 4, none⟩ v4).heap[k]? = W.heap[k]?) ∧ ∀ B, B ≤ q → Below B W (W4.setCell ⟨q, 4, none⟩ v4) := ⟨fun k hk => (Below.heap_setCell _ ⟨q, 4, none⟩ _ k hk).trans (f4.1 k hk), fun B hB => (f4.2 B hB).setCell (p := ⟨q, 4, none⟩) hB v4⟩
  generalize W4.setCell ⟨q, 4, none⟩ v4 = W5 at h5 f5 ⊢
  exact ⟨h5, f5.1, fun B hB => by have h6 := f5.2 B hB; exact ⟨h6.os, h6.tape, h6.output, h6.size, h6.block⟩⟩

set_option maxHeartbeats 8000000 in
set_option maxRecDepth 100000 in
theorem recGetP_any (A : Option Addr) (L c : Nat) (bs : List Int) (w : World) (F : Foot) (hb : RS (kInt .u8) w F A L bs) (hL : L ≤ 100000000000) (hLc : L ≤ c) (hB : Bytes bs) (hz0 : (recGet bs).2.2 = 0) :
    Calls Tryd.prog 170 #[.slice A L c] w fun e w' => e = .returned (.tuple #[.agg #[.int .i64 (recGet bs).1.Offset, .int .i64 (recGet bs).1.Time, .string (recGet bs).1.Key, .string (recGet bs).1.Value, .bool (recGet bs).1.Dead], .int .i64 (recGet bs).2.1, .int .i64 0]) ∧ Below w.heap.size w w' := by
  have hb2 : RS (kInt .u8) ((w.alloc (.cells #[.int .i64 0, .int .i64 0, .string ⟨#[]⟩, .string ⟨#[]⟩, .bool false] 79)).alloc (.cells #[.slice A L c, .int .i64 0, .int .i64 0] 244)) (fun k => (F k ∧ k < w.heap.size) ∧ k ≠ w.heap.size + 1) A L bs := ((hb.bound.alloc _).alloc _).mono fun k hk => ⟨hk, by have := hk.2; omega⟩
  have hcl := heap_alloc_new (w.alloc (.cells #[.int .i64 0, .int .i64 0, .string ⟨#[]⟩, .string ⟨#[]⟩, .bool false] 79)) (.cells #[.slice A L c, .int .i64 0, .int .i64 0] 244)
  rw [World.size_alloc] at hcl
  have hRd : Hid (RdAt ((w.alloc (.cells #[.int .i64 0, .int .i64 0, .string ⟨#[]⟩, .string ⟨#[]⟩, .bool false] 79)).alloc (.cells #[.slice A L c, .int .i64 0, .int .i64 0] 244)) (fun k => F k ∧ k < w.heap.size) (w.heap.size + 1) A L c bs 0 0) := ⟨hcl, hb2, hLc, Nat.zero_le _⟩
  clear hb2 hcl
  go_enter Tryd.func170, Tryd.ntmps170
  go_wp2_with fail
  have HN := Lib.hid (rdNum_any _ _ _ A L c bs 0 0 1125899906842624 hRd.out hB hL)
  refine HN.out.mono ?_
  rintro en w3 ⟨rfl, hr3, hk3⟩
  obtain ⟨a, ha⟩ : ∃ a, Hid (rdNum bs 0 0 1125899906842624 = a) := ⟨_, rfl⟩
  rw [ha.out] at hr3 ⊢
  obtain ⟨x1, i1, e1⟩ := a
  dsimp only at hr3 ⊢
  have HK := Lib.hid (And.intro hr3 hk3)
  clear hr3 hk3 HN
  go_wp2_with fail
  have hG : GS w (w3.alloc (.cells #[.int .i64 (wrap64 x1), .int .i64 0, .string ⟨#[]⟩, .string ⟨#[]⟩, .bool false] 79)) (fun k => F k ∧ k < w.heap.size) w3.heap.size A L c bs i1 e1 ⟨wrap64 x1, 0, ⟨#[]⟩, ⟨#[]⟩, false⟩ := by
    obtain ⟨hr3, hk3⟩ := HK.out
    have hs3 := hk3.size
    rw [World.size_alloc, World.size_alloc] at hs3
    have hrl : w.heap.size + 1 < w3.heap.size := (Array.getElem?_eq_some_iff.1 hr3.cells).1
    have hz : ((w.alloc (.cells #[.int .i64 0, .int .i64 0, .string ⟨#[]⟩, .string ⟨#[]⟩, .bool false] 79)).alloc (.cells #[.slice A L c, .int .i64 0, .int .i64 0] 244)).heap[w.heap.size]? = some (.cells #[.int .i64 0, .int .i64 0, .string ⟨#[]⟩, .string ⟨#[]⟩, .bool false] 79 (0, 0)) :=
      (Below.heap_alloc _ _ _ (by simp)).trans (heap_alloc_new w _)
    have hb2 : Below w.heap.size w ((w.alloc (.cells #[.int .i64 0, .int .i64 0, .string ⟨#[]⟩, .string ⟨#[]⟩, .bool false] 79)).alloc (.cells #[.slice A L c, .int .i64 0, .int .i64 0] 244)) := ((Below.refl _ _).alloc (Nat.le_refl _) _).alloc (by simp) _
    refine ⟨⟨(Below.heap_alloc _ _ _ hrl).trans hr3.cells, hr3.rd.alloc _, hr3.lc, hr3.il⟩, (Below.heap_alloc _ _ _ (by omega)).trans ((hk3.block _ (by simp only [World.size_alloc]; omega) (by omega)).trans hz), heap_alloc_new w3 _, by omega, fun k hk => hk.2, ?_⟩
    exact (hb2.trans (hk3.below_of hb2.size (fun k hk => by have : k = w.heap.size + 1 := hk; omega))).alloc (by omega) _
  have hG4 := Lib.hid hG
  clear hG HK hRd
  generalize w3.alloc (.cells #[.int .i64 (wrap64 x1), .int .i64 0, .string ⟨#[]⟩, .string ⟨#[]⟩, .bool false] 79) = w4 at hG4 ⊢
  generalize w3.heap.size = q6 at hG4 ⊢
  have HN := Lib.hid (rdNum_any w4 _ _ A L c bs i1 e1 2199023255552 hG4.out.rd hB hL)
  have hx2 := rdNum_lt bs i1 e1 2199023255552 hB
  refine HN.out.mono ?_
  rintro en w5 ⟨rfl, hr5, hk5⟩
  have hG5 := Lib.hid (hG4.out.step hr5 hk5)
  obtain ⟨b, hbb⟩ : ∃ b, Hid (rdNum bs i1 e1 2199023255552 = b) := ⟨_, rfl⟩
  rw [hbb.out] at hG5 hx2 ⊢
  obtain ⟨x2, i2, e2⟩ := b
  dsimp only at hG5 hx2 ⊢
  clear hr5 hk5 HN
  go_wp2_with fail
  refine (vUnfold_any x2 w5 hx2).mono ?_
  rintro en w5' ⟨rfl, hw⟩
  rw [hw]
  clear hw w5'
  obtain ⟨f1, f2, f3, f4, hq5⟩ := hG5.out.facts
  obtain ⟨a0, a1, a2, a3, a4⟩ := box_Record hG5.out.x
  go_wp2_with fail
  have hG6 := Lib.hid (hG5.out.setf 1 (.int .i64 (vunfold x2)) (heap_setCell_same w5 q6 1 _ _ (.int .i64 (vunfold x2)) hG5.out.x) (r' := ⟨wrap64 x1, vunfold x2, ⟨#[]⟩, ⟨#[]⟩, false⟩))
  clear f1 f2 f3 f4 hq5 a0 a1 a2 a3 a4
  generalize w5.setCell ⟨q6, 1, none⟩ (.int .i64 (vunfold x2)) = w6 at hG6 ⊢
  have HN := Lib.hid (rdSign_any w6 _ _ A L c bs i2 e2 hG6.out.rd hB hL)
  refine HN.out.mono ?_
  rintro en w7 ⟨rfl, hr5, hk5⟩
  have hG7 := Lib.hid (hG6.out.step hr5 hk5)
  obtain ⟨b, hbb6⟩ : ∃ b, Hid (rdSign bs i2 e2 = b) := ⟨_, rfl⟩
  rw [hbb6.out] at hG7 ⊢
  obtain ⟨s3, i3, e3⟩ := b
  dsimp only at hG7 ⊢
  clear hr5 hk5 HN
  obtain ⟨f1, f2, f3, f4, hq5⟩ := hG7.out.facts
  obtain ⟨a0, a1, a2, a3, a4⟩ := box_Record hG7.out.x
  go_wp2_with fail
  have hG8 := Lib.hid (hG7.out.setf 4 (.bool s3) (heap_setCell_same w7 q6 4 _ _ (.bool s3) hG7.out.x) (r' := ⟨wrap64 x1, vunfold x2, ⟨#[]⟩, ⟨#[]⟩, s3⟩))
  clear f1 f2 f3 f4 hq5 a0 a1 a2 a3 a4
  generalize w7.setCell ⟨q6, 4, none⟩ (.bool s3) = w8 at hG8 ⊢
  have HN := Lib.hid (rdText_any w8 _ _ A L c bs i3 e3 200 hG8.out.rd hB hL (by omega))
  refine HN.out.mono ?_
  rintro en w9 ⟨rfl, hr5, hk5⟩
  have hG9 := Lib.hid (hG8.out.step hr5 hk5)
  obtain ⟨b, hbb8⟩ : ∃ b, Hid (rdText bs i3 e3 200 = b) := ⟨_, rfl⟩
  rw [hbb8.out] at hG9 ⊢
  obtain ⟨s4, i4, e4⟩ := b
  dsimp only at hG9 ⊢
  clear hr5 hk5 HN
  obtain ⟨f1, f2, f3, f4, hq5⟩ := hG9.out.facts
  obtain ⟨a0, a1, a2, a3, a4⟩ := box_Record hG9.out.x
  go_wp2_with fail
  have hG10 := Lib.hid (hG9.out.setf 2 (.string s4) (heap_setCell_same w9 q6 2 _ _ (.string s4) hG9.out.x) (r' := ⟨wrap64 x1, vunfold x2, s4, ⟨#[]⟩, s3⟩))
  clear f1 f2 f3 f4 hq5 a0 a1 a2 a3 a4
  generalize w9.setCell ⟨q6, 2, none⟩ (.string s4) = w10 at hG10 ⊢
  have HN := Lib.hid (rdText_any w10 _ _ A L c bs i4 e4 2000 hG10.out.rd hB hL (by omega))
  refine HN.out.mono ?_
  rintro en w11 ⟨rfl, hr5, hk5⟩
  have hG11 := Lib.hid (hG10.out.step hr5 hk5)
  obtain ⟨b, hbb10⟩ : ∃ b, Hid (rdText bs i4 e4 2000 = b) := ⟨_, rfl⟩
  rw [hbb10.out] at hG11 ⊢
  obtain ⟨s5, i5, e5⟩ := b
  dsimp only at hG11 ⊢
  clear hr5 hk5 HN
  obtain ⟨f1, f2, f3, f4, hq5⟩ := hG11.out.facts
  obtain ⟨a0, a1, a2, a3, a4⟩ := box_Record hG11.out.x
  have c1 : w11.cell? ⟨w.heap.size + 1, 1, none⟩ = some (.int .i64 i5) := cell_of_row w11 _ 1 _ _ _ hG11.out.rd.cells
  have c2 : w11.cell? ⟨w.heap.size + 1, 2, none⟩ = some (.int .i64 e5) := cell_of_row w11 _ 2 _ _ _ hG11.out.rd.cells
  have hne1 : ¬ (w.heap.size + 1 = q6) := by have := hG11.out.q; omega
  have hne2 : ¬ (q6 = w.heap.size + 1) := by have := hG11.out.q; omega
  have hrl : w.heap.size + 1 < w11.heap.size := (Array.getElem?_eq_some_iff.1 hG11.out.rd.cells).1
  obtain ⟨he0, hok, hrg⟩ := recGet_facts ha.out hbb.out hbb6.out hbb8.out hbb10.out hz0
  subst he0
  have hwr : IntKind.i64.wrap (x1 : Int) = wrap64 x1 := by unfold wrap64; exact IntKind.wrap_i64 _
  rw [hwr] at hok hrg
  have Hok := Lib.hid (And.intro hok hrg)
  clear hok hrg hz0 hwr
  go_wp2_with fail
  have hG12 := Lib.hid (hG11.out.setf 3 (.string s5) (heap_setCell_same w11 q6 3 _ _ (.string s5) hG11.out.x) (r' := ⟨wrap64 x1, vunfold x2, s4, s5, s3⟩))
  clear f1 f2 f3 f4 hq5 a0 a1 a2 a3 a4 c1 c2 hrl
  generalize w11.setCell ⟨q6, 3, none⟩ (.string s5) = w12 at hG12 ⊢
  refine (Right_any ⟨wrap64 x1, vunfold x2, s4, s5, s3⟩ w12).mono ?_
  rintro en w13 ⟨rb, rfl, hrb, hbl⟩
  obtain rfl : rb = true := hrb.2 Hok.out.1
  have hG13 := Lib.hid (hG12.out.below hbl)
  clear hrb hbl hG4 hG5 hG6 hG7 hG8 hG9 hG10 hG11 hG12
  obtain ⟨f1, f2, f3, f4, hq5⟩ := hG13.out.facts
  obtain ⟨a0, a1, a2, a3, a4⟩ := box_Record hG13.out.x
  have c1 : w13.cell? ⟨w.heap.size + 1, 1, none⟩ = some (.int .i64 i5) := cell_of_row w13 _ 1 _ _ _ hG13.out.rd.cells
  have c2 : w13.cell? ⟨w.heap.size + 1, 2, none⟩ = some (.int .i64 0) := cell_of_row w13 _ 2 _ _ _ hG13.out.rd.cells
  have hrl : w.heap.size + 1 < w13.heap.size := (Array.getElem?_eq_some_iff.1 hG13.out.rd.cells).1
  go_wp2_with fail
  obtain ⟨S, HS⟩ : ∃ S : Foot, Hid (∀ k, S k ↔ k = w.heap.size) := ⟨_, fun _ => Iff.rfl⟩
  have hNS : ¬ S (w.heap.size + 1) := fun h => by have := (HS.out _).1 h; omega
  have hNS2 : ¬ S q6 := fun h => by have := (HS.out _).1 h; have := hG13.out.q; omega
  refine wp_region_plan [0, 0, 0, 0, 0, 1, 2, 2] (fun w' => ∃ D : Same S w13, w' = D.world) (by kernel_rfl) (by kernel_rfl) InSame.start ?_
  simp only [sel, selE, Nat.reduceEqDiff, reduceIte]
  repeat (go_big_quiet_step (fail))
  refine wpQuiet_nil ?_
  refine wpE_cons (fun N hN => ?_)
  have hz := hG13.out.z
  obtain ⟨b0, b1, b2, b3, b4⟩ := box_Record (x := ⟨0, 0, ⟨#[]⟩, ⟨#[]⟩, false⟩) hz
  dsimp only at b0 b1 b2 b3 b4
  have hzl : w.heap.size < w13.heap.size := by omega
  have g0 : w13.frozen? ⟨w.heap.size, 0, none⟩ = false := frozen_of_row w13 w.heap.size 0 _ _ hz
  have g1 : w13.frozen? ⟨w.heap.size, 1, none⟩ = false := frozen_of_row w13 w.heap.size 1 _ _ hz
  have g2 : w13.frozen? ⟨w.heap.size, 2, none⟩ = false := frozen_of_row w13 w.heap.size 2 _ _ hz
  have g3 : w13.frozen? ⟨w.heap.size, 3, none⟩ = false := frozen_of_row w13 w.heap.size 3 _ _ hz
  have g4 : w13.frozen? ⟨w.heap.size, 4, none⟩ = false := frozen_of_row w13 w.heap.size 4 _ _ hz
  go_wp2
  obtain ⟨q1, q2, q3⟩ := sets5 w13 w.heap.size (.int .i64 (wrap64 x1)) (.int .i64 (vunfold x2)) (.string s4) (.string s5) (.bool s3) _ _ _ _ _ _ hz
  have HQ := Lib.hid (And.intro q1 (And.intro q2 q3))
  clear b0 b1 b2 b3 b4 g0 g1 g2 g3 g4 q1 q2 q3
  generalize (((((w13.setCell ⟨w.heap.size, 0, none⟩ (.int .i64 (wrap64 x1))).setCell ⟨w.heap.size, 1, none⟩ (.int .i64 (vunfold x2))).setCell ⟨w.heap.size, 2, none⟩ (.string s4)).setCell ⟨w.heap.size, 3, none⟩ (.string s5)).setCell ⟨w.heap.size, 4, none⟩ (.bool s3)).drew = w14 at HQ ⊢
  refine hN _ _ ⟨⟨w14, fun k _ hS => HQ.out.2.1 k (fun e => hS ((HS.out k).2 e))⟩, rfl⟩ ?_
  refine wpE_nil ?_
  clear hN N
  obtain ⟨z0, z1, z2, z3, z4⟩ := box_Record (x := ⟨wrap64 x1, vunfold x2, s4, s5, s3⟩) HQ.out.1
  dsimp only at z0 z1 z2 z3 z4
  have hzl2 : w.heap.size < w14.heap.size := (Array.getElem?_eq_some_iff.1 HQ.out.1).1
  clear f1 f2 f3 f4 hq5 a0 a1 a2 a3 a4 c1 c2 hz
  go_wp2
  refine bodyPost_ret (v := .tuple #[.agg #[.int .i64 (wrap64 x1), .int .i64 (vunfold x2), .string s4, .string s5, .bool s3], .int .i64 i5, .int .i64 0]) (by simp [results, Tryd.results170, go_sem, z0, z1, z2, z3, z4, hzl2]) rfl ?_
  rw [Hok.out.2]
  exact ⟨rfl, hG13.out.b.trans (HQ.out.2.2 _ (Nat.le_refl _))⟩
end Go.Proofs.YtfjndjbpgcggkaaDoor
