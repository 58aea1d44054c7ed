/- Contract of the law's same. -/
import Derived.Test.YtngmipppgnlkdaaS5
import Derived.Test.YtngmipppgnlkdaaH
set_option linter.unusedVariables false
set_option linter.unusedSimpArgs false
namespace Go.Proofs.Ytngmipppgnlkdaa
open Go.RowKit
attribute [local go_sem] Same.cell

theorem LogS.From_mem {s : LogS} {i most : Int} {x : Entry} (h : x ∈ s.From i most) : x ∈ s.l := by
  unfold LogS.From at h
  split at h
  · simp at h
  · exact List.mem_of_mem_drop (List.mem_of_mem_take h)
theorem LogS.From_len (s : LogS) (i most : Int) : (s.From i most).length ≤ s.l.length := by
  unfold LogS.From
  split
  · simp
  · rw [List.length_take, List.length_drop]; omega
theorem LogS.From_all {s : LogS} (h : s.l.length ≤ 1000) : s.From (s.base + 1) 1000 = s.l := by
  unfold LogS.From LogS.last
  by_cases h0 : s.l.length = 0
  · rw [if_pos (by omega)]
    exact (List.eq_nil_of_length_eq_zero h0).symm
  · rw [if_neg (by omega), show (s.base + 1 - s.base - 1).toNat = 0 by omega, List.drop_zero]
    exact List.take_of_length_le (by simpa using h)

set_option maxRecDepth 100000 in
set_option maxHeartbeats 4000000 in
theorem Same17_any (g1 g2 : Nat) (F1 F2 : Foot) (s : LogS) (w : World) (i most : Int) (h1 : LogAt w g1 F1 s) (h2 : RLogAt w g2 F2 s) (ok : s.Ok) (hs : s.l.length ≤ 1000) (hm : most ≤ 9223372036854775807) :
    Calls Try.prog 34 #[.pointer (some ⟨g1, 0, none⟩), .pointer (some ⟨g2, 0, none⟩), .int .i64 i, .int .i64 most] w fun e w' => e = .returned (.bool true) ∧ Below w.heap.size w w' := by
  obtain ⟨la, hla⟩ : ∃ la, Hid (s.Last.1 = la) := ⟨_, rfl⟩
  obtain ⟨lt, hlt⟩ : ∃ lt, Hid (s.Last.2 = lt) := ⟨_, rfl⟩
  obtain ⟨t, ht⟩ : ∃ t, Hid ((s.Term i).1 = t) := ⟨_, rfl⟩
  obtain ⟨b, hb⟩ : ∃ b, Hid ((s.Term i).2 = b) := ⟨_, rfl⟩
  have b0 := ok.b0
  have b1 := ok.b1
  have hrec := Lib.hid ok.r1
  go_enter Try.func34, Try.ntmps34
  go_wp2_with fail
  refine (Base_any _ _ _ _ h1).mono ?_
  rintro e w1 ⟨rfl, k1, rfl⟩
  go_wp2_with fail
  refine (Last_any _ _ _ _ (h1.drewN _) ok).mono ?_
  rintro e w1 ⟨rfl, k2, rfl⟩
  rw [hla.out, hlt.out]
  go_wp2_with fail
  refine (RLast_any _ _ _ _ (h2.drewN _) ok).mono ?_
  rintro e w1 ⟨rfl, k3, rfl⟩
  rw [hla.out, hlt.out]
  go_wp2_with fail
  refine (Term_any _ _ _ _ _ (h1.drewN _) ok).mono ?_
  rintro e w1 ⟨rfl, k4, rfl⟩
  rw [ht.out, hb.out]
  go_wp2_with fail
  refine (RTerm_any _ _ _ _ _ (h2.drewN _) ok).mono ?_
  rintro e w1 ⟨rfl, k5, rfl⟩
  rw [ht.out, hb.out]
  go_wp2_with fail
  have hb1 : Below w.heap.size w (w.drewN (k1 + k2 + k3 + k4 + k5)) := drawn_below _ _
  have h1' := h1.drewN (k1 + k2 + k3 + k4 + k5)
  have h2' := h2.drewN (k1 + k2 + k3 + k4 + k5)
  generalize w.drewN (k1 + k2 + k3 + k4 + k5) = w1 at hb1 h1' h2' ⊢
  clear h1 h2
  obtain ⟨A, c, q0, q1, q2, qz, qF, qlt, qo, qc1, qc2, qr, qb⟩ := h2'.cells
  clear qo qb qz
  have hNF : ¬ NoF g2 := id
  have eb : (s.base == s.base) = true := by rw [beq_iff_eq]
  have et : (s.term == s.term) = true := by rw [beq_iff_eq]
  have ela : (la == la) = true := by rw [beq_iff_eq]
  have elt : (lt == lt) = true := by rw [beq_iff_eq]
  have ett : (t == t) = true := by rw [beq_iff_eq]
  have ebb : (b == b) = true := by rw [beq_iff_eq]
  refine wp_region_plan2 [0, 0, 0, 0, 0, 0, 0, 0, 0, 0, 0, 0, 0, 0, 0, 0, 0, 0, 0, 0, 0, 0, 0, 0, 0, 0, 0, 0, 0, 0, 0, 0, 0, 0, 0, 0, 0, 0, 1, 0, 0, 0, 1, 1, 3, 3, 3, 3, 3, 5, 3, 3, 3, 3, 5, 6, 6] (fun w' => ∃ D : Same NoF w1, w' = D.world) (by kernel_rfl) (by kernel_rfl) InSame.start ?_
  simp only [sel, selE, Nat.reduceEqDiff, reduceIte]
  repeat (go_big_quiet_step (fail))
  refine wpQuiet_nil ?_
  refine wpE_cons (fun N hN => ?_)
  go_wp2_with fail
  refine (From_any g1 F1 s _ i most h1'.drew ok hm).mono ?_
  rintro e w2 ⟨v2, rfl, hM2⟩
  obtain ⟨A2, c2, rfl, _, _, hr2⟩ := hM2.own.reads
  have hb2 : Below w1.heap.size w1 w2 := below_undrew hM2.below
  clear hM2
  go_wp2
  refine hN _ _ (InSame.of_below hb2) ?_
  clear hN N
  refine wpE_cons (fun N hN => ?_)
  go_wp2_with fail
  refine (RFrom_any g2 F2 s _ i most (h2'.below hb2) ok hm).mono ?_
  rintro e w3 ⟨v3, rfl, hM3⟩
  obtain ⟨A3, c3, rfl, _, _, hr3⟩ := hM3.own.reads
  have hb23 := hM3.below
  have hb3 : Below w1.heap.size w1 w3 := hb2.trans (hb23.mono hb2.size)
  clear hM3
  go_wp2
  refine hN _ _ (InSame.of_below hb3) ?_
  clear hN N
  refine wpE_cons (fun N hN => ?_)
  have hfl := s.From_len i most
  go_wp2_with fail
  refine (SameEntries_any _ _ _ _ _ _ _ _ _ _ _ (hr2.below hb23) hr3 (by omega) (by omega) (fun y hy => by have := hrec.out y (LogS.From_mem hy); omega) (fun y hy => by have := hrec.out y (LogS.From_mem hy); omega)).mono ?_
  rintro e w4 ⟨r, rfl, hr, hb34⟩
  obtain rfl : r = true := hr.2 rfl
  have hb4 : Below w1.heap.size w1 w4 := hb3.trans (hb34.mono hb3.size)
  clear hr hr2 hr3
  go_wp2
  refine hN _ _ (InSame.of_below hb4) ?_
  clear hN N
  repeat (refine wpE_take (fun N hN => ?_); go_big_quiet_step (fail); refine wpQuiet_nil ?_; refine hN _ ?_; clear hN N)
  refine wpE_nil ?_
  refine wpE_cons (fun N hN => ?_)
  go_wp2_with fail
  refine (From_any g1 F1 s _ (s.base + 1) 1000 (h1'.below hb4) ok (by omega)).mono ?_
  rintro e w5 ⟨v5, rfl, hM5⟩
  rw [LogS.From_all hs] at hM5
  obtain ⟨A5, c5, rfl, _, _, hr5⟩ := hM5.own.reads
  have hb45 := hM5.below
  have hb5 : Below w1.heap.size w1 w5 := hb4.trans (hb45.mono hb4.size)
  clear hM5
  go_wp2
  refine hN _ _ (InSame.of_below hb5) ?_
  clear hN N
  refine wpE_cons (fun N hN => ?_)
  go_wp2_with fail
  refine (SameEntries_any _ _ _ _ _ _ _ _ _ _ _ hr5 (qr.below hb5) (by omega) (by omega) (fun y hy => by have := hrec.out y hy; omega) (fun y hy => by have := hrec.out y hy; omega)).mono ?_
  rintro e w6 ⟨r, rfl, hr, hb56⟩
  obtain rfl : r = true := hr.2 rfl
  have hb6 : Below w1.heap.size w1 w6 := hb5.trans (hb56.mono hb5.size)
  clear hr hr5
  go_wp2
  refine hN _ _ (InSame.of_below hb6) ?_
  clear hN N
  repeat (refine wpE_take (fun N hN => ?_); go_big_quiet_step (fail); refine wpQuiet_nil ?_; refine hN _ ?_; clear hN N)
  refine wpE_nil ?_
  go_wp2
  go_ret
  exact ⟨rfl, hb1.trans (hb6.mono hb1.size)⟩
end Go.Proofs.Ytngmipppgnlkdaa
